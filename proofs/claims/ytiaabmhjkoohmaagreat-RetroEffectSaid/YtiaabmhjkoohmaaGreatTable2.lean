/-
 Contracts of table.Check and its parts: an answer 0 tells that the table may be. Conditions as named.
-/
import Derived.Test.YtiaabmhjkoohmaaGreatM1
namespace Go.Proofs.YtiaabmhjkoohmaaGreat
set_option linter.unusedVariables false
set_option linter.unusedSimpArgs false
open Go.RowKit
structure CtOK (x : Ct) : Prop where
 nm : nameB x.nm = true
 base : x.base = 1 ∨ x.base = 2
 rd : modeB x.rd = true
 pc : 0 ≤ x.pc ∧ x.pc ≤ 100000000000
 yc : 0 ≤ x.yc ∧ x.yc ≤ 100000000000
 bands : bE9 x.bands = 0
structure KdOK (x : Kd) : Prop where
 nm : nameB x.nm = true
 c : -1 ≤ x.c ∧ x.c ≤ 1
 t : -1 ≤ x.t ∧ x.t ≤ 1
 s : -1 ≤ x.s ∧ x.s ≤ 1
theorem Blk.all5 {w : World} {g : Nat} {t : TypeId} {a b c d e : Value} (h : Blk w g t #[a, b, c, d, e]) : w.cell? ⟨g, 0, none⟩ = some a ∧ w.cell? ⟨g, 1, none⟩ = some b ∧ w.cell? ⟨g, 2, none⟩ = some c ∧ w.cell? ⟨g, 3, none⟩ = some d ∧ w.cell? ⟨g, 4, none⟩ = some e :=
 ⟨h.cell 0, h.cell 1, h.cell 2, h.cell 3, h.cell 4⟩
theorem Blk.all6 {w : World} {g : Nat} {t : TypeId} {a b c d e f : Value} (h : Blk w g t #[a, b, c, d, e, f]) : w.cell? ⟨g, 0, none⟩ = some a ∧ w.cell? ⟨g, 1, none⟩ = some b ∧ w.cell? ⟨g, 2, none⟩ = some c ∧ w.cell? ⟨g, 3, none⟩ = some d ∧ w.cell? ⟨g, 4, none⟩ = some e ∧ w.cell? ⟨g, 5, none⟩ = some f :=
 ⟨h.cell 0, h.cell 1, h.cell 2, h.cell 3, h.cell 4, h.cell 5⟩
theorem getD_take {α : Type} (l : List α) (k j : Nat) (h : j < k) (d : α) : (l.take k).getD j d = l.getD j d := by
 simp [List.getD, h]
theorem SlOf.take {α : Type} {At : World → Nat → Nat → α → Prop} {K : Nat} {d : α} {w : World} {A : Option Addr} {n : Nat} {l : List α} (h : SlOf At K d w A n l) (k : Nat) (hk : k ≤ n) : SlOf At K d w A k (l.take k) := by
 obtain ⟨h1, h2, h3⟩ := h
 refine ⟨by rw [List.length_take]; omega, by omega, fun h0 => ?_⟩
 obtain ⟨b, off, hA, hlt, hc⟩ := h3 (by omega)
 exact ⟨b, off, hA, hlt, fun j hj => by rw [getD_take _ _ _ hj]; exact hc j (by omega)⟩
end Go.Proofs.YtiaabmhjkoohmaaGreat
