/-
 Contracts of slices.Equal at rows of structs of whole numbers. Conditions as named.
-/
import Derived.Test.YtiaabmhjkoohmaaGreatSlM
import Derived.Deep.QuietTactic
import Derived.BigQuiet
import Derived.Laws.StructEq
import Derived.Deep.RegionHeld3
namespace Go.Proofs.YtiaabmhjkoohmaaGreat
set_option maxRecDepth 100000
set_option maxHeartbeats 25600000
set_option linter.unusedVariables false
set_option linter.unusedSimpArgs false
open Go.RowKit Tryz
open Lib (hid)
theorem seqRow_c (A B : Option Addr) (n c m e : Nat) (L M : List Sh) (w : World) (hl : RowSl shC 2 sh0 w A n L) (hm : RowSl shC 2 sh0 w B m M) :
  Calls prog 61 #[.slice A n c, .slice B m e] w (SameR (L = M) w) := by
 have HL := hid hl
 have HM := hid hm
 have hn9 := hl.2.1
 have hm9 := hm.2.1
 have HNL := hid hl.1
 have HNM := hid hm.1
 clear hl hm
 by_cases hnm : n = m
 case neg =>
  have HG : Hid (¬ L = M) := fun h => hnm (by rw [HNL.out, HNM.out, h])
  have v : ((n : Int) != (m : Int)) = true := by simp; omega
  clear hnm
  go_enter func61, ntmps61
  go_wp2_with fail
  go_ret
  exact same_no HG.out (b0 _)
 subst hnm
 have v : ((n : Int) != (n : Int)) = false := by simp
 go_enter func61, ntmps61
 go_wp2_with fail
 go_loopw [5, 13] (fun _ i wr => ∃ k : Nat, k ≤ n ∧ i = .int .i64 k ∧ Hid (∀ i, i < k → L.getD i sh0 = M.getD i sh0) ∧ Below w.heap.size w wr) (fun _ i _ => n - (intOf i).toNat)
 case atStart => exact ⟨0, Nat.zero_le _, rfl, fun i hi => absurd hi (Nat.not_lt_zero _), b0 _⟩
 case round =>
  obtain ⟨k, hk', rfl, HA, hbl⟩ := hrel
  by_cases hk : k < n
  case neg =>
   have HG : Hid (L = M) := list_same (by rw [← HNL.out, ← HNM.out]) (fun i hi => HA.out i (by have := HNL.out; omega))
   go_wp2_with fail
   go_ret
   exact same_yes HG.out hbl
  obtain ⟨b, off, rfl, hlt, hat⟩ := (HL.out.below hbl).2.2 (by omega)
  obtain ⟨b2, off2, rfl, hlt2, hat2⟩ := (HM.out.below hbl).2.2 (by omega)
  have hc := hat k hk
  have hc2 := hat2 k hk
  have HN : Hid (L.getD k sh0 ≠ M.getD k sh0 → ¬ L = M) := fun h e => h (by rw [e])
  have HY : Hid (L.getD k sh0 = M.getD k sh0 → ∀ i, i < k + 1 → L.getD i sh0 = M.getD i sh0) := fun h i hi => by
   rcases (by omega : i = k ∨ i < k) with rfl | hi
   ·
    exact h
   ·
    exact HA.out i hi
  generalize L.getD k sh0 = x at *
  generalize M.getD k sh0 = y at *
  obtain ⟨x0, x1⟩ := x
  obtain ⟨y0, y1⟩ := y
  obtain ⟨c0, c1⟩ : wr.cell? ⟨b, off + k * 2, none⟩ = some (.int .i64 x0) ∧ wr.cell? ⟨b, off + k * 2 + 1, none⟩ = some (.int .i64 x1) := ⟨hc 0 _ rfl, hc 1 _ rfl⟩
  obtain ⟨d0, d1⟩ : wr.cell? ⟨b2, off2 + k * 2, none⟩ = some (.int .i64 y0) ∧ wr.cell? ⟨b2, off2 + k * 2 + 1, none⟩ = some (.int .i64 y1) := ⟨hc2 0 _ rfl, hc2 1 _ rfl⟩
  clear hc hc2 hat hat2 HA
  have kk0 : (0 : Int) ≤ (k : Int) := by omega
  have kk1 : (k : Int) < (n : Int) := by omega
  have kk2 : ((k : Int)).toNat = k := by omega
  by_cases h0 : x0 = y0
  ·
   subst h0
   by_cases h1 : x1 = y1
   ·
    subst h1
    have HY2 := hid (HY.out rfl)
    clear HN HY
    go_wp2_with fail
    go_quiet (fail)
    go_wp2_with fail
    go_roundw
    case rel => exact ⟨k + 1, by omega, by go_num, HY2.out, bD hbl _⟩
    case measure => simp [intOf]; omega
   ·
    have v9 : (x1 == y1) = false := by simpa using h1
    have HG := hid (HN.out (fun h => by injection h; contradiction))
    clear HN HY
    go_wp2_with fail
    go_quiet (fail)
    go_wp2_with fail
    go_ret
    exact same_no HG.out (bD hbl _)
  ·
   have v9 : (x0 == y0) = false := by simpa using h0
   have HG := hid (HN.out (fun h => by injection h; contradiction))
   clear HN HY
   go_wp2_with fail
   go_quiet (fail)
   go_wp2_with fail
   go_ret
   exact same_no HG.out (bD hbl _)
end Go.Proofs.YtiaabmhjkoohmaaGreat
