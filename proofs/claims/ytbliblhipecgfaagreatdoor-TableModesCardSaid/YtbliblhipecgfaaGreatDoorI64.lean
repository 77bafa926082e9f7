/-
  Slices of whole numbers: reading, owning, copying. Conditions as named.
-/
import Derived.Test.YtbliblhipecgfaaGreatDoorM0
import Derived.Lib.SliceRun
namespace Go.Proofs.YtbliblhipecgfaaGreatDoor
set_option linter.unusedVariables false
open Go.RowKit
/-- a slice of whole numbers -/
def I64Sl (w : World) (A : Option Addr) (n : Nat) (l : List Int) : Prop := n = l.length ∧ n ≤ 9223372036854775807 ∧ (0 < n → ∃ b off, A = some ⟨b, off, none⟩ ∧ b < w.heap.size ∧ ∀ k, k < n → w.cell? ⟨b, off + k, none⟩ = some (.int .i64 (l.getD k 0)))
theorem I64Sl.below {w w' : World} {A : Option Addr} {n : Nat} {l : List Int} (h : I64Sl w A n l) (hb : Below w.heap.size w w') : I64Sl w' A n l := by
  obtain ⟨h1, h2, h3⟩ := h
  refine ⟨h1, h2, fun hn => ?_⟩
  obtain ⟨b, off, hA, hlt, hc⟩ := h3 hn
  exact ⟨b, off, hA, Nat.lt_of_lt_of_le hlt hb.size, fun k hk => (hb.cell (p := ⟨b, _, none⟩) hlt).trans (hc k hk)⟩
/-- a row of whole numbers of the call's own -/
def OwnI (w : World) (base : Nat) (v : Value) (n : Nat) (l : List Int) : Prop := n = l.length ∧ w.ownsRow base 2 1 v n (l.map (Value.int .i64))
theorem map_getD_int (l : List Int) (k : Nat) (h : k < l.length) : (l.map (Value.int .i64))[k]? = some (.int .i64 (l.getD k 0)) := by
  rw [List.getElem?_map, List.getElem?_eq_getElem h]
  simp [List.getD, List.getElem?_eq_getElem h]
theorem OwnI.sl {w : World} {base : Nat} {v : Value} {n : Nat} {l : List Int} (h : OwnI w base v n l) : ∃ A c, v = .slice A n c ∧ n ≤ c ∧ I64Sl w A n l := by
  obtain ⟨hn, h⟩ := h
  rcases h.2 with ⟨rfl, rfl⟩ | ⟨g, cap, cur, rfl, hb, hg, hle, hm, _, htake⟩
  · exact ⟨none, 0, rfl, by omega, hn, by omega, fun h => absurd h (by omega)⟩
  · unfold maxLen at hm
    refine ⟨_, _, rfl, hle, hn, by omega, fun h0 => ⟨g, 0, rfl, (Array.getElem?_eq_some_iff.1 hg).1, fun k hk => ?_⟩⟩
    rw [Nat.zero_add, World.ownsRow.cellAt h k (by omega), map_getD_int l k (by omega)]
theorem I64Sl.src {w : World} {A : Option Addr} {n : Nat} {l : List Int} (h : I64Sl w A n l) : SrcAt w A n 1 (l.map (Value.int .i64)) := by
  refine ⟨by simp [h.1], fun hn => ?_⟩
  obtain ⟨b, off, hA, hlt, hc⟩ := h.2.2 hn
  refine ⟨b, off, hA, hlt, fun j u hu => ?_⟩
  have hj : j < l.length := by simpa using (List.getElem?_eq_some_iff.1 hu).1
  rw [map_getD_int l j hj] at hu
  injection hu with hu
  rw [hc j (by rw [h.1]; exact hj), hu]
theorem info_i64 : (Tryz.prog.info? 2).map (fun i => (i.zero, i.size, i.bytes)) = some (some (.int .i64 0), 1, 8) := by kernel_rfl
theorem int_one {l : List Int} : ∀ u ∈ l.map (Value.int .i64), u.oneCell' = true := ints_oneCell .i64 l
/-- some slice with these numbers, in new memory -/
def GivesI (n : Nat) (l : List Int) (w : World) (e : Ending) (w' : World) : Prop := (∃ v, e = .returned v ∧ OwnI w' w.heap.size v n l) ∧ Below w.heap.size w w'
--%%
theorem right_sl (A : Option Addr) (n c : Nat) (l : List Int) (w : World) (h : I64Sl w A n l) :
    Calls Tryz.prog 117 #[.slice A n c] w fun e w' => e = .returned (.bool (l.all mrB)) ∧ w = w' := by
  obtain ⟨h1, h2, h3⟩ := h
  by_cases h0 : n = 0
  · subst h0
    have hl : l = [] := List.eq_nil_of_length_eq_zero h1.symm
    subst hl
    clear h3 h1
    go_enter Tryz.func117, Tryz.ntmps117
    go_wp2
    go_loop [7] (fun i => i = .int .i64 0) (fun i => 0)
    case atStart => rfl
    case round =>
      obtain rfl := hrel
      go_wp2
      go_ret
      exact ⟨rfl, rfl⟩
  · obtain ⟨b, off, rfl, hlt, hc⟩ := h3 (by omega)
    exact right_any b off c n l w h1 h2 hc
--%%
end Go.Proofs.YtbliblhipecgfaaGreatDoor
