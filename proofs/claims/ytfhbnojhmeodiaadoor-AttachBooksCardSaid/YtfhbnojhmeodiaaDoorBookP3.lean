/-
  Books of orders, by lists: the orders that are there, beside the book. No program.
-/
import Derived.Test.YtfhbnojhmeodiaaDoorBookP2
namespace Go.Proofs.YtfhbnojhmeodiaaDoor
set_option linter.unusedVariables false
def orC (z : Od) : List Value := [.int .i64 z.id, .int .i64 z.pr, .int .i64 z.am, .int .i64 z.ra, .int .i64 z.to]
theorem orC_len (z : Od) : (orC z).length = 5 := rfl
abbrev OrSl := RowSl orC 5 od0
structure Stand (l H : List Od) : Prop where
  so : SortO l
  pm : l.Perm H
  ids : IdsO l
  zero : ∀ z ∈ l, z.tk = 0 ∧ z.ar = 0
  len : l.length ≤ 8
theorem Stand.nil : Stand [] [] := ⟨List.Pairwise.nil, List.Perm.refl _, List.Pairwise.nil, fun z hz => by simp at hz, by decide⟩
theorem Stand.eq {l H : List Od} (h : Stand l H) : l.length = H.length := h.pm.length_eq
theorem Stand.hid {l H : List Od} (h : Stand l H) : IdsO H := ids_perm h.pm h.ids
theorem Stand.has {l H : List Od} (h : Stand l H) {q : Int} : atO l q < l.length ↔ ∃ i, i < H.length ∧ (H.getD i od0).id = q := by
  rw [at_mem]
  constructor
  · rintro ⟨z, hz, he⟩
    obtain ⟨i, hi, rfl⟩ := List.getElem_of_mem (h.pm.mem_iff.1 hz)
    exact ⟨i, hi, by rw [getD_at H od0 hi]; exact he⟩
  · rintro ⟨i, hi, he⟩
    rw [getD_at H od0 hi] at he
    exact ⟨H[i], h.pm.mem_iff.2 (List.getElem_mem hi), he⟩
theorem Stand.add {l H : List Od} {z : Od} (h : Stand l H) (hz : z.tk = 0 ∧ z.ar = 0) (hno : ¬ atO l z.id < l.length) (h8 : ¬ l.length = 8) : Stand (insO l z) (H ++ [z]) := by
  have hni : ∀ x ∈ l, x.id ≠ z.id := fun x hx he => hno (at_mem.2 ⟨x, hx, he⟩)
  have hp := insO_perm l z
  refine ⟨insO_sorted h.so hni, ?_, ids_perm hp.symm (List.pairwise_cons.2 ⟨fun x hx => Ne.symm (hni x hx), h.ids⟩), fun x hx => ?_, by rw [insO_len]; have := h.len; omega⟩
  · exact hp.trans ((List.perm_cons z).2 h.pm |>.trans (List.perm_append_comm (l₁ := [z]) (l₂ := H)))
  · rcases List.mem_cons.1 (hp.mem_iff.1 hx) with rfl | hx
    · exact hz
    · exact h.zero x hx
theorem Stand.cut {l H : List Od} {q : Int} {i : Nat} (h : Stand l H) (hi : i < H.length) (he : (H.getD i od0).id = q) : Stand (cutO l q) (H.take i ++ H.drop (i + 1)) := by
  have hat : atO l q < l.length := h.has.2 ⟨i, hi, he⟩
  have hs : (l.filter fun z => decide (z.id ≠ q)).Sublist l := List.filter_sublist
  rw [cutO_filter h.ids hat, cut_filter h.hid hi he]
  exact ⟨h.so.sublist hs, h.pm.filter _, h.ids.sublist hs, fun z hz => h.zero z (hs.subset hz), Nat.le_trans hs.length_le h.len⟩
/-- where an order of the book stands among those that are there -/
theorem Stand.find {l H : List Od} (h : Stand l H) {k : Nat} (hk : k < l.length) : ∃ j, j < H.length ∧ H.getD j od0 = l.getD k od0 ∧ ∀ i, i < H.length → i ≠ j → (H.getD i od0).id ≠ (l.getD k od0).id := by
  have hm : l[k] ∈ H := h.pm.mem_iff.1 (List.getElem_mem hk)
  obtain ⟨j, hj, he⟩ := List.getElem_of_mem hm
  have e : H.getD j od0 = l.getD k od0 := by rw [getD_at H od0 hj, getD_at l od0 hk, he]
  refine ⟨j, hj, e, fun i hi hne hid => hne (ids_get h.hid hi hj (by rw [e]; exact hid))⟩
theorem Stand.z0 {l H : List Od} (h : Stand l H) {k : Nat} (hk : k < l.length) : (l.getD k od0).tk = 0 ∧ (l.getD k od0).ar = 0 := by
  rw [getD_at l od0 hk]; exact h.zero _ (List.getElem_mem hk)
theorem Stand.before {l H : List Od} (h : Stand l H) {k : Nat} (hk : k < l.length) (h0 : 0 < k) : (l.getD (k - 1) od0).pr < (l.getD k od0).pr ∨ ((l.getD (k - 1) od0).pr = (l.getD k od0).pr ∧ (l.getD (k - 1) od0).id < (l.getD k od0).id) := by
  have := List.pairwise_iff_getElem.1 h.so (k - 1) k (by omega) hk (by omega)
  rw [befI_lt] at this
  rw [getD_at l od0 hk, getD_at l od0 (show k - 1 < l.length by omega)]
  exact this
end Go.Proofs.YtfhbnojhmeodiaaDoor
