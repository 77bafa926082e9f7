/-
  Books of orders, by lists: what a book is that was put together, and what it stays while orders take. No program.
-/
import Derived.Test.YtfhbnojhmeodiaaDoorBookP3
namespace Go.Proofs.YtfhbnojhmeodiaaDoor
set_option linter.unusedVariables false
structure Good (l : List Od) : Prop where
  so : SortO l
  ids : IdsO l
  len : l.length ≤ 8
  zero : ∀ z ∈ l, z.tk = 0 ∧ z.ar = 0
  ok : ∀ z ∈ l, OrOK z.id z.pr z.am z.ra z.«to»
theorem Good.nil : Good [] := ⟨List.Pairwise.nil, List.Pairwise.nil, by decide, fun z hz => by simp at hz, fun z hz => by simp at hz⟩
theorem addE_zero {l : List Od} {z : Od} (h : addE l z = 0) : orE z.id z.pr z.am z.ra z.«to» = 0 ∧ ¬ atO l z.id < l.length ∧ ¬ l.length = 8 := by
  unfold addE at h
  split at h
  · rename_i h1; exact absurd h h1
  · rename_i h1
    split at h
    · cases h
    · rename_i h2
      split at h
      · cases h
      · rename_i h3
        exact ⟨by simpa using h1, h2, h3⟩
theorem Good.add {l : List Od} {z : Od} (h : Good l) (hz : z.tk = 0 ∧ z.ar = 0) : Good (addL l z) := by
  unfold addL
  split
  · rename_i he
    obtain ⟨h1, h2, h3⟩ := addE_zero he
    have st : Stand l l := ⟨h.so, List.Perm.refl _, h.ids, h.zero, h.len⟩
    have s2 := st.add hz h2 h3
    refine ⟨s2.so, s2.ids, s2.len, s2.zero, fun x hx => ?_⟩
    rcases List.mem_cons.1 ((insO_perm l z).mem_iff.1 hx) with rfl | hx
    · exact orE_ok h1
    · exact h.ok x hx
  · exact h
theorem tookA_one {l : List Od} {x : Tk} {Q : Od → Prop} (h : ∀ z ∈ l, Q z) (hq : Q { l.getD (atO l x.o) od0 with tk := (l.getD (atO l x.o) od0).tk + x.ta, ar := x.ca }) : ∀ z ∈ tookA l x, Q z := by
  intro z hz
  unfold tookA at hz
  rcases List.mem_or_eq_of_mem_set hz with h1 | h1
  · exact h z h1
  · rw [h1]; exact hq
theorem tookT_one {l : List Od} {ts : List Tk} {Q : Od → Prop} (h : ∀ z ∈ l, Q z) (hq : ∀ (m : List Od) (x : Tk), (∀ z ∈ m, Q z) → tookX m x = 0 → Q { m.getD (atO m x.o) od0 with tk := (m.getD (atO m x.o) od0).tk + x.ta, ar := x.ca }) : ∀ k, ∀ z ∈ (tookT l ts k).2, Q z := by
  intro k
  induction k with
  | zero => exact h
  | succ k ih =>
    rw [tookT]
    split
    · exact ih
    · split
      · exact ih
      · rename_i h1
        exact tookA_one ih (hq _ _ ih (by simpa using h1))
theorem tookX_zero {l : List Od} {x : Tk} (h : tookX l x = 0) : atO l x.o < l.length ∧ (mrB (l.getD (atO l x.o) od0).tk = true ∧ mrB x.ta = true ∧ mrB ((l.getD (atO l x.o) od0).tk + x.ta) = true) ∧ mrB x.ca = true := by
  unfold tookX at h
  split at h
  · cases h
  · rename_i h1
    split at h
    · cases h
    · rename_i h2
      split at h
      · cases h
      · rename_i h3
        exact ⟨by simpa using h1, by simpa using h2, by simpa using h3⟩
/-- amounts stay such that may be -/
theorem tookT_mr {l : List Od} {ts : List Tk} (h : ∀ z ∈ l, mrB z.tk = true ∧ mrB z.ar = true) : ∀ k, ∀ z ∈ (tookT l ts k).2, mrB z.tk = true ∧ mrB z.ar = true :=
  tookT_one h (fun m x _ hx => by
    obtain ⟨_, h2, h3⟩ := tookX_zero hx
    exact ⟨h2.2.2, h3⟩)
theorem tookL_mr {l : List Od} {ts : List Tk} (h : ∀ z ∈ l, mrB z.tk = true ∧ mrB z.ar = true) : ∀ z ∈ tookL l ts, mrB z.tk = true ∧ mrB z.ar = true := by
  unfold tookL
  split
  · exact tookT_mr h _
  · exact h
theorem tookL_len (l : List Od) (ts : List Tk) : (tookL l ts).length = l.length := by
  unfold tookL
  split
  · exact tookT_len l ts _
  · rfl
theorem tookL_ids {l : List Od} {ts : List Tk} (h : IdsO l) : IdsO (tookL l ts) := ids_map (tookL_id l ts).symm h
theorem tookT_ids {l : List Od} {ts : List Tk} (h : IdsO l) (k : Nat) : IdsO (tookT l ts k).2 := ids_map (tookT_id l ts k).symm h
theorem Good.mr {l : List Od} (h : Good l) : ∀ z ∈ l, mrB z.tk = true ∧ mrB z.ar = true := fun z hz => by
  obtain ⟨a, b⟩ := h.zero z hz
  rw [a, b]; decide
end Go.Proofs.YtfhbnojhmeodiaaDoor
