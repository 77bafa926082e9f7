/-
  Books of orders, by lists: what stands, what is owed, what is swept. No program, no conditions beyond those named.
-/
import Derived.Test.YtfhbnojhmeodiaaDoorBookP
namespace Go.Proofs.YtfhbnojhmeodiaaDoor
set_option linter.unusedVariables false
/-- each number is there once -/
def IdsO (l : List Od) : Prop := l.Pairwise fun a b => a.id ≠ b.id
theorem ids_perm {l m : List Od} (h : l.Perm m) (hd : IdsO l) : IdsO m := h.pairwise hd (fun {a b} h => Ne.symm h)
theorem ids_get {l : List Od} (hd : IdsO l) {i j : Nat} (hi : i < l.length) (hj : j < l.length) (h : (l.getD i od0).id = (l.getD j od0).id) : i = j := by
  rw [getD_at l od0 hi, getD_at l od0 hj] at h
  have hp := List.pairwise_iff_getElem.1 hd
  rcases Nat.lt_trichotomy i j with h1 | h1 | h1
  · exact absurd h (hp i j hi hj h1)
  · exact h1
  · exact absurd h.symm (hp j i hj hi h1)
theorem at_of_get {l : List Od} (hd : IdsO l) {i : Nat} (hi : i < l.length) {q : Int} (h : (l.getD i od0).id = q) : atO l q = i := by
  have hlt : atO l q < l.length := by
    rcases (by have := atO_le l q; omega : atO l q < l.length ∨ atO l q = l.length) with h1 | h1
    · exact h1
    · exact absurd h (atO_lt (by omega))
  exact ids_get hd hlt hi (by rw [atO_eq hlt, h])
theorem at_mem {l : List Od} {q : Int} : atO l q < l.length ↔ ∃ z ∈ l, z.id = q := by
  constructor
  · intro h
    refine ⟨l.getD (atO l q) od0, ?_, atO_eq h⟩
    rw [getD_at l od0 h]
    exact List.getElem_mem h
  · rintro ⟨z, hz, he⟩
    unfold atO
    exact List.findIdx_lt_length_of_exists ⟨z, hz, by simpa using he⟩
/-- the one at a place left out is all others -/
theorem cut_filter {q : Int} : ∀ {l : List Od}, IdsO l → ∀ {i : Nat}, i < l.length → (l.getD i od0).id = q → l.take i ++ l.drop (i + 1) = l.filter fun z => decide (z.id ≠ q) := by
  intro l
  induction l with
  | nil => intro _ i hi; exact absurd hi (Nat.not_lt_zero _)
  | cons x l ih =>
    intro hd i hi he
    have hd2 := List.pairwise_cons.1 hd
    cases i with
    | zero =>
      have hx : x.id = q := he
      have : l.filter (fun z => decide (z.id ≠ q)) = l := List.filter_eq_self.2 fun z hz => by
        have := hd2.1 z hz
        rw [hx] at this
        simpa using Ne.symm this
      rw [List.filter_cons, if_neg (by simpa using hx), this]
      rfl
    | succ i =>
      have hi' : i < l.length := by simpa using hi
      have he' : (l.getD i od0).id = q := he
      have hx : x.id ≠ q := by
        have := hd2.1 (l[i]) (List.getElem_mem hi')
        rw [getD_at l od0 hi'] at he'
        rw [he'] at this
        exact this
      rw [List.filter_cons, if_pos (by simpa using hx), ← ih hd2.2 hi' he']
      rfl
theorem cutO_filter {l : List Od} (hd : IdsO l) {q : Int} (h : atO l q < l.length) : cutO l q = l.filter fun z => decide (z.id ≠ q) := cut_filter hd h (atO_eq h)
/-! ### What orders took -/
theorem tookA_id (l : List Od) (x : Tk) (h : atO l x.o < l.length) : (tookA l x).map Od.id = l.map Od.id := by
  unfold tookA
  rw [List.map_set]
  have : ({ l.getD (atO l x.o) od0 with tk := (l.getD (atO l x.o) od0).tk + x.ta, ar := x.ca } : Od).id = (l.map Od.id)[atO l x.o]'(by simpa using h) := by
    rw [List.getElem_map, ← getD_at l od0 h]
  rw [this]
  exact List.set_getElem_self _
theorem ids_map {l m : List Od} (h : l.map Od.id = m.map Od.id) (hd : IdsO l) : IdsO m := by
  have e : ∀ l : List Od, IdsO l ↔ (l.map Od.id).Pairwise (· ≠ ·) := fun l => by unfold IdsO; rw [List.pairwise_map]
  rw [e] at hd ⊢
  rw [← h]; exact hd
theorem tookX_at {l : List Od} {x : Tk} (h : tookX l x = 0) : atO l x.o < l.length := by
  unfold tookX at h
  by_cases h1 : atO l x.o < l.length
  · exact h1
  · rw [if_pos h1] at h; cases h
theorem tookT_id (l : List Od) (ts : List Tk) : ∀ k, (tookT l ts k).2.map Od.id = l.map Od.id := by
  intro k
  induction k with
  | zero => rfl
  | succ k ih =>
    rw [tookT]
    split
    · exact ih
    · split
      · exact ih
      · rename_i h
        rw [tookA_id _ _ (tookX_at (by simpa using h))]
        exact ih
theorem tookL_id (l : List Od) (ts : List Tk) : (tookL l ts).map Od.id = l.map Od.id := by
  unfold tookL
  split
  · exact tookT_id l ts _
  · rfl
/-- all that is told of an order holds behind -/
theorem tookA_all {l : List Od} {x : Tk} {Q : Od → Prop} (h : ∀ z ∈ l, Q z) (hq : ∀ z, z ∈ l → Q { z with tk := z.tk + x.ta, ar := x.ca }) (hx : atO l x.o < l.length) : ∀ z ∈ tookA l x, Q z := by
  intro z hz
  unfold tookA at hz
  rcases List.mem_or_eq_of_mem_set hz with h1 | h1
  · exact h z h1
  · rw [h1]
    exact hq _ (by rw [getD_at l od0 hx]; exact List.getElem_mem hx)
theorem tookT_all {l : List Od} {ts : List Tk} {Q : Od → Prop} (h : ∀ z ∈ l, Q z) (hq : ∀ (m : List Od) (x : Tk), (∀ z ∈ m, Q z) → x ∈ ts → tookX m x = 0 → ∀ z ∈ tookA m x, Q z) : ∀ k, k ≤ ts.length → ∀ z ∈ (tookT l ts k).2, Q z := by
  intro k
  induction k with
  | zero => intro _; exact h
  | succ k ih =>
    intro hk
    rw [tookT]
    split
    · exact ih (by omega)
    · split
      · exact ih (by omega)
      · rename_i h1
        refine hq _ _ (ih (by omega)) ?_ (by simpa using h1)
        rw [List.getD, List.getElem?_eq_getElem (by omega)]
        exact List.getElem_mem (by omega)
/-! ### What is owed -/
structure OwS where
  e : Int
  s : Int
  n : Int
def owStep (r : OwS) (z : Od) : OwS :=
  if r.e ≠ 0 then r else if z.to = 0 then ⟨0, r.s, r.n + 1⟩
  else if ¬ (mrB z.to = true ∧ mrB z.tk = true ∧ mrB (z.to - z.tk) = true) then ⟨10, 0, 0⟩
  else if ¬ (mrB r.s = true ∧ mrB (max 0 (z.to - z.tk)) = true ∧ mrB (r.s + max 0 (z.to - z.tk)) = true) then ⟨10, 0, 0⟩
  else ⟨0, r.s + max 0 (z.to - z.tk), r.n⟩
def owedT (l : List Od) : Nat → OwS
  | 0 => ⟨0, 0, 0⟩
  | k + 1 => owStep (owedT l k) (l.getD k od0)
def owedV (l : List Od) : OwS := owedT l l.length
theorem owedT_stick (l : List Od) (k : Nat) (h : (owedT l k).e ≠ 0) : ∀ n, k ≤ n → owedT l n = owedT l k := by
  intro n
  induction n with
  | zero => intro hk; obtain rfl : k = 0 := by omega
            rfl
  | succ n ih =>
    intro hk
    rcases (by omega : k = n + 1 ∨ k ≤ n) with rfl | hk
    · rfl
    · have e := ih hk
      rw [owedT, e, owStep, if_pos h]
/-! ### What is swept -/
def overO (z : Od) : Bool := decide (0 < z.to) && decide (z.to ≤ z.tk)
def goneO (z : Od) : Bool := overO z && decide (z.ar = 0)
def sweepL (l : List Od) : List Od := l.filter fun z => !goneO z
def sweepI (l : List Od) : List Int := (l.filter goneO).map Od.id
theorem take_snoc {l : List Od} {k : Nat} (hk : k < l.length) : l.take (k + 1) = l.take k ++ [l.getD k od0] := by
  rw [List.take_add_one, List.getElem?_eq_getElem hk, getD_at l od0 hk]; rfl
theorem sweepI_snoc {l : List Od} {k : Nat} (hk : k < l.length) : sweepI (l.take (k + 1)) = sweepI (l.take k) ++ (if goneO (l.getD k od0) = true then [(l.getD k od0).id] else []) := by
  unfold sweepI
  rw [take_snoc hk, List.filter_append, List.map_append]
  congr 1
  by_cases h : goneO (l.getD k od0) = true
  · rw [if_pos h, List.filter_cons, if_pos h]; rfl
  · rw [if_neg h, List.filter_cons, if_neg h]; rfl
theorem sweepL_snoc {l : List Od} {k : Nat} (hk : k < l.length) : sweepL (l.take (k + 1)) = sweepL (l.take k) ++ (if goneO (l.getD k od0) = true then [] else [l.getD k od0]) := by
  unfold sweepL
  rw [take_snoc hk, List.filter_append]
  congr 1
  by_cases h : goneO (l.getD k od0) = true
  · rw [if_pos h, List.filter_cons, if_neg (by simpa using h)]; rfl
  · rw [if_neg h, List.filter_cons, if_pos (by simpa using h)]; rfl
theorem sweep_len (l : List Od) (k : Nat) (hk : k ≤ l.length) : (sweepL (l.take k)).length + (sweepI (l.take k)).length = k := by
  induction k with
  | zero => simp [sweepL, sweepI]
  | succ k ih =>
    have := ih (by omega)
    rw [sweepL_snoc (by omega), sweepI_snoc (by omega)]
    by_cases h : goneO (l.getD k od0) = true
    · rw [if_pos h, if_pos h]; simp; omega
    · rw [if_neg h, if_neg h]; simp; omega
theorem sweep_all (l : List Od) : sweepL (l.take l.length) = sweepL l ∧ sweepI (l.take l.length) = sweepI l := by rw [List.take_length]; exact ⟨rfl, rfl⟩
theorem sweep_twice (l : List Od) : sweepI (sweepL l) = [] := by
  unfold sweepI sweepL
  rw [List.filter_filter]
  have : (fun z => goneO z && !goneO z) = fun _ => false := by funext z; cases goneO z <;> rfl
  simp
end Go.Proofs.YtfhbnojhmeodiaaDoor
