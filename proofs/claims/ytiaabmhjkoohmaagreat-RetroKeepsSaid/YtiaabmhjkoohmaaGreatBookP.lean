/-
 Books of orders, by lists: found, put in, cancelled, what they took, swept. No program, no conditions beyond those named.
-/
import Derived.Test.YtiaabmhjkoohmaaGreatOrd2
import Derived.Lib.Small
namespace Go.Proofs.YtiaabmhjkoohmaaGreat
set_option linter.unusedVariables false
set_option linter.unusedSimpArgs false
def befI (a b : Od) : Int := if Lib.compareInt a.pr b.pr ≠ 0 then Lib.compareInt a.pr b.pr else Lib.compareInt a.id b.id
theorem befI_lt {a b : Od} : befI a b < 0 ↔ a.pr < b.pr ∨ (a.pr = b.pr ∧ a.id < b.id) := by
 unfold befI Lib.compareInt
 by_cases h1 : a.pr < b.pr
 ·
  simp [h1]
 ·
  by_cases h2 : a.pr > b.pr
  ·
   have : ¬ a.pr = b.pr := by omega
   simp [h1, h2, this]
  ·
   have e : a.pr = b.pr := by omega
   by_cases h3 : a.id < b.id
   ·
    simp [e, h3]
   ·
    by_cases h4 : a.id > b.id
    ·
     have : ¬ a.id < b.id := h3
     simp [e, h3, h4]
    ·
     simp [e, h3, h4]
def SortO (l : List Od) : Prop := l.Pairwise fun a b => befI a b < 0
def posO (l : List Od) (z : Od) : Nat := l.findIdx fun x => !decide (befI x z < 0)
def insO (l : List Od) (z : Od) : List Od := l.take (posO l z) ++ z :: l.drop (posO l z)
def atO (l : List Od) (id : Int) : Nat := l.findIdx fun x => decide (x.id = id)
theorem posO_le (l : List Od) (z : Od) : posO l z ≤ l.length := List.findIdx_le_length
theorem atO_le (l : List Od) (id : Int) : atO l id ≤ l.length := List.findIdx_le_length
theorem gaz {α : Type} (l : List α) (d : α) {k : Nat} (h : k < l.length) : l.getD k d = l[k] := by simp [List.getD, h]
theorem posO_lt {l : List Od} {z : Od} {k : Nat} (h : k < posO l z) : befI (l.getD k od0) z < 0 := by
 have hl : k < l.length := Nat.lt_of_lt_of_le h (posO_le l z)
 have := List.not_of_lt_findIdx h
 rw [gaz l od0 hl]
 simpa using this
theorem posO_ge {l : List Od} {z : Od} (hs : SortO l) {k : Nat} (h : posO l z ≤ k) (hk : k < l.length) : ¬ befI (l.getD k od0) z < 0 := by
 have hp : posO l z < l.length := by omega
 have h1 : ¬ befI (l[posO l z]) z < 0 := by
  have := List.findIdx_getElem (p := fun x => !decide (befI x z < 0)) (xs := l) (w := hp)
  unfold posO
  simpa using this
 rw [gaz l od0 hk]
 rcases (by omega : posO l z = k ∨ posO l z < k) with e | h2
 ·
  simpa [e] using h1
 ·
  have h3 := List.pairwise_iff_getElem.1 hs _ _ hp hk h2
  rw [befI_lt] at h1 h3 ⊢
  omega
theorem posO_of {l : List Od} {z : Od} {i : Nat} (hi : i ≤ l.length) (h1 : ∀ k, k < i → befI (l.getD k od0) z < 0) (h2 : ∀ k, i ≤ k → k < l.length → ¬ befI (l.getD k od0) z < 0) : i = posO l z := by
 rcases (by omega : i < posO l z ∨ posO l z < i ∨ i = posO l z) with h | h | h
 ·
  have := posO_le l z
  exact absurd (posO_lt h) (h2 i (Nat.le_refl _) (by omega))
 ·
  have hp : posO l z < l.length := by omega
  have := h1 _ h
  have h3 := List.findIdx_getElem (p := fun x => !decide (befI x z < 0)) (xs := l) (w := hp)
  rw [gaz l od0 hp] at this
  simp at h3
  exact absurd this (by unfold posO; omega)
 ·
  exact h
theorem atO_lt {l : List Od} {id : Int} {k : Nat} (h : k < atO l id) : (l.getD k od0).id ≠ id := by
 have hl : k < l.length := Nat.lt_of_lt_of_le h (atO_le l id)
 have := List.not_of_lt_findIdx h
 rw [gaz l od0 hl]
 simpa using this
theorem atO_eq {l : List Od} {id : Int} (h : atO l id < l.length) : (l.getD (atO l id) od0).id = id := by
 have := List.findIdx_getElem (p := fun x : Od => decide (x.id = id)) (xs := l) (w := h)
 rw [gaz l od0 h]
 unfold atO
 simpa using this
theorem atO_of {l : List Od} {id : Int} {q : Nat} (hq : q < l.length) (h1 : (l.getD q od0).id = id) (h2 : ∀ j, j < q → (l.getD j od0).id ≠ id) : atO l id = q := by
 rcases (by omega : atO l id < q ∨ q < atO l id ∨ atO l id = q) with h | h | h
 ·
  exact absurd (atO_eq (by omega)) (h2 _ h)
 ·
  exact absurd h1 (atO_lt h)
 ·
  exact h
theorem atO_none {l : List Od} {id : Int} (h : ∀ j, j < l.length → (l.getD j od0).id ≠ id) : atO l id = l.length := by
 have := atO_le l id
 rcases (by omega : atO l id < l.length ∨ atO l id = l.length) with h2 | h2
 ·
  exact absurd (atO_eq h2) (h _ h2)
 ·
  exact h2
theorem insO_len (l : List Od) (z : Od) : (insO l z).length = l.length + 1 := by
 have := posO_le l z
 unfold insO
 simp
 omega
theorem insO_perm (l : List Od) (z : Od) : (insO l z).Perm (z :: l) := by
 unfold insO
 have h := List.perm_middle (a := z) (l₁ := l.take (posO l z)) (l₂ := l.drop (posO l z))
 rwa [List.take_append_drop] at h
theorem befI_trans {a b c : Od} (h1 : befI a b < 0) (h2 : befI b c < 0) : befI a c < 0 := by
 rw [befI_lt] at *
 omega
theorem insO_sorted {l : List Od} {z : Od} (hs : SortO l) (hid : ∀ x ∈ l, x.id ≠ z.id) : SortO (insO l z) := by
 unfold insO SortO
 have hps := posO_le l z
 rw [List.pairwise_append]
 have hz : ∀ x ∈ l.drop (posO l z), befI z x < 0 := fun x hx => by
  obtain ⟨k, hk, rfl⟩ := List.getElem_of_mem hx
  rw [List.length_drop] at hk
  rw [List.getElem_drop]
  have h2 := posO_ge hs (z := z) (k := posO l z + k) (by omega) (by omega)
  rw [gaz l od0 (by omega)] at h2
  have h3 := hid _ (List.getElem_mem (show posO l z + k < l.length by omega))
  rw [befI_lt] at *
  omega
 have hy : ∀ x ∈ l.take (posO l z), befI x z < 0 := fun x hx => by
  obtain ⟨k, hk, rfl⟩ := List.getElem_of_mem hx
  rw [List.length_take] at hk
  rw [List.getElem_take]
  have := posO_lt (l := l) (z := z) (k := k) (by omega)
  rwa [gaz l od0 (by omega)] at this
 refine ⟨hs.sublist (List.take_sublist _ _), List.pairwise_cons.2 ⟨hz, hs.sublist (List.drop_sublist _ _)⟩, fun x hx y hy' => ?_⟩
 rcases List.mem_cons.1 hy' with rfl | hy'
 ·
  exact hy x hx
 ·
  exact befI_trans (hy x hx) (hz y hy')
def addE (l : List Od) (z : Od) : Int := if orE z.id z.pr z.am z.ra z.to ≠ 0 then orE z.id z.pr z.am z.ra z.to else if atO l z.id < l.length then 4 else if l.length = 8 then 2 else 0
def addL (l : List Od) (z : Od) : List Od := if addE l z = 0 then insO l z else l
def cutO (l : List Od) (id : Int) : List Od := l.take (atO l id) ++ l.drop (atO l id + 1)
def canE (l : List Od) (id : Int) : Int := if atO l id < l.length then 0 else 3
def tookA (l : List Od) (x : Tk) : List Od := l.set (atO l x.o) { l.getD (atO l x.o) od0 with tk := (l.getD (atO l x.o) od0).tk + x.ta, ar := x.ca }
def tookX (l : List Od) (x : Tk) : Int := if ¬ atO l x.o < l.length then 3 else if ¬ (mrB (l.getD (atO l x.o) od0).tk = true ∧ mrB x.ta = true ∧ mrB ((l.getD (atO l x.o) od0).tk + x.ta) = true) then 10 else if mrB x.ca = false then 10 else 0
def tTz (l : List Od) (ts : List Tk) : Nat → Int × List Od
 | 0 => (0, l)
 | k + 1 => if (tTz l ts k).1 ≠ 0 then tTz l ts k else if tookX (tTz l ts k).2 (ts.getD k tk0) ≠ 0 then (tookX (tTz l ts k).2 (ts.getD k tk0), (tTz l ts k).2) else (0, tookA (tTz l ts k).2 (ts.getD k tk0))
def tookE (l : List Od) (ts : List Tk) : Int := (tTz l ts ts.length).1
def tookL (l : List Od) (ts : List Tk) : List Od := if tookE l ts = 0 then (tTz l ts ts.length).2 else l
theorem tookT_stick (l : List Od) (ts : List Tk) (k : Nat) (h : (tTz l ts k).1 ≠ 0) : ∀ n, k ≤ n → tTz l ts n = tTz l ts k := by
  intro n
  induction n with
  | zero => intro hk; obtain rfl : k = 0 := by omega
            rfl
  | succ n ih =>
    intro hk
    rcases (by omega : k = n + 1 ∨ k ≤ n) with rfl | hk
    · rfl
    · have e := ih hk
      rw [tTz, e, if_pos h]
theorem tookA_len (l : List Od) (x : Tk) : (tookA l x).length = l.length := by simp [tookA]
theorem tookT_len (l : List Od) (ts : List Tk) : ∀ k, (tTz l ts k).2.length = l.length := by
 intro k
 induction k with
 | zero => rfl
 | succ k ih =>
  rw [tTz]
  split
  ·
   exact ih
  ·
   split
   ·
    exact ih
   ·
    rw [tookA_len, ih]
end Go.Proofs.YtiaabmhjkoohmaaGreat
