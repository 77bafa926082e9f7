/-
  What element.Change does, told by lists; what the law's loops count. No program, no conditions beyond those named.
-/
import Derived.Test.YtbpdgkaohfmabaaDoorElemC
namespace Go.Proofs.YtbpdgkaohfmabaaDoor
set_option linter.unusedVariables false
/-- elements, those of a kind being one of an amount; was there one? -/
def chF (kd : ByteArray) (am : Int) : Bool → List El → List El
  | d, [] => if d = true then [] else [⟨kd, am, 100⟩]
  | d, x :: l => if x.k ≠ kd then x :: chF kd am d l else if d = true then chF kd am true l else ⟨kd, am, 100⟩ :: chF kd am true l
theorem chT_F (kd : ByteArray) (am : Int) (L : List El) : ∀ k, k ≤ L.length → (chT kd am L k).1 ++ chF kd am (chT kd am L k).2 (L.drop k) = chF kd am (decide (am = 0)) L := by
  intro k
  induction k with
  | zero => intro _; rfl
  | succ k ih =>
    intro hk
    have hd : L.drop k = L.getD k el0 :: L.drop (k + 1) := by
      rw [List.drop_eq_getElem_cons (by omega)]
      simp [List.getD, List.getElem?_eq_getElem (show k < L.length by omega)]
    have h := ih (by omega)
    rw [hd] at h
    rw [← h, chT]
    generalize L.getD k el0 = x
    generalize chT kd am L k = P
    obtain ⟨p, d⟩ := P
    by_cases h1 : x.k ≠ kd
    · rw [if_pos h1]; simp only [chF]; rw [if_pos h1]; simp
    · rw [if_neg h1]; simp only [chF]; rw [if_neg h1]
      cases d <;> simp
theorem chL_F (kd : ByteArray) (am : Int) (L : List El) : chL kd am L L.length = chF kd am (decide (am = 0)) L := by
  have h := chT_F kd am L L.length (Nat.le_refl _)
  rw [List.drop_length] at h
  rw [← h]
  unfold chL
  generalize chT kd am L L.length = P
  obtain ⟨p, d⟩ := P
  cases d <;> simp [chF]
/-- those of other kinds -/
def oth (kd : ByteArray) (l : List El) : List El := l.filter fun x => decide (x.k ≠ kd)
/-- how many are of a kind -/
def cnt (kd : ByteArray) (l : List El) : Nat := (l.filter fun x => decide (x.k = kd)).length
theorem oth_F (kd : ByteArray) (am : Int) (l : List El) : ∀ d, oth kd (chF kd am d l) = oth kd l := by
  induction l with
  | nil => intro d; cases d <;> simp [chF, oth]
  | cons x l ih =>
    intro d
    have i1 := ih true
    have i2 := ih d
    unfold oth at i1 i2 ⊢
    by_cases h : x.k = kd
    · cases d <;> simpa [chF, h] using i1
    · simpa [chF, h] using i2
theorem cnt_F (kd : ByteArray) (am : Int) (l : List El) : ∀ d, cnt kd (chF kd am d l) = if d = true then 0 else 1 := by
  induction l with
  | nil => intro d; cases d <;> simp [chF, cnt]
  | cons x l ih =>
    intro d
    have i1 := ih true
    have i2 := ih d
    unfold cnt at i1 i2 ⊢
    by_cases h : x.k = kd
    · cases d <;> simp [chF, h] at i1 ⊢ <;> exact i1
    · simp [chF, h]; simpa using i2
theorem one_F (kd : ByteArray) (am : Int) (l : List El) : ∀ d, ∀ x ∈ chF kd am d l, x.k = kd → x = ⟨kd, am, 100⟩ := by
  induction l with
  | nil => intro d x hx _; cases d <;> simp [chF] at hx; exact hx
  | cons y l ih =>
    intro d x hx hk
    rw [chF] at hx
    split at hx
    · rename_i h
      rcases List.mem_cons.1 hx with rfl | hx
      · exact absurd hk h
      · exact ih d x hx hk
    · split at hx
      · exact ih true x hx hk
      · rcases List.mem_cons.1 hx with rfl | hx
        · rfl
        · exact ih true x hx hk
theorem idem_F (kd : ByteArray) (am : Int) (l : List El) : ∀ d, chF kd am d (chF kd am d l) = chF kd am d l := by
  induction l with
  | nil => intro d; cases d <;> simp [chF]
  | cons x l ih =>
    intro d
    by_cases h : x.k = kd
    · cases d <;> simp [chF, h, ih true]
    · simp [chF, h, ih d]
theorem filter_take_succ {p : El → Bool} (l : List El) (k : Nat) (hk : k < l.length) : (l.take (k + 1)).filter p = (l.take k).filter p ++ if p (l.getD k el0) = true then [l.getD k el0] else [] := by
  rw [List.take_succ_eq_append_getElem hk, List.filter_append]
  have e : l.getD k el0 = l[k] := by simp [List.getD, List.getElem?_eq_getElem hk]
  rw [e]
  by_cases h : p l[k] = true
  · simp [h]
  · simp [h]
theorem oth_succ (kd : ByteArray) (l : List El) (k : Nat) (hk : k < l.length) : oth kd (l.take (k + 1)) = oth kd (l.take k) ++ if (l.getD k el0).k = kd then [] else [l.getD k el0] := by
  unfold oth
  rw [filter_take_succ l k hk]
  generalize l.getD k el0 = x
  by_cases h : x.k = kd <;> simp [h]
theorem cnt_succ (kd : ByteArray) (l : List El) (k : Nat) (hk : k < l.length) : cnt kd (l.take (k + 1)) = cnt kd (l.take k) + if (l.getD k el0).k = kd then 1 else 0 := by
  unfold cnt
  rw [filter_take_succ l k hk]
  generalize l.getD k el0 = x
  by_cases h : x.k = kd <;> simp [h]
/-- the next of other kinds stands where as many were counted -/
theorem oth_at (kd : ByteArray) (l : List El) (k : Nat) (hk : k < l.length) (h : (l.getD k el0).k ≠ kd) : (oth kd (l.take k)).length < (oth kd l).length ∧ (oth kd l).getD (oth kd (l.take k)).length el0 = l.getD k el0 := by
  have e : oth kd l = oth kd (l.take (k + 1)) ++ oth kd (l.drop (k + 1)) := by
    unfold oth; rw [← List.filter_append, List.take_append_drop]
  rw [e, oth_succ kd l k hk, if_neg h]
  constructor
  · simp
  · simp [List.getD]
theorem oth_all (kd : ByteArray) (l : List El) : oth kd (l.take l.length) = oth kd l := by rw [List.take_length]
theorem oth_len (kd : ByteArray) (l : List El) (k : Nat) : (oth kd (l.take k)).length ≤ k := by
  unfold oth
  refine Nat.le_trans (List.length_filter_le _ _) ?_
  rw [List.length_take]; omega
theorem cnt_len (kd : ByteArray) (l : List El) (k : Nat) : cnt kd (l.take k) ≤ k := by
  unfold cnt
  refine Nat.le_trans (List.length_filter_le _ _) ?_
  rw [List.length_take]; omega
theorem chL_len (kd : ByteArray) (am : Int) (L : List El) (n : Nat) : (chL kd am L n).length ≤ n + 1 := by
  have := chT_len kd am L n
  unfold chL
  split
  · simp; omega
  · omega
end Go.Proofs.YtbpdgkaohfmabaaDoor
