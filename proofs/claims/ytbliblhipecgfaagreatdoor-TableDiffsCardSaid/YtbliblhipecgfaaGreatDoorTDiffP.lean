/-
  Plain: what goes and what comes makes of one list of lines the other. No program.
-/
import Derived.Test.YtbliblhipecgfaaGreatDoorTDiff
namespace Go.Proofs.YtbliblhipecgfaaGreatDoor
set_option linter.unusedVariables false
open Go.RowKit
/-- how often a string stands in a list -/
def occ (s : ByteArray) : List ByteArray → Int
  | [] => 0
  | x :: l => (if x = s then 1 else 0) + occ s l
theorem occ_app (s : ByteArray) : ∀ l m : List ByteArray, occ s (l ++ m) = occ s l + occ s m
  | [], m => by simp [occ]
  | x :: l, m => by
    show (if x = s then 1 else 0) + occ s (l ++ m) = ((if x = s then 1 else 0) + occ s l) + occ s m
    rw [occ_app s l m]
    omega
theorem occ_bd (s : ByteArray) : ∀ l : List ByteArray, 0 ≤ occ s l ∧ occ s l ≤ l.length
  | [] => by simp [occ]
  | x :: l => by
    have := occ_bd s l
    unfold occ
    rw [List.length_cons]
    split <;> omega
theorem occ_one (s x : ByteArray) : occ s [x] = if x = s then 1 else 0 := by simp [occ]
theorem occ_step (s : ByteArray) (L : List ByteArray) (k : Nat) (hk : k < L.length) : occ s (L.take (k + 1)) = occ s (L.take k) + if L.getD k st0 = s then 1 else 0 := by
  rw [take_snoc L st0 k hk, occ_app, occ_one]
theorem cntF_occ (L : List ByteArray) : ∀ k, k ≤ L.length → ∀ s, cntF L k s = occ s (L.take k) := by
  intro k
  induction k with
  | zero => intro _ s; rfl
  | succ k ih =>
    intro hk s
    rw [occ_step s L k (by omega), ← ih (by omega) s]
    show updF _ _ _ s = _
    by_cases e : s = L.getD k st0
    · subst e; rw [updF_same, if_pos rfl]
    · rw [updF_other e, if_neg (fun h => e h.symm)]; omega
theorem wo_occ {f : ByteArray → Int} (hf : ∀ s, 0 ≤ f s) (L : List ByteArray) : ∀ k, k ≤ L.length → ∀ s, woF f L k s = max 0 (f s - occ s (L.take k)) ∧ occ s (woO f L k) = max 0 (occ s (L.take k) - f s) := by
  intro k
  induction k with
  | zero =>
    intro _ s
    have := hf s
    simp only [List.take_zero, woF, woO, occ]
    omega
  | succ k ih =>
    intro hk s
    obtain ⟨h1, h2⟩ := ih (by omega) s
    obtain ⟨g1, g2⟩ := ih (by omega) (L.getD k st0)
    have hs := hf s
    rw [occ_step s L k (by omega)]
    unfold woF woO
    by_cases hp : 0 < woF f L k (L.getD k st0)
    · rw [if_pos hp, if_pos hp, h2]
      by_cases e : s = L.getD k st0
      · rw [e, updF_same, if_pos rfl]
        rw [e] at h1 h2 hs
        omega
      · rw [updF_other e, if_neg (fun h => e h.symm), h1]
        omega
    · rw [if_neg hp, if_neg hp, occ_app, occ_one, h1, h2]
      by_cases e : s = L.getD k st0
      · rw [if_pos e.symm]
        rw [← e] at g1 hp
        omega
      · rw [if_neg (fun h => e h.symm)]
        omega
theorem woL_occ (L M : List ByteArray) (s : ByteArray) : occ s (woL L M) = max 0 (occ s L - occ s M) := by
  have hf : ∀ s, 0 ≤ cntF M M.length s := fun s => (cntF_bd M M.length s).1
  have h := (wo_occ hf L L.length (Nat.le_refl _) s).2
  rw [List.take_length, cntF_occ M M.length (Nat.le_refl _) s, List.take_length] at h
  exact h
theorem woL_self (L : List ByteArray) : woL L L = [] := by
  cases h : woL L L with
  | nil => rfl
  | cons x l =>
    have h1 := woL_occ L L x
    have h2 := (occ_bd x l).1
    rw [h] at h1
    simp only [occ, if_pos] at h1
    omega
theorem diff_self (t : Tb) : diffL t t = [] := by unfold diffL; rw [woL_self]; rfl
/-- the counts behind k changes -/
def gF (f : ByteArray → Int) (d : List (Bool × ByteArray)) : Nat → ByteArray → Int
  | 0 => f
  | k + 1 => updF (gF f d k) (d.getD k ch0).2 (if (d.getD k ch0).1 = true then gF f d k (d.getD k ch0).2 + 1 else gF f d k (d.getD k ch0).2 - 1)
theorem gF_first (f : ByteArray → Int) (X : List ByteArray) (d : List (Bool × ByteArray)) (hd : ∀ k, k < X.length → d.getD k ch0 = (false, X.getD k st0)) : ∀ k, k ≤ X.length → ∀ s, gF f d k s = f s - occ s (X.take k) := by
  intro k
  induction k with
  | zero => intro _ s; simp [gF, occ]
  | succ k ih =>
    intro hk s
    rw [occ_step s X k (by omega)]
    unfold gF
    rw [hd k (by omega)]
    dsimp only
    by_cases e : s = X.getD k st0
    · rw [e, updF_same, if_pos rfl, if_neg (by decide), ih (by omega)]; omega
    · rw [updF_other e, if_neg (fun h => e h.symm), ih (by omega)]; omega
theorem gF_then (f : ByteArray → Int) (X Y : List ByteArray) (d : List (Bool × ByteArray)) (hd : ∀ k, k < X.length → d.getD k ch0 = (false, X.getD k st0)) (he : ∀ k, k < Y.length → d.getD (X.length + k) ch0 = (true, Y.getD k st0)) : ∀ k, k ≤ Y.length → ∀ s, gF f d (X.length + k) s = f s - occ s X + occ s (Y.take k) := by
  intro k
  induction k with
  | zero =>
    intro _ s
    rw [Nat.add_zero, gF_first f X d hd X.length (Nat.le_refl _) s, List.take_length]
    simp [occ]
  | succ k ih =>
    intro hk s
    rw [occ_step s Y k (by omega), show X.length + (k + 1) = X.length + k + 1 from rfl]
    unfold gF
    rw [he k (by omega)]
    dsimp only
    by_cases e : s = Y.getD k st0
    · rw [e, updF_same, if_pos rfl, if_pos rfl, ih (by omega)]; omega
    · rw [updF_other e, if_neg (fun h => e h.symm), ih (by omega)]; omega
/-- the changes of two tables -/
structure DiffOK (LA LB : List ByteArray) (d : List (Bool × ByteArray)) (p : Nat) : Prop where
  le : p ≤ d.length
  few : d.length ≤ LA.length + LB.length
  old : ∀ k, k < p → (d.getD k ch0).1 = false ∧ 0 < gF (cntF LA LA.length) d k (d.getD k ch0).2
  new : ∀ k, p ≤ k → k < d.length → (d.getD k ch0).1 = true
  bd : ∀ k, k ≤ d.length → ∀ s, -400 ≤ gF (cntF LA LA.length) d k s ∧ gF (cntF LA LA.length) d k s ≤ 400
  fin : ∀ s, gF (cntF LA LA.length) d d.length s = occ s LB
theorem diff_ok (LA LB : List ByteArray) (ha : LA.length ≤ 100) (hb : LB.length ≤ 100) : DiffOK LA LB ((woL LA LB).map (fun s => (false, s)) ++ (woL LB LA).map (fun s => (true, s))) (woL LA LB).length := by
  have l1 : (woL LA LB).length ≤ LA.length := woO_len _ _ _
  have l2 : (woL LB LA).length ≤ LB.length := woO_len _ _ _
  have o1 := woL_occ LA LB
  have o2 := woL_occ LB LA
  generalize woL LA LB = X at *
  generalize woL LB LA = Y at *
  have hlen : (X.map (fun s => (false, s)) ++ Y.map (fun s => (true, s))).length = X.length + Y.length := by simp
  have hd : ∀ k, k < X.length → (X.map (fun s => (false, s)) ++ Y.map (fun s => (true, s))).getD k ch0 = (false, X.getD k st0) := fun k hk => by
    rw [getD_get (by rw [hlen]; omega), getD_get hk, List.getElem_append_left (by simpa using hk)]; simp
  have he : ∀ k, k < Y.length → (X.map (fun s => (false, s)) ++ Y.map (fun s => (true, s))).getD (X.length + k) ch0 = (true, Y.getD k st0) := fun k hk => by
    rw [getD_get (by rw [hlen]; omega), getD_get hk, List.getElem_append_right (by simp)]; simp
  generalize X.map (fun s => (false, s)) ++ Y.map (fun s => (true, s)) = d at *
  have hf : ∀ s, cntF LA LA.length s = occ s LA := fun s => by rw [cntF_occ LA LA.length (Nat.le_refl _) s, List.take_length]
  have g1 := gF_first (cntF LA LA.length) X d hd
  have g2 := gF_then (cntF LA LA.length) X Y d hd he
  refine ⟨by omega, by omega, fun k hk => ?_, fun k h1 h2 => ?_, fun k hk s => ?_, fun s => ?_⟩
  · rw [hd k hk]
    refine ⟨rfl, ?_⟩
    dsimp only
    rw [g1 k (by omega), hf]
    have a1 := occ_step (X.getD k st0) X k hk
    rw [if_pos rfl] at a1
    have a2 : occ (X.getD k st0) (X.take (k + 1)) + occ (X.getD k st0) (X.drop (k + 1)) = occ (X.getD k st0) X := by rw [← occ_app, List.take_append_drop]
    have a3 := (occ_bd (X.getD k st0) (X.drop (k + 1))).1
    have a4 := o1 (X.getD k st0)
    have a5 := (occ_bd (X.getD k st0) (X.take k)).1
    have a6 := (occ_bd (X.getD k st0) LB).1
    omega
  · have := he (k - X.length) (by omega)
    rw [show X.length + (k - X.length) = k by omega] at this
    rw [this]
  · have b1 := occ_bd s LA
    rcases Nat.le_total k X.length with h | h
    · rw [g1 k h s, hf]
      have b2 := occ_bd s (X.take k)
      rw [List.length_take] at b2
      omega
    · have := g2 (k - X.length) (by omega) s
      rw [show X.length + (k - X.length) = k by omega] at this
      rw [this, hf]
      have b2 := occ_bd s X
      have b3 := occ_bd s (Y.take (k - X.length))
      rw [List.length_take] at b3
      omega
  · have := g2 Y.length (Nat.le_refl _) s
    rw [List.take_length] at this
    rw [hlen, this, hf, o1, o2]
    omega
/-- the counts with a list's strings taken off -/
def offF (f : ByteArray → Int) (L : List ByteArray) : Nat → ByteArray → Int
  | 0 => f
  | k + 1 => updF (offF f L k) (L.getD k st0) (offF f L k (L.getD k st0) - 1)
theorem offF_occ (f : ByteArray → Int) (L : List ByteArray) : ∀ k, k ≤ L.length → ∀ s, offF f L k s = f s - occ s (L.take k) := by
  intro k
  induction k with
  | zero => intro _ s; simp [offF, occ]
  | succ k ih =>
    intro hk s
    rw [occ_step s L k (by omega)]
    unfold offF
    by_cases e : s = L.getD k st0
    · rw [e, updF_same, if_pos rfl, ih (by omega)]; omega
    · rw [updF_other e, if_neg (fun h => e h.symm), ih (by omega)]; omega
theorem woL_small {L M : List ByteArray} (h : ∀ k, k < L.length → (L.getD k st0).size ≤ 1000000) : ∀ s ∈ woL L M, s.size ≤ 1000000 := woO_small h L.length (Nat.le_refl _)
theorem diff_small {t u : Tb} (h1 : tbE t = 0) (h2 : tbE u = 0) : ∀ k, k < (diffL t u).length → ((diffL t u).getD k ch0).2.size ≤ 1000000 := fun k hk => by
  have hm : (diffL t u).getD k ch0 ∈ diffL t u := getD_mem hk
  generalize (diffL t u).getD k ch0 = x at *
  unfold diffL at hm
  rcases List.mem_append.1 hm with hm | hm
  · obtain ⟨s, hs, rfl⟩ := List.mem_map.1 hm
    exact woL_small (tb_small h1) s hs
  · obtain ⟨s, hs, rfl⟩ := List.mem_map.1 hm
    exact woL_small (tb_small h2) s hs
end Go.Proofs.YtbliblhipecgfaaGreatDoor
