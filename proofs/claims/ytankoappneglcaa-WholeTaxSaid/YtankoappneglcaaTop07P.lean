/-
  Plain: a year's dues, withheld of whatever cash. No program.
-/
import Derived.Test.YtankoappneglcaaYearP
import Derived.Test.YtankoappneglcaaHoldP
namespace Go.Proofs.Ytankoappneglcaa
set_option linter.unusedVariables false
open Go.RowKit
/-- the first n periods, with their cash, and what is due by their end -/
def paysA (cash : List Int) (sch : List (List Bd)) (rnd nom : Int) (l : List St) (n : Nat) : List Py := (List.range n).map fun j => ⟨cash.getD j 0, dueA sch rnd nom l (j + 1), !(l.getD j st0).c.al⟩
section
variable {cash : List Int} {sch : List (List Bd)} {rnd nom lim : Int} {l : List St}
theorem paysA_len (n : Nat) : (paysA cash sch rnd nom l n).length = n := by simp [paysA]
theorem paysA_get (n k : Nat) (h : k < n) : (paysA cash sch rnd nom l n).getD k py0 = ⟨cash.getD k 0, dueA sch rnd nom l (k + 1), !(l.getD k st0).c.al⟩ := by simp [paysA, List.getD, h]
theorem paysA_snoc (n : Nat) : paysA cash sch rnd nom l (n + 1) = paysA cash sch rnd nom l n ++ [⟨cash.getD n 0, dueA sch rnd nom l (n + 1), !(l.getD n st0).c.al⟩] := by simp [paysA, List.range_succ]
theorem paysA_ok (hok : ∀ k, k < sch.length → bandsErr (sch.getD k []) = 0) (hnom : 12 ≤ nom ∧ nom ≤ 1000) (n : Nat) (hn : n ≤ 12) (h : ∀ j, j < n → GoodSt sch (l.getD j st0) ∧ (-1000000000 ≤ cash.getD j 0 ∧ cash.getD j 0 ≤ 1000000000)) : ∀ k, k < n → PyOK ((paysA cash sch rnd nom l n).getD k py0) := by
  intro k hk
  have hy := (year_good (rnd := rnd) hok hnom l n (by omega) (fun j hj => (h j hj).1) (k + 1) (by omega)).1
  have hc := (h k hk).2
  rw [paysA_get n k hk]
  refine ⟨?_, ?_⟩
  · dsimp only; omega
  · dsimp only; omega
/-- one period of the law -/
structure RoundT (lim c due held s : Int) (z : Hs) (al : Bool) : Prop where
  due : z.w + z.s = due
  le : held ≤ limI lim c
  pos : al = true → 0 ≤ held
  short : 0 < z.s → held = limI lim c
theorem round_tax (hl : 0 ≤ lim ∧ lim ≤ 10000) (n k : Nat) (hk : n = k + 1) (hc : cash.getD k 0 ≤ 100000000000) :
    RoundT lim (cash.getD k 0) (dueA sch rnd nom l (k + 1)) (heldA lim (paysA cash sch rnd nom l n) k) 0 (stateA lim (paysA cash sch rnd nom l n) n) (l.getD k st0).c.al := by
  subst hk
  have e := paysA_get (cash := cash) (sch := sch) (rnd := rnd) (nom := nom) (l := l) (k + 1) k (by omega)
  have h1 := state_due lim (paysA cash sch rnd nom l (k + 1)) k
  have h2 := held_le hl (paysA cash sch rnd nom l (k + 1)) k (by rw [e]; exact hc)
  have h3 := held_pos (lim := lim) (paysA cash sch rnd nom l (k + 1)) k
  have h4 := held_short hl (paysA cash sch rnd nom l (k + 1)) k (by rw [e]; exact hc)
  rw [e] at h1 h2 h3 h4
  refine ⟨h1, h2, fun ha => h3 (by rw [ha]; rfl), h4⟩
/-- the last period, with the most cash -/
def paysZ (cash : List Int) (sch : List (List Bd)) (rnd nom : Int) (l : List St) (n : Nat) : List Py := paysA cash sch rnd nom l n ++ [⟨100000000000, dueA sch rnd nom l n, true⟩]
theorem paysZ_get (n : Nat) : (paysZ cash sch rnd nom l n).getD n py0 = ⟨100000000000, dueA sch rnd nom l n, true⟩ := by
  unfold paysZ
  simp [List.getD, paysA]
theorem paysZ_ok (hok : ∀ k, k < sch.length → bandsErr (sch.getD k []) = 0) (hnom : 12 ≤ nom ∧ nom ≤ 1000) (n : Nat) (hn : n ≤ 12) (h : ∀ j, j < n → GoodSt sch (l.getD j st0) ∧ (-1000000000 ≤ cash.getD j 0 ∧ cash.getD j 0 ≤ 1000000000)) : ∀ k, k < n + 1 → PyOK ((paysZ cash sch rnd nom l n).getD k py0) := by
  intro k hk
  rcases (by omega : k = n ∨ k < n) with rfl | hk
  · have hy := (year_good (rnd := rnd) hok hnom l k (by omega) (fun j hj => (h j hj).1) k (by omega)).1
    rw [paysZ_get]
    refine ⟨?_, ?_⟩
    · dsimp only; omega
    · dsimp only; omega
  · have e : (paysZ cash sch rnd nom l n).getD k py0 = (paysA cash sch rnd nom l n).getD k py0 := by
      unfold paysZ
      simp [List.getD, List.getElem?_append_left (show k < (paysA cash sch rnd nom l n).length by rw [paysA_len]; exact hk)]
    rw [e]
    exact paysA_ok hok hnom n hn h k hk
theorem last_tax (hok : ∀ k, k < sch.length → bandsErr (sch.getD k []) = 0) (hnom : 12 ≤ nom ∧ nom ≤ 1000) (hl : 0 ≤ lim ∧ lim ≤ 10000) (n : Nat) (hn : n ≤ 12) (h : ∀ j, j < n → GoodSt sch (l.getD j st0) ∧ (-1000000000 ≤ cash.getD j 0 ∧ cash.getD j 0 ≤ 1000000000)) :
    (stateA lim (paysZ cash sch rnd nom l n) (n + 1)).s ≠ 0 → 0 < (stateA lim (paysZ cash sch rnd nom l n) (n + 1)).s ∧ limI lim 100000000000 < dueA sch rnd nom l n := by
  intro hs
  have h2 := last_short hl (paysZ cash sch rnd nom l n) n (by rw [paysZ_get]) (by rw [paysZ_get]; exact Int.le_refl _) (state_ok hl n (fun j hj => paysZ_ok hok hnom n hn h j (by omega))) hs
  rw [paysZ_get] at h2
  exact h2
end
end Go.Proofs.Ytankoappneglcaa
