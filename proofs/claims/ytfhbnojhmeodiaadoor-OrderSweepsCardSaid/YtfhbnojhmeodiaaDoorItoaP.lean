/-
  Plain: a whole number as it is written is read as it. No program.
-/
import Derived.Test.YtfhbnojhmeodiaaDoorIntP
import Derived.Test.YtfhbnojhmeodiaaDoorTextP
import Derived.Lib.ItoaNum
namespace Go.Proofs.YtfhbnojhmeodiaaDoor
set_option linter.unusedVariables false
open Go.RowKit
theorem nDig_le (u : Nat) (h : u ≤ 999999999) : Lib.nDigits u ≤ 9 := by
  rcases Nat.lt_or_ge 9 (Lib.nDigits u) with h9 | h9
  · have h1 : u < 10 ^ 9 := by omega
    have : ∀ k u, u < 10 ^ k → 0 < k → Lib.nDigits u ≤ k := by
      intro k
      induction k with
      | zero => intro u _ h0; omega
      | succ k ih =>
        intro u hu _
        by_cases h : u < 10
        · rw [Lib.nDigits_small h]; omega
        · rw [Lib.nDigits_big h]
          rw [Nat.pow_succ] at hu
          have hk : 0 < k := by
            rcases Nat.eq_zero_or_pos k with rfl | hk
            · simp at hu; omega
            · exact hk
          have := ih (u / 10) (by omega) hk
          omega
    have := this 9 u h1 (by decide)
    omega
  · exact h9
theorem itoa_len (n : Int) (h1 : -999999999 ≤ n) (h2 : n ≤ 999999999) : (Lib.itoa n).length ≤ 10 := by
  unfold Lib.itoa
  split
  · have := nDig_le n.natAbs (by omega)
    simp [Lib.decDigits_length]; omega
  · have := nDig_le n.toNat (by omega)
    simp [Lib.decDigits_length]; omega
theorem int_itoa (n : Int) (h1 : -999999999 ≤ n) (h2 : n ≤ 999999999) : inE (Lib.itoa n) = 0 ∧ inV (Lib.itoa n) = n := by
  have key : inE (Lib.itoa n) = 0 ∧ (if inM (Lib.itoa n) = true then - wV (inN (Lib.itoa n)) (inN (Lib.itoa n)).length else wV (inN (Lib.itoa n)) (inN (Lib.itoa n)).length) = n := by
    unfold Lib.itoa
    by_cases hn : n < 0
    · rw [if_pos hn]
      have D := dec_facts n.natAbs
      have hl := nDig_le n.natAbs (by omega)
      rw [← Lib.decDigits_length] at hl
      have hm : inM (45 :: Lib.decDigits n.natAbs) = true := by unfold inM gB; simp [List.getD]
      have hN : inN (45 :: Lib.decDigits n.natAbs) = Lib.decDigits n.natAbs := by unfold inN; rw [hm]; rfl
      have hne : Lib.decDigits n.natAbs ≠ [] := by
        intro e
        have := D.n
        rw [e] at this
        exact absurd this (by decide)
      refine ⟨?_, ?_⟩
      · unfold inE
        rw [hN, hm, if_neg hne, if_neg, if_neg (by rw [D.d]; decide), if_neg (by omega)]
        rintro ⟨_, h⟩
        exact D.h (by omega) h
      · rw [hN, hm, if_pos rfl, D.v]
        omega
    · rw [if_neg hn]
      have D := dec_facts n.toNat
      have hl := nDig_le n.toNat (by omega)
      rw [← Lib.decDigits_length] at hl
      have hd0 := dTo_iff.1 D.d 0 D.n
      have hm : inM (Lib.decDigits n.toNat) = false := by
        unfold inM
        unfold dI at hd0
        simp at hd0 ⊢
        intro _
        omega
      have hN : inN (Lib.decDigits n.toNat) = Lib.decDigits n.toNat := by unfold inN; rw [hm]; rfl
      have hne : Lib.decDigits n.toNat ≠ [] := by
        intro e
        have := D.n
        rw [e] at this
        exact absurd this (by decide)
      refine ⟨?_, ?_⟩
      · unfold inE
        rw [hN, hm, if_neg hne, if_neg, if_neg (by rw [D.d]; decide), if_neg (by omega)]
        rintro ⟨h | h, h3⟩
        · by_cases h0 : n.toNat = 0
          · have := D.z h0
            omega
          · exact D.h h0 h3
        · cases h
      · rw [hN, hm, if_neg (by decide), D.v]
        omega
  refine ⟨key.1, ?_⟩
  unfold inV
  rw [if_pos key.1]
  exact key.2
end Go.Proofs.YtfhbnojhmeodiaaDoor
