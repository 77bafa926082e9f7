/-
  Contracts of the reference of layer 5 (bands): Check, and what an amount comes to. Conditions as named.
-/
import Derived.Test.YtbliblhipecgfaaGreatDoorRef5
import Derived.Test.YtbliblhipecgfaaGreatDoorBand2
namespace Go.Proofs.YtbliblhipecgfaaGreatDoor
set_option linter.unusedVariables false
open Go.RowKit
--%%
theorem rcheck_c (l : List Bd) (A : Option Addr) (n c : Nat) (w : World) (h : BandSl w A n l) (r : Int) (hr : Hid (r = bandsErr l)) :
    Calls Tryz.prog 32 #[.slice A n c] w fun e w' => e = .returned (.int .i64 r) ∧ Below w.heap.size w w' := by
  obtain ⟨hn, hm, hc⟩ := h
  by_cases h1 : n = 0
  · have e : r = 2 := by rw [hr.out]; unfold bandsErr; rw [if_pos (Or.inl (by omega))]
    subst e
    have hn1 : (n : Int) < 1 := by omega
    clear hc hn h1 hr
    go_enter Tryz.func32, Tryz.ntmps32
    go_wp2
    go_ret
    exact ⟨rfl, Below.refl _ _⟩
  by_cases h2 : 8 < n
  · have e : r = 2 := by rw [hr.out]; unfold bandsErr; rw [if_pos (Or.inr (by omega))]
    subst e
    have hn1 : ¬ (n : Int) < 1 := by omega
    have hn2 : (8 : Int) < (n : Int) := by omega
    clear hc hn h1 hr
    go_enter Tryz.func32, Tryz.ntmps32
    go_wp2
    go_ret
    exact ⟨rfl, Below.refl _ _⟩
  obtain ⟨b, off, rfl, hb, hc⟩ := hc (by omega)
  refine (rcheck_loop l n b off c hn (by omega) (by omega) w hb hc).mono ?_
  rintro e w' ⟨⟨r', rfl, hr'⟩, hbl⟩
  refine ⟨ret_int ?_, hbl⟩
  rw [hr'.out, hr.out]
  unfold bandsErr
  rw [if_neg (by omega), hn]
--%%
theorem mul_bds {x r A B : Int} (h1 : -A ≤ x) (h2 : x ≤ A) (h3 : 0 ≤ r) (h4 : r ≤ B) (hA : 0 ≤ A) : -(A * B) ≤ x * r ∧ x * r ≤ A * B := by
  have a : x * r ≤ A * r := Int.mul_le_mul_of_nonneg_right h2 h3
  have b : A * r ≤ A * B := Int.mul_le_mul_of_nonneg_left h4 hA
  have c : -A * r ≤ x * r := Int.mul_le_mul_of_nonneg_right h1 h3
  rw [Int.neg_mul] at c
  omega
--%%
end Go.Proofs.YtbliblhipecgfaaGreatDoor
