/-
  Contract of the reference's Round (layer 13). Conditions as named.
-/
import Derived.Test.YtlfeppbhicmeoaaFrac
namespace Go.Proofs.Ytlfeppbhicmeoaa
set_option linter.unusedVariables false
open Go.RowKit
theorem tmod2i (n : Int) : n.tmod 2 = 0 ↔ n % 2 = 0 := by
  have h1 := Int.tmod_add_mul_tdiv n 2
  have h2 := Int.tmod_lt_of_pos n (show (0 : Int) < 2 by decide)
  have h3 := tmod_low n 2 (by decide)
  omega
--%%
set_option maxHeartbeats 1600000 in
theorem rround_c (x m : Int) (w : World) (h1 : -4611686018427387904 ≤ x) (h2 : x ≤ 4611686018427387904) (hm : modeB m = true) :
    Calls Try.prog 24 #[.int .i64 x, .int .i64 m] w fun e w' => e = .returned (.int .i64 (roundI x 10000 m)) ∧ w = w' := by
  have hm' := modeB_iff.1 hm
  obtain ⟨v, hv⟩ : ∃ v, v = roundI x 10000 m := ⟨_, rfl⟩
  rw [← hv]
  have HV := Lib.hid hv
  have F := Lib.hid (tdiv_floor x 10000 (by decide))
  have HE := Lib.hid (Int.tmod_add_mul_tdiv x 10000)
  have b1 : x.tmod 10000 < 10000 := Int.tmod_lt_of_pos x (by decide)
  have b2 := tmod_low x 10000 (by decide)
  have b3 : -4611686018427387904 ≤ x.tdiv 10000 ∧ x.tdiv 10000 ≤ 4611686018427387904 := by
    have := Int.natAbs_tdiv_le_natAbs x 10000
    omega
  obtain ⟨b3, b4⟩ := b3
  clear hv hm
  rcases (by omega : m = 1 ∨ m = 2 ∨ m = 3 ∨ m = 4 ∨ m = 5 ∨ m = 6) with rfl | rfl | rfl | rfl | rfl | rfl
  all_goals
    clear hm'
    by_cases hneg : x.tmod 10000 < 0
    all_goals
      go_enter Try.func24, Try.ntmps24
      go_wp2
  all_goals
    go_ret
    refine ⟨ret_int ?_, rfl⟩
    have hE := HE.out
    have f1 := F.out.1
    have f2 := F.out.2
    have g1 : 0 ≤ x % 10000 := Int.emod_nonneg _ (by decide)
    have g2 := Int.emod_lt_of_pos x (show (0 : Int) < 10000 by decide)
    have g3 := Int.mul_ediv_add_emod x 10000
    rw [HV.out]
    clear HV F HE
    unfold roundI nearB
    generalize x.tdiv 10000 = p at *
    generalize x.tmod 10000 = q at *
    generalize x / 10000 = lo at *
    generalize x % 10000 = le at *
    simp
    first | omega | (split <;> omega) | (have tA := tmod2i (p - 1); have tB := tmod2i p; simp at *; first | omega | (split <;> omega))
--%%
end Go.Proofs.Ytlfeppbhicmeoaa
