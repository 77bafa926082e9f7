/-
  Contracts of package pair at words that are whole numbers. Conditions as named.
-/
import Derived.Test.YtpheeblpfcipaaaChecked
import Derived.Test.YtpheeblpfcipaaaFlt
import Derived.Test.YtpheeblpfcipaaaMoney
import Derived.Outline
import Derived.Deep.QuietTactic
import Derived.BigQuiet
namespace Go.Proofs.Ytpheeblpfcipaaa
set_option linter.unusedVariables false
open Go.RowKit
/-- not beyond 2^53 -/
def in53 (n : Int) : Bool := decide (-9007199254740992 ≤ n ∧ n ≤ 9007199254740992)
theorem in53_iff {n : Int} : in53 n = true ↔ (-9007199254740992 ≤ n ∧ n ≤ 9007199254740992) := by simp [in53]
theorem in53_not {n : Int} : in53 n = false ↔ ¬ (-9007199254740992 ≤ n ∧ n ≤ 9007199254740992) := by simp [in53]
--%%
theorem whole_c (x : Nat) (n : Int) (hr : Rep x n) (hn : -9007199254740992 ≤ n ∧ n ≤ 9007199254740992) (w : World) :
    Calls Try.prog 44 #[.float .f64 x] w fun e w' => e = .returned (.bool true) ∧ w = w' := by
  have g1 := geq_rep hr rep_least
  have g2 := leq_rep hr rep_most
  have g3 := fun w => run_toInt_rep (P := Try.prog) w 74 2 (by kernel_rfl) Try.underlying2 hr hn
  have g4 := eq_rep hr (fb_rep n hn)
  have d1 : decide ((-9007199254740992 : Int) ≤ n) = true := by simp; omega
  have d2 : decide (n ≤ (9007199254740992 : Int)) = true := by simp; omega
  have d3 : (n == n) = true := by simp
  rw [d1] at g1
  rw [d2] at g2
  rw [d3] at g4
  unfold fb at g4
  clear d1 d2 d3
  go_enter Try.func44, Try.ntmps44
  go_wp2
  go_ret
  exact ⟨rfl, rfl⟩

def SomeBool (w : World) (e : Ending) (w' : World) : Prop := ∃ b : Bool, e = .returned (.bool b) ∧ w = w'
theorem whole_num (x : Nat) (hx : Num x) (w : World) : Calls Try.prog 44 #[.float .f64 x] w (SomeBool w) := by
  by_cases g1 : (FloatKind.f64.format.order x 14069245235905429504 == some .gt || FloatKind.f64.format.order x 14069245235905429504 == some .eq) = true
  · by_cases g2 : (FloatKind.f64.format.order x 4845873199050653696 == some .lt || FloatKind.f64.format.order x 4845873199050653696 == some .eq) = true
    · obtain ⟨n, hn⟩ := num_range hx g1 g2
      have g3 := fun w => run_toInt_num (P := Try.prog) w 74 2 (by kernel_rfl) Try.underlying2 hn
      clear hn
      go_enter Try.func44, Try.ntmps44
      go_wp2
      go_ret
      exact ⟨_, rfl, rfl⟩
    · have g2' : (FloatKind.f64.format.order x 4845873199050653696 == some .lt || FloatKind.f64.format.order x 4845873199050653696 == some .eq) = false := by simpa using g2
      clear g2
      go_enter Try.func44, Try.ntmps44
      go_wp2
      go_ret
      exact ⟨_, rfl, rfl⟩
  · have g1' : (FloatKind.f64.format.order x 14069245235905429504 == some .gt || FloatKind.f64.format.order x 14069245235905429504 == some .eq) = false := by simpa using g1
    clear g1
    go_enter Try.func44, Try.ntmps44
    go_wp2
    go_ret
    exact ⟨_, rfl, rfl⟩
--%%
theorem pright_c (x y : Nat) (a b : Int) (hx : Rep x a) (hy : Rep y b) (ha : in53 a = true) (hb : in53 b = true) (w : World) :
    Calls Try.prog 25 #[.complex .f64 x y] w fun e w' => e = .returned (.bool true) ∧ w = w' := by
  go_enter Try.func25, Try.ntmps25
  go_wp2_with fail
  refine (whole_c x a hx (in53_iff.1 ha) _).mono ?_
  rintro e w' ⟨rfl, rfl⟩
  go_wp2_with fail
  refine (whole_c y b hy (in53_iff.1 hb) _).mono ?_
  rintro e w' ⟨rfl, rfl⟩
  go_wp2_with fail
  go_ret
  exact ⟨rfl, rfl⟩
theorem pright_num (x y : Nat) (hx : Num x) (hy : Num y) (w : World) : Calls Try.prog 25 #[.complex .f64 x y] w (SomeBool w) := by
  go_enter Try.func25, Try.ntmps25
  go_wp2_with fail
  refine (whole_num x hx _).mono ?_
  rintro e w' ⟨b, rfl, rfl⟩
  cases b
  · go_wp2_with fail
    go_ret
    exact ⟨_, rfl, rfl⟩
  · go_wp2_with fail
    refine (whole_num y hy _).mono ?_
    rintro e w' ⟨b, rfl, rfl⟩
    go_wp2_with fail
    go_ret
    exact ⟨_, rfl, rfl⟩
--%%
theorem sides_c (x y : Nat) (a b : Int) (hx : Rep x a) (hy : Rep y b) (ha : in53 a = true) (hb : in53 b = true) (w : World) :
    Calls Try.prog 11 #[.complex .f64 x y] w fun e w' => e = .returned (.tuple #[.int .i64 a, .int .i64 b, .int .i64 0]) ∧ w = w' := by
  have g3 := fun w => run_toInt_rep (P := Try.prog) w 74 2 (by kernel_rfl) Try.underlying2 hx (in53_iff.1 ha)
  have g4 := fun w => run_toInt_rep (P := Try.prog) w 74 2 (by kernel_rfl) Try.underlying2 hy (in53_iff.1 hb)
  go_enter Try.func11, Try.ntmps11
  go_wp2_with (go_at_call 25; refine (pright_c x y a b hx hy ha hb _).mono ?_; rintro e w' ⟨rfl, rfl⟩)
  go_ret3
  exact ⟨rfl, rfl⟩
--%%
end Go.Proofs.Ytpheeblpfcipaaa
