/-
  Contracts of package pair at words that are whole numbers. Conditions as named.
-/
import Derived.Test.YtppkgfkhnnibcaaChecked
import Derived.Test.YtppkgfkhnnibcaaFlt
import Derived.Test.YtppkgfkhnnibcaaMoney
import Derived.Outline
import Derived.Deep.QuietTactic
import Derived.BigQuiet
namespace Go.Proofs.Ytppkgfkhnnibcaa
set_option linter.unusedVariables false
open Go.RowKit
/-- not beyond 2^53 -/
def in53 (n : Int) : Bool := decide (-9007199254740992 ≤ n ∧ n ≤ 9007199254740992)
theorem in53_iff {n : Int} : in53 n = true ↔ (-9007199254740992 ≤ n ∧ n ≤ 9007199254740992) := by simp [in53]
theorem in53_not {n : Int} : in53 n = false ↔ ¬ (-9007199254740992 ≤ n ∧ n ≤ 9007199254740992) := by simp [in53]
--%%
theorem whole_c (x : Nat) (n : Int) (hr : Rep x n) (hn : -9007199254740992 ≤ n ∧ n ≤ 9007199254740992) (w : World) :
    Calls Try.prog 26 #[.float .f64 x] w fun e w' => e = .returned (.bool true) ∧ w = w' := by
  have g1 := geq_rep hr rep_least
  have g2 := leq_rep hr rep_most
  have g3 := fun w => run_toInt_rep (P := Try.prog) w 62 2 (by kernel_rfl) Try.underlying2 hr hn
  have g4 := eq_rep hr (fb_rep n hn)
  have d1 : decide ((-9007199254740992 : Int) ≤ n) = true := by simp; omega
  have d2 : decide (n ≤ (9007199254740992 : Int)) = true := by simp; omega
  have d3 : (n == n) = true := by simp
  rw [d1] at g1
  rw [d2] at g2
  rw [d3] at g4
  unfold fb at g4
  clear d1 d2 d3
  go_enter Try.func26, Try.ntmps26
  go_wp2
  go_ret
  exact ⟨rfl, rfl⟩

def SomeBool (w : World) (e : Ending) (w' : World) : Prop := ∃ b : Bool, e = .returned (.bool b) ∧ w = w'
theorem whole_num (x : Nat) (hx : Num x) (w : World) : Calls Try.prog 26 #[.float .f64 x] w (SomeBool w) := by
  by_cases g1 : (FloatKind.f64.format.order x 14069245235905429504 == some .gt || FloatKind.f64.format.order x 14069245235905429504 == some .eq) = true
  · by_cases g2 : (FloatKind.f64.format.order x 4845873199050653696 == some .lt || FloatKind.f64.format.order x 4845873199050653696 == some .eq) = true
    · obtain ⟨n, hn⟩ := num_range hx g1 g2
      have g3 := fun w => run_toInt_num (P := Try.prog) w 62 2 (by kernel_rfl) Try.underlying2 hn
      clear hn
      go_enter Try.func26, Try.ntmps26
      go_wp2
      go_ret
      exact ⟨_, rfl, rfl⟩
    · have g2' : (FloatKind.f64.format.order x 4845873199050653696 == some .lt || FloatKind.f64.format.order x 4845873199050653696 == some .eq) = false := by simpa using g2
      clear g2
      go_enter Try.func26, Try.ntmps26
      go_wp2
      go_ret
      exact ⟨_, rfl, rfl⟩
  · have g1' : (FloatKind.f64.format.order x 14069245235905429504 == some .gt || FloatKind.f64.format.order x 14069245235905429504 == some .eq) = false := by simpa using g1
    clear g1
    go_enter Try.func26, Try.ntmps26
    go_wp2
    go_ret
    exact ⟨_, rfl, rfl⟩
--%%
theorem pright_c (x y : Nat) (a b : Int) (hx : Rep x a) (hy : Rep y b) (ha : in53 a = true) (hb : in53 b = true) (w : World) :
    Calls Try.prog 13 #[.complex .f64 x y] w fun e w' => e = .returned (.bool true) ∧ w = w' := by
  go_enter Try.func13, Try.ntmps13
  go_wp2_with fail
  refine (whole_c x a hx (in53_iff.1 ha) _).mono ?_
  rintro e w' ⟨rfl, rfl⟩
  go_wp2_with fail
  refine (whole_c y b hy (in53_iff.1 hb) _).mono ?_
  rintro e w' ⟨rfl, rfl⟩
  go_wp2_with fail
  go_ret
  exact ⟨rfl, rfl⟩
theorem pright_num (x y : Nat) (hx : Num x) (hy : Num y) (w : World) : Calls Try.prog 13 #[.complex .f64 x y] w (SomeBool w) := by
  go_enter Try.func13, Try.ntmps13
  go_wp2_with fail
  refine (whole_num x hx _).mono ?_
  rintro e w' ⟨b, rfl, rfl⟩
  cases b
  · go_wp2_with fail
    go_ret
    exact ⟨_, rfl, rfl⟩
  · go_wp2_with fail
    refine (whole_num y hy _).mono ?_
    rintro e w' ⟨b, rfl, rfl⟩
    go_wp2_with fail
    go_ret
    exact ⟨_, rfl, rfl⟩
--%%
theorem of_t (a b : Int) (ha : in53 a = true) (hb : in53 b = true) (w : World) :
    Calls Try.prog 9 #[.int .i64 a, .int .i64 b] w fun e w' => e = .returned (.tuple #[.complex .f64 (fb a) (fb b), .int .i64 0]) ∧ w = w' := by
  have ha' := in53_iff.1 ha
  have hb' := in53_iff.1 hb
  unfold fb
  go_enter Try.func9, Try.ntmps9
  go_wp2
  go_ret2
  exact ⟨rfl, rfl⟩
theorem of_f (a b : Int) (h : ¬ (in53 a = true ∧ in53 b = true)) (w : World) :
    Calls Try.prog 9 #[.int .i64 a, .int .i64 b] w fun e w' => e = .returned (.tuple #[.complex .f64 0 0, .int .i64 10]) ∧ w = w' := by
  rw [in53_iff, in53_iff] at h
  by_cases h1 : 9007199254740992 < a
  · clear h
    go_enter Try.func9, Try.ntmps9
    go_wp2
    go_ret2
    exact ⟨rfl, rfl⟩
  by_cases h2 : a < -9007199254740992
  · clear h
    go_enter Try.func9, Try.ntmps9
    go_wp2
    go_ret2
    exact ⟨rfl, rfl⟩
  by_cases h3 : 9007199254740992 < b
  · clear h
    go_enter Try.func9, Try.ntmps9
    go_wp2
    go_ret2
    exact ⟨rfl, rfl⟩
  have h4 : b < -9007199254740992 := by omega
  clear h
  go_enter Try.func9, Try.ntmps9
  go_wp2
  go_ret2
  exact ⟨rfl, rfl⟩
--%%
theorem sides_c (x y : Nat) (a b : Int) (hx : Rep x a) (hy : Rep y b) (ha : in53 a = true) (hb : in53 b = true) (w : World) :
    Calls Try.prog 11 #[.complex .f64 x y] w fun e w' => e = .returned (.tuple #[.int .i64 a, .int .i64 b, .int .i64 0]) ∧ w = w' := by
  have g3 := fun w => run_toInt_rep (P := Try.prog) w 62 2 (by kernel_rfl) Try.underlying2 hx (in53_iff.1 ha)
  have g4 := fun w => run_toInt_rep (P := Try.prog) w 62 2 (by kernel_rfl) Try.underlying2 hy (in53_iff.1 hb)
  go_enter Try.func11, Try.ntmps11
  go_wp2_with (go_at_call 13; refine (pright_c x y a b hx hy ha hb _).mono ?_; rintro e w' ⟨rfl, rfl⟩)
  go_ret3
  exact ⟨rfl, rfl⟩
--%%
theorem swap_c (x y : Nat) (w : World) :
    Calls Try.prog 12 #[.complex .f64 x y] w fun e w' => e = .returned (.complex .f64 y x) ∧ w = w' := by
  go_enter Try.func12, Try.ntmps12
  go_wp2
  go_ret
  exact ⟨rfl, rfl⟩
--%%
theorem share_t (a b : Int) (ha : in53 a = true) (hb : in53 b = true) (w : World) :
    Calls Try.prog 25 #[.agg #[.int .i64 a, .int .i64 b]] w fun e w' => e = .returned (.tuple #[.complex .f64 (fb a) (fb b), .int .i64 0]) ∧ Below w.heap.size w w' := by
  go_enter Try.func25, Try.ntmps25
  go_wp2_with (go_at_call 9; refine (of_t a b ha hb _).mono ?_; rintro e w' ⟨rfl, rfl⟩)
  go_ret2
  exact ⟨rfl, below1 _ _⟩
--%%
/-- is a product beyond 2^53 (of numbers that aren't)? -/
def beyB (a n : Int) : Bool := !in53 (a * n)
theorem bey_plain (a n : Int) (ha : in53 a = true) (hn : in53 n = true) : (decide (0 < (a.natAbs : Int)) && decide ((9007199254740992 : Int) / (a.natAbs : Int) < (n.natAbs : Int))) = beyB a n := by
  unfold beyB
  have h1 := in53_iff.1 ha
  have h2 := in53_iff.1 hn
  have hab : (a * n).natAbs = a.natAbs * n.natAbs := Int.natAbs_mul a n
  by_cases h0 : a.natAbs = 0
  · have : a = 0 := by omega
    subst this
    simp [in53]
  · have h0' : (0 : Int) < (a.natAbs : Int) := by omega
    have key : (9007199254740992 : Int) / (a.natAbs : Int) < (n.natAbs : Int) ↔ 9007199254740992 < (a.natAbs : Int) * (n.natAbs : Int) := by
      rw [Int.ediv_lt_iff_lt_mul h0', Int.mul_comm]
    have key2 : in53 (a * n) = true ↔ (a.natAbs : Int) * (n.natAbs : Int) ≤ 9007199254740992 := by
      rw [in53_iff, ← Int.natCast_mul, ← hab]
      omega
    simp only [h0', decide_true, Bool.true_and]
    cases hc : in53 (a * n) with
    | true =>
      have := key2.1 hc
      simp only [Bool.not_true, decide_eq_false_iff_not, key]
      omega
    | false =>
      have : ¬ ((a.natAbs : Int) * (n.natAbs : Int) ≤ 9007199254740992) := fun h => by rw [key2.2 h] at hc; cases hc
      simp only [Bool.not_false, decide_eq_true_eq, key]
      omega
theorem beyond_c (x : Nat) (a n : Int) (hx : Rep x a) (ha : in53 a = true) (hn : in53 n = true) (w : World) :
    Calls Try.prog 28 #[.float .f64 x, .int .i64 n] w fun e w' => e = .returned (.bool (beyB a n)) ∧ w = w' := by
  have g3 := fun w => run_toInt_rep (P := Try.prog) w 62 2 (by kernel_rfl) Try.underlying2 hx (in53_iff.1 ha)
  have ha' := in53_iff.1 ha
  have hn' := in53_iff.1 hn
  have hp := Lib.hid (bey_plain a n ha hn)
  by_cases h0 : 0 < a.natAbs
  · go_enter Try.func28, Try.ntmps28
    go_wp2_with fail
    refine (abs_c a _ (by omega) (by omega)).mono ?_
    rintro e w' ⟨rfl, rfl⟩
    go_wp2_with fail
    refine (abs_c n _ (by omega) (by omega)).mono ?_
    rintro e w' ⟨rfl, rfl⟩
    go_wp2_with fail
    go_ret
    exact ⟨ret_bool (by rw [← hp.out]; simp; omega), rfl⟩
  · go_enter Try.func28, Try.ntmps28
    go_wp2_with fail
    refine (abs_c a _ (by omega) (by omega)).mono ?_
    rintro e w' ⟨rfl, rfl⟩
    go_wp2_with fail
    refine (abs_c n _ (by omega) (by omega)).mono ?_
    rintro e w' ⟨rfl, rfl⟩
    go_wp2_with fail
    go_ret
    exact ⟨ret_bool (by rw [← hp.out]; simp; omega), rfl⟩
--%%
theorem times_t (x y : Nat) (a b n : Int) (hx : Rep x a) (hy : Rep y b) (ha : in53 a = true) (hb : in53 b = true) (hn : in53 n = true) (hp : in53 (a * n) = true) (hq : in53 (b * n) = true) (w : World) :
    Calls Try.prog 17 #[.complex .f64 x y, .int .i64 n] w fun e w' => (∃ u v, e = .returned (.tuple #[.complex .f64 u v, .int .i64 0]) ∧ Rep u (a * n) ∧ Rep v (b * n)) ∧ w = w' := by
  have hn' := in53_iff.1 hn
  obtain ⟨u, hu, ru⟩ := mul_rep hx (fb_rep n hn') (in53_iff.1 hp)
  obtain ⟨v, hv, rv⟩ := mul_rep hy (fb_rep n hn') (in53_iff.1 hq)
  have g1 := fun w => run_float_arith (P := Try.prog) w .mul 62 .f64 _ _ _ hu
  have g2 := fun w => run_float_arith (P := Try.prog) w .mul 62 .f64 _ _ _ hv
  unfold fb at g1 g2
  have Hu := Lib.hid hu; clear hu
  have Hv := Lib.hid hv; clear hv
  have b1 : beyB a n = false := by unfold beyB; rw [hp]; rfl
  have b2 : beyB b n = false := by unfold beyB; rw [hq]; rfl
  go_enter Try.func17, Try.ntmps17
  go_wp2_with fail
  refine (pright_c x y a b hx hy ha hb _).mono ?_
  rintro e w' ⟨rfl, rfl⟩
  go_wp2_with fail
  refine (pright_c u v _ _ ru rv hp hq _).mono ?_
  rintro e w' ⟨rfl, rfl⟩
  go_wp2_with fail
  refine (beyond_c x a n hx ha hn _).mono ?_
  rintro e w' ⟨rfl, rfl⟩
  go_wp2_with fail
  refine (beyond_c y b n hy hb hn _).mono ?_
  rintro e w' ⟨rfl, rfl⟩
  go_wp2_with fail
  go_ret2
  exact ⟨⟨_, _, rfl, ru, rv⟩, rfl⟩
theorem in53_mul (a n : Int) (ha : in53 a = true) (hn : in53 n = true) : (a * n).natAbs < 2 ^ 200 := by
  rw [Int.natAbs_mul]
  have h1 : a.natAbs ≤ 2 ^ 53 := by have := in53_iff.1 ha; rw [pow53]; omega
  have h2 : n.natAbs ≤ 2 ^ 53 := by have := in53_iff.1 hn; rw [pow53]; omega
  have h3 := Nat.mul_le_mul h1 h2
  rw [← Nat.pow_add] at h3
  exact Nat.lt_of_le_of_lt h3 (Nat.pow_lt_pow_right (by decide) (by decide))
theorem times_f (x y : Nat) (a b n : Int) (hx : Rep x a) (hy : Rep y b) (ha : in53 a = true) (hb : in53 b = true) (h : ¬ (in53 n = true ∧ in53 (a * n) = true ∧ in53 (b * n) = true)) (w : World) :
    Calls Try.prog 17 #[.complex .f64 x y, .int .i64 n] w fun e w' => e = .returned (.tuple #[.complex .f64 0 0, .int .i64 10]) ∧ w = w' := by
  by_cases hn : in53 n = true
  · have hn' := in53_iff.1 hn
    obtain ⟨u, hu, ru⟩ := mul_num hx (fb_rep n hn') (in53_mul a n ha hn)
    obtain ⟨v, hv, rv⟩ := mul_num hy (fb_rep n hn') (in53_mul b n hb hn)
    have g1 := fun w => run_float_arith (P := Try.prog) w .mul 62 .f64 _ _ _ hu
    have g2 := fun w => run_float_arith (P := Try.prog) w .mul 62 .f64 _ _ _ hv
    unfold fb at g1 g2
    have Hu := Lib.hid hu; clear hu
    have Hv := Lib.hid hv; clear hv
    cases hp : in53 (a * n)
    · have b1 : beyB a n = true := by unfold beyB; rw [hp]; rfl
      clear h hp
      go_enter Try.func17, Try.ntmps17
      go_wp2_with fail
      refine (pright_c x y a b hx hy ha hb _).mono ?_
      rintro e w' ⟨rfl, rfl⟩
      go_wp2_with fail
      refine (pright_num u v ru rv _).mono ?_
      rintro e w' ⟨bb, rfl, rfl⟩
      cases bb
      · go_wp2_with fail
        go_ret2
        exact ⟨rfl, rfl⟩
      · go_wp2_with fail
        refine (beyond_c x a n hx ha hn _).mono ?_
        rintro e w' ⟨rfl, rfl⟩
        go_wp2_with fail
        go_ret2
        exact ⟨rfl, rfl⟩
    · have hq : in53 (b * n) = false := by
        cases hq : in53 (b * n) with
        | false => rfl
        | true => exact absurd ⟨hn, hp, hq⟩ h
      have b1 : beyB a n = false := by unfold beyB; rw [hp]; rfl
      have b2 : beyB b n = true := by unfold beyB; rw [hq]; rfl
      clear h hp hq
      go_enter Try.func17, Try.ntmps17
      go_wp2_with fail
      refine (pright_c x y a b hx hy ha hb _).mono ?_
      rintro e w' ⟨rfl, rfl⟩
      go_wp2_with fail
      refine (pright_num u v ru rv _).mono ?_
      rintro e w' ⟨bb, rfl, rfl⟩
      cases bb
      · go_wp2_with fail
        go_ret2
        exact ⟨rfl, rfl⟩
      · go_wp2_with fail
        refine (beyond_c x a n hx ha hn _).mono ?_
        rintro e w' ⟨rfl, rfl⟩
        go_wp2_with fail
        refine (beyond_c y b n hy hb hn _).mono ?_
        rintro e w' ⟨rfl, rfl⟩
        go_wp2_with fail
        go_ret2
        exact ⟨rfl, rfl⟩
  · have hn' := in53_not.1 (by simpa using hn : in53 n = false)
    clear h hn
    by_cases h1 : 9007199254740992 < n
    · go_enter Try.func17, Try.ntmps17
      go_wp2_with fail
      refine (pright_c x y a b hx hy ha hb _).mono ?_
      rintro e w' ⟨rfl, rfl⟩
      go_wp2_with fail
      go_ret2
      exact ⟨rfl, rfl⟩
    · have h2 : n < -9007199254740992 := by omega
      clear hn'
      go_enter Try.func17, Try.ntmps17
      go_wp2_with fail
      refine (pright_c x y a b hx hy ha hb _).mono ?_
      rintro e w' ⟨rfl, rfl⟩
      go_wp2_with fail
      go_ret2
      exact ⟨rfl, rfl⟩
--%%
end Go.Proofs.Ytppkgfkhnnibcaa
