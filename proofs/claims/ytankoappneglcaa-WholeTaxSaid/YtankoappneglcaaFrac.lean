/-
  Contracts of package frac. Conditions as named.
-/
import Derived.Test.YtankoappneglcaaMoney
import Derived.Outline
import Derived.Deep.QuietTactic
import Derived.BigQuiet
import Derived.WalkSmall
namespace Go.Proofs.Ytankoappneglcaa
set_option linter.unusedVariables false
open Go.RowKit

def modeB (m : Int) : Bool := decide (1 ≤ m ∧ m ≤ 6)
def rateB (r : Int) : Bool := decide (0 ≤ r ∧ r ≤ 10000)
theorem modeB_iff {m : Int} : modeB m = true ↔ (1 ≤ m ∧ m ≤ 6) := by simp [modeB]
theorem rateB_iff {m : Int} : rateB m = true ↔ (0 ≤ m ∧ m ≤ 10000) := by simp [rateB]
theorem modeB_not {m : Int} : modeB m = false ↔ ¬ (1 ≤ m ∧ m ≤ 6) := by simp [modeB]
theorem rateB_not {m : Int} : rateB m = false ↔ ¬ (0 ≤ m ∧ m ≤ 10000) := by simp [rateB]
--%%
theorem mode_t (m : Int) (h : modeB m = true) (w : World) : Calls Try.prog 19 #[.int .i64 m] w fun e w' => e = .returned (.bool true) ∧ w = w' := by
  have h' := modeB_iff.1 h
  go_enter Try.func19, Try.ntmps19
  go_wp2
  go_ret
  exact ⟨rfl, rfl⟩
theorem mode_f (m : Int) (h : modeB m = false) (w : World) : Calls Try.prog 19 #[.int .i64 m] w fun e w' => e = .returned (.bool false) ∧ w = w' := by
  have h' := modeB_not.1 h
  by_cases h1 : m < 1
  · go_enter Try.func19, Try.ntmps19
    go_wp2
    go_ret
    exact ⟨rfl, rfl⟩
  · have h2 : 6 < m := by omega
    clear h'
    go_enter Try.func19, Try.ntmps19
    go_wp2
    go_ret
    exact ⟨ret_bool (by simp; omega), rfl⟩
--%%
theorem rate_t (m : Int) (h : rateB m = true) (w : World) : Calls Try.prog 18 #[.int .i64 m] w fun e w' => e = .returned (.bool true) ∧ w = w' := by
  have h' := rateB_iff.1 h
  go_enter Try.func18, Try.ntmps18
  go_wp2
  go_ret
  exact ⟨rfl, rfl⟩
theorem rate_f (m : Int) (h : rateB m = false) (w : World) : Calls Try.prog 18 #[.int .i64 m] w fun e w' => e = .returned (.bool false) ∧ w = w' := by
  have h' := rateB_not.1 h
  by_cases h1 : m < 0
  · go_enter Try.func18, Try.ntmps18
    go_wp2
    go_ret
    exact ⟨rfl, rfl⟩
  · have h2 : 10000 < m := by omega
    clear h'
    go_enter Try.func18, Try.ntmps18
    go_wp2
    go_ret
    exact ⟨ret_bool (by simp; omega), rfl⟩
theorem rate_c (m : Int) (w : World) : Calls Try.prog 18 #[.int .i64 m] w fun e w' => e = .returned (.bool (rateB m)) ∧ w = w' := by
  cases h : rateB m
  · exact rate_f m h w
  · exact rate_t m h w
--%%
theorem ediv_uniq (n d q r : Int) (hd : 0 < d) (e : n = r + d * q) (h0 : 0 ≤ r) (h1 : r < d) : q = n / d ∧ r = n % d := by
  subst e
  rw [Int.add_mul_ediv_left _ _ (by omega), Int.ediv_eq_zero_of_lt h0 h1, Int.add_mul_emod_self_left, Int.emod_eq_of_lt h0 h1]
  omega
theorem tmod_low (n d : Int) (hd : 0 < d) : -d < n.tmod d := by
  have h4 : (-n).tmod d < d := Int.tmod_lt_of_pos (-n) hd
  rw [Int.neg_tmod] at h4
  omega
theorem tdiv_floor (n d : Int) (hd : 0 < d) : (n.tmod d < 0 → n.tdiv d - 1 = n / d ∧ n.tmod d + d = n % d) ∧ (¬ n.tmod d < 0 → n.tdiv d = n / d ∧ n.tmod d = n % d) := by
  have h1 := Int.tmod_add_mul_tdiv n d
  have h2 := Int.tmod_lt_of_pos n hd
  have h3 := tmod_low n d hd
  refine ⟨fun h => ediv_uniq n d _ _ hd ?_ (by omega) (by omega), fun h => ediv_uniq n d _ _ hd h1.symm (by omega) h2⟩
  rw [Int.mul_sub, Int.mul_one]; omega
theorem ret2_int {k j : IntKind} {a b c d : Int} (h1 : a = b) (h2 : c = d) : Ending.returned (.tuple #[.int k a, .int j c]) = .returned (.tuple #[.int k b, .int j d]) := by rw [h1, h2]
theorem floor_c (n d : Int) (w : World) (h1 : -4611686018427387904 ≤ n) (h2 : n ≤ 4611686018427387904) (h3 : 0 < d) (h4 : d ≤ 4611686018427387904) :
    Calls Try.prog 55 #[.int .i64 n, .int .i64 d] w fun e w' => e = .returned (.tuple #[.int .i64 (n / d), .int .i64 (n % d)]) ∧ Below w.heap.size w w' := by
  have F := Lib.hid (tdiv_floor n d h3)
  have b1 : n.tmod d < d := Int.tmod_lt_of_pos n h3
  have b2 := tmod_low n d h3
  have b3 : -4611686018427387904 ≤ n.tdiv d ∧ n.tdiv d ≤ 4611686018427387904 := by
    have := Int.natAbs_tdiv_le_natAbs n d
    omega
  obtain ⟨b3, b4⟩ := b3
  by_cases hneg : n.tmod d < 0
  · go_enter Try.func55, Try.ntmps55
    go_wp2
    go_quiet (fail)
    go_wp2
    go_ret2
    exact ⟨ret2_int (F.out.1 (by omega)).1 (F.out.1 (by omega)).2, below_drewN (Below.refl _ _) _⟩
  · go_enter Try.func55, Try.ntmps55
    go_wp2
    go_quiet (fail)
    go_wp2
    go_ret2
    exact ⟨ret2_int (F.out.2 (by omega)).1 (F.out.2 (by omega)).2, below_drewN (Below.refl _ _) _⟩
--%%
/-- is a fraction between two whole numbers rounded to the higher one? -/
def nearB (low left d mode : Int) : Bool :=
  if mode = 2 then decide (0 < left)
  else if mode = 3 then decide (0 < left) && decide (low < 0)
  else if mode = 1 then false
  else if left ≠ d - left then decide (d - left < left)
  else if mode = 4 then decide (0 ≤ low)
  else if mode = 6 then decide (low < 0)
  else decide (low % 2 ≠ 0)
theorem tmod2 (n : Int) : (n.tmod 2 != 0) = decide (n % 2 ≠ 0) := by
  have h1 := Int.tmod_add_mul_tdiv n 2
  have h2 := Int.tmod_lt_of_pos n (show (0 : Int) < 2 by decide)
  have h3 := tmod_low n 2 (by decide)
  rw [Bool.eq_iff_iff]
  simp
  omega
theorem nearer_c (low left d mode : Int) (w : World) (h1 : 0 ≤ left) (h2 : left < d) (h3 : d ≤ 4611686018427387904) (hm : modeB mode = true) (hl : -9223372036854775808 ≤ low) (hl2 : low ≤ 9223372036854775807) :
    Calls Try.prog 56 #[.int .i64 low, .int .i64 left, .int .i64 d, .int .i64 mode] w fun e w' => e = .returned (.bool (nearB low left d mode)) ∧ w = w' := by
  have hm' := modeB_iff.1 hm
  rcases (by omega : mode = 1 ∨ mode = 2 ∨ mode = 3 ∨ mode = 4 ∨ mode = 5 ∨ mode = 6) with rfl | rfl | rfl | rfl | rfl | rfl
  all_goals clear hm hm'
  · go_enter Try.func56, Try.ntmps56
    go_wp2
    go_ret
    exact ⟨rfl, rfl⟩
  · go_enter Try.func56, Try.ntmps56
    go_wp2
    go_ret
    exact ⟨ret_bool (by simp [nearB]), rfl⟩
  · by_cases hh : 0 < left <;> by_cases hg : low < 0
    all_goals
      go_enter Try.func56, Try.ntmps56
      go_wp2
      go_ret
      exact ⟨ret_bool (by simp [nearB] <;> omega), rfl⟩
  all_goals
    by_cases hh : left = d - left
    · have HH := Lib.hid hh
      have t1 : (left != d - left) = false := by simpa using hh
      clear hh
      go_enter Try.func56, Try.ntmps56
      go_wp2
      go_ret
      have hh := HH.out
      exact ⟨ret_bool (by unfold nearB; simp only [← hh]; first | (simp; done) | (rw [tmod2]; simp)), rfl⟩
    · have HH := Lib.hid hh
      have t1 : (left != d - left) = true := by simpa using hh
      clear hh
      go_enter Try.func56, Try.ntmps56
      go_wp2
      go_ret
      have hh := HH.out
      exact ⟨ret_bool (by unfold nearB; simp [hh]), rfl⟩
--%%
/-- the quotient of two whole numbers, rounded -/
def roundI (n d mode : Int) : Int := if decide (0 < n % d) && nearB (n / d) (n % d) d mode then n / d + 1 else n / d
theorem round_bd (n d mode : Int) (h3 : 0 < d) (M : Int) (hM : 0 ≤ M) (h1 : -M ≤ n) (h2 : n ≤ M) : -M ≤ roundI n d mode ∧ roundI n d mode ≤ M + 1 := by
  have a1 : n / d ≤ M := by
    have : n / d ≤ M / d := Int.ediv_le_ediv h3 h2
    have : M / d ≤ M := Int.ediv_le_self d hM
    omega
  have a2 : -M ≤ n / d := by
    rw [Int.le_ediv_iff_mul_le h3]
    have : M * 1 ≤ M * d := Int.mul_le_mul_of_nonneg_left (by omega) hM
    rw [Int.neg_mul]
    omega
  unfold roundI
  split <;> omega
theorem round_core (n d mode lo le rr : Int) (hrr : Hid (rr = if decide (0 < le) && nearB lo le d mode then lo + 1 else lo)) (w : World) (hf : ∀ w : World, Calls Try.prog 55 #[.int .i64 n, .int .i64 d] w fun e w' => e = .returned (.tuple #[.int .i64 lo, .int .i64 le]) ∧ Below w.heap.size w w') (h3 : 0 < d) (h4 : d ≤ 4611686018427387904) (hm : modeB mode = true)
    (hq1 : -4611686018427387904 ≤ lo) (hq2 : lo ≤ 4611686018427387904) (hr1 : 0 ≤ le) (hr2 : le < d) :
    Calls Try.prog 51 #[.int .i64 n, .int .i64 d, .int .i64 mode] w fun e w' => e = .returned (.tuple #[.int .i64 rr, .int .i64 0]) ∧ Below w.heap.size w w' := by
  have HF := Lib.hid hf; clear hf
  by_cases hl : 0 < le
  · cases hb : nearB lo le d mode
    all_goals
      go_enter Try.func51, Try.ntmps51
      go_wp2_with fail
      refine (mode_t mode hm _).mono ?_
      rintro e w' ⟨rfl, rfl⟩
      go_wp2_with fail
      refine (HF.out _).mono ?_
      rintro e w1 ⟨rfl, hbl⟩
      go_wp2_with fail
      refine (nearer_c lo le d mode _ hr1 hr2 h4 hm (by omega) (by omega)).mono ?_
      rintro e w' ⟨rfl, rfl⟩
      go_wp2_with fail
      go_ret2
      exact ⟨ret2_int (by rw [hrr.out]; simp [hl, hb]) rfl, hbl⟩
  · go_enter Try.func51, Try.ntmps51
    go_wp2_with fail
    refine (mode_t mode hm _).mono ?_
    rintro e w' ⟨rfl, rfl⟩
    go_wp2_with fail
    refine (HF.out _).mono ?_
    rintro e w1 ⟨rfl, hbl⟩
    go_wp2_with fail
    go_ret2
    exact ⟨ret2_int (by rw [hrr.out]; simp [show ¬ 0 < le from by omega]) rfl, hbl⟩
theorem round_c (n d mode : Int) (w : World) (h1 : -4611686018427387904 ≤ n) (h2 : n ≤ 4611686018427387904) (h3 : 0 < d) (h4 : d ≤ 4611686018427387904) (hm : modeB mode = true) :
    Calls Try.prog 51 #[.int .i64 n, .int .i64 d, .int .i64 mode] w fun e w' => e = .returned (.tuple #[.int .i64 (roundI n d mode), .int .i64 0]) ∧ Below w.heap.size w w' := by
  have a1 : n / d ≤ 4611686018427387904 := by
    have e1 : n / d ≤ 4611686018427387904 / d := Int.ediv_le_ediv h3 h2
    have e2 : 4611686018427387904 / d ≤ 4611686018427387904 := Int.ediv_le_self d (by decide)
    omega
  have a2 : -4611686018427387904 ≤ n / d := by
    rw [Int.le_ediv_iff_mul_le h3]
    have : (4611686018427387904 : Int) * 1 ≤ 4611686018427387904 * d := Int.mul_le_mul_of_nonneg_left (by omega) (by decide)
    omega
  exact round_core n d mode (n / d) (n % d) (roundI n d mode) rfl w (fun w => floor_c n d w h1 h2 h3 h4) h3 h4 hm a2 a1 (Int.emod_nonneg _ (by omega)) (Int.emod_lt_of_pos _ h3)
theorem round_f (n d mode : Int) (w : World) (h : ¬ (0 < d ∧ modeB mode = true)) :
    Calls Try.prog 51 #[.int .i64 n, .int .i64 d, .int .i64 mode] w fun e w' => e = .returned (.tuple #[.int .i64 0, .int .i64 1]) ∧ w = w' := by
  by_cases h3 : 0 < d
  · have hm : modeB mode = false := by
      cases hh : modeB mode with
      | false => rfl
      | true => exact absurd ⟨h3, hh⟩ h
    clear h
    go_enter Try.func51, Try.ntmps51
    go_wp2_with fail
    refine (mode_f mode hm _).mono ?_
    rintro e w' ⟨rfl, rfl⟩
    go_wp2_with fail
    go_ret2
    exact ⟨rfl, rfl⟩
  · clear h
    go_enter Try.func51, Try.ntmps51
    go_wp2_with fail
    go_ret2
    exact ⟨rfl, rfl⟩
--%%
def exB (x : Int) : Bool := decide (-1000000000000000 ≤ x ∧ x ≤ 1000000000000000)
theorem exB_iff {x : Int} : exB x = true ↔ (-1000000000000000 ≤ x ∧ x ≤ 1000000000000000) := by simp [exB]
theorem exB_not {x : Int} : exB x = false ↔ ¬ (-1000000000000000 ≤ x ∧ x ≤ 1000000000000000) := by simp [exB]
theorem fright_c (x : Int) (w : World) : Calls Try.prog 50 #[.int .i64 x] w fun e w' => e = .returned (.bool (exB x)) ∧ w = w' := by
  by_cases h1 : -1000000000000000 ≤ x
  · by_cases h2 : x ≤ 1000000000000000
    · go_enter Try.func50, Try.ntmps50
      go_wp2
      go_ret
      exact ⟨ret_bool (by simp [exB]; omega), rfl⟩
    · go_enter Try.func50, Try.ntmps50
      go_wp2
      go_ret
      exact ⟨ret_bool (by simp [exB]; omega), rfl⟩
  · go_enter Try.func50, Try.ntmps50
    go_wp2
    go_ret
    exact ⟨ret_bool (by simp [exB]; omega), rfl⟩
--%%
theorem fcoins_t (x mode : Int) (w : World) (hx : exB x = true) (hm : modeB mode = true) :
    Calls Try.prog 29 #[.int .i64 x, .int .i64 mode] w fun e w' => e = .returned (.tuple #[.int .i64 (roundI x 10000 mode), .int .i64 0]) ∧ Below w.heap.size w w' := by
  have hx' := exB_iff.1 hx
  go_enter Try.func29, Try.ntmps29
  go_wp2_with fail
  refine (fright_c x _).mono ?_
  rintro e w' ⟨rfl, rfl⟩
  go_wp2_with fail
  refine (round_c x 10000 mode _ (by omega) (by omega) (by decide) (by decide) hm).mono ?_
  rintro e w1 ⟨rfl, hb⟩
  go_wp2_with fail
  go_ret2
  exact ⟨rfl, hb⟩
theorem fcoins_m (x mode : Int) (w : World) (hx : exB x = true) (hm : modeB mode = false) :
    Calls Try.prog 29 #[.int .i64 x, .int .i64 mode] w fun e w' => e = .returned (.tuple #[.int .i64 0, .int .i64 1]) ∧ w = w' := by
  have hx' := exB_iff.1 hx
  go_enter Try.func29, Try.ntmps29
  go_wp2_with fail
  refine (fright_c x _).mono ?_
  rintro e w' ⟨rfl, rfl⟩
  go_wp2_with fail
  refine (round_f x 10000 mode _ (by simp [hm])).mono ?_
  rintro e w1 ⟨rfl, rfl⟩
  go_wp2_with fail
  go_ret2
  exact ⟨rfl, rfl⟩
theorem fcoins_f (x mode : Int) (w : World) (hx : exB x = false) :
    Calls Try.prog 29 #[.int .i64 x, .int .i64 mode] w fun e w' => e = .returned (.tuple #[.int .i64 0, .int .i64 10]) ∧ w = w' := by
  go_enter Try.func29, Try.ntmps29
  go_wp2_with fail
  refine (fright_c x _).mono ?_
  rintro e w' ⟨rfl, rfl⟩
  go_wp2_with fail
  go_ret2
  exact ⟨rfl, rfl⟩
--%%
theorem mul_bd {x r A B : Int} (h1 : -A ≤ x) (h2 : x ≤ A) (h3 : 0 ≤ r) (h4 : r ≤ B) (hA : 0 ≤ A) : -(A * B) ≤ x * r ∧ x * r ≤ A * B := by
  have a : x * r ≤ A * r := Int.mul_le_mul_of_nonneg_right h2 h3
  have b : A * r ≤ A * B := Int.mul_le_mul_of_nonneg_left h4 hA
  have c : -A * r ≤ x * r := Int.mul_le_mul_of_nonneg_right h1 h3
  rw [Int.neg_mul] at c
  omega
theorem part_t (x r : Int) (w : World) (hx : mrB x = true) (hr : rateB r = true) :
    Calls Try.prog 28 #[.int .i64 x, .int .i64 r] w fun e w' => e = .returned (.tuple #[.int .i64 (x * r), .int .i64 0]) ∧ Below w.heap.size w w' := by
  have hx' := mr_iff.1 hx
  have hr' := rateB_iff.1 hr
  have hm : -1000000000000000 ≤ x * r ∧ x * r ≤ 1000000000000000 := mul_bd (A := 100000000000) (B := 10000) hx'.1 hx'.2 hr'.1 hr'.2 (by decide)
  go_enter Try.func28, Try.ntmps28
  go_wp2_with fail
  refine (right1 _ _ _ x _ (by simp)).mono ?_
  rintro e w' ⟨rfl, rfl⟩
  go_wp2_with fail
  refine (rate_c r _).mono ?_
  rintro e w' ⟨rfl, rfl⟩
  go_wp2_with fail
  go_ret2
  exact ⟨rfl, below1 _ _⟩
--%%
end Go.Proofs.Ytankoappneglcaa
