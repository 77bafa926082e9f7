/-
  Contracts of frac.Scale, money.Sub, code.Free and code.Charge. Conditions as named.
-/
import Derived.Test.YtankoappneglcaaCode
namespace Go.Proofs.Ytankoappneglcaa
set_option linter.unusedVariables false
open Go.RowKit
--%%
theorem sub_t (x y : Int) (w : World) (hx : mrB x = true) (hy : mrB y = true) (hs : mrB (x - y) = true) :
    Calls Try.prog 48 #[.int .i64 x, .int .i64 y] w fun e w' => e = .returned (.tuple #[.int .i64 (x - y), .int .i64 0]) ∧ Below w.heap.size w w' := by
  have hx' := mr_iff.1 hx
  have hy' := mr_iff.1 hy
  go_enter Try.func48, Try.ntmps48
  go_wp2_with (first | (go_at_call 44; refine (right2 _ _ _ x y _ (by simp) (by simp)).mono ?_; rintro e w' ⟨rfl, rfl⟩) | (go_at_call 45; refine (check_t (x - y) _ hs).mono ?_; rintro e w1 ⟨rfl, hb⟩))
  go_ret2
  exact ⟨rfl, (below1 _ _).trans (hb.mono (by simp))⟩
theorem sub_f (x y : Int) (w : World) (h : ¬ (mrB x = true ∧ mrB y = true ∧ mrB (x - y) = true)) :
    Calls Try.prog 48 #[.int .i64 x, .int .i64 y] w fun e w' => e = .returned (.tuple #[.int .i64 0, .int .i64 10]) ∧ Below w.heap.size w w' := by
  by_cases hx : (mrB x && mrB y) = true
  · have hx1 : mrB x = true := by simp at hx; exact hx.1
    have hy1 : mrB y = true := by simp at hx; exact hx.2
    have hs : mrB (x - y) = false := by
      cases hh : mrB (x - y) with
      | false => rfl
      | true => exact absurd ⟨hx1, hy1, hh⟩ h
    have hx' := mr_iff.1 hx1
    have hy' := mr_iff.1 hy1
    clear h
    go_enter Try.func48, Try.ntmps48
    go_wp2_with (first | (go_at_call 44; refine (right2 _ _ _ x y _ (by simp) (by simp)).mono ?_; rintro e w' ⟨rfl, rfl⟩) | (go_at_call 45; refine (check_f (x - y) _ hs).mono ?_; rintro e w1 ⟨rfl, hb⟩))
    go_ret2
    exact ⟨rfl, (below1 _ _).trans (hb.mono (by simp))⟩
  · have hx1 : (mrB x && mrB y) = false := by simpa using hx
    clear h hx
    go_enter Try.func48, Try.ntmps48
    go_wp2_with (go_at_call 44; refine (right2 _ _ _ x y _ (by simp) (by simp)).mono ?_; rintro e w' ⟨rfl, rfl⟩)
    go_ret2
    exact ⟨rfl, below1 _ _⟩
--%%
theorem mul_bd0' {x r A B : Int} (h1 : 0 ≤ x) (h2 : x ≤ A) (h3 : 0 ≤ r) (h4 : r ≤ B) : 0 ≤ x * r ∧ x * r ≤ A * B := by
  refine ⟨Int.mul_nonneg h1 h3, ?_⟩
  have a : x * r ≤ A * r := Int.mul_le_mul_of_nonneg_right h2 h3
  have b : A * r ≤ A * B := Int.mul_le_mul_of_nonneg_left h4 (by omega)
  omega
theorem part_bd (x n d : Int) (h0 : 0 ≤ x) (hn : 0 ≤ n ∧ n ≤ d) (hd : 1 ≤ d) : 0 ≤ x * n / d ∧ x * n / d ≤ x := by
  have h1 : 0 ≤ x * n := Int.mul_nonneg h0 hn.1
  have h2 : x * n ≤ x * d := Int.mul_le_mul_of_nonneg_left hn.2 h0
  refine ⟨Int.ediv_nonneg h1 (by omega), ?_⟩
  have h3 : x * n / d ≤ x * d / d := Int.ediv_le_ediv (by omega) h2
  rwa [Int.mul_ediv_cancel _ (by omega)] at h3
theorem fscale_t (x n d : Int) (w : World) (hx : 0 ≤ x ∧ x ≤ 100000000000) (hn : 0 ≤ n ∧ n ≤ d) (hd : 1 ≤ d ∧ d ≤ 1048576) :
    Calls Try.prog 61 #[.int .i64 x, .int .i64 n, .int .i64 d] w fun e w' => e = .returned (.tuple #[.int .i64 (x * n / d), .int .i64 0]) ∧ Below w.heap.size w w' := by
  have hq := part_bd x n d hx.1 hn hd.1
  have hp : 0 ≤ x * n ∧ x * n ≤ 100000000000 * 1048576 := mul_bd0' hx.1 hx.2 hn.1 (by omega)
  have K := Lib.hid (floor_c (x * n) d · (by omega) (by omega) (by omega) (by omega))
  have hm : mrB x = true := mr_t (by omega)
  have hm2 : mrB (x * n / d) = true := mr_t (by omega)
  generalize x * n / d = q at *
  generalize x * n % d = r at *
  have t1 : ¬ n < 0 := by omega
  have t2 : ¬ d ≤ 0 := by omega
  have t3 : ¬ 1048576 < n := by omega
  have t4 : ¬ 1048576 < d := by omega
  have u1 : decide (n < 0) = false := by simpa using t1
  have u2 : decide (d ≤ 0) = false := by simpa using t2
  have u3 : decide (1048576 < n) = false := by simpa using t3
  have u4 : decide (1048576 < d) = false := by simpa using t4
  go_enter Try.func61, Try.ntmps61
  go_wp2_with fail
  refine (right1 _ _ _ x _ (by simp)).mono ?_
  rw [hm]
  rintro e w' ⟨rfl, rfl⟩
  go_wp2_with fail
  refine (K.out _).mono ?_
  rintro e w1 ⟨rfl, hb1⟩
  go_wp2_with fail
  refine (right1 _ _ _ q _ (by simp)).mono ?_
  rw [hm2]
  rintro e w' ⟨rfl, rfl⟩
  go_wp2_with fail
  go_ret2
  exact ⟨rfl, bA (bT (below1 _ _) hb1) _⟩
--%%
def partB (n d : Int) : Bool := decide (0 ≤ n ∧ 1 ≤ d ∧ n ≤ d ∧ d ≤ 1048576)
theorem partB_iff {n d : Int} : partB n d = true ↔ (0 ≤ n ∧ 1 ≤ d ∧ n ≤ d ∧ d ≤ 1048576) := by simp [partB]
/-- how much a code frees -/
def freeI (k a n d : Int) : Int := if k = 2 then -(a * n / d) else a * n / d
theorem code_a (s k a f : Int) (h : codeErr s k a f = 0) : 0 ≤ a ∧ a ≤ 999999000 ∧ 0 ≤ s ∧ s ≤ 7 ∧ 1 ≤ k ∧ k ≤ 4 ∧ 0 ≤ f ∧ f ≤ 7 := by
  unfold codeErr at h
  split at h
  · omega
  · split at h
    · omega
    · split at h
      · omega
      · split at h
        · omega
        · split at h
          · omega
          · omega
theorem cfree_e (s k a f : Int) (al : Bool) (n d : Int) (w : World) (h : codeErr s k a f ≠ 0) : Calls Try.prog 60 #[.agg #[.int .i64 s, .int .i64 k, .int .i64 a, .int .i64 f, .bool al], .int .i64 n, .int .i64 d] w fun e w' => e = .returned (.tuple #[.int .i64 0, .int .i64 (codeErr s k a f)]) ∧ Below w.heap.size w w' := by
  have K := Lib.hid (ccheck_c s k a f al)
  have t : (codeErr s k a f != 0) = true := by simpa using h
  generalize codeErr s k a f = r at *
  clear h
  go_enter Try.func60, Try.ntmps60
  go_wp2_with fail
  refine (K.out _).mono ?_
  rintro e w1 ⟨rfl, hb1⟩
  go_wp2_with fail
  go_ret2
  exact ⟨rfl, bT (below1 _ _) hb1⟩
theorem cfree_r (s k a f : Int) (al : Bool) (n d : Int) (w : World) (h : codeErr s k a f = 0) (hp : partB n d = false) : Calls Try.prog 60 #[.agg #[.int .i64 s, .int .i64 k, .int .i64 a, .int .i64 f, .bool al], .int .i64 n, .int .i64 d] w fun e w' => e = .returned (.tuple #[.int .i64 0, .int .i64 1]) ∧ Below w.heap.size w w' := by
  have K := Lib.hid (ccheck_c s k a f al)
  rw [h] at K
  have hp' : ¬ (0 ≤ n ∧ 1 ≤ d ∧ n ≤ d ∧ d ≤ 1048576) := by rw [← partB_iff, hp]; decide
  clear h hp
  by_cases h1 : n < 0
  · have u1 : decide (n < 0) = true := by simpa using h1
    clear hp'
    go_enter Try.func60, Try.ntmps60
    go_wp2_with fail
    refine (K.out _).mono ?_
    rintro e w1 ⟨rfl, hb1⟩
    go_wp2_with fail
    go_ret2
    exact ⟨rfl, bT (below1 _ _) hb1⟩
  have u1 : decide (n < 0) = false := by simpa using h1
  by_cases h2 : d < 1
  · have u2 : decide (d < 1) = true := by simpa using h2
    clear hp'
    go_enter Try.func60, Try.ntmps60
    go_wp2_with fail
    refine (K.out _).mono ?_
    rintro e w1 ⟨rfl, hb1⟩
    go_wp2_with fail
    go_ret2
    exact ⟨rfl, bT (below1 _ _) hb1⟩
  have u2 : decide (d < 1) = false := by simpa using h2
  by_cases h3 : d < n
  · have u3 : decide (d < n) = true := by simpa using h3
    clear hp'
    go_enter Try.func60, Try.ntmps60
    go_wp2_with fail
    refine (K.out _).mono ?_
    rintro e w1 ⟨rfl, hb1⟩
    go_wp2_with fail
    go_ret2
    exact ⟨rfl, bT (below1 _ _) hb1⟩
  have u3 : decide (d < n) = false := by simpa using h3
  have h4 : 1048576 < d := by omega
  have u4 : decide (1048576 < d) = true := by simpa using h4
  clear hp'
  go_enter Try.func60, Try.ntmps60
  go_wp2_with fail
  refine (K.out _).mono ?_
  rintro e w1 ⟨rfl, hb1⟩
  go_wp2_with fail
  go_ret2
  exact ⟨rfl, bT (below1 _ _) hb1⟩
theorem cfree_t (s k a f : Int) (al : Bool) (n d : Int) (w : World) (h : codeErr s k a f = 0) (hp : partB n d = true) : Calls Try.prog 60 #[.agg #[.int .i64 s, .int .i64 k, .int .i64 a, .int .i64 f, .bool al], .int .i64 n, .int .i64 d] w fun e w' => e = .returned (.tuple #[.int .i64 (freeI k a n d), .int .i64 0]) ∧ Below w.heap.size w w' := by
  have K := Lib.hid (ccheck_c s k a f al)
  rw [h] at K
  have ha := code_a s k a f h
  have hp' := partB_iff.1 hp
  have K2 := Lib.hid (fscale_t a n d · (by omega) (by omega) (by omega))
  have hq := part_bd a n d ha.1 (by omega) (by omega)
  obtain ⟨q, hqq⟩ : ∃ q, q = a * n / d := ⟨_, rfl⟩
  have HF : Hid (freeI k a n d = if k = 2 then -q else q) := by unfold Hid freeI; rw [hqq]
  rw [← hqq] at K2 hq
  have u1 : decide (n < 0) = false := by simp; omega
  have u2 : decide (d < 1) = false := by simp; omega
  have u3 : decide (d < n) = false := by simp; omega
  have u4 : decide (1048576 < d) = false := by simp; omega
  have z := Blk.mk w 40 #[.int .i64 s, .int .i64 k, .int .i64 a, .int .i64 f, .bool al]
  have hb0 := below1 w (.cells #[.int .i64 s, .int .i64 k, .int .i64 a, .int .i64 f, .bool al] 40)
  have t1 : ¬ n < 0 := by omega
  have t2 : ¬ d < 1 := by omega
  have t3 : ¬ d < n := by omega
  have t4 : ¬ 1048576 < d := by omega
  clear hqq h hp hp'
  by_cases h2 : k = 2
  · subst h2
    rw [if_pos rfl] at HF
    go_enter Try.func60, Try.ntmps60
    go_wp2_with fail
    refine (K.out _).mono ?_
    rintro e w1 ⟨rfl, hb1⟩
    have z1 := z.t hb1
    have a2 := z1.cell 2
    go_wp2_with fail
    refine (K2.out _).mono ?_
    rintro e w2 ⟨rfl, hb2⟩
    have a1 := (z1.t hb2).cell 1
    go_wp2_with fail
    go_ret2
    exact ⟨ret2_int HF.out.symm rfl, bT (bT hb0 hb1) hb2⟩
  · rw [if_neg h2] at HF
    have u5 : (k == 2) = false := by simpa using h2
    clear h2
    go_enter Try.func60, Try.ntmps60
    go_wp2_with fail
    refine (K.out _).mono ?_
    rintro e w1 ⟨rfl, hb1⟩
    have z1 := z.t hb1
    have a2 := z1.cell 2
    go_wp2_with fail
    refine (K2.out _).mono ?_
    rintro e w2 ⟨rfl, hb2⟩
    have a1 := (z1.t hb2).cell 1
    go_wp2_with fail
    go_ret2
    exact ⟨ret2_int HF.out.symm rfl, bT (bT hb0 hb1) hb2⟩
--%%
end Go.Proofs.Ytankoappneglcaa
