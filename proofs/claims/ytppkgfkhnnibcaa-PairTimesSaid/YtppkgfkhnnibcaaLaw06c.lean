/-
  Layer 6's law PairTimes: its walk, a way at a time. No conditions.
-/
import Derived.Test.YtppkgfkhnnibcaaLaw06
import Derived.LoopN
import Derived.Lib.MinMax
namespace Go.Proofs.Ytppkgfkhnnibcaa
set_option linter.unusedVariables false
open Go.RowKit
--%%
theorem div_key (x n : Int) (hn0 : n ≠ 0) : max x (-x) ≤ (9007199254740992 : Int) / max n (-n) ↔ in53 (x * n) = true := by
  have e1 : max x (-x) = (x.natAbs : Int) := by omega
  have e2 : max n (-n) = (n.natAbs : Int) := by omega
  have hp : (0 : Int) < (n.natAbs : Int) := by omega
  rw [e1, e2, Int.le_ediv_iff_mul_le hp, in53_iff, ← Int.natCast_mul, ← Int.natAbs_mul]
  omega
theorem wrap_in53 (x : Int) (hx : in53 x = true) : IntKind.i64.wrap x = x := by have := in53_iff.1 hx; rw [IntKind.wrap_i64]; omega
--%%
theorem ptimes_a (a b n : Int) (w : World) (H : Hid (¬ (in53 a = true ∧ in53 b = true))) : Calls Try.prog 6 #[.int .i64 a, .int .i64 b, .int .i64 n] w fun e w' => e = .returned (.bool true) ∧ Below w.heap.size w w' := by
  have z := eq_rep rep_zero rep_zero
  simp only [beq_self_eq_true] at z
  go_enter Try.func6, Try.ntmps6
  go_wp2_with fail
  refine (both_c _).mono ?_
  rintro e w1 ⟨rfl, hb1⟩
  go_wp2_with fail
  refine (of_f a b H.out _).mono ?_
  rintro e w' ⟨rfl, rfl⟩
  go_wp2_with fail
  go_ret
  exact ⟨rfl, hb1⟩
set_option maxRecDepth 100000 in
set_option maxHeartbeats 1000000 in
theorem ptimes_hi (a b n : Int) (w : World) (ha : in53 a = true) (hb : in53 b = true) (H : Hid (¬ (in53 n = true ∧ in53 (a * n) = true ∧ in53 (b * n) = true))) (h1 : 9007199254740992 < n) : Calls Try.prog 6 #[.int .i64 a, .int .i64 b, .int .i64 n] w fun e w' => e = .returned (.bool true) ∧ Below w.heap.size w w' := by
  have ha' := in53_iff.1 ha
  have hb' := in53_iff.1 hb
  have ra := fb_rep a ha'
  have rb := fb_rep b hb'
  have z := eq_rep rep_zero rep_zero
  simp only [beq_self_eq_true] at z
  have i0 : ∀ w, (Instr.index 39 (.agg #[.int .i64 a, .int .i64 b]) (.int .i64 0)).run Try.prog w = .ok (.int .i64 a) w := fun _ => by kernel_rfl
  have i1 : ∀ w, (Instr.index 39 (.agg #[.int .i64 a, .int .i64 b]) (.int .i64 1)).run Try.prog w = .ok (.int .i64 b) w := fun _ => by kernel_rfl
  go_enter Try.func6, Try.ntmps6
  go_wp2_with fail
  refine (both_c _).mono ?_
  rintro e w1 ⟨rfl, hb1⟩
  go_wp2_with fail
  refine (of_t a b ha hb _).mono ?_
  rintro e w' ⟨rfl, rfl⟩
  go_wp2_with fail
  refine (times_f _ _ a b _ ra rb ha hb H.out _).mono ?_
  rintro e w' ⟨rfl, rfl⟩
  go_wp2_with fail
  refine wp_loop_rounds 3 ?_
  rw [rounds_succ]
  go_wp2_with fail
  rw [rounds_succ]
  go_wp2_with fail
  rw [rounds_succ]
  go_wp2_with fail
  go_ret
  exact ⟨rfl, hb1⟩
set_option maxRecDepth 100000 in
set_option maxHeartbeats 1000000 in
theorem ptimes_lo (a b n : Int) (w : World) (ha : in53 a = true) (hb : in53 b = true) (H : Hid (¬ (in53 n = true ∧ in53 (a * n) = true ∧ in53 (b * n) = true))) (h1 : n < -9007199254740992) : Calls Try.prog 6 #[.int .i64 a, .int .i64 b, .int .i64 n] w fun e w' => e = .returned (.bool true) ∧ Below w.heap.size w w' := by
  have ha' := in53_iff.1 ha
  have hb' := in53_iff.1 hb
  have ra := fb_rep a ha'
  have rb := fb_rep b hb'
  have z := eq_rep rep_zero rep_zero
  simp only [beq_self_eq_true] at z
  have i0 : ∀ w, (Instr.index 39 (.agg #[.int .i64 a, .int .i64 b]) (.int .i64 0)).run Try.prog w = .ok (.int .i64 a) w := fun _ => by kernel_rfl
  have i1 : ∀ w, (Instr.index 39 (.agg #[.int .i64 a, .int .i64 b]) (.int .i64 1)).run Try.prog w = .ok (.int .i64 b) w := fun _ => by kernel_rfl
  go_enter Try.func6, Try.ntmps6
  go_wp2_with fail
  refine (both_c _).mono ?_
  rintro e w1 ⟨rfl, hb1⟩
  go_wp2_with fail
  refine (of_t a b ha hb _).mono ?_
  rintro e w' ⟨rfl, rfl⟩
  go_wp2_with fail
  refine (times_f _ _ a b _ ra rb ha hb H.out _).mono ?_
  rintro e w' ⟨rfl, rfl⟩
  go_wp2_with fail
  refine wp_loop_rounds 3 ?_
  rw [rounds_succ]
  go_wp2_with fail
  rw [rounds_succ]
  go_wp2_with fail
  rw [rounds_succ]
  go_wp2_with fail
  go_ret
  exact ⟨rfl, hb1⟩
set_option maxRecDepth 100000 in
set_option maxHeartbeats 1000000 in
theorem ptimes_zff (a b : Int) (ta : (a != 0) = false) (tb : (b != 0) = false) (w : World) (ha : in53 a = true) (hb : in53 b = true) : Calls Try.prog 6 #[.int .i64 a, .int .i64 b, .int .i64 0] w fun e w' => e = .returned (.bool true) ∧ Below w.heap.size w w' := by
  have ha' := in53_iff.1 ha
  have hb' := in53_iff.1 hb
  have ra := fb_rep a ha'
  have rb := fb_rep b hb'
  have z := eq_rep rep_zero rep_zero
  simp only [beq_self_eq_true] at z
  have i0 : ∀ w, (Instr.index 39 (.agg #[.int .i64 a, .int .i64 b]) (.int .i64 0)).run Try.prog w = .ok (.int .i64 a) w := fun _ => by kernel_rfl
  have i1 : ∀ w, (Instr.index 39 (.agg #[.int .i64 a, .int .i64 b]) (.int .i64 1)).run Try.prog w = .ok (.int .i64 b) w := fun _ => by kernel_rfl
  have hn : in53 0 = true := by decide
  have hp : in53 (a * 0) = true := by rw [Int.mul_zero]; decide
  have hq : in53 (b * 0) = true := by rw [Int.mul_zero]; decide
  go_enter Try.func6, Try.ntmps6
  go_wp2_with fail
  refine (both_c _).mono ?_
  rintro e w1 ⟨rfl, hb1⟩
  go_wp2_with fail
  refine (of_t a b ha hb _).mono ?_
  rintro e w' ⟨rfl, rfl⟩
  go_wp2_with fail
  refine (times_t _ _ a b _ ra rb ha hb hn hp hq _).mono ?_
  rintro e w' ⟨⟨u, v, rfl, ru, rv⟩, rfl⟩
  go_wp2_with fail
  simp only [Int.mul_zero] at ru rv hp hq
  refine wp_loop_rounds 3 ?_
  rw [rounds_succ]
  go_wp2_with fail
  rw [rounds_succ]
  go_wp2_with fail
  rw [rounds_succ]
  go_wp2_with fail
  refine (sides_c u v _ _ ru rv hp hq _).mono ?_
  rintro e w' ⟨rfl, rfl⟩
  go_wp2_with fail
  go_ret
  exact ⟨rfl, hb1⟩
set_option maxRecDepth 100000 in
set_option maxHeartbeats 1000000 in
theorem ptimes_zft (a b : Int) (ta : (a != 0) = false) (tb : (b != 0) = true) (w : World) (ha : in53 a = true) (hb : in53 b = true) : Calls Try.prog 6 #[.int .i64 a, .int .i64 b, .int .i64 0] w fun e w' => e = .returned (.bool true) ∧ Below w.heap.size w w' := by
  have ha' := in53_iff.1 ha
  have hb' := in53_iff.1 hb
  have ra := fb_rep a ha'
  have rb := fb_rep b hb'
  have z := eq_rep rep_zero rep_zero
  simp only [beq_self_eq_true] at z
  have i0 : ∀ w, (Instr.index 39 (.agg #[.int .i64 a, .int .i64 b]) (.int .i64 0)).run Try.prog w = .ok (.int .i64 a) w := fun _ => by kernel_rfl
  have i1 : ∀ w, (Instr.index 39 (.agg #[.int .i64 a, .int .i64 b]) (.int .i64 1)).run Try.prog w = .ok (.int .i64 b) w := fun _ => by kernel_rfl
  have hn : in53 0 = true := by decide
  have hp : in53 (a * 0) = true := by rw [Int.mul_zero]; decide
  have hq : in53 (b * 0) = true := by rw [Int.mul_zero]; decide
  go_enter Try.func6, Try.ntmps6
  go_wp2_with fail
  refine (both_c _).mono ?_
  rintro e w1 ⟨rfl, hb1⟩
  go_wp2_with fail
  refine (of_t a b ha hb _).mono ?_
  rintro e w' ⟨rfl, rfl⟩
  go_wp2_with fail
  refine (times_t _ _ a b _ ra rb ha hb hn hp hq _).mono ?_
  rintro e w' ⟨⟨u, v, rfl, ru, rv⟩, rfl⟩
  go_wp2_with fail
  simp only [Int.mul_zero] at ru rv hp hq
  refine wp_loop_rounds 3 ?_
  rw [rounds_succ]
  go_wp2_with fail
  rw [rounds_succ]
  go_wp2_with fail
  rw [rounds_succ]
  go_wp2_with fail
  refine (sides_c u v _ _ ru rv hp hq _).mono ?_
  rintro e w' ⟨rfl, rfl⟩
  go_wp2_with fail
  go_ret
  exact ⟨rfl, hb1⟩
set_option maxRecDepth 100000 in
set_option maxHeartbeats 1000000 in
theorem ptimes_ztf (a b : Int) (ta : (a != 0) = true) (tb : (b != 0) = false) (w : World) (ha : in53 a = true) (hb : in53 b = true) : Calls Try.prog 6 #[.int .i64 a, .int .i64 b, .int .i64 0] w fun e w' => e = .returned (.bool true) ∧ Below w.heap.size w w' := by
  have ha' := in53_iff.1 ha
  have hb' := in53_iff.1 hb
  have ra := fb_rep a ha'
  have rb := fb_rep b hb'
  have z := eq_rep rep_zero rep_zero
  simp only [beq_self_eq_true] at z
  have i0 : ∀ w, (Instr.index 39 (.agg #[.int .i64 a, .int .i64 b]) (.int .i64 0)).run Try.prog w = .ok (.int .i64 a) w := fun _ => by kernel_rfl
  have i1 : ∀ w, (Instr.index 39 (.agg #[.int .i64 a, .int .i64 b]) (.int .i64 1)).run Try.prog w = .ok (.int .i64 b) w := fun _ => by kernel_rfl
  have hn : in53 0 = true := by decide
  have hp : in53 (a * 0) = true := by rw [Int.mul_zero]; decide
  have hq : in53 (b * 0) = true := by rw [Int.mul_zero]; decide
  go_enter Try.func6, Try.ntmps6
  go_wp2_with fail
  refine (both_c _).mono ?_
  rintro e w1 ⟨rfl, hb1⟩
  go_wp2_with fail
  refine (of_t a b ha hb _).mono ?_
  rintro e w' ⟨rfl, rfl⟩
  go_wp2_with fail
  refine (times_t _ _ a b _ ra rb ha hb hn hp hq _).mono ?_
  rintro e w' ⟨⟨u, v, rfl, ru, rv⟩, rfl⟩
  go_wp2_with fail
  simp only [Int.mul_zero] at ru rv hp hq
  refine wp_loop_rounds 3 ?_
  rw [rounds_succ]
  go_wp2_with fail
  rw [rounds_succ]
  go_wp2_with fail
  rw [rounds_succ]
  go_wp2_with fail
  refine (sides_c u v _ _ ru rv hp hq _).mono ?_
  rintro e w' ⟨rfl, rfl⟩
  go_wp2_with fail
  go_ret
  exact ⟨rfl, hb1⟩
set_option maxRecDepth 100000 in
set_option maxHeartbeats 1000000 in
theorem ptimes_ztt (a b : Int) (ta : (a != 0) = true) (tb : (b != 0) = true) (w : World) (ha : in53 a = true) (hb : in53 b = true) : Calls Try.prog 6 #[.int .i64 a, .int .i64 b, .int .i64 0] w fun e w' => e = .returned (.bool true) ∧ Below w.heap.size w w' := by
  have ha' := in53_iff.1 ha
  have hb' := in53_iff.1 hb
  have ra := fb_rep a ha'
  have rb := fb_rep b hb'
  have z := eq_rep rep_zero rep_zero
  simp only [beq_self_eq_true] at z
  have i0 : ∀ w, (Instr.index 39 (.agg #[.int .i64 a, .int .i64 b]) (.int .i64 0)).run Try.prog w = .ok (.int .i64 a) w := fun _ => by kernel_rfl
  have i1 : ∀ w, (Instr.index 39 (.agg #[.int .i64 a, .int .i64 b]) (.int .i64 1)).run Try.prog w = .ok (.int .i64 b) w := fun _ => by kernel_rfl
  have hn : in53 0 = true := by decide
  have hp : in53 (a * 0) = true := by rw [Int.mul_zero]; decide
  have hq : in53 (b * 0) = true := by rw [Int.mul_zero]; decide
  go_enter Try.func6, Try.ntmps6
  go_wp2_with fail
  refine (both_c _).mono ?_
  rintro e w1 ⟨rfl, hb1⟩
  go_wp2_with fail
  refine (of_t a b ha hb _).mono ?_
  rintro e w' ⟨rfl, rfl⟩
  go_wp2_with fail
  refine (times_t _ _ a b _ ra rb ha hb hn hp hq _).mono ?_
  rintro e w' ⟨⟨u, v, rfl, ru, rv⟩, rfl⟩
  go_wp2_with fail
  simp only [Int.mul_zero] at ru rv hp hq
  refine wp_loop_rounds 3 ?_
  rw [rounds_succ]
  go_wp2_with fail
  rw [rounds_succ]
  go_wp2_with fail
  rw [rounds_succ]
  go_wp2_with fail
  refine (sides_c u v _ _ ru rv hp hq _).mono ?_
  rintro e w' ⟨rfl, rfl⟩
  go_wp2_with fail
  go_ret
  exact ⟨rfl, hb1⟩
set_option maxRecDepth 100000 in
set_option maxHeartbeats 1000000 in
theorem ptimes_o1 (a b n : Int) (w : World) (ha : in53 a = true) (hb : in53 b = true) (H : Hid (¬ (in53 n = true ∧ in53 (a * n) = true ∧ in53 (b * n) = true))) (hn' : -9007199254740992 ≤ n ∧ n ≤ 9007199254740992) (tn : (n != 0) = true) (vp : (1 : Int) ≤ max n (-n)) (vp0 : (0 : Int) ≤ max n (-n)) (ta : (a != 0) = true) (qa : decide (max a (-a) ≤ (9007199254740992 : Int) / max n (-n)) = false) : Calls Try.prog 6 #[.int .i64 a, .int .i64 b, .int .i64 n] w fun e w' => e = .returned (.bool true) ∧ Below w.heap.size w w' := by
  have ha' := in53_iff.1 ha
  have hb' := in53_iff.1 hb
  have ra := fb_rep a ha'
  have rb := fb_rep b hb'
  have z := eq_rep rep_zero rep_zero
  simp only [beq_self_eq_true] at z
  have i0 : ∀ w, (Instr.index 39 (.agg #[.int .i64 a, .int .i64 b]) (.int .i64 0)).run Try.prog w = .ok (.int .i64 a) w := fun _ => by kernel_rfl
  have i1 : ∀ w, (Instr.index 39 (.agg #[.int .i64 a, .int .i64 b]) (.int .i64 1)).run Try.prog w = .ok (.int .i64 b) w := fun _ => by kernel_rfl
  go_enter Try.func6, Try.ntmps6
  go_wp2_with fail
  refine (both_c _).mono ?_
  rintro e w1 ⟨rfl, hb1⟩
  go_wp2_with fail
  refine (of_t a b ha hb _).mono ?_
  rintro e w' ⟨rfl, rfl⟩
  go_wp2_with fail
  refine (times_f _ _ a b _ ra rb ha hb H.out _).mono ?_
  rintro e w' ⟨rfl, rfl⟩
  go_wp2_with fail
  refine wp_loop_rounds 3 ?_
  rw [rounds_succ]
  go_wp2_with fail
  rw [rounds_succ]
  go_wp2_with fail
  rw [rounds_succ]
  go_wp2_with fail
  go_ret
  exact ⟨rfl, hb1⟩
set_option maxRecDepth 100000 in
set_option maxHeartbeats 1000000 in
theorem ptimes_o20 (a b n : Int) (w : World) (ha : in53 a = true) (hb : in53 b = true) (H : Hid (¬ (in53 n = true ∧ in53 (a * n) = true ∧ in53 (b * n) = true))) (hn' : -9007199254740992 ≤ n ∧ n ≤ 9007199254740992) (tn : (n != 0) = true) (vp : (1 : Int) ≤ max n (-n)) (vp0 : (0 : Int) ≤ max n (-n)) (ta : (a != 0) = false) (tb : (b != 0) = true) (qb : decide (max b (-b) ≤ (9007199254740992 : Int) / max n (-n)) = false) : Calls Try.prog 6 #[.int .i64 a, .int .i64 b, .int .i64 n] w fun e w' => e = .returned (.bool true) ∧ Below w.heap.size w w' := by
  have ha' := in53_iff.1 ha
  have hb' := in53_iff.1 hb
  have ra := fb_rep a ha'
  have rb := fb_rep b hb'
  have z := eq_rep rep_zero rep_zero
  simp only [beq_self_eq_true] at z
  have i0 : ∀ w, (Instr.index 39 (.agg #[.int .i64 a, .int .i64 b]) (.int .i64 0)).run Try.prog w = .ok (.int .i64 a) w := fun _ => by kernel_rfl
  have i1 : ∀ w, (Instr.index 39 (.agg #[.int .i64 a, .int .i64 b]) (.int .i64 1)).run Try.prog w = .ok (.int .i64 b) w := fun _ => by kernel_rfl
  go_enter Try.func6, Try.ntmps6
  go_wp2_with fail
  refine (both_c _).mono ?_
  rintro e w1 ⟨rfl, hb1⟩
  go_wp2_with fail
  refine (of_t a b ha hb _).mono ?_
  rintro e w' ⟨rfl, rfl⟩
  go_wp2_with fail
  refine (times_f _ _ a b _ ra rb ha hb H.out _).mono ?_
  rintro e w' ⟨rfl, rfl⟩
  go_wp2_with fail
  refine wp_loop_rounds 3 ?_
  rw [rounds_succ]
  go_wp2_with fail
  rw [rounds_succ]
  go_wp2_with fail
  rw [rounds_succ]
  go_wp2_with fail
  go_ret
  exact ⟨rfl, hb1⟩
set_option maxRecDepth 100000 in
set_option maxHeartbeats 1000000 in
theorem ptimes_o21 (a b n : Int) (w : World) (ha : in53 a = true) (hb : in53 b = true) (H : Hid (¬ (in53 n = true ∧ in53 (a * n) = true ∧ in53 (b * n) = true))) (hn' : -9007199254740992 ≤ n ∧ n ≤ 9007199254740992) (tn : (n != 0) = true) (vp : (1 : Int) ≤ max n (-n)) (vp0 : (0 : Int) ≤ max n (-n)) (ta : (a != 0) = true) (qa : (max a (-a) ≤ (9007199254740992 : Int) / max n (-n))) (tb : (b != 0) = true) (qb : decide (max b (-b) ≤ (9007199254740992 : Int) / max n (-n)) = false) : Calls Try.prog 6 #[.int .i64 a, .int .i64 b, .int .i64 n] w fun e w' => e = .returned (.bool true) ∧ Below w.heap.size w w' := by
  have ha' := in53_iff.1 ha
  have hb' := in53_iff.1 hb
  have ra := fb_rep a ha'
  have rb := fb_rep b hb'
  have z := eq_rep rep_zero rep_zero
  simp only [beq_self_eq_true] at z
  have i0 : ∀ w, (Instr.index 39 (.agg #[.int .i64 a, .int .i64 b]) (.int .i64 0)).run Try.prog w = .ok (.int .i64 a) w := fun _ => by kernel_rfl
  have i1 : ∀ w, (Instr.index 39 (.agg #[.int .i64 a, .int .i64 b]) (.int .i64 1)).run Try.prog w = .ok (.int .i64 b) w := fun _ => by kernel_rfl
  go_enter Try.func6, Try.ntmps6
  go_wp2_with fail
  refine (both_c _).mono ?_
  rintro e w1 ⟨rfl, hb1⟩
  go_wp2_with fail
  refine (of_t a b ha hb _).mono ?_
  rintro e w' ⟨rfl, rfl⟩
  go_wp2_with fail
  refine (times_f _ _ a b _ ra rb ha hb H.out _).mono ?_
  rintro e w' ⟨rfl, rfl⟩
  go_wp2_with fail
  refine wp_loop_rounds 3 ?_
  rw [rounds_succ]
  go_wp2_with fail
  rw [rounds_succ]
  go_wp2_with fail
  rw [rounds_succ]
  go_wp2_with fail
  go_ret
  exact ⟨rfl, hb1⟩
set_option maxRecDepth 100000 in
set_option maxHeartbeats 1000000 in
theorem ptimes_t00 (a b n : Int) (w : World) (ha : in53 a = true) (hb : in53 b = true) (hn : in53 n = true) (hp : in53 (a * n) = true) (hq : in53 (b * n) = true) (wa : IntKind.i64.wrap (a * n) = a * n) (wb : IntKind.i64.wrap (b * n) = b * n) (hn' : -9007199254740992 ≤ n ∧ n ≤ 9007199254740992) (tn : (n != 0) = true) (vp : (1 : Int) ≤ max n (-n)) (vp0 : (0 : Int) ≤ max n (-n)) (ta : (a != 0) = false) (tb : (b != 0) = false) : Calls Try.prog 6 #[.int .i64 a, .int .i64 b, .int .i64 n] w fun e w' => e = .returned (.bool true) ∧ Below w.heap.size w w' := by
  have ha' := in53_iff.1 ha
  have hb' := in53_iff.1 hb
  have ra := fb_rep a ha'
  have rb := fb_rep b hb'
  have z := eq_rep rep_zero rep_zero
  simp only [beq_self_eq_true] at z
  have i0 : ∀ w, (Instr.index 39 (.agg #[.int .i64 a, .int .i64 b]) (.int .i64 0)).run Try.prog w = .ok (.int .i64 a) w := fun _ => by kernel_rfl
  have i1 : ∀ w, (Instr.index 39 (.agg #[.int .i64 a, .int .i64 b]) (.int .i64 1)).run Try.prog w = .ok (.int .i64 b) w := fun _ => by kernel_rfl
  have hp' := in53_iff.1 hp
  have hq' := in53_iff.1 hq
  go_enter Try.func6, Try.ntmps6
  go_wp2_with fail
  refine (both_c _).mono ?_
  rintro e w1 ⟨rfl, hb1⟩
  go_wp2_with fail
  refine (of_t a b ha hb _).mono ?_
  rintro e w' ⟨rfl, rfl⟩
  go_wp2_with fail
  refine (times_t _ _ a b _ ra rb ha hb hn hp hq _).mono ?_
  rintro e w' ⟨⟨u, v, rfl, ru, rv⟩, rfl⟩
  go_wp2_with fail
  refine wp_loop_rounds 3 ?_
  rw [rounds_succ]
  go_wp2_with fail
  rw [rounds_succ]
  go_wp2_with fail
  rw [rounds_succ]
  go_wp2_with fail
  refine (sides_c u v _ _ ru rv hp hq _).mono ?_
  rintro e w' ⟨rfl, rfl⟩
  go_wp2_with fail
  go_ret
  exact ⟨rfl, hb1⟩
set_option maxRecDepth 100000 in
set_option maxHeartbeats 1000000 in
theorem ptimes_t01 (a b n : Int) (w : World) (ha : in53 a = true) (hb : in53 b = true) (hn : in53 n = true) (hp : in53 (a * n) = true) (hq : in53 (b * n) = true) (wa : IntKind.i64.wrap (a * n) = a * n) (wb : IntKind.i64.wrap (b * n) = b * n) (hn' : -9007199254740992 ≤ n ∧ n ≤ 9007199254740992) (tn : (n != 0) = true) (vp : (1 : Int) ≤ max n (-n)) (vp0 : (0 : Int) ≤ max n (-n)) (ta : (a != 0) = false) (tb : (b != 0) = true) (qb : (max b (-b) ≤ (9007199254740992 : Int) / max n (-n))) : Calls Try.prog 6 #[.int .i64 a, .int .i64 b, .int .i64 n] w fun e w' => e = .returned (.bool true) ∧ Below w.heap.size w w' := by
  have ha' := in53_iff.1 ha
  have hb' := in53_iff.1 hb
  have ra := fb_rep a ha'
  have rb := fb_rep b hb'
  have z := eq_rep rep_zero rep_zero
  simp only [beq_self_eq_true] at z
  have i0 : ∀ w, (Instr.index 39 (.agg #[.int .i64 a, .int .i64 b]) (.int .i64 0)).run Try.prog w = .ok (.int .i64 a) w := fun _ => by kernel_rfl
  have i1 : ∀ w, (Instr.index 39 (.agg #[.int .i64 a, .int .i64 b]) (.int .i64 1)).run Try.prog w = .ok (.int .i64 b) w := fun _ => by kernel_rfl
  have hp' := in53_iff.1 hp
  have hq' := in53_iff.1 hq
  go_enter Try.func6, Try.ntmps6
  go_wp2_with fail
  refine (both_c _).mono ?_
  rintro e w1 ⟨rfl, hb1⟩
  go_wp2_with fail
  refine (of_t a b ha hb _).mono ?_
  rintro e w' ⟨rfl, rfl⟩
  go_wp2_with fail
  refine (times_t _ _ a b _ ra rb ha hb hn hp hq _).mono ?_
  rintro e w' ⟨⟨u, v, rfl, ru, rv⟩, rfl⟩
  go_wp2_with fail
  refine wp_loop_rounds 3 ?_
  rw [rounds_succ]
  go_wp2_with fail
  rw [rounds_succ]
  go_wp2_with fail
  rw [rounds_succ]
  go_wp2_with fail
  refine (sides_c u v _ _ ru rv hp hq _).mono ?_
  rintro e w' ⟨rfl, rfl⟩
  go_wp2_with fail
  go_ret
  exact ⟨rfl, hb1⟩
set_option maxRecDepth 100000 in
set_option maxHeartbeats 1000000 in
theorem ptimes_t10 (a b n : Int) (w : World) (ha : in53 a = true) (hb : in53 b = true) (hn : in53 n = true) (hp : in53 (a * n) = true) (hq : in53 (b * n) = true) (wa : IntKind.i64.wrap (a * n) = a * n) (wb : IntKind.i64.wrap (b * n) = b * n) (hn' : -9007199254740992 ≤ n ∧ n ≤ 9007199254740992) (tn : (n != 0) = true) (vp : (1 : Int) ≤ max n (-n)) (vp0 : (0 : Int) ≤ max n (-n)) (ta : (a != 0) = true) (qa : (max a (-a) ≤ (9007199254740992 : Int) / max n (-n))) (tb : (b != 0) = false) : Calls Try.prog 6 #[.int .i64 a, .int .i64 b, .int .i64 n] w fun e w' => e = .returned (.bool true) ∧ Below w.heap.size w w' := by
  have ha' := in53_iff.1 ha
  have hb' := in53_iff.1 hb
  have ra := fb_rep a ha'
  have rb := fb_rep b hb'
  have z := eq_rep rep_zero rep_zero
  simp only [beq_self_eq_true] at z
  have i0 : ∀ w, (Instr.index 39 (.agg #[.int .i64 a, .int .i64 b]) (.int .i64 0)).run Try.prog w = .ok (.int .i64 a) w := fun _ => by kernel_rfl
  have i1 : ∀ w, (Instr.index 39 (.agg #[.int .i64 a, .int .i64 b]) (.int .i64 1)).run Try.prog w = .ok (.int .i64 b) w := fun _ => by kernel_rfl
  have hp' := in53_iff.1 hp
  have hq' := in53_iff.1 hq
  go_enter Try.func6, Try.ntmps6
  go_wp2_with fail
  refine (both_c _).mono ?_
  rintro e w1 ⟨rfl, hb1⟩
  go_wp2_with fail
  refine (of_t a b ha hb _).mono ?_
  rintro e w' ⟨rfl, rfl⟩
  go_wp2_with fail
  refine (times_t _ _ a b _ ra rb ha hb hn hp hq _).mono ?_
  rintro e w' ⟨⟨u, v, rfl, ru, rv⟩, rfl⟩
  go_wp2_with fail
  refine wp_loop_rounds 3 ?_
  rw [rounds_succ]
  go_wp2_with fail
  rw [rounds_succ]
  go_wp2_with fail
  rw [rounds_succ]
  go_wp2_with fail
  refine (sides_c u v _ _ ru rv hp hq _).mono ?_
  rintro e w' ⟨rfl, rfl⟩
  go_wp2_with fail
  go_ret
  exact ⟨rfl, hb1⟩
set_option maxRecDepth 100000 in
set_option maxHeartbeats 1000000 in
theorem ptimes_t11 (a b n : Int) (w : World) (ha : in53 a = true) (hb : in53 b = true) (hn : in53 n = true) (hp : in53 (a * n) = true) (hq : in53 (b * n) = true) (wa : IntKind.i64.wrap (a * n) = a * n) (wb : IntKind.i64.wrap (b * n) = b * n) (hn' : -9007199254740992 ≤ n ∧ n ≤ 9007199254740992) (tn : (n != 0) = true) (vp : (1 : Int) ≤ max n (-n)) (vp0 : (0 : Int) ≤ max n (-n)) (ta : (a != 0) = true) (qa : (max a (-a) ≤ (9007199254740992 : Int) / max n (-n))) (tb : (b != 0) = true) (qb : (max b (-b) ≤ (9007199254740992 : Int) / max n (-n))) : Calls Try.prog 6 #[.int .i64 a, .int .i64 b, .int .i64 n] w fun e w' => e = .returned (.bool true) ∧ Below w.heap.size w w' := by
  have ha' := in53_iff.1 ha
  have hb' := in53_iff.1 hb
  have ra := fb_rep a ha'
  have rb := fb_rep b hb'
  have z := eq_rep rep_zero rep_zero
  simp only [beq_self_eq_true] at z
  have i0 : ∀ w, (Instr.index 39 (.agg #[.int .i64 a, .int .i64 b]) (.int .i64 0)).run Try.prog w = .ok (.int .i64 a) w := fun _ => by kernel_rfl
  have i1 : ∀ w, (Instr.index 39 (.agg #[.int .i64 a, .int .i64 b]) (.int .i64 1)).run Try.prog w = .ok (.int .i64 b) w := fun _ => by kernel_rfl
  have hp' := in53_iff.1 hp
  have hq' := in53_iff.1 hq
  go_enter Try.func6, Try.ntmps6
  go_wp2_with fail
  refine (both_c _).mono ?_
  rintro e w1 ⟨rfl, hb1⟩
  go_wp2_with fail
  refine (of_t a b ha hb _).mono ?_
  rintro e w' ⟨rfl, rfl⟩
  go_wp2_with fail
  refine (times_t _ _ a b _ ra rb ha hb hn hp hq _).mono ?_
  rintro e w' ⟨⟨u, v, rfl, ru, rv⟩, rfl⟩
  go_wp2_with fail
  refine wp_loop_rounds 3 ?_
  rw [rounds_succ]
  go_wp2_with fail
  rw [rounds_succ]
  go_wp2_with fail
  rw [rounds_succ]
  go_wp2_with fail
  refine (sides_c u v _ _ ru rv hp hq _).mono ?_
  rintro e w' ⟨rfl, rfl⟩
  go_wp2_with fail
  go_ret
  exact ⟨rfl, hb1⟩
theorem pairTimes_walk (a b n : Int) (w : World) : Calls Try.prog 6 #[.int .i64 a, .int .i64 b, .int .i64 n] w fun e w' => e = .returned (.bool true) ∧ Below w.heap.size w w' := by
  by_cases h : in53 a = true ∧ in53 b = true
  case neg => exact ptimes_a a b n w h
  obtain ⟨ha, hb⟩ := h
  by_cases hn : in53 n = true
  case neg =>
    have hn' := in53_not.1 (by simpa using hn : in53 n = false)
    have H : Hid (¬ (in53 n = true ∧ in53 (a * n) = true ∧ in53 (b * n) = true)) := fun h => hn h.1
    by_cases h1 : 9007199254740992 < n
    · exact ptimes_hi a b n w ha hb H h1
    · exact ptimes_lo a b n w ha hb H (by omega)
  by_cases n0 : n = 0
  · subst n0
    cases ta : a != 0 <;> cases tb : b != 0
    · exact ptimes_zff a b ta tb w ha hb
    · exact ptimes_zft a b ta tb w ha hb
    · exact ptimes_ztf a b ta tb w ha hb
    · exact ptimes_ztt a b ta tb w ha hb
  have hn' := in53_iff.1 hn
  have tn : (n != 0) = true := by simpa using n0
  have vp : (1 : Int) ≤ max n (-n) := by omega
  have vp0 : (0 : Int) ≤ max n (-n) := by omega
  have KA := div_key a n n0
  have KB := div_key b n n0
  by_cases hp : in53 (a * n) = true
  case neg =>
    have a0 : a ≠ 0 := fun e => hp (by rw [e, Int.zero_mul]; decide)
    exact ptimes_o1 a b n w ha hb (fun h => hp h.2.1) hn' tn vp vp0 (by simpa using a0) (decide_eq_false fun h => hp (KA.1 h))
  by_cases hq : in53 (b * n) = true
  case neg =>
    have b0 : b ≠ 0 := fun e => hq (by rw [e, Int.zero_mul]; decide)
    by_cases a0 : a = 0
    · exact ptimes_o20 a b n w ha hb (fun h => hq h.2.2) hn' tn vp vp0 (by simpa using a0) (by simpa using b0) (decide_eq_false fun h => hq (KB.1 h))
    · exact ptimes_o21 a b n w ha hb (fun h => hq h.2.2) hn' tn vp vp0 (by simpa using a0) (KA.2 hp) (by simpa using b0) (decide_eq_false fun h => hq (KB.1 h))
  have wa := wrap_in53 _ hp
  have wb := wrap_in53 _ hq
  by_cases a0 : a = 0 <;> by_cases b0 : b = 0
  · exact ptimes_t00 a b n w ha hb hn hp hq wa wb hn' tn vp vp0 (by simpa using a0) (by simpa using b0)
  · exact ptimes_t01 a b n w ha hb hn hp hq wa wb hn' tn vp vp0 (by simpa using a0) (by simpa using b0) (KB.2 hq)
  · exact ptimes_t10 a b n w ha hb hn hp hq wa wb hn' tn vp vp0 (by simpa using a0) (KA.2 hp) (by simpa using b0)
  · exact ptimes_t11 a b n w ha hb hn hp hq wa wb hn' tn vp vp0 (by simpa using a0) (KA.2 hp) (by simpa using b0) (KB.2 hq)
--%%
end Go.Proofs.Ytppkgfkhnnibcaa
