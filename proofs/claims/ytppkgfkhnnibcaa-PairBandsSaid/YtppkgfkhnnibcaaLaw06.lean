/-
  Layer 6's laws: the walk of what all of them ask first. No conditions.
-/
import Derived.Test.YtppkgfkhnnibcaaPair3
namespace Go.Proofs.Ytppkgfkhnnibcaa
set_option linter.unusedVariables false
open Go.RowKit
--%%
theorem rep25 : Rep 4627730092099895296 25 := ⟨false, 7036874417766400, -48, 48, by decide +kernel, by decide, by decide⟩
theorem rep50 : Rep 4632233691727265792 50 := ⟨false, 7036874417766400, -47, 47, by decide +kernel, by decide, by decide⟩
def bb : List Bd := [⟨0, 0, 0⟩, ⟨100, 2000, 1000⟩]
theorem bb_err : bandsErr bb = 0 := by decide +kernel
theorem bb_r : bandS (·.r) bb 350 = 500000 := by decide +kernel
theorem bb_e : bandS (·.e) bb 350 = 250000 := by decide +kernel
theorem bb_sl (w : World) : BandSl (w.alloc (.cells #[.int .i64 0, .int .i64 0, .int .i64 0, .int .i64 100, .int .i64 2000, .int .i64 1000] 60)) (some ⟨w.heap.size, 0, none⟩) 2 bb := by
  refine ⟨rfl, by decide, fun _ => ⟨w.heap.size, 0, rfl, by simp, fun k hk => ?_⟩⟩
  rcases (show k = 0 ∨ k = 1 from by simp [bb] at hk; omega) with rfl | rfl <;> simp [bb, bd0]
theorem sh_sl (w : World) (a b c d : Int) : ShareSl (w.alloc (.cells #[.int .i64 a, .int .i64 b, .int .i64 c, .int .i64 d] 36)) (some ⟨w.heap.size, 0, none⟩) 2 [⟨a, b⟩, ⟨c, d⟩] := by
  refine ⟨rfl, by decide, fun _ => ⟨w.heap.size, 0, rfl, by simp, fun k hk => ?_⟩⟩
  rcases (show k = 0 ∨ k = 1 from by simp at hk; omega) with rfl | rfl <;> simp
theorem both_c (w : World) : Calls Try.prog 8 #[] w fun e w' => e = .returned (.bool true) ∧ Below w.heap.size w w' := by
  go_enter Try.func8, Try.ntmps8
  go_wp2_with fail
  refine (banded_t 350 bb _ 2 _ _ (bb_sl w) bb_err (by decide)).mono ?_
  rintro e w1 ⟨⟨u, v, rfl, ru, rv⟩, hb1⟩
  rw [bb_r] at ru
  rw [bb_e] at rv
  go_wp2_with fail
  refine (sides_c u v _ _ ru rv (by decide) (by decide) _).mono ?_
  rintro e w' ⟨rfl, rfl⟩
  go_wp2_with fail
  refine (pcoins_t u v _ _ 1 ru rv (by decide) (by decide) (by decide) _).mono ?_
  rintro e w2 ⟨rfl, hb2⟩
  rw [show roundI 500000 10000 1 = 50 from by decide, show roundI 250000 10000 1 = 25 from by decide]
  go_wp2_with fail
  refine (share_t 50 25 (by decide) (by decide) _).mono ?_
  rintro e w3 ⟨rfl, hb3⟩
  have s0 := (Blk.mk w2 _ _).below hb3 (by simp)
  obtain ⟨p1, p2, p3, p4⟩ := s0.all2
  go_wp2_with fail
  refine (total_c [⟨50, 25⟩, ⟨50, 25⟩] _ 2 _ _ (sh_sl w3 50 25 50 25)).mono ?_
  rintro e w4 ⟨⟨_, rfl⟩ | ⟨hno, _⟩, hb4⟩
  case inr => exact absurd hno (by decide)
  rw [show sumTo (fun i => (([⟨50, 25⟩, ⟨50, 25⟩] : List Sh).getD i sh0).a) 2 = 100 from by decide, show sumTo (fun i => (([⟨50, 25⟩, ⟨50, 25⟩] : List Sh).getD i sh0).b) 2 = 50 from by decide]
  have s1 := (s0.alloc (.cells #[.int .i64 50, .int .i64 25, .int .i64 50, .int .i64 25] 36)).below hb4 (by have := s0.lt; simp; omega)
  have s2 := s1.alloc (.cells #[.int .i64 100, .int .i64 50] 36)
  have s3 := (Blk.mk w4 36 #[.int .i64 100, .int .i64 50])
  obtain ⟨q1, q2, q3, q4⟩ := s2.all2
  obtain ⟨q5, q6, q7, q8⟩ := s3.all2
  go_wp2_with fail
  refine (of_t 50 25 (by decide) (by decide) _).mono ?_
  rintro e w' ⟨rfl, rfl⟩
  have c1 := eq_rep (fb_rep 50 (by decide)) (fb_rep 50 (by decide))
  have c2 := eq_rep (fb_rep 25 (by decide)) (fb_rep 25 (by decide))
  have c3 := eq_rep (fb_rep 25 (by decide)) rep25
  have c4 := eq_rep (fb_rep 50 (by decide)) rep50
  simp only [beq_self_eq_true] at c1 c2 c3 c4
  go_wp2_with fail
  refine (swap_c _ _ _).mono ?_
  rintro e w' ⟨rfl, rfl⟩
  go_wp2_with fail
  go_ret
  have hz1 := hb1.size
  have hz2 := hb2.size
  have hz3 := hb3.size
  have hz4 := hb4.size
  simp at hz1 hz2 hz3 hz4
  refine ⟨rfl, ?_⟩
  refine Below.alloc ?_ (by omega) _
  refine Below.trans ?_ (hb4.mono (by simp; omega))
  refine Below.alloc ?_ (by omega) _
  refine Below.trans ?_ (hb3.mono (by simp; omega))
  refine Below.alloc ?_ (by omega) _
  refine Below.trans ?_ (hb2.mono (by omega))
  exact (below1 _ _).trans (hb1.mono (by simp))
--%%
theorem lright_t (x : Int) (h : in53 x = true) (w : World) : Calls Try.prog 10 #[.int .i64 x] w fun e w' => e = .returned (.bool true) ∧ w = w' := by
  have h' := in53_iff.1 h
  go_enter Try.func10, Try.ntmps10
  go_wp2
  go_ret
  exact ⟨rfl, rfl⟩
theorem lright_f (x : Int) (h : in53 x = false) (w : World) : Calls Try.prog 10 #[.int .i64 x] w fun e w' => e = .returned (.bool false) ∧ w = w' := by
  have h' := in53_not.1 h
  by_cases h1 : x < -9007199254740992
  · clear h'
    go_enter Try.func10, Try.ntmps10
    go_wp2
    go_ret
    exact ⟨rfl, rfl⟩
  · have h2 : 9007199254740992 < x := by omega
    clear h'
    go_enter Try.func10, Try.ntmps10
    go_wp2
    go_ret
    exact ⟨ret_bool (by simp; omega), rfl⟩
theorem lright_c (x : Int) (w : World) : Calls Try.prog 10 #[.int .i64 x] w fun e w' => e = .returned (.bool (in53 x)) ∧ w = w' := by
  cases h : in53 x
  · exact lright_f x h w
  · exact lright_t x h w
--%%
theorem pairSides_walk (a b : Int) (w : World) : Calls Try.prog 3 #[.int .i64 a, .int .i64 b] w fun e w' => e = .returned (.bool true) ∧ Below w.heap.size w w' := by
  have z := eq_rep rep_zero rep_zero
  simp only [beq_self_eq_true] at z
  by_cases h : in53 a = true ∧ in53 b = true
  · obtain ⟨ha, hb⟩ := h
    have ra := fb_rep a (in53_iff.1 ha)
    have rb := fb_rep b (in53_iff.1 hb)
    go_enter Try.func3, Try.ntmps3
    go_wp2_with fail
    refine (both_c _).mono ?_
    rintro e w1 ⟨rfl, hb1⟩
    go_wp2_with fail
    refine (of_t a b ha hb _).mono ?_
    rintro e w' ⟨rfl, rfl⟩
    go_wp2_with fail
    refine (lright_c a _).mono ?_
    rintro e w' ⟨rfl, rfl⟩
    go_wp2_with fail
    refine (lright_c b _).mono ?_
    rintro e w' ⟨rfl, rfl⟩
    go_wp2_with fail
    refine (sides_c _ _ a b ra rb ha hb _).mono ?_
    rintro e w' ⟨rfl, rfl⟩
    go_wp2_with fail
    refine (swap_c _ _ _).mono ?_
    rintro e w' ⟨rfl, rfl⟩
    go_wp2_with fail
    refine (sides_c _ _ b a rb ra hb ha _).mono ?_
    rintro e w' ⟨rfl, rfl⟩
    go_wp2_with fail
    refine (pright_c _ _ a b ra rb ha hb _).mono ?_
    rintro e w' ⟨rfl, rfl⟩
    go_wp2_with fail
    go_ret
    exact ⟨rfl, hb1⟩
  · have H := Lib.hid h
    by_cases ha : in53 a = true
    · have hb : in53 b = false := by
        cases hh : in53 b with
        | false => rfl
        | true => exact absurd ⟨ha, hh⟩ h
      clear h
      go_enter Try.func3, Try.ntmps3
      go_wp2_with fail
      refine (both_c _).mono ?_
      rintro e w1 ⟨rfl, hb1⟩
      go_wp2_with fail
      refine (of_f a b H.out _).mono ?_
      rintro e w' ⟨rfl, rfl⟩
      go_wp2_with fail
      refine (lright_c a _).mono ?_
      rintro e w' ⟨rfl, rfl⟩
      go_wp2_with fail
      refine (lright_c b _).mono ?_
      rintro e w' ⟨rfl, rfl⟩
      go_wp2_with fail
      go_ret
      exact ⟨rfl, hb1⟩
    · have ha' : in53 a = false := by simpa using ha
      clear h ha
      go_enter Try.func3, Try.ntmps3
      go_wp2_with fail
      refine (both_c _).mono ?_
      rintro e w1 ⟨rfl, hb1⟩
      go_wp2_with fail
      refine (of_f a b H.out _).mono ?_
      rintro e w' ⟨rfl, rfl⟩
      go_wp2_with fail
      refine (lright_c a _).mono ?_
      rintro e w' ⟨rfl, rfl⟩
      go_wp2_with fail
      go_ret
      exact ⟨rfl, hb1⟩
--%%
end Go.Proofs.Ytppkgfkhnnibcaa
