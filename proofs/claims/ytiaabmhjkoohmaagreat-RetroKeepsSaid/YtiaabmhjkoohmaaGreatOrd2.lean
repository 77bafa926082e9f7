/-
 Contract of order.Check. No conditions.
-/
import Derived.Test.YtiaabmhjkoohmaaGreatM0
namespace Go.Proofs.YtiaabmhjkoohmaaGreat
set_option maxRecDepth 100000
set_option maxHeartbeats 25600000
set_option linter.unusedVariables false
set_option linter.unusedSimpArgs false
open Go.RowKit Tryz
open Lib (hid)
def orE (id pr am ra to : Int) : Int :=
 if id < 1 ∨ 999999 < id ∨ pr < 0 ∨ 999 < pr then 1
 else if ¬ (mrB am = true ∧ mrB to = true) then 10
 else if am < 0 ∨ to < 0 then 1
 else if rateB ra = false then 50
 else if am = 0 ∧ ra = 0 then 5
 else 0
theorem orE_ok {id pr am ra to : Int} (h : orE id pr am ra to = 0) : OrOK id pr am ra to := by
 unfold orE at h
 by_cases h1 : id < 1 ∨ 999999 < id ∨ pr < 0 ∨ 999 < pr
 ·
  rw [if_pos h1] at h; cases h
 rw [if_neg h1] at h
 by_cases h2 : mrB am = true ∧ mrB to = true
 case neg => rw [if_pos h2] at h; cases h
 rw [if_neg (fun h => h h2)] at h
 by_cases h3 : am < 0 ∨ to < 0
 ·
  rw [if_pos h3] at h; cases h
 rw [if_neg h3] at h
 by_cases h4 : rateB ra = false
 ·
  rw [if_pos h4] at h; cases h
 rw [if_neg h4] at h
 by_cases h5 : am = 0 ∧ ra = 0
 ·
  rw [if_pos h5] at h; cases h
 have m1 := miz.1 h2.1
 have m2 := miz.1 h2.2
 have m4 := riz.1 (by simpa using h4)
 exact ⟨by omega, by omega, by omega, by omega, m4, h5⟩
--%
theorem ocheck_c (id pr am ra to : Int) (w : World) : Calls prog 111 #[.agg #[.int .i64 id, .int .i64 pr, .int .i64 am, .int .i64 ra, .int .i64 to]] w fun e w' => e = .returned (.int .i64 (orE id pr am ra to)) ∧ Below w.heap.size w w' := by
 obtain ⟨r, hr⟩ : ∃ r, r = orE id pr am ra to := ⟨_, rfl⟩
 rw [← hr]
 have HR := hid hr
 clear hr
 have hb0 := bz1 w (.cells #[.int .i64 id, .int .i64 pr, .int .i64 am, .int .i64 ra, .int .i64 to] 37)
 have z := Blk.mk w 37 #[.int .i64 id, .int .i64 pr, .int .i64 am, .int .i64 ra, .int .i64 to]
 have hb1 := bA hb0 (.cells #[.int .i64 am, .int .i64 to] 2)
 by_cases h1 : id < 1
 ·
  have vh1 : decide (id < 1) = true := by simpa using h1
  have e : r = 1 := by rw [HR.out]; unfold orE; rw [if_pos (Or.inl h1)]
  subst e
  clear HR h1
  go_enter func111, ntmps111
  go_wp2_with fail
  go_ret
  exact ⟨rfl, hb0⟩
 have vh1 : decide (id < 1) = false := by simpa using h1
 by_cases h2 : 999999 < id
 ·
  have vh2 : decide (999999 < id) = true := by simpa using h2
  have e : r = 1 := by rw [HR.out]; unfold orE; rw [if_pos (Or.inr (Or.inl h2))]
  subst e
  clear HR h2
  go_enter func111, ntmps111
  go_wp2_with fail
  go_ret
  exact ⟨rfl, hb0⟩
 have vh2 : decide (999999 < id) = false := by simpa using h2
 by_cases h3 : pr < 0
 ·
  have vh3 : decide (pr < 0) = true := by simpa using h3
  have e : r = 1 := by rw [HR.out]; unfold orE; rw [if_pos (Or.inr (Or.inr (Or.inl h3)))]
  subst e
  clear HR h3
  go_enter func111, ntmps111
  go_wp2_with fail
  go_ret
  exact ⟨rfl, hb0⟩
 have vh3 : decide (pr < 0) = false := by simpa using h3
 by_cases h4 : 999 < pr
 ·
  have vh4 : decide (999 < pr) = true := by simpa using h4
  have e : r = 1 := by rw [HR.out]; unfold orE; rw [if_pos (Or.inr (Or.inr (Or.inr h4)))]
  subst e
  clear HR h4
  go_enter func111, ntmps111
  go_wp2_with fail
  go_ret
  exact ⟨rfl, hb0⟩
 have vh4 : decide (999 < pr) = false := by simpa using h4
 have n1 : ¬ (id < 1 ∨ 999999 < id ∨ pr < 0 ∨ 999 < pr) := by omega
 have HN1 := hid n1
 clear n1 h1 h2 h3 h4
 by_cases h5 : mrB am = true ∧ mrB to = true
 case neg =>
  have v5 : (mrB am && mrB to) = false := by simpa using h5
  have e : r = 10 := by rw [HR.out]; unfold orE; rw [if_neg HN1.out, if_pos h5]
  subst e
  clear HR h5
  go_enter func111, ntmps111
  go_wp2_with fail
  refine (right2 _ _ _ am to _ (by simp) (by simp)).mono ?_
  rintro e w1 ⟨rfl, rfl⟩
  go_wp2_with fail
  go_ret
  exact ⟨rfl, hb1⟩
 have v5 : (mrB am && mrB to) = true := by simpa using h5
 have H5 := hid h5
 clear h5
 by_cases h6 : am < 0
 ·
  have vh6 : decide (am < 0) = true := by simpa using h6
  have e : r = 1 := by rw [HR.out]; unfold orE; rw [if_neg HN1.out, if_neg (fun h => h H5.out), if_pos (Or.inl h6)]
  subst e
  clear HR h6
  go_enter func111, ntmps111
  go_wp2_with fail
  refine (right2 _ _ _ am to _ (by simp) (by simp)).mono ?_
  rintro e w1 ⟨rfl, rfl⟩
  go_wp2_with fail
  go_ret
  exact ⟨rfl, hb1⟩
 have vh6 : decide (am < 0) = false := by simpa using h6
 by_cases h7 : to < 0
 ·
  have vh7 : decide (to < 0) = true := by simpa using h7
  have e : r = 1 := by rw [HR.out]; unfold orE; rw [if_neg HN1.out, if_neg (fun h => h H5.out), if_pos (Or.inr h7)]
  subst e
  clear HR h7
  go_enter func111, ntmps111
  go_wp2_with fail
  refine (right2 _ _ _ am to _ (by simp) (by simp)).mono ?_
  rintro e w1 ⟨rfl, rfl⟩
  go_wp2_with fail
  go_ret
  exact ⟨rfl, hb1⟩
 have vh7 : decide (to < 0) = false := by simpa using h7
 have n6 : ¬ (am < 0 ∨ to < 0) := by omega
 have HN6 := hid n6
 clear n6 h6 h7
 by_cases h8 : rateB ra = false
 ·
  have e : r = 50 := by rw [HR.out]; unfold orE; rw [if_neg HN1.out, if_neg (fun h => h H5.out), if_neg HN6.out, if_pos h8]
  subst e
  have v8 := h8
  clear HR
  go_enter func111, ntmps111
  go_wp2_with fail
  refine (right2 _ _ _ am to _ (by simp) (by simp)).mono ?_
  rintro e w1 ⟨rfl, rfl⟩
  go_wp2_with fail
  refine (rate_c ra _).mono ?_
  rintro e w1 ⟨rfl, rfl⟩
  go_wp2_with fail
  go_ret
  exact ⟨rfl, hb1⟩
 have v8 : rateB ra = true := by simpa using h8
 have H8 := hid h8
 clear h8
 by_cases h9 : am = 0
 ·
  subst h9
  by_cases h10 : ra = 0
  ·
   subst h10
   have e : r = 5 := by rw [HR.out]; unfold orE; rw [if_neg HN1.out, if_neg (fun h => h H5.out), if_neg HN6.out, if_neg H8.out, if_pos ⟨rfl, rfl⟩]
   subst e
   clear HR
   go_enter func111, ntmps111
   go_wp2_with fail
   refine (right2 _ _ _ 0 to _ (by simp) (by simp)).mono ?_
   rintro e w1 ⟨rfl, rfl⟩
   go_wp2_with fail
   refine (rate_c 0 _).mono ?_
   rintro e w1 ⟨rfl, rfl⟩
   go_wp2_with fail
   go_ret
   exact ⟨rfl, hb1⟩
  ·
   have v10 : (ra == 0) = false := by simpa using h10
   have e : r = 0 := by rw [HR.out]; unfold orE; rw [if_neg HN1.out, if_neg (fun h => h H5.out), if_neg HN6.out, if_neg H8.out, if_neg (fun h => h10 h.2)]
   subst e
   clear HR h10
   go_enter func111, ntmps111
   go_wp2_with fail
   refine (right2 _ _ _ 0 to _ (by simp) (by simp)).mono ?_
   rintro e w1 ⟨rfl, rfl⟩
   go_wp2_with fail
   refine (rate_c ra _).mono ?_
   rintro e w1 ⟨rfl, rfl⟩
   go_wp2_with fail
   go_ret
   exact ⟨rfl, hb1⟩
 ·
  have v9 : (am == 0) = false := by simpa using h9
  have e : r = 0 := by rw [HR.out]; unfold orE; rw [if_neg HN1.out, if_neg (fun h => h H5.out), if_neg HN6.out, if_neg H8.out, if_neg (fun h => h9 h.1)]
  subst e
  clear HR h9
  go_enter func111, ntmps111
  go_wp2_with fail
  refine (right2 _ _ _ am to _ (by simp) (by simp)).mono ?_
  rintro e w1 ⟨rfl, rfl⟩
  go_wp2_with fail
  refine (rate_c ra _).mono ?_
  rintro e w1 ⟨rfl, rfl⟩
  go_wp2_with fail
  go_ret
  exact ⟨rfl, hb1⟩
end Go.Proofs.YtiaabmhjkoohmaaGreat
