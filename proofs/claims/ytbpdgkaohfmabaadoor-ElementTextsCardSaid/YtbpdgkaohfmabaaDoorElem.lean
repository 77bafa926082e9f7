/-
  Contracts of element.Value and Of. Conditions as named.
-/
import Derived.Test.YtbpdgkaohfmabaaDoorFrac
import Derived.Test.YtbpdgkaohfmabaaDoorOpen2
import Derived.Test.YtbpdgkaohfmabaaDoorVoc3
namespace Go.Proofs.YtbpdgkaohfmabaaDoor
set_option linter.unusedVariables false
open Go.RowKit
/-- an element -/
structure El where
  k : ByteArray
  a : Int
  u : Int
def el0 : El := ⟨⟨#[]⟩, 0, 0⟩
def elC (z : El) : List Value := [.string z.k, .int .i64 z.a, .int .i64 z.u]
theorem elC_len (z : El) : (elC z).length = 3 := rfl
abbrev ElSl := RowSl elC 3 el0
/-- why an element may not be -/
def elE (a u : Int) : Int :=
  if mrB a = false then 10 else if u < 0 ∨ 100000 < u then 1 else if mrB (roundI (a * u) 100 4) = true then 0 else 10
/-- what it is worth -/
def elV (a u : Int) : Int := if elE a u = 0 then roundI (a * u) 100 4 else 0
theorem mul_bde {x r A B : Int} (h1 : -A ≤ x) (h2 : x ≤ A) (h3 : 0 ≤ r) (h4 : r ≤ B) (hA : 0 ≤ A) : -(A * B) ≤ x * r ∧ x * r ≤ A * B := by
  have e1 : x * r ≤ A * r := Int.mul_le_mul_of_nonneg_right h2 h3
  have e2 : A * r ≤ A * B := Int.mul_le_mul_of_nonneg_left h4 hA
  have e3 : -A * r ≤ x * r := Int.mul_le_mul_of_nonneg_right h1 h3
  rw [Int.neg_mul] at e3
  omega
theorem mulu_bd {a u : Int} (h : mrB a = true) (h0 : 0 ≤ u) (h1 : u ≤ 100000) : -10000000000000000 ≤ a * u ∧ a * u ≤ 10000000000000000 := by
  have := mr_iff.1 h
  exact mul_bde (A := 100000000000) (B := 100000) this.1 this.2 h0 h1 (by decide)
/-- to the nearest -/
theorem round4 (p : Int) : 2 * (100 * roundI p 100 4 - p) ≤ 100 ∧ 2 * (p - 100 * roundI p 100 4) ≤ 100 := by
  have e := Int.emod_add_mul_ediv p 100
  have l0 := Int.emod_nonneg p (show (100 : Int) ≠ 0 by decide)
  have l1 := Int.emod_lt_of_pos p (show (0 : Int) < 100 by decide)
  unfold roundI
  generalize p % 100 = r at *
  generalize p / 100 = q at *
  by_cases h : (decide (0 < r) && nearB q r 100 4) = true
  · rw [if_pos h]
    simp only [Bool.and_eq_true, decide_eq_true_eq, nearB] at h
    obtain ⟨hr, h⟩ := h
    simp at h
    by_cases h5 : r = 100 - r
    · omega
    · simp [h5] at h; omega
  · rw [if_neg h]
    simp only [Bool.and_eq_true, decide_eq_true_eq, nearB, not_and] at h
    simp at h
    by_cases h5 : r = 100 - r
    · omega
    · simp [h5] at h
      by_cases hr : 0 < r
      · have := h hr; omega
      · omega
--%%
set_option maxHeartbeats 1600000 in
theorem evalue_c (k : ByteArray) (a u : Int) (w : World) (ev ee : Int) (hv : Hid (ev = elV a u)) (he : Hid (ee = elE a u)) :
    Calls Tryd.prog 10 #[.agg #[.string k, .int .i64 a, .int .i64 u]] w fun e w' => e = .returned (.tuple #[.int .i64 ev, .int .i64 ee]) ∧ Below w.heap.size w w' := by
  have hb0 := below1 w (.cells #[.string k, .int .i64 a, .int .i64 u] 23)
  have z := Blk.mk w 23 #[.string k, .int .i64 a, .int .i64 u]
  have hb1 := bA hb0 (.cells #[.int .i64 a] 2)
  have z1 := z.alloc (.cells #[.int .i64 a] 2)
  by_cases h1 : mrB a = true
  case neg =>
    have h1' : mrB a = false := by simpa using h1
    have e1 : ee = 10 := by rw [he.out]; unfold elE; rw [if_pos h1']
    have e2 : ev = 0 := by rw [hv.out]; unfold elV; rw [if_neg]; unfold elE; rw [if_pos h1']; decide
    subst e1; subst e2
    clear h1 he hv
    go_enter Tryd.func10, Tryd.ntmps10
    go_wp2_with fail
    refine (right1 _ _ _ a _ (by simp [cell_alloc])).mono ?_
    rintro e w1 ⟨rfl, rfl⟩
    go_wp2_with fail
    go_ret2
    exact ⟨rfl, hb1⟩
  have q1 := z1.cell 1
  have q2 := z1.cell 2
  by_cases h2 : u < 0
  · have e1 : ee = 1 := by rw [he.out]; unfold elE; rw [if_neg (by simp [h1]), if_pos (Or.inl h2)]
    have e2 : ev = 0 := by rw [hv.out]; unfold elV; rw [if_neg]; unfold elE; rw [if_neg (by simp [h1]), if_pos (Or.inl h2)]; decide
    have v : decide (u < 0) = true := by simpa using h2
    subst e1; subst e2
    clear he hv h2
    go_enter Tryd.func10, Tryd.ntmps10
    go_wp2_with fail
    refine (right1 _ _ _ a _ (by simp [cell_alloc])).mono ?_
    rintro e w1 ⟨rfl, rfl⟩
    go_wp2_with fail
    go_ret2
    exact ⟨rfl, hb1⟩
  have v2 : decide (u < 0) = false := by simpa using h2
  by_cases h3 : 100000 < u
  · have e1 : ee = 1 := by rw [he.out]; unfold elE; rw [if_neg (by simp [h1]), if_pos (Or.inr h3)]
    have e2 : ev = 0 := by rw [hv.out]; unfold elV; rw [if_neg]; unfold elE; rw [if_neg (by simp [h1]), if_pos (Or.inr h3)]; decide
    have v : decide (100000 < u) = true := by simpa using h3
    subst e1; subst e2
    clear he hv h2 h3
    go_enter Tryd.func10, Tryd.ntmps10
    go_wp2_with fail
    refine (right1 _ _ _ a _ (by simp [cell_alloc])).mono ?_
    rintro e w1 ⟨rfl, rfl⟩
    go_wp2_with fail
    go_ret2
    exact ⟨rfl, hb1⟩
  have v3 : decide (100000 < u) = false := by simpa using h3
  have hE : elE a u = if mrB (roundI (a * u) 100 4) = true then 0 else 10 := by unfold elE; rw [if_neg (by simp [h1]), if_neg (by omega)]
  have hm := mulu_bd h1 (show 0 ≤ u by omega) (show u ≤ 100000 by omega)
  have K := Lib.hid (round_c (a * u) 100 4 · (by omega) (by omega) (by decide) (by decide) (by decide))
  have hrb := round_bd (a * u) 100 4 (by decide) 10000000000000000 (by decide) hm.1 hm.2
  have hV : elV a u = if mrB (roundI (a * u) 100 4) = true then roundI (a * u) 100 4 else 0 := by
    unfold elV; rw [hE]; by_cases h : mrB (roundI (a * u) 100 4) = true
    · rw [if_pos h, if_pos h, if_pos rfl]
    · rw [if_neg h, if_neg h, if_neg (by decide)]
  have hw : IntKind.i64.wrap (a * u) = a * u := by rw [IntKind.wrap_i64]; omega
  generalize roundI (a * u) 100 4 = rr at *
  by_cases h4 : mrB rr = true
  · have e1 : ee = 0 := by rw [he.out, hE, if_pos h4]
    have e2 : ev = rr := by rw [hv.out, hV, if_pos h4]
    subst e1; subst e2
    clear he hv h2 h3 hE hV hm hrb
    go_enter Tryd.func10, Tryd.ntmps10
    go_wp2_with fail
    refine (right1 _ _ _ a _ (by simp [cell_alloc])).mono ?_
    rintro e w1 ⟨rfl, rfl⟩
    go_wp2_with fail
    refine (K.out _).mono ?_
    rintro e w2 ⟨rfl, hb2⟩
    have hb3 := bA (bT hb1 hb2) (.cells #[.int .i64 ev] 2)
    go_wp2_with fail
    refine (right1 _ _ _ ev _ (by simp [cell_alloc])).mono ?_
    rintro e w3 ⟨rfl, rfl⟩
    go_wp2_with fail
    go_ret2
    exact ⟨rfl, hb3⟩
  · have h4' : mrB rr = false := by simpa using h4
    have e1 : ee = 10 := by rw [he.out, hE, if_neg h4]
    have e2 : ev = 0 := by rw [hv.out, hV, if_neg h4]
    subst e1; subst e2
    clear he hv h2 h3 hE hV hm hrb h4
    go_enter Tryd.func10, Tryd.ntmps10
    go_wp2_with fail
    refine (right1 _ _ _ a _ (by simp [cell_alloc])).mono ?_
    rintro e w1 ⟨rfl, rfl⟩
    go_wp2_with fail
    refine (K.out _).mono ?_
    rintro e w2 ⟨rfl, hb2⟩
    have hb3 := bA (bT hb1 hb2) (.cells #[.int .i64 rr] 2)
    go_wp2_with fail
    refine (right1 _ _ _ rr _ (by simp [cell_alloc])).mono ?_
    rintro e w3 ⟨rfl, rfl⟩
    go_wp2_with fail
    go_ret2
    exact ⟨rfl, hb3⟩
--%%
theorem eof_c (k : ByteArray) (a : Int) (w : World) :
    Calls Tryd.prog 17 #[.string k, .int .i64 a] w fun e w' => e = .returned (.agg #[.string k, .int .i64 a, .int .i64 100]) ∧ Below w.heap.size w w' := by
  have hb0 := below1 w (.cells #[.string ⟨#[]⟩, .int .i64 0, .int .i64 0] 23)
  go_enter Tryd.func17, Tryd.ntmps17
  go_wp2_with fail
  have q := Blk.mk w 23 #[.string k, .int .i64 a, .int .i64 100]
  have q0 := q.cell 0
  have q1 := q.cell 1
  have q2 := q.cell 2
  refine bodyPost_ret (v := .agg #[.string k, .int .i64 a, .int .i64 100]) (by simp [results, Tryd.results17, go_sem, q0, q1, q2]) rfl ⟨rfl, ?_⟩
  exact below1 w _
--%%
end Go.Proofs.YtbpdgkaohfmabaaDoor
