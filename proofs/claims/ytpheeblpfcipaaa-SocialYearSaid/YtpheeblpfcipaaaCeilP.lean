/-
  Plain: what a year's contributions come to is within the ceilings' parts. No conditions beyond those named.
-/
import Derived.Test.YtpheeblpfcipaaaSoc4
namespace Go.Proofs.Ytpheeblpfcipaaa
set_option linter.unusedVariables false
open Go.RowKit
/-- the greatest rate of the first k bands -/
def topTo (l : List Bd) : Nat → Int
  | 0 => 0
  | k + 1 => max (topTo l k) (l.getD k bd0).r
theorem top_mono (l : List Bd) (k : Nat) : ∀ d, topTo l k ≤ topTo l (k + d) := by
  intro d
  induction d with
  | zero => exact Int.le_refl _
  | succ d ih => rw [← Nat.add_assoc, topTo]; omega
theorem top_ge (l : List Bd) (k n : Nat) (h : k < n) : (l.getD k bd0).r ≤ topTo l n := by
  have h1 : (l.getD k bd0).r ≤ topTo l (k + 1) := by rw [topTo]; omega
  have h2 := top_mono l (k + 1) (n - (k + 1))
  rw [show k + 1 + (n - (k + 1)) = n by omega] at h2
  omega
theorem top_bd (l : List Bd) (n : Nat) (h : ∀ k, k < n → 0 ≤ (l.getD k bd0).r ∧ (l.getD k bd0).r ≤ 10000) : 0 ≤ topTo l n ∧ topTo l n ≤ 10000 := by
  induction n with
  | zero => exact ⟨Int.le_refl _, by rw [topTo]; decide⟩
  | succ n ih =>
    have h1 := ih (fun k hk => h k (by omega))
    have h2 := h n (by omega)
    rw [topTo]
    omega
theorem prog_top (x T : Int) (f r : Nat → Int) (n : Nat) (hr : ∀ k, k < n → r k ≤ T) : ∀ k, k ≤ n → progS x f r n k ≤ progS x f (fun _ => 1) n k * T := by
  intro k
  induction k with
  | zero => intro _; simp [progS]
  | succ k ih =>
    intro hk
    have h1 := ih (by omega)
    have h2 := hr k (by omega)
    have h3 : 0 ≤ widthI x f n k := by unfold widthI pos; omega
    have h4 := Int.mul_le_mul_of_nonneg_left h2 h3
    rw [progS, progS, Int.mul_one, Int.add_mul]
    omega
theorem prog_one (x : Int) (f : Nat → Int) (n : Nat) (hm : ∀ i, i + 1 < n → f i < f (i + 1)) (hn : 0 < n) (h0 : f 0 = 0) (hx : 0 ≤ x) : progS x f (fun _ => 1) n n = x := by
  rw [← ref_prog x f (fun _ => 1) n hm]
  have key : ∀ k, 0 < k → refS x f (fun _ => 1) k = x := by
    intro k hk
    induction k with
    | zero => omega
    | succ k ih =>
      rw [refS]
      by_cases h : k = 0
      · subst h
        simp only [refS, h0, if_true]
        split <;> omega
      · rw [ih (by omega), if_neg h]
        split <;> omega
  exact key n hn
theorem bandS_top (l : List Bd) (hl : bandsErr l = 0) (x : Int) (hx : 0 ≤ x) : bandS (·.r) l x ≤ x * topTo l l.length := by
  have g := goodB l hl
  have h1 := prog_top x (topTo l l.length) (fun k => (l.getD k bd0).f) (fun k => (l.getD k bd0).r) l.length (fun k hk => top_ge l k l.length hk) l.length (Nat.le_refl _)
  rw [prog_one x (fun k => (l.getD k bd0).f) l.length g.m g.lo g.f0 hx] at h1
  exact h1
theorem round_lt (p m : Int) (hp : 0 ≤ p) : 0 ≤ roundI p 10000 m ∧ (roundI p 10000 m - 1) * 10000 < p := by
  unfold roundI
  by_cases h : 0 < p % 10000
  · split <;> omega
  · have : decide (0 < p % 10000) = false := by simpa using h
    rw [this, Bool.false_and, if_neg (by decide)]
    omega
theorem row_at (cts : List Ct) (l : List Bs) (nc k i : Nat) (hi : i < nc) : (rowY cts l nc k).getD i sh0 = shI (cts.getD i ct0) (xAt cts (l.getD k bs0) (ahd cts l nc k) i) := by
  simp [rowY, rowA, List.getD, hi]
theorem ahd_at (cts : List Ct) (l : List Bs) (nc k i : Nat) (hi : i < nc) : (ahd cts l nc (k + 1)).getD i 0 = (ahd cts l nc k).getD i 0 + xAt cts (l.getD k bs0) (ahd cts l nc k) i := by
  rw [ahd, stepTo]
  simp [List.getD, hi]
theorem ahd_zero (cts : List Ct) (l : List Bs) (nc i : Nat) : (ahd cts l nc 0).getD i 0 = 0 := by
  simp only [ahd, List.getD, List.getElem?_replicate]
  split <;> rfl
/-- one period's share of a contribution -/
theorem share_bd (c : Ct) (hc : CtOK c) (b : Bs) (hb : bsR b = true) (ah : Int) : 0 ≤ xI c b ah ∧ 0 ≤ (shI c (xI c b ah)).a ∧ 0 ≤ (shI c (xI c b ah)).b ∧ (shI c (xI c b ah)).a ≤ 100000000001 ∧ ((shI c (xI c b ah)).a - 1) * 10000 < xI c b ah * topTo c.bands c.bands.length ∧ (0 < c.pc → xI c b ah ≤ c.pc) ∧ (0 < c.yc → xI c b ah ≤ max 0 (c.yc - max 0 ah)) := by
  have h1 := x_bd c b ah hb
  have h2 := bandS_bd c.bands hc.bands (xI c b ah) (mr_t (by omega))
  have h3 := bandS_top c.bands hc.bands (xI c b ah) h1.1
  have h4 := round_lt (bandS (·.r) c.bands (xI c b ah)) c.rd h2.1.1
  have h5 := round_lt (bandS (·.e) c.bands (xI c b ah)) c.rd h2.2.1
  have g := goodB c.bands hc.bands
  have h6 := top_bd c.bands c.bands.length g.r
  have h7 := mul_bd0 h1.1 h1.2 h6.1 h6.2 (by decide)
  refine ⟨h1.1, h4.1, h5.1, ?_, ?_, ?_, ?_⟩
  · have : (roundI (bandS (·.r) c.bands (xI c b ah)) 10000 c.rd - 1) * 10000 < 100000000000 * 10000 := by omega
    show roundI (bandS (·.r) c.bands (xI c b ah)) 10000 c.rd ≤ _
    omega
  · show (roundI (bandS (·.r) c.bands (xI c b ah)) 10000 c.rd - 1) * 10000 < _
    omega
  · intro h
    unfold xI underI
    dsimp only
    rw [if_pos h]
    split <;> omega
  · intro h
    unfold xI underI
    dsimp only
    rw [if_pos h]
    omega
theorem ceil_sum (cts : List Ct) (l : List Bs) (nc i : Nat) (hi : i < nc) (hc : CtOK (cts.getD i ct0)) : ∀ k, (∀ j, j < k → okY cts l nc j = true) →
    0 ≤ sumTo (fun j => ((rowY cts l nc j).getD i sh0).a) k ∧ sumTo (fun j => ((rowY cts l nc j).getD i sh0).a) k ≤ k * 100000000001 ∧ 0 ≤ (ahd cts l nc k).getD i 0 ∧
    (sumTo (fun j => ((rowY cts l nc j).getD i sh0).a) k - k) * 10000 ≤ (ahd cts l nc k).getD i 0 * topTo (cts.getD i ct0).bands (cts.getD i ct0).bands.length ∧
    (0 < k → (sumTo (fun j => ((rowY cts l nc j).getD i sh0).a) k - k) * 10000 < (ahd cts l nc k).getD i 0 * topTo (cts.getD i ct0).bands (cts.getD i ct0).bands.length) ∧
    (0 < (cts.getD i ct0).yc → (ahd cts l nc k).getD i 0 ≤ (cts.getD i ct0).yc) := by
  intro k
  induction k with
  | zero =>
    intro _
    rw [ahd_zero]
    simp only [sumTo]
    refine ⟨by decide, by decide, by decide, by simp, fun h => absurd h (by decide), fun h => by omega⟩
  | succ k ih =>
    intro hok
    obtain ⟨i1, i2, i3, i4, i5, i6⟩ := ih (fun j hj => hok j (by omega))
    have hb := okA_b (hok k (by omega))
    obtain ⟨s1, s2, s3, s4, s5, s6, s7⟩ := share_bd (cts.getD i ct0) hc (l.getD k bs0) hb ((ahd cts l nc k).getD i 0)
    rw [ahd_at cts l nc k i hi, sumTo, row_at cts l nc k i hi]
    have e : xAt cts (l.getD k bs0) (ahd cts l nc k) i = xI (cts.getD i ct0) (l.getD k bs0) ((ahd cts l nc k).getD i 0) := rfl
    rw [e]
    generalize xI (cts.getD i ct0) (l.getD k bs0) ((ahd cts l nc k).getD i 0) = x at *
    generalize (ahd cts l nc k).getD i 0 = ah at *
    generalize topTo (cts.getD i ct0).bands (cts.getD i ct0).bands.length = T at *
    generalize sumTo (fun j => ((rowY cts l nc j).getD i sh0).a) k = S at *
    generalize (shI (cts.getD i ct0) x).a = a at *
    rw [Int.add_mul]
    have ek : (((k + 1 : Nat) : Int)) = (k : Int) + 1 := by omega
    rw [ek]
    refine ⟨by omega, ?_, by omega, by omega, fun _ => by omega, fun h => ?_⟩
    · rw [Int.add_mul]; omega
    · have := i6 h
      have := s7 h
      omega
end Go.Proofs.Ytpheeblpfcipaaa
