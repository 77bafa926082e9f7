/-
  Plain: what bands come to is no more than the greatest rate's part. No program.
-/
import Derived.Test.YtankoappneglcaaTax
namespace Go.Proofs.Ytankoappneglcaa
set_option linter.unusedVariables false
open Go.RowKit
/-- the greatest rate of the first k bands -/
def topTo (l : List Bd) : Nat → Int
  | 0 => 0
  | k + 1 => max (topTo l k) (l.getD k bd0).r
theorem top_mono (l : List Bd) (k : Nat) : ∀ d, topTo l k ≤ topTo l (k + d) := by
  intro d
  induction d with
  | zero => exact Int.le_refl _
  | succ d ih => rw [← Nat.add_assoc, topTo]; omega
theorem top_ge (l : List Bd) (k n : Nat) (h : k < n) : (l.getD k bd0).r ≤ topTo l n := by
  have h1 : (l.getD k bd0).r ≤ topTo l (k + 1) := by rw [topTo]; omega
  have h2 := top_mono l (k + 1) (n - (k + 1))
  rw [show k + 1 + (n - (k + 1)) = n by omega] at h2
  omega
theorem top_bd (l : List Bd) (n : Nat) (h : ∀ k, k < n → 0 ≤ (l.getD k bd0).r ∧ (l.getD k bd0).r ≤ 10000) : 0 ≤ topTo l n ∧ topTo l n ≤ 10000 := by
  induction n with
  | zero => exact ⟨Int.le_refl _, by rw [topTo]; decide⟩
  | succ n ih =>
    have h1 := ih (fun k hk => h k (by omega))
    have h2 := h n (by omega)
    rw [topTo]
    omega
theorem prog_top (x T : Int) (f r : Nat → Int) (n : Nat) (hr : ∀ k, k < n → r k ≤ T) : ∀ k, k ≤ n → progS x f r n k ≤ progS x f (fun _ => 1) n k * T := by
  intro k
  induction k with
  | zero => intro _; simp [progS]
  | succ k ih =>
    intro hk
    have h1 := ih (by omega)
    have h2 := hr k (by omega)
    have h3 : 0 ≤ widthI x f n k := by unfold widthI pos; omega
    have h4 := Int.mul_le_mul_of_nonneg_left h2 h3
    rw [progS, progS, Int.mul_one, Int.add_mul]
    omega
theorem prog_one (x : Int) (f : Nat → Int) (n : Nat) (hm : ∀ i, i + 1 < n → f i < f (i + 1)) (hn : 0 < n) (h0 : f 0 = 0) (hx : 0 ≤ x) : progS x f (fun _ => 1) n n = x := by
  rw [← ref_prog x f (fun _ => 1) n hm]
  have key : ∀ k, 0 < k → refS x f (fun _ => 1) k = x := by
    intro k hk
    induction k with
    | zero => omega
    | succ k ih =>
      rw [refS]
      by_cases h : k = 0
      · subst h
        simp only [refS, h0, if_true]
        split <;> omega
      · rw [ih (by omega), if_neg h]
        split <;> omega
  exact key n hn
theorem bandS_top (l : List Bd) (hl : bandsErr l = 0) (x : Int) (hx : 0 ≤ x) : bandS (·.r) l x ≤ x * topTo l l.length := by
  have g := goodB l hl
  have h1 := prog_top x (topTo l l.length) (fun k => (l.getD k bd0).f) (fun k => (l.getD k bd0).r) l.length (fun k hk => top_ge l k l.length hk) l.length (Nat.le_refl _)
  rw [prog_one x (fun k => (l.getD k bd0).f) l.length g.m g.lo g.f0 hx] at h1
  exact h1
theorem bandS_15 (L : List Bd) (h : bandsErr L = 0) (x : Int) (h0 : 0 ≤ x) (h1 : x ≤ 100000000000) : 0 ≤ bandS (·.r) L x ∧ bandS (·.r) L x ≤ 1000000000000000 := by
  have gs := goodB _ h
  have h5 := bandS_top L h x h0
  have h6 := top_bd L _ gs.r
  have h7 : x * topTo L L.length ≤ 100000000000 * 10000 := (mul_bd0 h0 h1 h6.1 h6.2 (by decide)).2
  have h8 := prog_bd x (fun k => (L.getD k bd0).f) (fun k => (L.getD k bd0).r) _ (fun i hi => (gs.f i hi).1) gs.r h1 _ (Nat.le_refl _)
  exact ⟨h8.1, by omega⟩
theorem exV_bd (sch : List (List Bd)) (c : Cd) (tx n d : Int) (hok : ∀ k, k < sch.length → bandsErr (sch.getD k []) = 0) (hr : exE sch c tx n d = 0) : 0 ≤ exV sch c tx n d ∧ exV sch c tx n d ≤ 1000000000000000 := by
  unfold exE at hr
  by_cases h1 : fitE sch c = 0
  case neg =>
    rw [if_pos h1] at hr
    exact absurd hr h1
  rw [if_neg (by simpa using h1)] at hr
  obtain ⟨hc0, hs0, hs1, hf0, hf3⟩ := fit_ok h1
  obtain ⟨hp, hv0, hv1, _⟩ := charge_ok hr
  have hBE := hok c.s.toNat (by omega)
  have g := goodB _ hBE
  unfold exV
  generalize chargeV c tx n d = x at *
  by_cases h4 : c.k = 4
  · rw [if_pos h4]; omega
  rw [if_neg h4]
  by_cases h3 : c.k = 3
  · rw [if_pos h3]
    have hf := hf3 h3
    have := g.r c.f.toNat (by omega)
    exact mul_bd0 (A := 100000000000) (B := 10000) hv0 hv1 this.1 this.2 (by decide)
  · rw [if_neg h3, ← scale_val hBE n d x hp]
    exact bandS_15 _ (scale_err hBE n d hp) x hv0 hv1
end Go.Proofs.Ytankoappneglcaa
