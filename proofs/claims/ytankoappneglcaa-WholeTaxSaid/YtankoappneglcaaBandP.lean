/-
  Plain: what an amount comes to by bands, band by band, and by each band's rate less the one ahead. No program.
-/
import Derived.Test.YtankoappneglcaaVoc
namespace Go.Proofs.Ytankoappneglcaa
set_option linter.unusedVariables false

def pos (a : Int) : Int := max 0 a
/-- how much of an amount is in band i (of n that begin at f) -/
def widthI (x : Int) (f : Nat → Int) (n i : Nat) : Int := pos ((if i + 1 < n then min x (f (i + 1)) else x) - f i)
/-- band by band -/
def progS (x : Int) (f r : Nat → Int) (n : Nat) : Nat → Int
  | 0 => 0
  | k + 1 => progS x f r n k + widthI x f n k * r k
/-- each band's rate less the one ahead -/
def refS (x : Int) (f r : Nat → Int) : Nat → Int
  | 0 => 0
  | k + 1 => refS x f r k + (if f k < x then (x - f k) * (r k - (if k = 0 then 0 else r (k - 1))) else 0)

theorem width_eq (x : Int) (f : Nat → Int) (n i : Nat) (h : i + 1 < n) (hm : f i < f (i + 1)) : widthI x f n i = pos (x - f i) - pos (x - f (i + 1)) := by
  unfold widthI pos
  rw [if_pos h]
  omega
theorem width_last (x : Int) (f : Nat → Int) (n i : Nat) (h : ¬ i + 1 < n) : widthI x f n i = pos (x - f i) := by
  unfold widthI
  rw [if_neg h]
theorem pos_t {a : Int} (h : 0 ≤ a) : pos a = a := by unfold pos; omega
theorem pos_f {a : Int} (h : a ≤ 0) : pos a = 0 := by unfold pos; omega
theorem abel (x : Int) (f r : Nat → Int) (n : Nat) (hm : ∀ i, i + 1 < n → f i < f (i + 1)) : ∀ k, k + 1 ≤ n → refS x f r (k + 1) = progS x f r n k + pos (x - f k) * r k := by
  intro k
  induction k with
  | zero =>
    intro _
    simp only [refS, progS, if_true]
    by_cases h : f 0 < x
    · rw [if_pos h, pos_t (by omega)]; simp
    · rw [if_neg h, pos_f (by omega)]; simp
  | succ k ih =>
    intro hk
    have h1 := ih (by omega)
    rw [refS, h1, progS, width_eq x f n k (by omega) (hm k (by omega))]
    have e : (if f (k + 1) < x then (x - f (k + 1)) * (r (k + 1) - (if k + 1 = 0 then 0 else r (k + 1 - 1))) else 0) = pos (x - f (k + 1)) * (r (k + 1) - r k) := by
      rw [if_neg (show ¬ (k + 1 = 0) by omega), Nat.add_sub_cancel]
      by_cases h : f (k + 1) < x
      · rw [if_pos h, pos_t (by omega)]
      · rw [if_neg h, pos_f (by omega), Int.zero_mul]
    rw [e, Int.mul_sub, Int.sub_mul]
    omega
/-- both are one. -/
theorem ref_prog (x : Int) (f r : Nat → Int) (n : Nat) (hm : ∀ i, i + 1 < n → f i < f (i + 1)) : refS x f r n = progS x f r n n := by
  cases n with
  | zero => rfl
  | succ n => rw [abel x f r (n + 1) hm n (by omega), progS, width_last x f (n + 1) n (by omega)]
/-- behind a band that begins at the amount or above it there is nothing more. -/
theorem width_zero (x : Int) (f : Nat → Int) (n i : Nat) (h : x ≤ f i) : widthI x f n i = 0 := by
  unfold widthI pos
  split <;> omega
theorem prog_stop (x : Int) (f r : Nat → Int) (n : Nat) (hm : ∀ i, i + 1 < n → f i < f (i + 1)) (i : Nat) (hx : x ≤ f i) : ∀ d, i + d ≤ n → progS x f r n (i + d) = progS x f r n i ∧ (i + d < n → x ≤ f (i + d)) := by
  intro d
  induction d with
  | zero => intro _; exact ⟨rfl, fun _ => hx⟩
  | succ d ih =>
    intro hd
    obtain ⟨h1, h2⟩ := ih (by omega)
    have h3 := h2 (by omega)
    refine ⟨?_, fun h => ?_⟩
    · rw [show i + (d + 1) = (i + d) + 1 from rfl, progS, width_zero x f n (i + d) h3, h1]; simp
    · have := hm (i + d) (by omega)
      rw [show i + (d + 1) = (i + d) + 1 from rfl]
      omega
theorem width_bd (x : Int) (f : Nat → Int) (n i : Nat) (hf : 0 ≤ f i) (hx : x ≤ 100000000000) : 0 ≤ widthI x f n i ∧ widthI x f n i ≤ 100000000000 := by
  unfold widthI pos
  split <;> omega
theorem mul_bd0 {x r A B : Int} (h1 : 0 ≤ x) (h2 : x ≤ A) (h3 : 0 ≤ r) (h4 : r ≤ B) (hA : 0 ≤ A) : 0 ≤ x * r ∧ x * r ≤ A * B := by
  have a : x * r ≤ A * r := Int.mul_le_mul_of_nonneg_right h2 h3
  have b : A * r ≤ A * B := Int.mul_le_mul_of_nonneg_left h4 hA
  have c := Int.mul_nonneg h1 h3
  omega
theorem prog_bd (x : Int) (f r : Nat → Int) (n : Nat) (hf : ∀ i, i < n → 0 ≤ f i) (hr : ∀ i, i < n → 0 ≤ r i ∧ r i ≤ 10000) (hx : x ≤ 100000000000) : ∀ k, k ≤ n → 0 ≤ progS x f r n k ∧ progS x f r n k ≤ k * 1000000000000000 := by
  intro k
  induction k with
  | zero => intro _; simp [progS]
  | succ k ih =>
    intro hk
    have h1 := ih (by omega)
    have h2 := width_bd x f n k (hf k (by omega)) hx
    have h3 := hr k (by omega)
    have h4 := mul_bd0 h2.1 h2.2 h3.1 h3.2 (by decide)
    rw [progS]
    omega
theorem ref_bd (x : Int) (f r : Nat → Int) (n : Nat) (hf : ∀ i, i < n → 0 ≤ f i) (hr : ∀ i, i < n → 0 ≤ r i ∧ r i ≤ 10000) (hx : x ≤ 100000000000) : ∀ k, k ≤ n → -(k * 1000000000000000 : Int) ≤ refS x f r k ∧ refS x f r k ≤ k * 1000000000000000 := by
  intro k
  induction k with
  | zero => intro _; simp [refS]
  | succ k ih =>
    intro hk
    have h1 := ih (by omega)
    have h0 := hf k (by omega)
    have h3 := hr k (by omega)
    rw [refS]
    obtain ⟨q, hq, hq1, hq2⟩ : ∃ q, (if k = 0 then 0 else r (k - 1)) = q ∧ 0 ≤ q ∧ q ≤ 10000 := by
      by_cases e : k = 0
      · exact ⟨0, by simp [e], by decide, by decide⟩
      · have := hr (k - 1) (by omega)
        exact ⟨r (k - 1), by simp [e], this.1, this.2⟩
    rw [hq]
    by_cases e : f k < x
    · rw [if_pos e]
      have a1 := mul_bd0 (x := x - f k) (r := r k) (A := 100000000000) (B := 10000) (by omega) (by omega) h3.1 h3.2 (by decide)
      have a2 := mul_bd0 (x := x - f k) (r := q) (A := 100000000000) (B := 10000) (by omega) (by omega) hq1 hq2 (by decide)
      rw [Int.mul_sub]
      omega
    · rw [if_neg e]
      omega
end Go.Proofs.Ytankoappneglcaa
