/-
  Plain: scaled bands may be, and come to what the bands come to, each beginning at its part. No program.
-/
import Derived.Test.YtankoappneglcaaScale
import Derived.Test.YtankoappneglcaaBand2
namespace Go.Proofs.Ytankoappneglcaa
set_option linter.unusedVariables false
open Go.RowKit
theorem abel_le (x : Int) (f r : Nat → Int) (n : Nat) (hm : ∀ i, i + 1 < n → f i ≤ f (i + 1)) : ∀ k, k + 1 ≤ n → refS x f r (k + 1) = progS x f r n k + pos (x - f k) * r k := by
  intro k
  induction k with
  | zero =>
    intro _
    simp only [refS, progS, if_true]
    by_cases h : f 0 < x
    · rw [if_pos h, pos_t (by omega)]; simp
    · rw [if_neg h, pos_f (by omega)]; simp
  | succ k ih =>
    intro hk
    have h1 := ih (by omega)
    have hw : widthI x f n k = pos (x - f k) - pos (x - f (k + 1)) := by
      have := hm k (by omega)
      unfold widthI pos
      rw [if_pos (by omega)]
      omega
    rw [refS, h1, progS, hw]
    have e : (if f (k + 1) < x then (x - f (k + 1)) * (r (k + 1) - (if k + 1 = 0 then 0 else r (k + 1 - 1))) else 0) = pos (x - f (k + 1)) * (r (k + 1) - r k) := by
      rw [if_neg (show ¬ (k + 1 = 0) by omega), Nat.add_sub_cancel]
      by_cases h : f (k + 1) < x
      · rw [if_pos h, pos_t (by omega)]
      · rw [if_neg h, pos_f (by omega), Int.zero_mul]
    rw [e, Int.mul_sub, Int.sub_mul]
    omega
theorem ref_prog_le (x : Int) (f r : Nat → Int) (n : Nat) (hm : ∀ i, i + 1 < n → f i ≤ f (i + 1)) : refS x f r n = progS x f r n n := by
  cases n with
  | zero => rfl
  | succ n => rw [abel_le x f r (n + 1) hm n (by omega), progS, width_last x f (n + 1) n (by omega)]
theorem refS_congr (x : Int) (f g r q : Nat → Int) (n : Nat) (h : ∀ i, i < n → f i = g i ∧ r i = q i) : refS x f r n = refS x g q n := by
  induction n with
  | zero => rfl
  | succ n ih =>
    rw [refS, refS, ih (fun i hi => h i (by omega)), (h n (by omega)).1, (h n (by omega)).2]
    by_cases h0 : n = 0
    · subst h0; rfl
    · rw [if_neg h0, if_neg h0, (h (n - 1) (by omega)).2]
/-- a list's sum, told by what each rate is more than the one ahead -/
def refL (L : List Bd) (x : Int) : Int := refS x (fun k => (L.getD k bd0).f) (fun k => (L.getD k bd0).r) L.length
def lastR (L : List Bd) : Int := if L.length = 0 then 0 else (lastB L).r
theorem getD_app_lt (L : List Bd) (b : Bd) (i : Nat) (hi : i < L.length) : (L ++ [b]).getD i bd0 = L.getD i bd0 := by
  simp [List.getD, List.getElem?_append_left hi]
theorem getD_app_eq (L : List Bd) (b : Bd) : (L ++ [b]).getD L.length bd0 = b := by simp [List.getD]
theorem refL_snoc (L : List Bd) (b : Bd) (x : Int) : refL (L ++ [b]) x = refL L x + pos (x - b.f) * (b.r - lastR L) := by
  unfold refL
  rw [List.length_append, List.length_singleton, refS]
  try dsimp only
  rw [getD_app_eq, refS_congr x _ (fun k => (L.getD k bd0).f) _ (fun k => (L.getD k bd0).r) L.length (fun i hi => by rw [getD_app_lt L b i hi]; exact ⟨rfl, rfl⟩)]
  have e : (if L.length = 0 then 0 else ((L ++ [b]).getD (L.length - 1) bd0).r) = lastR L := by
    unfold lastR lastB
    by_cases h : L.length = 0
    · rw [if_pos h, if_pos h]
    · rw [if_neg h, if_neg h, getD_app_lt L b _ (by omega)]
  rw [e]
  by_cases h : b.f < x
  · rw [if_pos h, pos_t (by omega)]
  · rw [if_neg h, pos_f (by omega), Int.zero_mul]
theorem take_snoc (L : List Bd) (h : 0 < L.length) : L = L.take (L.length - 1) ++ [lastB L] := by
  have h1 : L.take (L.length - 1 + 1) = L.take (L.length - 1) ++ [L[L.length - 1]] := List.take_succ_eq_append_getElem (by omega)
  rw [show L.length - 1 + 1 = L.length by omega, List.take_length] at h1
  rw [show lastB L = L[L.length - 1] from by simp [lastB, List.getD, List.getElem?_eq_getElem (show L.length - 1 < L.length by omega)]]
  exact h1
theorem refL_drop (L : List Bd) (b : Bd) (x : Int) : refL (dropIf L b.f ++ [b]) x = refL L x + pos (x - b.f) * (b.r - lastR L) := by
  unfold dropIf
  split
  · rename_i h
    have hs := take_snoc L h.1
    have h1 := refL_snoc (L.take (L.length - 1)) (lastB L) x
    rw [← hs, h.2] at h1
    rw [refL_snoc, h1]
    have hl : lastR L = (lastB L).r := by unfold lastR; rw [if_neg (by omega)]
    rw [hl, Int.mul_sub, Int.mul_sub, Int.mul_sub]
    omega
  · exact refL_snoc L b x
theorem scale_lastR (l : List Bd) (n d : Int) (k : Nat) : lastR (scaleTo l n d (k + 1)) = (l.getD k bd0).r := by
  have h := scale_ne l n d (k + 1) (by omega)
  unfold lastR
  rw [if_neg (by omega), scale_last]
theorem scale_ref (l : List Bd) (n d x : Int) : ∀ k, refL (scaleTo l n d k) x = refS x (fr l n d) (fun k => (l.getD k bd0).r) k := by
  intro k
  induction k with
  | zero => rfl
  | succ k ih =>
    rw [scaleTo, refL_drop (scaleTo l n d k) ⟨fr l n d k, (l.getD k bd0).r, (l.getD k bd0).e⟩ x, ih, refS]
    dsimp only
    have e : lastR (scaleTo l n d k) = if k = 0 then 0 else (l.getD (k - 1) bd0).r := by
      cases k with
      | zero => rfl
      | succ k => rw [scale_lastR, if_neg (by omega), Nat.add_sub_cancel]
    rw [e]
    by_cases h : fr l n d k < x
    · rw [if_pos h, pos_t (by omega)]
    · rw [if_neg h, pos_f (by omega), Int.zero_mul]
/-- may a list be, but for its length? -/
structure Gd (L : List Bd) : Prop where
  b : ∀ i, i < L.length → (0 ≤ (L.getD i bd0).f ∧ (L.getD i bd0).f ≤ 100000000000) ∧ (0 ≤ (L.getD i bd0).r ∧ (L.getD i bd0).r ≤ 10000) ∧ (0 ≤ (L.getD i bd0).e ∧ (L.getD i bd0).e ≤ 10000)
  m : ∀ i, i + 1 < L.length → (L.getD i bd0).f < (L.getD (i + 1) bd0).f
  z : 0 < L.length → (L.getD 0 bd0).f = 0
theorem Gd.snoc {D : List Bd} (h : Gd D) (b : Bd) (hb : (0 ≤ b.f ∧ b.f ≤ 100000000000) ∧ (0 ≤ b.r ∧ b.r ≤ 10000) ∧ (0 ≤ b.e ∧ b.e ≤ 10000)) (h0 : D.length = 0 → b.f = 0) (hl : 0 < D.length → (lastB D).f < b.f) : Gd (D ++ [b]) := by
  refine ⟨fun i hi => ?_, fun i hi => ?_, fun _ => ?_⟩
  · rw [List.length_append, List.length_singleton] at hi
    rcases (by omega : i = D.length ∨ i < D.length) with rfl | hi
    · rw [getD_app_eq]; exact hb
    · rw [getD_app_lt D b i hi]; exact h.b i hi
  · rw [List.length_append, List.length_singleton] at hi
    rw [getD_app_lt D b i (by omega)]
    rcases (by omega : i + 1 = D.length ∨ i + 1 < D.length) with h1 | h1
    · rw [h1, getD_app_eq]
      have := hl (by omega)
      unfold lastB at this
      rwa [show D.length - 1 = i by omega] at this
    · rw [getD_app_lt D b (i + 1) h1]; exact h.m i h1
  · by_cases h1 : D.length = 0
    · have : D = [] := List.eq_nil_of_length_eq_zero h1
      subst this
      exact h0 rfl
    · rw [getD_app_lt D b 0 (by omega)]; exact h.z (by omega)
theorem getD_takeB (L : List Bd) (k j : Nat) (h : j < k) : (L.take k).getD j bd0 = L.getD j bd0 := by simp [List.getD, h]
theorem Gd.take {L : List Bd} (h : Gd L) (m : Nat) (hm : m ≤ L.length) : Gd (L.take m) := by
  have hl : (L.take m).length = m := by rw [List.length_take]; omega
  refine ⟨fun i hi => ?_, fun i hi => ?_, fun hi => ?_⟩
  · rw [getD_takeB L m i (by omega)]; exact h.b i (by omega)
  · rw [getD_takeB L m i (by omega), getD_takeB L m (i + 1) (by omega)]; exact h.m i (by omega)
  · rw [getD_takeB L m 0 (by omega)]; exact h.z (by omega)
theorem fr_mono {l : List Bd} (g : GoodB l l.length) (n d : Int) (hp : partB n d = true) (k : Nat) (hk : k + 1 < l.length) : fr l n d k ≤ fr l n d (k + 1) := by
  have hp' := partB_iff.1 hp
  have h1 := g.m k hk
  unfold fr
  exact Int.ediv_le_ediv (by omega) (Int.mul_le_mul_of_nonneg_right (by omega) hp'.1)
theorem fr_bd {l : List Bd} (g : GoodB l l.length) (n d : Int) (hp : partB n d = true) (k : Nat) (hk : k < l.length) : 0 ≤ fr l n d k ∧ fr l n d k ≤ 100000000000 := by
  have hp' := partB_iff.1 hp
  have h1 := g.f k hk
  have := part_bd (l.getD k bd0).f n d h1.1 (by omega) (by omega)
  unfold fr
  omega
theorem fr_zero {l : List Bd} (g : GoodB l l.length) (n d : Int) : fr l n d 0 = 0 := by
  unfold fr
  rw [g.f0]; simp
theorem scale_gd {l : List Bd} (g : GoodB l l.length) (n d : Int) (hp : partB n d = true) : ∀ k, k ≤ l.length → Gd (scaleTo l n d k) := by
  intro k
  induction k with
  | zero => intro _; exact ⟨fun i hi => absurd hi (by simp [scaleTo]), fun i hi => absurd hi (by simp [scaleTo]), fun hi => absurd hi (by simp [scaleTo])⟩
  | succ k ih =>
    intro hk
    have hL := ih (by omega)
    have hb := fr_bd g n d hp k (by omega)
    rw [scaleTo]
    have hlast : 0 < k → (lastB (scaleTo l n d k)).f = fr l n d (k - 1) := fun h0 => by
      obtain ⟨j, rfl⟩ : ∃ j, k = j + 1 := ⟨k - 1, by omega⟩
      rw [scale_last]; rfl
    have hz : (scaleTo l n d k).length = 0 → k = 0 := fun h => by
      rcases Nat.eq_zero_or_pos k with h0 | h0
      · exact h0
      · have := scale_ne l n d k h0; omega
    unfold dropIf
    split
    · rename_i h
      refine Gd.snoc (hL.take _ (by omega)) _ ⟨hb, g.r k (by omega), g.e k (by omega)⟩ (fun h1 => ?_) (fun h1 => ?_)
      · rw [List.length_take] at h1
        have h2 : (scaleTo l n d k).length = 1 := by omega
        have h3 := hL.z h.1
        have h4 := h.2
        unfold lastB at h4
        rw [h2] at h4
        show fr l n d k = 0
        rw [← h4]; exact h3
      · have hlen : ((scaleTo l n d k).take ((scaleTo l n d k).length - 1)).length = (scaleTo l n d k).length - 1 := by rw [List.length_take]; omega
        rw [hlen] at h1
        unfold lastB
        rw [hlen, getD_takeB _ _ _ (by omega)]
        have h3 := hL.m ((scaleTo l n d k).length - 1 - 1) (by omega)
        rw [show (scaleTo l n d k).length - 1 - 1 + 1 = (scaleTo l n d k).length - 1 by omega] at h3
        have h4 := h.2
        unfold lastB at h4
        show _ < fr l n d k
        rw [← h4]; exact h3
    · rename_i h
      refine Gd.snoc hL _ ⟨hb, g.r k (by omega), g.e k (by omega)⟩ (fun h1 => ?_) (fun h1 => ?_)
      · have h0 := hz h1
        subst h0
        exact fr_zero g n d
      · have h0 : 0 < k := by
          rcases Nat.eq_zero_or_pos k with h0 | h0
          · subst h0; simp [scaleTo] at h1
          · exact h0
        have hne : (lastB (scaleTo l n d k)).f ≠ fr l n d k := fun h2 => h ⟨h1, h2⟩
        have hm := fr_mono g n d hp (k - 1) (by omega)
        rw [show k - 1 + 1 = k by omega] at hm
        have := hlast h0
        show (lastB (scaleTo l n d k)).f < fr l n d k
        omega
theorem firstNZ_zero (f : Nat → Int) (n : Nat) (h : ∀ k, k < n → f k = 0) : firstNZ f n = 0 := by
  induction n with
  | zero => rfl
  | succ n ih => exact firstNZ_step f n (ih (fun k hk => h k (by omega))) (h n (by omega))
theorem Gd.err {L : List Bd} (h : Gd L) (h1 : 0 < L.length) (h8 : L.length ≤ 8) : bandsErr L = 0 := by
  unfold bandsErr
  rw [if_neg (by omega)]
  refine firstNZ_zero _ _ (fun k hk => ?_)
  have hb := h.b k hk
  unfold bandAt bandV
  rw [if_neg, if_neg, if_neg]
  · rw [rateB_iff, rateB_iff]; exact fun hn => hn ⟨hb.2.1, hb.2.2⟩
  · rintro ⟨h0, h2⟩
    have := h.m (k - 1) (by omega)
    rw [show k - 1 + 1 = k by omega] at this
    omega
  · rintro (h0 | h0 | ⟨h0, h2⟩)
    · omega
    · omega
    · subst h0; exact h2 (h.z h1)
theorem scale_err {l : List Bd} (hl : bandsErr l = 0) (n d : Int) (hp : partB n d = true) : bandsErr (scaleTo l n d l.length) = 0 := by
  have g := goodB l hl
  exact (scale_gd g n d hp l.length (Nat.le_refl _)).err (scale_ne l n d _ g.lo) (by have := scale_len l n d l.length; have := g.hi; omega)
/-- what scaled bands come to -/
theorem scale_val {l : List Bd} (hl : bandsErr l = 0) (n d x : Int) (hp : partB n d = true) : bandS (·.r) (scaleTo l n d l.length) x = progS x (fr l n d) (fun k => (l.getD k bd0).r) l.length l.length := by
  have g := goodB l hl
  have gs := goodB _ (scale_err hl n d hp)
  unfold bandS
  rw [← ref_prog x _ _ _ gs.m, ← ref_prog_le x _ _ _ (fun k hk => fr_mono g n d hp k hk)]
  exact scale_ref l n d x l.length
end Go.Proofs.Ytankoappneglcaa
