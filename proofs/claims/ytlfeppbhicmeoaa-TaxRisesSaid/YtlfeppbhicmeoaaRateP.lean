/-
  Plain: of a coin more that is taxable: how much more is due, and where that changes. No program.
-/
import Derived.Test.YtlfeppbhicmeoaaTopP
import Derived.Test.YtlfeppbhicmeoaaTax3
namespace Go.Proofs.Ytlfeppbhicmeoaa
set_option linter.unusedVariables false
open Go.RowKit
/-- what the coin above x comes to -/
def incS (x : Int) (f r : Nat → Int) (n : Nat) : Nat → Int
  | 0 => 0
  | k + 1 => incS x f r n k + (if f k ≤ x ∧ (k + 1 < n → x < f (k + 1)) then r k else 0)
theorem width_inc (x : Int) (f : Nat → Int) (n i : Nat) : widthI (x + 1) f n i = widthI x f n i + (if f i ≤ x ∧ (i + 1 < n → x < f (i + 1)) then 1 else 0) := by
  unfold widthI pos
  by_cases h : i + 1 < n
  · simp only [h, if_true, true_implies]
    split <;> omega
  · simp only [h, if_false, false_implies, and_true]
    split <;> omega
theorem prog_inc (x : Int) (f r : Nat → Int) (n : Nat) : ∀ k, progS (x + 1) f r n k = progS x f r n k + incS x f r n k := by
  intro k
  induction k with
  | zero => rfl
  | succ k ih =>
    rw [progS, progS, incS, ih, width_inc, Int.add_mul]
    split <;> omega
theorem inc_zero (x : Int) (f r : Nat → Int) (n : Nat) (hm : ∀ i, i + 1 < n → f i ≤ f (i + 1)) : ∀ k, k < n → f k ≤ x → incS x f r n k = 0 := by
  intro k
  induction k with
  | zero => intro _ _; rfl
  | succ k ih =>
    intro hk hx
    have h1 := hm k hk
    rw [incS, ih (by omega) (by omega), if_neg (fun h => by have := h.2 hk; omega)]
    rfl
theorem inc_top (x : Int) (l : List Bd) (f : Nat → Int) (n : Nat) (hm : ∀ i, i + 1 < n → f i ≤ f (i + 1)) (hr : ∀ k, k < n → 0 ≤ (l.getD k bd0).r) : ∀ k, k ≤ n → 0 ≤ incS x f (fun k => (l.getD k bd0).r) n k ∧ incS x f (fun k => (l.getD k bd0).r) n k ≤ topTo l k := by
  intro k
  induction k with
  | zero => intro _; exact ⟨Int.le_refl _, Int.le_refl _⟩
  | succ k ih =>
    intro hk
    have h1 := ih (by omega)
    have h2 := hr k (by omega)
    rw [incS, topTo]
    by_cases h : f k ≤ x ∧ (k + 1 < n → x < f (k + 1))
    · rw [if_pos h, inc_zero x f _ n hm k (by omega) h.1]
      omega
    · rw [if_neg h]; omega
theorem inc_same (x : Int) (f r : Nat → Int) (n : Nat) (h0 : f 0 = 0) (hx : 1 ≤ x) (hne : ∀ i, i < n → f i ≠ x) : ∀ k, k ≤ n → incS x f r n k = incS (x - 1) f r n k := by
  intro k
  induction k with
  | zero => intro _; rfl
  | succ k ih =>
    intro hk
    rw [incS, incS, ih (by omega)]
    have h1 := hne k (by omega)
    have h2 : (f k ≤ x ∧ (k + 1 < n → x < f (k + 1))) ↔ (f k ≤ x - 1 ∧ (k + 1 < n → x - 1 < f (k + 1))) := by
      constructor
      · rintro ⟨a, b⟩
        exact ⟨by omega, fun h => by have := b h; omega⟩
      · rintro ⟨a, b⟩
        exact ⟨by omega, fun h => by have := b h; have := hne (k + 1) h; omega⟩
    simp only [h2]
theorem mem_dropIf (L : List Bd) (x y : Int) (h : y ∈ L.map (·.f)) (hy : y ≠ x) : y ∈ (dropIf L x).map (·.f) := by
  unfold dropIf
  by_cases h1 : 0 < L.length ∧ (lastB L).f = x
  · rw [if_pos h1]
    rw [take_snoc L h1.1, List.map_append, List.mem_append] at h
    rcases h with h | h
    · exact h
    · simp only [List.map_cons, List.map_nil, List.mem_singleton] at h
      exact absurd (h.trans h1.2) hy
  · rw [if_neg h1]; exact h
theorem mem_scale (l : List Bd) (n d : Int) : ∀ k i, i < k → fr l n d i ∈ (scaleTo l n d k).map (·.f) := by
  intro k
  induction k with
  | zero => intro i hi; omega
  | succ k ih =>
    intro i hi
    rw [scaleTo, List.map_append, List.mem_append]
    by_cases h : fr l n d i = fr l n d k
    · right; simp [h]
    · left
      exact mem_dropIf _ _ _ (ih i (by
        rcases (by omega : i = k ∨ i < k) with rfl | h'
        · exact absurd rfl h
        · exact h')) h
theorem mem_drop1 (L : List Bd) (y : Int) (h : y ∈ L.map (·.f)) (h0 : (L.getD 0 bd0).f ≠ y) : y ∈ (L.drop 1).map (·.f) := by
  cases L with
  | nil => simp at h
  | cons b L =>
    simp only [List.map_cons, List.mem_cons] at h
    rcases h with h | h
    · exact absurd h.symm h0
    · simpa using h
/-- what is more due of a coin more -/
def rateI (sch : List (List Bd)) (c : Cd) (tx n d : Int) : Int := exV sch c (tx + 1) n d - exV sch c tx n d
theorem code_flat {s k a f : Int} (h : codeErr s k a f = 0) (h3 : k = 3) : a = 0 := by
  subst h3
  unfold codeErr at h
  simp at h
  omega
theorem rate_eq (sch : List (List Bd)) (c : Cd) (tx n d : Int) : rateI sch c tx n d =
    if c.k = 4 then 0 else if tx < freeI c.k c.a n d then 0 else if c.k = 3 then ((sch.getD c.s.toNat []).getD c.f.toNat bd0).r
    else incS (tx - freeI c.k c.a n d) (fr (sch.getD c.s.toNat []) n d) (fun k => ((sch.getD c.s.toNat []).getD k bd0).r) (sch.getD c.s.toNat []).length (sch.getD c.s.toNat []).length := by
  unfold rateI exV chargeV
  by_cases h4 : c.k = 4
  · simp only [h4, if_true]; rfl
  simp only [if_neg h4]
  by_cases ht : tx < freeI c.k c.a n d
  · rw [if_pos ht, show max 0 (tx + 1 - freeI c.k c.a n d) = 0 by omega, show max 0 (tx - freeI c.k c.a n d) = 0 by omega]
    omega
  rw [if_neg ht, show max 0 (tx + 1 - freeI c.k c.a n d) = tx - freeI c.k c.a n d + 1 by omega, show max 0 (tx - freeI c.k c.a n d) = tx - freeI c.k c.a n d by omega]
  by_cases h3 : c.k = 3
  · simp only [if_pos h3, Int.add_mul]; omega
  · simp only [if_neg h3, prog_inc]; omega
theorem rate_bd {sch : List (List Bd)} {c : Cd} {n d : Int} (hfit : fitE sch c = 0) (hok : bandsErr (sch.getD c.s.toNat []) = 0) (hp : partB n d = true) (tx : Int) : 0 ≤ rateI sch c tx n d ∧ rateI sch c tx n d ≤ topTo (sch.getD c.s.toNat []) (sch.getD c.s.toNat []).length := by
  have g := goodB _ hok
  have ht := top_bd _ _ g.r
  obtain ⟨hc0, hs0, hs1, hf0, hf3⟩ := fit_ok hfit
  rw [rate_eq]
  by_cases h4 : c.k = 4
  · rw [if_pos h4]; omega
  rw [if_neg h4]
  split
  · omega
  by_cases h3 : c.k = 3
  · rw [if_pos h3]
    have hf := hf3 h3
    exact ⟨(g.r c.f.toNat (by omega)).1, top_ge _ _ _ (by omega)⟩
  · rw [if_neg h3]
    exact inc_top _ _ _ _ (fun i hi => fr_mono g n d hp i hi) (fun k hk => (g.r k hk).1) _ (Nat.le_refl _)
theorem rate_corner {sch : List (List Bd)} {c : Cd} {n d : Int} (hfit : fitE sch c = 0) (hok : bandsErr (sch.getD c.s.toNat []) = 0) (hp : partB n d = true) (tx : Int) (h : rateI sch c tx n d ≠ rateI sch c (tx - 1) n d) : tx ∈ cornV sch c n d := by
  have g := goodB _ hok
  obtain ⟨hc0, hs0, hs1, hf0, hf3⟩ := fit_ok hfit
  rw [rate_eq, rate_eq] at h
  unfold cornV
  by_cases h4 : c.k = 4
  · simp only [h4, if_true] at h; exact absurd rfl h
  rw [if_neg h4, if_neg h4] at h
  rw [if_neg h4]
  by_cases h3 : c.k = 3
  · rw [if_pos h3]
    have ha := code_flat hc0 h3
    have hfr : freeI c.k c.a n d = 0 := by unfold freeI; rw [ha, h3]; simp
    rw [hfr, if_pos h3, if_pos h3] at h
    by_cases h1 : tx < 0
    · rw [if_pos h1, if_pos (by omega)] at h; exact absurd rfl h
    · rw [if_neg h1] at h
      by_cases h2 : tx - 1 < 0
      · have : tx = 0 := by omega
        simp [this]
      · rw [if_neg h2] at h; exact absurd rfl h
  rw [if_neg h3]
  rw [if_neg h3, if_neg h3] at h
  generalize freeI c.k c.a n d = fI at *
  by_cases h1 : tx < fI
  · rw [if_pos h1, if_pos (by omega)] at h; exact absurd rfl h
  rw [if_neg h1] at h
  by_cases h2 : tx = fI
  · simp [h2]
  rw [if_neg (by omega), show tx - 1 - fI = tx - fI - 1 by omega] at h
  have hz := fr_zero g n d
  by_cases hne : ∀ i, i < (sch.getD c.s.toNat []).length → fr (sch.getD c.s.toNat []) n d i ≠ tx - fI
  · exact absurd (inc_same (tx - fI) _ _ _ hz (by omega) hne _ (Nat.le_refl _)) h
  · have : ∃ i, i < (sch.getD c.s.toNat []).length ∧ fr (sch.getD c.s.toNat []) n d i = tx - fI := by
      apply Classical.byContradiction
      intro hh
      exact hne fun i hi he => hh ⟨i, hi, he⟩
    obtain ⟨i, hi, he⟩ := this
    have hm := mem_scale (sch.getD c.s.toNat []) n d _ i hi
    rw [he] at hm
    have gs := scale_gd g n d hp (sch.getD c.s.toNat []).length (Nat.le_refl _)
    have h0 : ((scaleTo (sch.getD c.s.toNat []) n d (sch.getD c.s.toNat []).length).getD 0 bd0).f ≠ tx - fI := by
      rw [gs.z (scale_ne _ _ _ _ g.lo)]; omega
    have hd := mem_drop1 _ _ hm h0
    refine List.mem_cons_of_mem _ (List.mem_map.2 ⟨_, hd, by omega⟩)
theorem corn_inc {sch : List (List Bd)} {c : Cd} {n d : Int} (hok : bandsErr (sch.getD c.s.toNat []) = 0) (hp : partB n d = true) (i : Nat) (hi : i + 1 < (cornV sch c n d).length) : (cornV sch c n d).getD i 0 < (cornV sch c n d).getD (i + 1) 0 := by
  have g := goodB _ hok
  have gs := scale_gd g n d hp (sch.getD c.s.toNat []).length (Nat.le_refl _)
  revert hi
  unfold cornV
  by_cases h4 : c.k = 4
  · rw [if_pos h4]; intro hi; simp at hi
  rw [if_neg h4]
  by_cases h3 : c.k = 3
  · rw [if_pos h3]; intro hi; simp at hi
  rw [if_neg h3]
  have hne := scale_ne (sch.getD c.s.toNat []) n d _ g.lo
  generalize scaleTo (sch.getD c.s.toNat []) n d (sch.getD c.s.toNat []).length = L at *
  generalize freeI c.k c.a n d = fI
  intro hi
  cases L with
  | nil => simp at hne
  | cons b L =>
    have hz := gs.z (by simp)
    simp only [List.drop_succ_cons, List.drop_zero, List.length_cons, List.length_map] at hi ⊢
    have hg : ∀ j, j < L.length → ((L.map (·.f)).map (· + fI)).getD j 0 = ((b :: L).getD (j + 1) bd0).f + fI := by
      intro j hj
      simp [List.getD, List.getElem?_eq_getElem hj]
    have hm := gs.m i (by simp; omega)
    cases i with
    | zero =>
      rw [List.getD_cons_zero, List.getD_cons_succ, hg 0 (by omega)]
      rw [hz] at hm
      omega
    | succ i =>
      rw [List.getD_cons_succ, List.getD_cons_succ, hg i (by omega), hg (i + 1) (by omega)]
      omega
end Go.Proofs.Ytlfeppbhicmeoaa
