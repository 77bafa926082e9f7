/-
  Plain: an amount as it is written is read as it. No program.
-/
import Derived.Test.YtfhbnojhmeodiaaDoorParseP
namespace Go.Proofs.YtfhbnojhmeodiaaDoor
set_option linter.unusedVariables false
open Go.RowKit
theorem gB_app_l (a b : List UInt8) (i : Nat) (h : i < a.length) : gB (a ++ b) i = gB a i := by
  unfold gB
  simp [List.getD, List.getElem?_append_left h]
theorem gB_app_r (a b : List UInt8) (i : Nat) : gB (a ++ b) (a.length + i) = gB b i := by
  unfold gB
  simp [List.getD, List.getElem?_append_right]
theorem wV_app (a b : List UInt8) : ∀ k, k ≤ a.length → wV (a ++ b) k = wV a k := by
  intro k
  induction k with
  | zero => intro _; rfl
  | succ k ih =>
    intro hk
    rw [wV, wV, ih (by omega), gB_app_l a b k (by omega)]
theorem gB_one (c : UInt8) : gB [c] 0 = (c.toNat : Int) := rfl
theorem toNat_dig (d : Nat) (h : d < 10) : (UInt8.ofNat (48 + d)).toNat = 48 + d := by
  rw [UInt8.toNat_ofNat']
  omega
/-- what a numeral is -/
structure DecF (u : Nat) (l : List UInt8) : Prop where
  d : dTo l l.length = true
  v : wV l l.length = (u : Int)
  n : 1 ≤ l.length
  h : u ≠ 0 → gB l 0 ≠ 48
  z : u = 0 → l.length = 1
theorem dec_one {u : Nat} (h : u < 10) : DecF u [UInt8.ofNat (48 + u)] := by
  have e : gB [UInt8.ofNat (48 + u)] 0 = 48 + (u : Int) := by rw [gB_one, toNat_dig u h]; omega
  refine ⟨dTo_iff.2 fun i hi => ?_, ?_, by simp, fun hu => by rw [e]; omega, fun _ => rfl⟩
  · obtain rfl : i = 0 := by simpa using hi
    rw [e]; unfold dI; simp; omega
  · show wV _ 1 = _
    rw [wV, wV, e]; omega
theorem dec_app {u : Nat} (hu : ¬ u < 10) {a : List UInt8} (h : DecF (u / 10) a) : DecF u (a ++ [UInt8.ofNat (48 + u % 10)]) := by
  have hm : u % 10 < 10 := by omega
  have e : gB (a ++ [UInt8.ofNat (48 + u % 10)]) a.length = 48 + ((u % 10 : Nat) : Int) := by
    have := gB_app_r a [UInt8.ofNat (48 + u % 10)] 0
    rw [Nat.add_zero] at this
    rw [this, gB_one, toNat_dig _ hm]; omega
  have hl : (a ++ [UInt8.ofNat (48 + u % 10)]).length = a.length + 1 := by simp
  refine ⟨dTo_iff.2 fun i hi => ?_, ?_, by omega, fun _ => ?_, fun h0 => absurd h0 (by omega)⟩
  · rw [hl] at hi
    rcases (by omega : i = a.length ∨ i < a.length) with rfl | hi
    · rw [e]; unfold dI; simp; omega
    · rw [gB_app_l _ _ _ hi]; exact dTo_iff.1 h.d i hi
  · rw [hl, wV, e, wV_app _ _ _ (Nat.le_refl _), h.v]
    omega
  · rw [gB_app_l _ _ _ h.n]
    exact h.h (by omega)
theorem dec_facts (u : Nat) : DecF u (Lib.decDigits u) := by
  induction u using Nat.strongRecOn with
  | ind u ih =>
    by_cases h : u < 10
    · rw [Lib.decDigits_one h]; exact dec_one h
    · rw [Lib.decDigits, dif_neg h]
      exact dec_app h (ih (u / 10) (by omega))
theorem dec_len_le : ∀ k u, u < 10 ^ (k + 1) → (Lib.decDigits u).length ≤ k + 1 := by
  intro k
  induction k with
  | zero => intro u h; rw [Lib.decDigits_one (by simpa using h)]; simp
  | succ k ih =>
    intro u h
    by_cases hu : u < 10
    · rw [Lib.decDigits_one hu]; simp
    · rw [Lib.decDigits, dif_neg hu, List.length_append]
      have h1 : u / 10 < 10 ^ (k + 1) := by
        rw [Nat.div_lt_iff_lt_mul (by decide)]
        rw [Nat.pow_succ] at h
        exact h
      have := ih (u / 10) h1
      simp; omega
theorem text_two (m : Nat) (h : m < 100) : (if (m : Int) < 10 then [(48 : UInt8)] else []) ++ Lib.decDigits m = [UInt8.ofNat (48 + m / 10), UInt8.ofNat (48 + m % 10)] := by
  by_cases h1 : m < 10
  · rw [if_pos (by omega), Lib.decDigits_one h1, show m / 10 = 0 by omega, show m % 10 = m by omega]; rfl
  · rw [if_neg (by omega), Lib.decDigits_two h1 h]; rfl
theorem body_parse (neg : Bool) (u m : Nat) (hu : u ≤ 1000000000) (hm : m < 100) (hz : neg = true → ¬ (u = 0 ∧ m = 0)) (hr : mrB ((if neg then -1 else 1) * ((u : Int) * 100 + m)) = true) :
    pE neg (Lib.decDigits u ++ [46, UInt8.ofNat (48 + m / 10), UInt8.ofNat (48 + m % 10)]) = 0 ∧ pV neg (Lib.decDigits u ++ [46, UInt8.ofNat (48 + m / 10), UInt8.ofNat (48 + m % 10)]) = (if neg then -1 else 1) * ((u : Int) * 100 + m) := by
  have hd := dec_facts u
  have hl := dec_len_le 9 u (by omega)
  generalize Lib.decDigits u = D at *
  have hlen : (D ++ [46, UInt8.ofNat (48 + m / 10), UInt8.ofNat (48 + m % 10)]).length = D.length + 3 := by simp
  have g0 : gB (D ++ [46, UInt8.ofNat (48 + m / 10), UInt8.ofNat (48 + m % 10)]) D.length = 46 := by
    have := gB_app_r D [46, UInt8.ofNat (48 + m / 10), UInt8.ofNat (48 + m % 10)] 0
    rw [Nat.add_zero] at this
    rw [this]; rfl
  have g1 : gB (D ++ [46, UInt8.ofNat (48 + m / 10), UInt8.ofNat (48 + m % 10)]) (D.length + 1) = 48 + ((m / 10 : Nat) : Int) := by
    rw [gB_app_r]
    show ((UInt8.ofNat (48 + m / 10)).toNat : Int) = _
    rw [toNat_dig _ (by omega)]; omega
  have g2 : gB (D ++ [46, UInt8.ofNat (48 + m / 10), UInt8.ofNat (48 + m % 10)]) (D.length + 2) = 48 + ((m % 10 : Nat) : Int) := by
    rw [gB_app_r]
    show ((UInt8.ofNat (48 + m % 10)).toNat : Int) = _
    rw [toNat_dig _ (by omega)]; omega
  have ht : (D ++ [46, UInt8.ofNat (48 + m / 10), UInt8.ofNat (48 + m % 10)]).take D.length = D := by simp
  generalize D ++ [46, UInt8.ofNat (48 + m / 10), UInt8.ofNat (48 + m % 10)] = l at *
  have e3 : l.length - 3 = D.length := by omega
  have e2 : l.length - 2 = D.length + 1 := by omega
  have e1 : l.length - 1 = D.length + 2 := by omega
  have hcut : pCut l = true := by unfold pCut; rw [e3, g0]; have := hd.n; simp; omega
  have hrest : pRest l = D := by unfold pRest; rw [if_pos hcut, e3, ht]
  have hcoins : pCoins l = (m : Int) := by unfold pCoins; rw [if_pos hcut, e2, e1, g1, g2]; omega
  have hV : whV D = (u : Int) := by unfold whV; rw [if_pos hd.d, hd.v]
  have hO : whO D = true := by
    unfold whO
    rw [hd.d]
    have hn := hd.n
    by_cases h0 : u = 0
    · have := hd.z h0
      simp [this]
    · have h48 := hd.h h0
      have hne : D ≠ [] := fun h => by rw [h] at hn; simp at hn
      simp [h48, hne]
  have hpe : pE neg l = 0 := by
    unfold pE
    rw [if_neg (by omega), if_neg (by rw [e2, e1, g1, g2]; intro hc; apply hc.2; unfold dI; simp; omega), hrest, if_neg (by omega), if_neg (by
      rw [hO, hV, hcoins]
      intro hc
      rcases hc with hc | ⟨h1, h2, h3⟩
      · exact hc rfl
      · exact hz h1 ⟨by omega, by omega⟩), hV, hcoins, if_pos hr]
  refine ⟨hpe, ?_⟩
  unfold pV
  rw [if_pos hpe, hrest, hV, hcoins]
theorem parse_text (x : Int) (h1 : -100000000000 ≤ x) (h2 : x ≤ 100000000000) : parseE (textB x) = 0 ∧ parseV (textB x) = x := by
  have ha : (x.natAbs : Int) / 100 = ((x.natAbs / 100 : Nat) : Int) := by omega
  have hb : (x.natAbs : Int) % 100 = ((x.natAbs % 100 : Nat) : Int) := by omega
  have ht : textB x = (if decide (x < 0) then [45] else []) ++ (Lib.decDigits (x.natAbs / 100) ++ [46, UInt8.ofNat (48 + (x.natAbs % 100) / 10), UInt8.ofNat (48 + (x.natAbs % 100) % 10)]) := by
    unfold textB textI
    rw [ha, hb, Int.toNat_natCast, Int.toNat_natCast]
    have := text_two (x.natAbs % 100) (by omega)
    rw [List.append_assoc, List.append_assoc, this]
    rfl
  have hbody := body_parse (decide (x < 0)) (x.natAbs / 100) (x.natAbs % 100) (by omega) (by omega) (fun h => by simp at h; omega) (mr_t (by
    by_cases hx : x < 0
    · simp only [hx, decide_true, if_true]; omega
    · simp only [hx, decide_false, Bool.false_eq_true, if_false]; omega))
  have hval : (if decide (x < 0) = true then (-1 : Int) else 1) * (((x.natAbs / 100 : Nat) : Int) * 100 + ((x.natAbs % 100 : Nat) : Int)) = x := by
    by_cases hx : x < 0
    · simp only [hx, decide_true, if_true]; omega
    · simp only [hx, decide_false, Bool.false_eq_true, if_false]; omega
  rw [hval] at hbody
  have hd := dec_facts (x.natAbs / 100)
  generalize Lib.decDigits (x.natAbs / 100) = D at *
  have hn := hd.n
  have h48 := dTo_iff.1 hd.d 0 (by omega)
  have hg : gB (D ++ [46, UInt8.ofNat (48 + (x.natAbs % 100) / 10), UInt8.ofNat (48 + (x.natAbs % 100) % 10)]) 0 = gB D 0 := gB_app_l _ _ _ (by omega)
  generalize D ++ [46, UInt8.ofNat (48 + (x.natAbs % 100) / 10), UInt8.ofNat (48 + (x.natAbs % 100) % 10)] = B at *
  unfold parseE parseV pBody
  rw [ht]
  by_cases hx : x < 0
  · have hp : pNeg ((if decide (x < 0) = true then [45] else []) ++ B) = true := by simp [hx, pNeg, gB]
    rw [hp]
    simp only [hx, decide_true, if_true, List.cons_append, List.nil_append, List.drop_succ_cons, List.drop_zero] at hbody ⊢
    exact hbody
  · have hp : pNeg ((if decide (x < 0) = true then [45] else []) ++ B) = false := by
      simp only [hx, decide_false, Bool.false_eq_true, if_false, List.nil_append]
      unfold pNeg
      rw [hg]
      unfold dI at h48
      simp only [decide_eq_true_eq] at h48
      simp; omega
    rw [hp]
    simp only [hx, decide_false, Bool.false_eq_true, if_false, List.nil_append] at hbody ⊢
    exact hbody
theorem textB_len (x : Int) (h1 : -100000000000 ≤ x) (h2 : x ≤ 100000000000) : (textB x).length ≤ 20 := by
  have ha : (x.natAbs : Int) / 100 = ((x.natAbs / 100 : Nat) : Int) := by omega
  have hb : (x.natAbs : Int) % 100 = ((x.natAbs % 100 : Nat) : Int) := by omega
  unfold textB textI
  rw [ha, hb, Int.toNat_natCast, Int.toNat_natCast]
  have d1 := dec_len_le 9 (x.natAbs / 100) (by omega)
  have d2 := dec_len_le 1 (x.natAbs % 100) (by omega)
  simp only [List.length_append]
  have e1 : (if decide (x < 0) = true then [(45 : UInt8)] else []).length ≤ 1 := by split <;> simp
  have e2 : (if (((x.natAbs % 100 : Nat) : Int)) < 10 then [(48 : UInt8)] else []).length ≤ 1 := by split <;> simp
  have e3 : [(46 : UInt8)].length = 1 := rfl
  omega
end Go.Proofs.YtfhbnojhmeodiaaDoor
