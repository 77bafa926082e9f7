/-
  Contracts of the reference of layer 5 (bands): Check, and what an amount comes to. Conditions as named.
-/
import Derived.Test.YtpheeblpfcipaaaRef5
import Derived.Test.YtpheeblpfcipaaaBand2
namespace Go.Proofs.Ytpheeblpfcipaaa
set_option linter.unusedVariables false
open Go.RowKit
--%%
theorem mul_bds {x r A B : Int} (h1 : -A ≤ x) (h2 : x ≤ A) (h3 : 0 ≤ r) (h4 : r ≤ B) (hA : 0 ≤ A) : -(A * B) ≤ x * r ∧ x * r ≤ A * B := by
  have a : x * r ≤ A * r := Int.mul_le_mul_of_nonneg_right h2 h3
  have b : A * r ≤ A * B := Int.mul_le_mul_of_nonneg_left h4 hA
  have c : -A * r ≤ x * r := Int.mul_le_mul_of_nonneg_right h1 h3
  rw [Int.neg_mul] at c
  omega
--%%
theorem rexact1_c (x : Int) (l : List Bd) (A : Option Addr) (n c : Nat) (w : World) (h : BandSl w A n l) (hl : bandsErr l = 0) (hx : mrB x = true) :
    Calls Try.prog 13 #[.int .i64 x, .slice A n c, .bool false] w fun e w' => e = .returned (.int .i64 (bandS (·.r) l x)) ∧ w = w' := by
  obtain ⟨hn, hm, hc⟩ := h
  have g := goodB l hl
  have gl := g.lo
  rw [← hn] at g gl
  have hn8 := g.hi
  have hx' := mr_iff.1 hx
  obtain ⟨b, off, rfl, hb, hc⟩ := hc (by omega)
  obtain ⟨T, hT⟩ : ∃ T, T = bandS (·.r) l x := ⟨_, rfl⟩
  have HT : Hid (T = refS x (fun k => (l.getD k bd0).f) (fun k => (·.r) (l.getD k bd0)) n) := by
    unfold Hid
    rw [hT, bandS, ← hn, ref_prog x _ _ n g.m]
  rw [← hT]
  clear hT hl
  go_enter Try.func13, Try.ntmps13
  go_wp2
  go_loop [7, 8, 9] (fun o q i => ∃ (k : Nat) (s p : Int), k ≤ n ∧ i = .int .i64 k ∧ o = .int .i64 s ∧ q = .int .i64 p ∧ Hid (s = refS x (fun k => (l.getD k bd0).f) (fun k => (·.r) (l.getD k bd0)) k) ∧ Hid (p = if k = 0 then 0 else (·.r) (l.getD (k - 1) bd0))) (fun _ _ i => n - (intOf i).toNat)
  case atStart => exact ⟨0, 0, 0, Nat.zero_le _, rfl, rfl, rfl, rfl, rfl⟩
  case round =>
    obtain ⟨k, s, p, hk', rfl, rfl, rfl, hs, hp⟩ := hrel
    by_cases hk : k < n
    case neg =>
      have e : T = s := by rw [HT.out, hs.out, show k = n by omega]
      subst e
      go_wp2
      go_ret
      exact ⟨rfl, rfl⟩
    have hs' := hs.out
    have hp' := hp.out
    have hsb := ref_bd x (fun k => (l.getD k bd0).f) (fun k => (·.r) (l.getD k bd0)) n (fun i hi => (g.f i hi).1) g.r hx'.2 k (by omega)
    rw [← hs'] at hsb
    obtain ⟨c0, c1, c2⟩ := hc k (by rw [← hn]; exact hk)
    have hf := g.f k hk
    have hr := g.r k hk
    have hpb : 0 ≤ p ∧ p ≤ 10000 := by
      rw [hp']
      by_cases e : k = 0
      · simp [e]
      · rw [if_neg e]; exact g.r (k - 1) (by omega)
    have hnx : refS x (fun k => (l.getD k bd0).f) (fun k => (·.r) (l.getD k bd0)) (k + 1) = s + (if (l.getD k bd0).f < x then (x - (l.getD k bd0).f) * ((·.r) (l.getD k bd0) - p) else 0) := by rw [refS, ← hs', ← hp']
    have hpn : Hid ((·.r) (l.getD k bd0) = if k + 1 = 0 then 0 else (·.r) (l.getD (k + 1 - 1) bd0)) := by unfold Hid; rw [if_neg (by omega), Nat.add_sub_cancel]
    dsimp only at hr hnx hpn
    clear hs' hp' hc g
    by_cases hxf : (l.getD k bd0).f < x
    · rw [if_pos hxf] at hnx
      have HN := Lib.hid hnx
      clear hnx
      generalize (l.getD k bd0).f = xf at *
      generalize (l.getD k bd0).r = xr at *
      generalize (l.getD k bd0).e = xe at *
      have hm1 := mul_bds (x := xr - p) (r := x - xf) (A := 10000) (B := 100000000000) (by omega) (by omega) (by omega) (by omega) (by decide)
      rw [Int.mul_comm (xr - p)] at hm1
      have hm2 : -1000000000000000 ≤ (x - xf) * (xr - p) := by omega
      have hm3 : (x - xf) * (xr - p) ≤ 1000000000000000 := by omega
      clear hm1
      go_wp2
      go_round
      case rel => exact ⟨k + 1, _, _, by omega, by go_num, rfl, rfl, HN.out.symm, hpn⟩
      case measure => simp [intOf]; omega
    · rw [if_neg hxf, Int.add_zero] at hnx
      have HN := Lib.hid hnx
      clear hnx
      generalize (l.getD k bd0).f = xf at *
      generalize (l.getD k bd0).r = xr at *
      generalize (l.getD k bd0).e = xe at *
      go_wp2
      go_round
      case rel => exact ⟨k + 1, _, _, by omega, by go_num, rfl, rfl, HN.out.symm, hpn⟩
      case measure => simp [intOf]; omega
--%%
theorem rexact2_c (x : Int) (l : List Bd) (A : Option Addr) (n c : Nat) (w : World) (h : BandSl w A n l) (hl : bandsErr l = 0) (hx : mrB x = true) :
    Calls Try.prog 13 #[.int .i64 x, .slice A n c, .bool true] w fun e w' => e = .returned (.int .i64 (bandS (·.e) l x)) ∧ w = w' := by
  obtain ⟨hn, hm, hc⟩ := h
  have g := goodB l hl
  have gl := g.lo
  rw [← hn] at g gl
  have hn8 := g.hi
  have hx' := mr_iff.1 hx
  obtain ⟨b, off, rfl, hb, hc⟩ := hc (by omega)
  obtain ⟨T, hT⟩ : ∃ T, T = bandS (·.e) l x := ⟨_, rfl⟩
  have HT : Hid (T = refS x (fun k => (l.getD k bd0).f) (fun k => (·.e) (l.getD k bd0)) n) := by
    unfold Hid
    rw [hT, bandS, ← hn, ref_prog x _ _ n g.m]
  rw [← hT]
  clear hT hl
  go_enter Try.func13, Try.ntmps13
  go_wp2
  go_loop [7, 8, 9] (fun o q i => ∃ (k : Nat) (s p : Int), k ≤ n ∧ i = .int .i64 k ∧ o = .int .i64 s ∧ q = .int .i64 p ∧ Hid (s = refS x (fun k => (l.getD k bd0).f) (fun k => (·.e) (l.getD k bd0)) k) ∧ Hid (p = if k = 0 then 0 else (·.e) (l.getD (k - 1) bd0))) (fun _ _ i => n - (intOf i).toNat)
  case atStart => exact ⟨0, 0, 0, Nat.zero_le _, rfl, rfl, rfl, rfl, rfl⟩
  case round =>
    obtain ⟨k, s, p, hk', rfl, rfl, rfl, hs, hp⟩ := hrel
    by_cases hk : k < n
    case neg =>
      have e : T = s := by rw [HT.out, hs.out, show k = n by omega]
      subst e
      go_wp2
      go_ret
      exact ⟨rfl, rfl⟩
    have hs' := hs.out
    have hp' := hp.out
    have hsb := ref_bd x (fun k => (l.getD k bd0).f) (fun k => (·.e) (l.getD k bd0)) n (fun i hi => (g.f i hi).1) g.e hx'.2 k (by omega)
    rw [← hs'] at hsb
    obtain ⟨c0, c1, c2⟩ := hc k (by rw [← hn]; exact hk)
    have hf := g.f k hk
    have hr := g.e k hk
    have hpb : 0 ≤ p ∧ p ≤ 10000 := by
      rw [hp']
      by_cases e : k = 0
      · simp [e]
      · rw [if_neg e]; exact g.e (k - 1) (by omega)
    have hnx : refS x (fun k => (l.getD k bd0).f) (fun k => (·.e) (l.getD k bd0)) (k + 1) = s + (if (l.getD k bd0).f < x then (x - (l.getD k bd0).f) * ((·.e) (l.getD k bd0) - p) else 0) := by rw [refS, ← hs', ← hp']
    have hpn : Hid ((·.e) (l.getD k bd0) = if k + 1 = 0 then 0 else (·.e) (l.getD (k + 1 - 1) bd0)) := by unfold Hid; rw [if_neg (by omega), Nat.add_sub_cancel]
    dsimp only at hr hnx hpn
    clear hs' hp' hc g
    by_cases hxf : (l.getD k bd0).f < x
    · rw [if_pos hxf] at hnx
      have HN := Lib.hid hnx
      clear hnx
      generalize (l.getD k bd0).f = xf at *
      generalize (l.getD k bd0).r = xr at *
      generalize (l.getD k bd0).e = xe at *
      have hm1 := mul_bds (x := xe - p) (r := x - xf) (A := 10000) (B := 100000000000) (by omega) (by omega) (by omega) (by omega) (by decide)
      rw [Int.mul_comm (xe - p)] at hm1
      have hm2 : -1000000000000000 ≤ (x - xf) * (xe - p) := by omega
      have hm3 : (x - xf) * (xe - p) ≤ 1000000000000000 := by omega
      clear hm1
      go_wp2
      go_round
      case rel => exact ⟨k + 1, _, _, by omega, by go_num, rfl, rfl, HN.out.symm, hpn⟩
      case measure => simp [intOf]; omega
    · rw [if_neg hxf, Int.add_zero] at hnx
      have HN := Lib.hid hnx
      clear hnx
      generalize (l.getD k bd0).f = xf at *
      generalize (l.getD k bd0).r = xr at *
      generalize (l.getD k bd0).e = xe at *
      go_wp2
      go_round
      case rel => exact ⟨k + 1, _, _, by omega, by go_num, rfl, rfl, HN.out.symm, hpn⟩
      case measure => simp [intOf]; omega
--%%
end Go.Proofs.Ytpheeblpfcipaaa
