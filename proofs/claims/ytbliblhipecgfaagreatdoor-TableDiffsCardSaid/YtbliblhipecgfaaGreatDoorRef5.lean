/-
  Contracts of the reference of layer 5 (bands). Conditions as named.
-/
import Derived.Test.YtbliblhipecgfaaGreatDoorBand
namespace Go.Proofs.YtbliblhipecgfaaGreatDoor
set_option linter.unusedVariables false
open Go.RowKit
--%%
set_option maxRecDepth 100000 in
set_option maxHeartbeats 1600000 in
theorem rcheck_loop (l : List Bd) (n b off c : Nat) (hn : Hid (n = l.length)) (h1 : 1 ≤ n) (h8 : n ≤ 8) (w : World) (hb : b < w.heap.size) (hc : BandsAt w b off l) :
    Calls Tryz.prog 32 #[.slice (some ⟨b, off, none⟩) n c] w fun e w' => (∃ r, e = .returned (.int .i64 r) ∧ Hid (r = firstNZ (bandAt l) n)) ∧ Below w.heap.size w w' := by
  have hn1 : ¬ (n : Int) < 1 := by omega
  have hn9 : ¬ (8 : Int) < (n : Int) := by omega
  go_enter Tryz.func32, Tryz.ntmps32
  go_wp2
  go_loopw [3] (fun i wr => ∃ k : Nat, k ≤ n ∧ i = .int .i64 k ∧ Hid (firstNZ (bandAt l) k = 0) ∧ Below w.heap.size w wr) (fun i _ => n - (intOf i).toNat)
  case atStart => exact ⟨0, Nat.zero_le _, rfl, rfl, Below.refl _ _⟩
  case round =>
    obtain ⟨k, hk', rfl, HZ, hbl⟩ := hrel
    by_cases hk : k < n
    case neg =>
      go_wp2
      go_ret
      refine ⟨⟨_, rfl, ?_⟩, hbl⟩
      unfold Hid
      rw [show n = k from by omega, HZ.out]
    have hkl : k < l.length := by rw [← hn.out]; exact hk
    obtain ⟨c0, c1, c2⟩ := hc k hkl
    rw [← hbl.cell (p := ⟨b, _, none⟩) hb] at c0 c1 c2
    have HB : Hid (bandAt l k = bandV k (l.getD (k - 1) bd0).f (l.getD k bd0).f (l.getD k bd0).r (l.getD k bd0).e) := rfl
    by_cases hk0 : k = 0
    · have kk : ((k : Int) == 0) = true := by simp; omega
      have kz2 : decide (0 < k) = false := by simp; omega
      have kz : decide ((0 : Int) < (k : Int)) = false := by simp; omega
      have HK := Lib.hid hk0
      clear hk0 hc
      generalize (l.getD k bd0).f = xf at *
      generalize (l.getD k bd0).r = xr at *
      generalize (l.getD k bd0).e = xe at *
      generalize (l.getD (k - 1) bd0).f = pf at *
      by_cases a1 : xf < 0
      · go_wp2
        go_ret
        have e0 : bandAt l k = 1 := HB.out.trans (by unfold bandV; rw [if_pos (Or.inl a1)])
        refine ⟨⟨_, rfl, ?_⟩, hbl⟩
        unfold Hid
        rw [firstNZ_stop (bandAt l) k n HZ.out (by rw [e0]; decide) hk, e0]
      by_cases a2 : 100000000000 < xf
      · go_wp2
        go_ret
        have e0 : bandAt l k = 1 := HB.out.trans (by unfold bandV; rw [if_pos (Or.inr (Or.inl a2))])
        refine ⟨⟨_, rfl, ?_⟩, hbl⟩
        unfold Hid
        rw [firstNZ_stop (bandAt l) k n HZ.out (by rw [e0]; decide) hk, e0]
      by_cases a3 : 0 < xf
      · go_wp2
        go_ret
        have e0 : bandAt l k = 1 := HB.out.trans (by unfold bandV; rw [if_pos (Or.inr (Or.inr ⟨HK.out, by omega⟩))])
        refine ⟨⟨_, rfl, ?_⟩, hbl⟩
        unfold Hid
        rw [firstNZ_stop (bandAt l) k n HZ.out (by rw [e0]; decide) hk, e0]
      obtain rfl : xf = 0 := by omega
      by_cases b1 : xr < 0
      · go_wp2
        go_quiet (fail)
        go_wp2
        go_ret
        have e0 : bandAt l k = 50 := HB.out.trans (by unfold bandV; rw [if_neg (by simp), if_neg (by have := HK.out; omega)]; rw [if_pos (by rw [rateB_iff, rateB_iff]; omega)])
        refine ⟨⟨_, rfl, ?_⟩, below_drewN hbl _⟩
        unfold Hid
        rw [firstNZ_stop (bandAt l) k n HZ.out (by rw [e0]; decide) hk, e0]
      by_cases b2 : 10000 < xr
      · go_wp2
        go_quiet (fail)
        go_wp2
        go_ret
        have e0 : bandAt l k = 50 := HB.out.trans (by unfold bandV; rw [if_neg (by simp), if_neg (by have := HK.out; omega)]; rw [if_pos (by rw [rateB_iff, rateB_iff]; omega)])
        refine ⟨⟨_, rfl, ?_⟩, below_drewN hbl _⟩
        unfold Hid
        rw [firstNZ_stop (bandAt l) k n HZ.out (by rw [e0]; decide) hk, e0]
      by_cases b3 : xe < 0
      · go_wp2
        go_quiet (fail)
        go_wp2
        go_ret
        have e0 : bandAt l k = 50 := HB.out.trans (by unfold bandV; rw [if_neg (by simp), if_neg (by have := HK.out; omega)]; rw [if_pos (by rw [rateB_iff, rateB_iff]; omega)])
        refine ⟨⟨_, rfl, ?_⟩, below_drewN hbl _⟩
        unfold Hid
        rw [firstNZ_stop (bandAt l) k n HZ.out (by rw [e0]; decide) hk, e0]
      by_cases b4 : 10000 < xe
      · go_wp2
        go_quiet (fail)
        go_wp2
        go_ret
        have e0 : bandAt l k = 50 := HB.out.trans (by unfold bandV; rw [if_neg (by simp), if_neg (by have := HK.out; omega)]; rw [if_pos (by rw [rateB_iff, rateB_iff]; omega)])
        refine ⟨⟨_, rfl, ?_⟩, below_drewN hbl _⟩
        unfold Hid
        rw [firstNZ_stop (bandAt l) k n HZ.out (by rw [e0]; decide) hk, e0]
      have e0 : bandAt l k = 0 := HB.out.trans (by unfold bandV; rw [if_neg (by simp), if_neg (by have := HK.out; omega)]; rw [if_neg (by rw [rateB_iff, rateB_iff]; omega)])
      have E0 := Lib.hid e0; clear e0
      go_wp2
      go_quiet (fail)
      go_wp2
      go_roundw
      case rel => exact ⟨k + 1, by omega, by go_num, firstNZ_step (bandAt l) k HZ.out E0.out, below_drewN hbl _⟩
      case measure => simp [intOf]; omega
    · have kk : ((k : Int) == 0) = false := by simp; omega
      have kp : (0 : Int) < (k : Int) := by omega
      have kp2 : decide (0 < k) = true := by simp; omega
      obtain ⟨d0, d1, d2⟩ := hc (k - 1) (by omega)
      rw [← hbl.cell (p := ⟨b, _, none⟩) hb] at d0
      clear d1 d2 hc
      have k1 : IntKind.i64.wrap ((k : Int) - 1) = ((k : Int) - 1) := by rw [IntKind.wrap_i64]; omega
      have k2 : ((k : Int) - 1).toNat = k - 1 := by omega
      have k4 : 0 ≤ ((k : Int) - 1) := by omega
      have k5 : ((k : Int) - 1) < (n : Int) := by omega
      have k6 : (1 : Int) ≤ (k : Int) := by omega
      have k7 : 1 ≤ k := by omega
      generalize (l.getD k bd0).f = xf at *
      generalize (l.getD k bd0).r = xr at *
      generalize (l.getD k bd0).e = xe at *
      generalize (l.getD (k - 1) bd0).f = pf at *
      by_cases a1 : xf < 0
      · go_wp2
        go_ret
        have e0 : bandAt l k = 1 := HB.out.trans (by unfold bandV; rw [if_pos (Or.inl a1)])
        refine ⟨⟨_, rfl, ?_⟩, hbl⟩
        unfold Hid
        rw [firstNZ_stop (bandAt l) k n HZ.out (by rw [e0]; decide) hk, e0]
      by_cases a2 : 100000000000 < xf
      · go_wp2
        go_ret
        have e0 : bandAt l k = 1 := HB.out.trans (by unfold bandV; rw [if_pos (Or.inr (Or.inl a2))])
        refine ⟨⟨_, rfl, ?_⟩, hbl⟩
        unfold Hid
        rw [firstNZ_stop (bandAt l) k n HZ.out (by rw [e0]; decide) hk, e0]
      by_cases a3 : xf ≤ pf
      · go_wp2
        go_quiet (fail)
        go_wp2
        go_ret
        have e0 : bandAt l k = 6 := HB.out.trans (by unfold bandV; rw [if_neg (by omega), if_pos (by omega)])
        refine ⟨⟨_, rfl, ?_⟩, below_drewN hbl _⟩
        unfold Hid
        rw [firstNZ_stop (bandAt l) k n HZ.out (by rw [e0]; decide) hk, e0]
      by_cases b1 : xr < 0
      · go_wp2
        go_quiet (fail)
        go_wp2
        go_ret
        have e0 : bandAt l k = 50 := HB.out.trans (by unfold bandV; rw [if_neg (by omega), if_neg (by omega)]; rw [if_pos (by rw [rateB_iff, rateB_iff]; omega)])
        refine ⟨⟨_, rfl, ?_⟩, below_drewN hbl _⟩
        unfold Hid
        rw [firstNZ_stop (bandAt l) k n HZ.out (by rw [e0]; decide) hk, e0]
      by_cases b2 : 10000 < xr
      · go_wp2
        go_quiet (fail)
        go_wp2
        go_ret
        have e0 : bandAt l k = 50 := HB.out.trans (by unfold bandV; rw [if_neg (by omega), if_neg (by omega)]; rw [if_pos (by rw [rateB_iff, rateB_iff]; omega)])
        refine ⟨⟨_, rfl, ?_⟩, below_drewN hbl _⟩
        unfold Hid
        rw [firstNZ_stop (bandAt l) k n HZ.out (by rw [e0]; decide) hk, e0]
      by_cases b3 : xe < 0
      · go_wp2
        go_quiet (fail)
        go_wp2
        go_ret
        have e0 : bandAt l k = 50 := HB.out.trans (by unfold bandV; rw [if_neg (by omega), if_neg (by omega)]; rw [if_pos (by rw [rateB_iff, rateB_iff]; omega)])
        refine ⟨⟨_, rfl, ?_⟩, below_drewN hbl _⟩
        unfold Hid
        rw [firstNZ_stop (bandAt l) k n HZ.out (by rw [e0]; decide) hk, e0]
      by_cases b4 : 10000 < xe
      · go_wp2
        go_quiet (fail)
        go_wp2
        go_ret
        have e0 : bandAt l k = 50 := HB.out.trans (by unfold bandV; rw [if_neg (by omega), if_neg (by omega)]; rw [if_pos (by rw [rateB_iff, rateB_iff]; omega)])
        refine ⟨⟨_, rfl, ?_⟩, below_drewN hbl _⟩
        unfold Hid
        rw [firstNZ_stop (bandAt l) k n HZ.out (by rw [e0]; decide) hk, e0]
      have e0 : bandAt l k = 0 := HB.out.trans (by unfold bandV; rw [if_neg (by omega), if_neg (by omega)]; rw [if_neg (by rw [rateB_iff, rateB_iff]; omega)])
      have E0 := Lib.hid e0; clear e0
      go_wp2
      go_quiet (fail)
      go_wp2
      go_roundw
      case rel => exact ⟨k + 1, by omega, by go_num, firstNZ_step (bandAt l) k HZ.out E0.out, below_drewN hbl _⟩
      case measure => simp [intOf]; omega
--%%
end Go.Proofs.YtbliblhipecgfaaGreatDoor
