/-
  Contract of stipendtop.light: is a table of a size with which it is tried? Conditions as named.
-/
import Derived.Test.YtcngmajkkhipoaaGreatDoorM1
import Derived.Test.YtcngmajkkhipoaaGreatDoorTable5
import Derived.Test.YtcngmajkkhipoaaGreatDoorM0
namespace Go.Proofs.YtcngmajkkhipoaaGreatDoor
set_option linter.unusedVariables false
open Go.RowKit
--%%
structure LightOK (sch : List (List Bd)) (cts : List Ct) (kds : List Kd) : Prop where
  s : sch.length ≤ 20
  c : cts.length ≤ 20
  k : kds.length ≤ 30
  sl : ∀ k, k < sch.length → (sch.getD k []).length ≤ 20
  cl : ∀ k, k < cts.length → (cts.getD k ct0).bands.length ≤ 20 ∧ (cts.getD k ct0).nm.size ≤ 60
def LightR (sch : List (List Bd)) (cts : List Ct) (kds : List Kd) (w : World) (e : Ending) (w' : World) : Prop := ∃ b : Bool, (e = .returned (.bool b) ∧ (b = true → LightOK sch cts kds)) ∧ Below w.heap.size w w'
set_option maxRecDepth 100000 in
set_option maxHeartbeats 3200000 in
theorem light_c (sch : List (List Bd)) (cts : List Ct) (kds : List Kd) (As Ac Ak : Option Addr) (ns cs nc cc nk ck : Nat) (lim rnd : Int) (w : World) (hs : ScSl w As ns sch) (hc : CtSl w Ac nc cts) (hk : KdSl w Ak nk kds) :
    Calls Tryz.prog 6 #[.agg #[.slice As ns cs, .slice Ac nc cc, .slice Ak nk ck, .int .i64 lim, .int .i64 rnd]] w (LightR sch cts kds w) := by
  have hb0 := below1 w (.cells #[.slice As ns cs, .slice Ac nc cc, .slice Ak nk ck, .int .i64 lim, .int .i64 rnd] 26)
  have z := Blk.mk w 26 #[.slice As ns cs, .slice Ac nc cc, .slice Ak nk ck, .int .i64 lim, .int .i64 rnd]
  obtain ⟨z0, z1, z2, z3, z4⟩ := z.all5
  have HZ := Lib.hid z
  have HS := Lib.hid (hs.below hb0)
  have HC := Lib.hid (hc.below hb0)
  have HLS := Lib.hid hs.1
  have HLC := Lib.hid hc.1
  have HLK := Lib.hid hk.1
  have n1 := hs.2.1
  have n2 := hc.2.1
  have n3 := hk.2.1
  have HNO : Hid (∀ W, Below w.heap.size w W → LightR sch cts kds w (.returned (.bool false)) W) := fun W h => ⟨false, ⟨rfl, fun h => by cases h⟩, h⟩
  have HB0 := Lib.hid hb0
  clear hs hc hk z hb0
  by_cases h1 : 20 < ns
  · have v1 : decide ((20 : Int) < (ns : Int)) = true := by simp; omega
    clear h1
    go_enter Tryz.func6, Tryz.ntmps6
    go_wp2_with fail
    go_ret
    exact HNO.out _ HB0.out
  have v1 : decide ((20 : Int) < (ns : Int)) = false := by simp; omega
  by_cases h2 : 20 < nc
  · have v2 : decide ((20 : Int) < (nc : Int)) = true := by simp; omega
    clear h1 h2
    go_enter Tryz.func6, Tryz.ntmps6
    go_wp2_with fail
    go_ret
    exact HNO.out _ HB0.out
  have v2 : decide ((20 : Int) < (nc : Int)) = false := by simp; omega
  by_cases h3 : 30 < nk
  · have v3 : decide ((30 : Int) < (nk : Int)) = true := by simp; omega
    clear h1 h2 h3
    go_enter Tryz.func6, Tryz.ntmps6
    go_wp2_with fail
    go_ret
    exact HNO.out _ HB0.out
  have v3 : decide ((30 : Int) < (nk : Int)) = false := by simp; omega
  go_enter Tryz.func6, Tryz.ntmps6
  go_wp2_with fail
  go_loopw [26] (fun i wr => ∃ k : Nat, k ≤ ns ∧ i = .int .i64 k ∧ Hid (∀ j, j < k → (sch.getD j []).length ≤ 20) ∧ Below (w.alloc (.cells #[.slice As ns cs, .slice Ac nc cc, .slice Ak nk ck, .int .i64 lim, .int .i64 rnd] 26)).heap.size (w.alloc (.cells #[.slice As ns cs, .slice Ac nc cc, .slice Ak nk ck, .int .i64 lim, .int .i64 rnd] 26)) wr) (fun i _ => ns - (intOf i).toNat)
  case atStart => exact ⟨0, Nat.zero_le _, rfl, fun j hj => absurd hj (by omega), b0 _⟩
  case round =>
    obtain ⟨k, hk', rfl, HA, hbl⟩ := hrel
    by_cases hk : k < ns
    · obtain ⟨b, off, rfl, hlt, hat⟩ := (HS.out.below hbl).2.2 (by omega)
      obtain ⟨A1, m1, c1, hc1, hl1⟩ := hat k hk
      have hm1 := hl1.1
      have hm2 := hl1.2.1
      have HM := Lib.hid hm1
      rw [Nat.mul_one] at hc1
      have HBL := Lib.hid hbl
      clear hat hl1 hm1 hbl z0 z1 z2 z3 z4
      by_cases h4 : 20 < m1
      · have v4 : decide ((20 : Int) < (m1 : Int)) = true := by simp; omega
        clear h4
        go_wp2_with fail
        go_ret
        exact HNO.out _ (bT HB0.out HBL.out)
      · have v4 : decide ((20 : Int) < (m1 : Int)) = false := by simp; omega
        have HA2 : Hid (∀ j, j < k + 1 → (sch.getD j []).length ≤ 20) := fun j hj => by
          rcases (by omega : j = k ∨ j < k) with rfl | hj
          · rw [← HM.out]; omega
          · exact HA.out j hj
        clear h4
        go_wp2_with fail
        go_roundw
        case rel => exact ⟨k + 1, by omega, by go_num, HA2.out, HBL.out⟩
        case measure => simp [intOf]; omega
    obtain rfl : ns = k := by omega
    have HBL := Lib.hid hbl
    obtain ⟨y0, y1, y2, y3, y4⟩ := (HZ.out.t hbl).all5
    clear hbl z0 z1 z2 z3 z4 hk hk'
    go_wp2_with fail
    go_loopw [37] (fun i wr => ∃ j : Nat, j ≤ nc ∧ i = .int .i64 j ∧ Hid (∀ q, q < j → (cts.getD q ct0).bands.length ≤ 20 ∧ (cts.getD q ct0).nm.size ≤ 60) ∧ Below (w.alloc (.cells #[.slice As ns cs, .slice Ac nc cc, .slice Ak nk ck, .int .i64 lim, .int .i64 rnd] 26)).heap.size (w.alloc (.cells #[.slice As ns cs, .slice Ac nc cc, .slice Ak nk ck, .int .i64 lim, .int .i64 rnd] 26)) wr) (fun i _ => nc - (intOf i).toNat)
    case atStart => exact ⟨0, Nat.zero_le _, rfl, fun j hj => absurd hj (by omega), HBL.out⟩
    case round =>
      obtain ⟨j, hj', rfl, HQ, hbl⟩ := hrel
      by_cases hj : j < nc
      · obtain ⟨b, off, rfl, hlt, hat⟩ := (HC.out.below hbl).2.2 (by omega)
        have hcj := hat j hj
        have HQ2 : Hid ((cts.getD j ct0).bands.length ≤ 20 → (cts.getD j ct0).nm.size ≤ 60 → ∀ q, q < j + 1 → (cts.getD q ct0).bands.length ≤ 20 ∧ (cts.getD q ct0).nm.size ≤ 60) := fun h1 h2 q hq => by
          rcases (by omega : q = j ∨ q < j) with rfl | hq
          · exact ⟨h1, h2⟩
          · exact HQ.out q hq
        generalize cts.getD j ct0 = cj at *
        obtain ⟨nm, bs, bands, pc, yc, rd⟩ := cj
        obtain ⟨c0, cz, c1, ⟨A1, m1, q1, c2, hl1⟩, c3, c4, c5⟩ := hcj
        have hm1 := hl1.1
        have hm2 := hl1.2.1
        dsimp only at cz c0 c1 c2 c3 c4 c5 hm1 HQ2
        have HM := Lib.hid hm1
        have HBL2 := Lib.hid (bA hbl (.cells #[.string nm, .int .i64 bs, .slice A1 m1 q1, .int .i64 pc, .int .i64 yc, .int .i64 rd] 46))
        clear hat hl1 hm1 hbl y0 y1 y2 y3 y4
        by_cases h4 : 20 < m1
        · have v4 : decide ((20 : Int) < (m1 : Int)) = true := by simp; omega
          clear h4
          go_wp2_with fail
          go_ret
          exact HNO.out _ (bT HB0.out HBL2.out)
        have v4 : decide ((20 : Int) < (m1 : Int)) = false := by simp; omega
        by_cases h5 : 60 < nm.size
        · have v5 : decide ((60 : Int) < (nm.size : Int)) = true := by simp; omega
          clear h4 h5
          go_wp2_with fail
          go_ret
          exact HNO.out _ (bT HB0.out HBL2.out)
        have v5 : decide ((60 : Int) < (nm.size : Int)) = false := by simp; omega
        have HQ3 := Lib.hid (HQ2.out (by rw [← HM.out]; omega) (by omega))
        clear h4 h5
        go_wp2_with fail
        go_roundw
        case rel => exact ⟨j + 1, by omega, by go_num, HQ3.out, HBL2.out⟩
        case measure => simp [intOf]; omega
      obtain rfl : j = nc := by omega
      have HF : Hid (LightOK sch cts kds) := ⟨by rw [← HLS.out]; omega, by rw [← HLC.out]; omega, by rw [← HLK.out]; omega, fun q hq => HA.out q (by rw [HLS.out]; exact hq), fun q hq => HQ.out q (by rw [HLC.out]; exact hq)⟩
      go_wp2_with fail
      go_ret
      exact ⟨true, ⟨rfl, fun _ => HF.out⟩, bT HB0.out hbl⟩
--%%
end Go.Proofs.YtcngmajkkhipoaaGreatDoor
