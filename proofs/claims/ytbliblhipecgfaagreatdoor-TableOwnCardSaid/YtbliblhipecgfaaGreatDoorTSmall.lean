/-
  Contract of the law's small: is a table of a size with which it is tried? Conditions as named.
-/
import Derived.Test.YtbliblhipecgfaaGreatDoorM1
import Derived.Test.YtbliblhipecgfaaGreatDoorTable5
import Derived.Test.YtbliblhipecgfaaGreatDoorM0
namespace Go.Proofs.YtbliblhipecgfaaGreatDoor
set_option linter.unusedVariables false
open Go.RowKit
--%%
structure SmallOK (sch : List (List Bd)) (cts : List Ct) (kds : List Kd) : Prop where
  s : sch.length ≤ 30
  c : cts.length ≤ 30
  k : kds.length ≤ 40
  sl : ∀ k, k < sch.length → (sch.getD k []).length ≤ 30
  cl : ∀ k, k < cts.length → (cts.getD k ct0).bands.length ≤ 30 ∧ (cts.getD k ct0).nm.size ≤ 100
  kl : ∀ k, k < kds.length → (kds.getD k kd0).nm.size ≤ 100
def SmallR (sch : List (List Bd)) (cts : List Ct) (kds : List Kd) (w : World) (e : Ending) (w' : World) : Prop := ∃ b : Bool, (e = .returned (.bool b) ∧ (b = true → SmallOK sch cts kds)) ∧ Below w.heap.size w w'
set_option maxRecDepth 100000 in
set_option maxHeartbeats 3200000 in
theorem small_c (sch : List (List Bd)) (cts : List Ct) (kds : List Kd) (As Ac Ak : Option Addr) (ns cs nc cc nk ck : Nat) (lim rnd : Int) (w : World) (hs : ScSl w As ns sch) (hc : CtSl w Ac nc cts) (hk : KdSl w Ak nk kds) :
    Calls Tryz.prog 12 #[.agg #[.slice As ns cs, .slice Ac nc cc, .slice Ak nk ck, .int .i64 lim, .int .i64 rnd]] w (SmallR sch cts kds w) := by
  have hb0 := below1 w (.cells #[.slice As ns cs, .slice Ac nc cc, .slice Ak nk ck, .int .i64 lim, .int .i64 rnd] 26)
  have z := Blk.mk w 26 #[.slice As ns cs, .slice Ac nc cc, .slice Ak nk ck, .int .i64 lim, .int .i64 rnd]
  obtain ⟨z0, z1, z2, z3, z4⟩ := z.all5
  have HZ := Lib.hid z
  have HS := Lib.hid (hs.below hb0)
  have HC := Lib.hid (hc.below hb0)
  have HK := Lib.hid (hk.below hb0)
  have HLS := Lib.hid hs.1
  have HLC := Lib.hid hc.1
  have HLK := Lib.hid hk.1
  have n1 := hs.2.1
  have n2 := hc.2.1
  have n3 := hk.2.1
  have HNO : Hid (∀ W, Below w.heap.size w W → SmallR sch cts kds w (.returned (.bool false)) W) := fun W h => ⟨false, ⟨rfl, fun h => by cases h⟩, h⟩
  have HB0 := Lib.hid hb0
  clear hs hc hk z hb0
  by_cases h1 : 30 < ns
  · have v1 : decide ((30 : Int) < (ns : Int)) = true := by simp; omega
    clear h1
    go_enter Tryz.func12, Tryz.ntmps12
    go_wp2_with fail
    go_ret
    exact HNO.out _ HB0.out
  have v1 : decide ((30 : Int) < (ns : Int)) = false := by simp; omega
  by_cases h2 : 30 < nc
  · have v2 : decide ((30 : Int) < (nc : Int)) = true := by simp; omega
    clear h1 h2
    go_enter Tryz.func12, Tryz.ntmps12
    go_wp2_with fail
    go_ret
    exact HNO.out _ HB0.out
  have v2 : decide ((30 : Int) < (nc : Int)) = false := by simp; omega
  by_cases h3 : 40 < nk
  · have v3 : decide ((40 : Int) < (nk : Int)) = true := by simp; omega
    clear h1 h2 h3
    go_enter Tryz.func12, Tryz.ntmps12
    go_wp2_with fail
    go_ret
    exact HNO.out _ HB0.out
  have v3 : decide ((40 : Int) < (nk : Int)) = false := by simp; omega
  go_enter Tryz.func12, Tryz.ntmps12
  go_wp2_with fail
  go_loopw [28] (fun i wr => ∃ k : Nat, k ≤ ns ∧ i = .int .i64 k ∧ Hid (∀ j, j < k → (sch.getD j []).length ≤ 30) ∧ Below (w.alloc (.cells #[.slice As ns cs, .slice Ac nc cc, .slice Ak nk ck, .int .i64 lim, .int .i64 rnd] 26)).heap.size (w.alloc (.cells #[.slice As ns cs, .slice Ac nc cc, .slice Ak nk ck, .int .i64 lim, .int .i64 rnd] 26)) wr) (fun i _ => ns - (intOf i).toNat)
  case atStart => exact ⟨0, Nat.zero_le _, rfl, fun j hj => absurd hj (by omega), b0 _⟩
  case round =>
    obtain ⟨k, hk', rfl, HA, hbl⟩ := hrel
    by_cases hk : k < ns
    · obtain ⟨b, off, rfl, hlt, hat⟩ := (HS.out.below hbl).2.2 (by omega)
      obtain ⟨A1, m1, c1, hc1, hl1⟩ := hat k hk
      have hm1 := hl1.1
      have hm2 := hl1.2.1
      have HM := Lib.hid hm1
      rw [Nat.mul_one] at hc1
      have HBL := Lib.hid hbl
      clear hat hl1 hm1 hbl z0 z1 z2 z3 z4
      by_cases h4 : 30 < m1
      · have v4 : decide ((30 : Int) < (m1 : Int)) = true := by simp; omega
        clear h4
        go_wp2_with fail
        go_ret
        exact HNO.out _ (bT HB0.out HBL.out)
      · have v4 : decide ((30 : Int) < (m1 : Int)) = false := by simp; omega
        have HA2 : Hid (∀ j, j < k + 1 → (sch.getD j []).length ≤ 30) := fun j hj => by
          rcases (by omega : j = k ∨ j < k) with rfl | hj
          · rw [← HM.out]; omega
          · exact HA.out j hj
        clear h4
        go_wp2_with fail
        go_roundw
        case rel => exact ⟨k + 1, by omega, by go_num, HA2.out, HBL.out⟩
        case measure => simp [intOf]; omega
    obtain rfl : ns = k := by omega
    have HBL := Lib.hid hbl
    obtain ⟨y0, y1, y2, y3, y4⟩ := (HZ.out.t hbl).all5
    clear hbl z0 z1 z2 z3 z4 hk hk'
    go_wp2_with fail
    go_loopw [39] (fun i wr => ∃ j : Nat, j ≤ nc ∧ i = .int .i64 j ∧ Hid (∀ q, q < j → (cts.getD q ct0).bands.length ≤ 30 ∧ (cts.getD q ct0).nm.size ≤ 100) ∧ Below (w.alloc (.cells #[.slice As ns cs, .slice Ac nc cc, .slice Ak nk ck, .int .i64 lim, .int .i64 rnd] 26)).heap.size (w.alloc (.cells #[.slice As ns cs, .slice Ac nc cc, .slice Ak nk ck, .int .i64 lim, .int .i64 rnd] 26)) wr) (fun i _ => nc - (intOf i).toNat)
    case atStart => exact ⟨0, Nat.zero_le _, rfl, fun j hj => absurd hj (by omega), HBL.out⟩
    case round =>
      obtain ⟨j, hj', rfl, HQ, hbl⟩ := hrel
      by_cases hj : j < nc
      · obtain ⟨b, off, rfl, hlt, hat⟩ := (HC.out.below hbl).2.2 (by omega)
        have hcj := hat j hj
        have HQ2 : Hid ((cts.getD j ct0).bands.length ≤ 30 → (cts.getD j ct0).nm.size ≤ 100 → ∀ q, q < j + 1 → (cts.getD q ct0).bands.length ≤ 30 ∧ (cts.getD q ct0).nm.size ≤ 100) := fun h1 h2 q hq => by
          rcases (by omega : q = j ∨ q < j) with rfl | hq
          · exact ⟨h1, h2⟩
          · exact HQ.out q hq
        generalize cts.getD j ct0 = cj at *
        obtain ⟨nm, bs, bands, pc, yc, rd⟩ := cj
        obtain ⟨c0, cz, c1, ⟨A1, m1, q1, c2, hl1⟩, c3, c4, c5⟩ := hcj
        have hm1 := hl1.1
        have hm2 := hl1.2.1
        dsimp only at cz c0 c1 c2 c3 c4 c5 hm1 HQ2
        have HM := Lib.hid hm1
        have HBL2 := Lib.hid (bA hbl (.cells #[.string nm, .int .i64 bs, .slice A1 m1 q1, .int .i64 pc, .int .i64 yc, .int .i64 rd] 37))
        clear hat hl1 hm1 hbl y0 y1 y2 y3 y4
        by_cases h4 : 30 < m1
        · have v4 : decide ((30 : Int) < (m1 : Int)) = true := by simp; omega
          clear h4
          go_wp2_with fail
          go_ret
          exact HNO.out _ (bT HB0.out HBL2.out)
        have v4 : decide ((30 : Int) < (m1 : Int)) = false := by simp; omega
        by_cases h5 : 100 < nm.size
        · have v5 : decide ((100 : Int) < (nm.size : Int)) = true := by simp; omega
          clear h4 h5
          go_wp2_with fail
          go_ret
          exact HNO.out _ (bT HB0.out HBL2.out)
        have v5 : decide ((100 : Int) < (nm.size : Int)) = false := by simp; omega
        have HQ3 := Lib.hid (HQ2.out (by rw [← HM.out]; omega) (by omega))
        clear h4 h5
        go_wp2_with fail
        go_roundw
        case rel => exact ⟨j + 1, by omega, by go_num, HQ3.out, HBL2.out⟩
        case measure => simp [intOf]; omega
      obtain rfl : nc = j := by omega
      have HBL2 := Lib.hid hbl
      obtain ⟨x0, x1, x2, x3, x4⟩ := (HZ.out.t hbl).all5
      clear hbl y0 y1 y2 y3 y4 hj hj'
      go_wp2_with fail
      go_loopw [57] (fun i wr => ∃ j : Nat, j ≤ nk ∧ i = .int .i64 j ∧ Hid (∀ q, q < j → (kds.getD q kd0).nm.size ≤ 100) ∧ Below (w.alloc (.cells #[.slice As ns cs, .slice Ac nc cc, .slice Ak nk ck, .int .i64 lim, .int .i64 rnd] 26)).heap.size (w.alloc (.cells #[.slice As ns cs, .slice Ac nc cc, .slice Ak nk ck, .int .i64 lim, .int .i64 rnd] 26)) wr) (fun i _ => nk - (intOf i).toNat)
      case atStart => exact ⟨0, Nat.zero_le _, rfl, fun j hj => absurd hj (by omega), HBL2.out⟩
      case round =>
        obtain ⟨j2, hj', rfl, HQQ, hbl⟩ := hrel
        by_cases hj : j2 < nk
        · obtain ⟨b, off, rfl, hlt, hat⟩ := (HK.out.below hbl).2.2 (by omega)
          have hcj := hat j2 hj
          have HQ2 : Hid ((kds.getD j2 kd0).nm.size ≤ 100 → ∀ q, q < j2 + 1 → (kds.getD q kd0).nm.size ≤ 100) := fun h2 q hq => by
            rcases (by omega : q = j2 ∨ q < j2) with rfl | hq
            · exact h2
            · exact HQQ.out q hq
          generalize kds.getD j2 kd0 = cj at *
          obtain ⟨nm, kc, kt, ks⟩ := cj
          obtain ⟨c0, cz, c1, c2, c3⟩ := hcj
          dsimp only at cz c0 c1 c2 c3 HQ2
          have HBL3 := Lib.hid (bA hbl (.cells #[.string nm, .int .i64 kc, .int .i64 kt, .int .i64 ks] 60))
          clear hat hbl x0 x1 x2 x3 x4
          by_cases h5 : 100 < nm.size
          · have v5 : decide ((100 : Int) < (nm.size : Int)) = true := by simp; omega
            clear h5
            go_wp2_with fail
            go_ret
            exact HNO.out _ (bT HB0.out HBL3.out)
          have v5 : decide ((100 : Int) < (nm.size : Int)) = false := by simp; omega
          have HQ3 := Lib.hid (HQ2.out (by omega))
          clear h5
          go_wp2_with fail
          go_roundw
          case rel => exact ⟨j2 + 1, by omega, by go_num, HQ3.out, HBL3.out⟩
          case measure => simp [intOf]; omega
        obtain rfl : nk = j2 := by omega
        have HF : Hid (SmallOK sch cts kds) := ⟨by rw [← HLS.out]; omega, by rw [← HLC.out]; omega, by rw [← HLK.out]; omega, fun q hq => HA.out q (by rw [HLS.out]; exact hq), fun q hq => HQ.out q (by rw [HLC.out]; exact hq), fun q hq => HQQ.out q (by rw [HLK.out]; exact hq)⟩
        go_wp2_with fail
        go_ret
        exact ⟨true, ⟨rfl, fun _ => HF.out⟩, bT HB0.out hbl⟩
--%%
end Go.Proofs.YtbliblhipecgfaaGreatDoor
