/-
  Layer 15's law SocialCeils: its walk. No conditions.
-/
import Derived.Test.YtpheeblpfcipaaaLaw15b
import Derived.Test.YtpheeblpfcipaaaCeilP
import Derived.RegionTactic
import Derived.BigRegion
import Derived.Lib.MinMax
namespace Go.Proofs.Ytpheeblpfcipaaa
set_option linter.unusedVariables false
open Go.RowKit
--%%
set_option maxRecDepth 100000 in
set_option maxHeartbeats 1600000 in
theorem socialCeils_walk (sch : List (List Bd)) (cts : List Ct) (kds : List Kd) (l : List Bs) (As Ac Ak A : Option Addr) (ns cs nc cc nk ck n c : Nat) (lim rnd : Int) (w : World) (hs : ScSl w As ns sch) (hc : CtSl w Ac nc cts) (hcc : nc ≤ cc) (hk : KdSl w Ak nk kds) (hck : nk ≤ ck) (hl : BsSl w A n l) :
    Calls Try.prog 5 #[.agg #[.slice As ns cs, .slice Ac nc cc, .slice Ak nk ck, .int .i64 lim, .int .i64 rnd], .slice A n c] w fun e w' => e = .returned (.bool true) ∧ Below w.heap.size w w' := by
  have z := Blk.mk w 26 #[.slice As ns cs, .slice Ac nc cc, .slice Ak nk ck, .int .i64 lim, .int .i64 rnd]
  have hb0 := below1 w (.cells #[.slice As ns cs, .slice Ac nc cc, .slice Ak nk ck, .int .i64 lim, .int .i64 rnd] 26)
  have HS := Lib.hid hs
  have HC := Lib.hid hc
  have HK := Lib.hid hk
  have HL := Lib.hid hl
  clear hs hc hk hl
  go_enter Try.func5, Try.ntmps5
  go_wp2_with fail
  refine (pays_c _).mono ?_
  rintro e w1 ⟨rfl, hb1⟩
  have z1 := z.t hb1
  have hb2 := bT hb0 hb1
  obtain ⟨p0, p1, p2, p3, p4⟩ := z1.all5
  go_wp2_with fail
  refine (fits15_c sch cts kds As Ac Ak ns cs nc cc nk ck lim rnd _ (HS.out.below hb2) (HC.out.below hb2) hcc (HK.out.below hb2) hck).mono ?_
  rintro e w2 ⟨bb, ⟨rfl, hy⟩, hb3⟩
  have hb4 := bT hb2 hb3
  cases bb
  · clear hy
    go_wp2_with fail
    go_ret
    exact ⟨rfl, hb4⟩
  obtain ⟨hOK, hn20⟩ := hy rfl
  have HOK := Lib.hid hOK
  clear hOK hy p0 p1 p2 p3 p4
  have z2 := z1.t hb3
  obtain ⟨p0, p1, p2, p3, p4⟩ := z2.all5
  by_cases hn : 60 < n
  · have hnd : (60 : Int) < (n : Int) := by omega
    go_wp2_with fail
    go_ret
    exact ⟨rfl, hb4⟩
  have hnd : ¬ (60 : Int) < (n : Int) := by omega
  by_cases hn0 : n = 0
  · have hn0d : ((n : Int) == 0) = true := by simp; omega
    clear hn0
    go_wp2_with fail
    go_ret
    exact ⟨rfl, hb4⟩
  have hn0d : ((n : Int) == 0) = false := by simp; omega
  have hcts : ∀ k, k < nc → CtOK (cts.getD k ct0) := fun k hk => HOK.out.cts k (by have := HC.out.1; omega)
  have KY := Lib.hid (fun W h1 h2 => year_c cts As Ac Ak A ns cs nc cc nk ck n c lim rnd l W h1 hcts h2 (by omega) (by omega))
  have HCTS := Lib.hid hcts
  clear hcts
  go_wp2_with fail
  refine (KY.out _ (HC.out.below hb4) (HL.out.below hb4)).mono ?_
  rintro e w3 ⟨⟨hyes, v, rfl, hv⟩ | ⟨⟨k, hk, hno⟩, rfl⟩, hb5⟩
  case inr =>
    clear hno
    go_wp2_with fail
    go_ret
    exact ⟨rfl, bT hb4 hb5⟩
  have hb6 := bT hb4 hb5
  have z3 := z2.t hb5
  have HY := Lib.hid hyes
  obtain ⟨Av, cv, rfl, hcv, hrows⟩ := hv.sl (by omega)
  have HR := Lib.hid hrows
  clear hyes hv hrows p0 p1 p2 p3 p4
  obtain ⟨p0, p1, p2, p3, p4⟩ := z3.all5
  go_wp2_with fail
  go_loopw [7, 8, 9, 11, 12, 14, 41, 49, 60] (fun _ _ _ _ _ _ i _ _ wr => ∃ j : Nat, j ≤ nc ∧ i = .int .i64 j ∧ Below w3.heap.size w3 wr) (fun _ _ _ _ _ _ i _ _ _ => nc - (intOf i).toNat)
  case atStart => exact ⟨0, Nat.zero_le _, rfl, b0 _⟩
  case round =>
    obtain ⟨j, hj', rfl, hbl⟩ := hrel
    by_cases hj : j < nc
    case neg =>
      go_wp2_with fail
      go_ret
      exact ⟨rfl, bT hb6 hbl⟩
    obtain ⟨wo, rfl⟩ : ∃ wo : World, wo = wr := ⟨_, rfl⟩
    have hblo := hbl.size
    obtain ⟨bc, oc, rfl, hltc, hatc⟩ := (HC.out.below (bT hb6 hbl)).2.2 (by omega)
    obtain ⟨c0, _, c1, ⟨A', n', c', c2, hbs⟩, c3, c4, c5⟩ := hatc j hj
    have hok := HCTS.out j hj
    have okk := hok.bands
    have okp := hok.pc
    have oky := hok.yc
    have g := goodB _ okk
    have hCS := Lib.hid (fun (k : Nat) (h : k ≤ n) => ceil_sum cts l nc j hj hok k (fun i hi => HY.out i (by omega)))
    have hSB := Lib.hid (fun (k : Nat) (hk : k < n) => share_bd (cts.getD j ct0) hok (l.getD k bs0) (okA_b (HY.out k hk)) ((ahd cts l nc k).getD j 0))
    have hRA := Lib.hid (fun k => row_at cts l nc k j hj)
    have HAT := Lib.hid hatc
    have htb := top_bd (cts.getD j ct0).bands (cts.getD j ct0).bands.length g.r
    have g8 := g.hi
    clear hatc hok g
    generalize hct : cts.getD j ct0 = ct at *
    have HCT := Lib.hid hct
    clear hct
    obtain ⟨nm, base, bands, pc, yc, rd⟩ := ct
    dsimp only at c0 c1 c2 c3 c4 c5 hbs okp oky okk htb g8
    have hn8 : n' ≤ 8 := by have := hbs.1; omega
    have cb := Blk.mk wo 31 #[.string nm, .int .i64 base, .slice A' n' c', .int .i64 pc, .int .i64 yc, .int .i64 rd]
    obtain ⟨q0, q1, q2, q3, q4, q5⟩ := cb.all6
    have hb7 := below1 wo (.cells #[.string nm, .int .i64 base, .slice A' n' c', .int .i64 pc, .int .i64 yc, .int .i64 rd] 31)
    have hnb := hbs.1
    have HNB := Lib.hid hnb
    clear hnb
    go_wp2_with fail
    go_loopw [9, 11, 49] (fun t _ i wr => ∃ k : Nat, k ≤ n' ∧ i = .int .i64 k ∧ t = .int .i64 (topTo bands k) ∧ Below wo.heap.size wo wr ∧ Blk wr wo.heap.size 31 #[.string nm, .int .i64 base, .slice A' n' c', .int .i64 pc, .int .i64 yc, .int .i64 rd]) (fun _ _ i _ => n' - (intOf i).toNat)
    case atStart => exact ⟨0, Nat.zero_le _, rfl, rfl, hb7, cb⟩
    case round =>
      obtain ⟨k, hk', rfl, rfl, hbl2, y⟩ := hrel
      by_cases hk : k < n'
      case pos =>
        obtain ⟨gb, ob, rfl, hltb, hatb⟩ := (hbs.below hbl2).2.2 (by omega)
        obtain ⟨d0, d1, d2⟩ := hatb k (by have := HNB.out; omega)
        have HT : Hid (topTo bands (k + 1) = max (topTo bands k) (bands.getD k bd0).r) := rfl
        clear hatb hbs
        generalize (bands.getD k bd0).f = bf at *
        generalize (bands.getD k bd0).r = br at *
        generalize (bands.getD k bd0).e = be at *
        generalize topTo bands k = T at *
        go_wp2_with fail
        go_roundw
        case rel => exact ⟨k + 1, by omega, by go_num, by rw [HT.out], bA hbl2 _, y.alloc _⟩
        case measure => simp [intOf]; omega
      have e : Hid (k = bands.length) := by unfold Hid; rw [← HNB.out]; omega
      rw [show topTo bands k = topTo bands bands.length from by rw [e.out]]
      obtain ⟨T, hT⟩ : ∃ T, T = topTo bands bands.length := ⟨_, rfl⟩
      rw [← hT] at htb ⊢
      have HT := Lib.hid hT
      clear hT e
      obtain ⟨wi, rfl⟩ : ∃ wi : World, wi = wr := ⟨_, rfl⟩
      go_wp2_with fail
      go_loopw [12, 14, 60] (fun t _ i wr => ∃ (k : Nat) (S : Int), k ≤ n ∧ i = .int .i64 k ∧ t = .int .i64 S ∧ Hid (S = sumTo (fun i => ((rowY cts l nc i).getD j sh0).a) k) ∧ Below wo.heap.size wo wr ∧ Blk wr wo.heap.size 31 #[.string nm, .int .i64 base, .slice A' n' c', .int .i64 pc, .int .i64 yc, .int .i64 rd]) (fun _ _ i _ => n - (intOf i).toNat)
      case atStart => exact ⟨0, 0, Nat.zero_le _, rfl, rfl, rfl, hbl2, y⟩
      case round =>
        obtain ⟨i, S, hi', rfl, rfl, hS, hbl3, y3⟩ := hrel
        have hbl4 := bT hbl hbl3
        obtain ⟨s1, s2, s3, s4, s5, s6⟩ := hCS.out i hi'
        rw [← hS.out] at s1 s2 s4 s5
        try dsimp only at s4 s5 s6
        rw [← HT.out] at s4 s5
        obtain ⟨r0, r1, r2, r3, r4, r5⟩ := y3.all6
        by_cases hi : i < n
        case neg =>
          obtain rfl : i = n := by omega
          have hlt := s5 (by omega)
          generalize (ahd cts l nc i).getD j 0 = ah at *
          have w1 : IntKind.i64.wrap (S - (i : Int)) = S - (i : Int) := by rw [IntKind.wrap_i64]; omega
          by_cases hyc : 0 < yc
          · have h6 := s6 hyc
            have h7 : ah * T ≤ yc * T := Int.mul_le_mul_of_nonneg_right h6 htb.1
            have h8 := mul_bd0 oky.1 oky.2 htb.1 htb.2 (by decide)
            have t1 : decide (yc * T ≤ (S - (i : Int)) * 10000) = false := by simp; omega
            have t2 : ¬ (yc * T ≤ (S - (i : Int)) * 10000) := by omega
            have b1 : -1000000 ≤ S - (i : Int) := by omega
            have b2 : S - (i : Int) ≤ 10000000000000 := by omega
            clear s4 s5 s6 hlt h6 h7
            go_wp2_with fail
            go_roundw
            case rel => exact ⟨j + 1, by omega, by go_num, hbl4⟩
            case measure => simp [intOf]; omega
          · have t1 : decide (0 < yc) = false := by simp; omega
            clear s4 s5 s6 hlt
            go_wp2_with fail
            go_roundw
            case rel => exact ⟨j + 1, by omega, by go_num, hbl4⟩
            case measure => simp [intOf]; omega
        obtain ⟨bA, oA, rfl, hltA, hatA⟩ := (HR.out.below hbl4).2 (by omega)
        obtain ⟨B, cB, f0, hrow⟩ := hatA i hi
        obtain ⟨gs, os, rfl, hlts, hats⟩ := hrow.2.2 (by omega)
        obtain ⟨u0, u1⟩ := hats j (by rw [← hrow.1]; exact hj)
        obtain ⟨v1, v2, v3, v4, v5, v6, _⟩ := hSB.out i hi
        obtain ⟨s1', s2', _, _, _, _⟩ := hCS.out (i + 1) (by omega)
        rw [sumTo, ← hS.out] at s1' s2'
        have hN : Hid (S + ((rowY cts l nc i).getD j sh0).a = sumTo (fun i => ((rowY cts l nc i).getD j sh0).a) (i + 1)) := by unfold Hid; rw [sumTo, ← hS.out]
        have hra := hRA.out i
        have e2 : xAt cts (l.getD i bs0) (ahd cts l nc i) j = xI ⟨nm, base, bands, pc, yc, rd⟩ (l.getD i bs0) ((ahd cts l nc i).getD j 0) := by unfold xAt; rw [HCT.out]
        rw [e2] at hra
        rw [hra] at u0 u1 s1' s2' hN
        try dsimp only at v5 v6
        rw [← HT.out] at v5
        have jj0 : (0 : Int) ≤ (j : Int) := by omega
        have jj1 : (j : Int) < (nc : Int) := by omega
        have jj2 : ((j : Int)).toNat = j := by omega
        clear hatA hrow hats hra e2 s3 s4 s5 s6
        generalize xI ⟨nm, base, bands, pc, yc, rd⟩ (l.getD i bs0) ((ahd cts l nc i).getD j 0) = x at *
        generalize shI ⟨nm, base, bands, pc, yc, rd⟩ x = sh at *
        obtain ⟨a, b⟩ := sh
        try dsimp only at u0 u1 v2 v3 v4 v5 s1' s2' hN
        have na : ¬ a < 0 := by omega
        have nb : ¬ b < 0 := by omega
        have da : decide (a < 0) = false := by simp; omega
        have db : decide (b < 0) = false := by simp; omega
        by_cases hpc : 0 < pc
        · have h6 := v6 hpc
          have h7 : x * T ≤ pc * T := Int.mul_le_mul_of_nonneg_right h6 htb.1
          have h8 := mul_bd0 okp.1 okp.2 htb.1 htb.2 (by decide)
          have t2 : decide (pc * T ≤ (a - 1) * 10000) = false := by simp; omega
          have w1 : IntKind.i64.wrap (a - 1) = a - 1 := by rw [IntKind.wrap_i64]; omega
          have w2 : IntKind.i64.wrap ((a - 1) * 10000) = (a - 1) * 10000 := by rw [IntKind.wrap_i64]; omega
          have w3 : IntKind.i64.wrap (pc * T) = pc * T := by rw [IntKind.wrap_i64]; omega
          have hpd : decide (0 < pc) = true := by simpa using hpc
          have W1 := Lib.hid w1
          have W2 := Lib.hid w2
          have W3 := Lib.hid w3
          clear v5 v6 h6 h7 w1 w2 w3
          go_wp2_with fail
          have w1 := W1.out
          have w2 := W2.out
          have w3 := W3.out
          go_quiet (fail)
          clear w1 w2 w3
          go_wp2_with fail
          go_roundw
          case rel => exact ⟨i + 1, _, by omega, by go_num, rfl, hN, ⟨hbl3.os, hbl3.tape, hbl3.output, hbl3.size, hbl3.block⟩, y3⟩
          case measure => simp [intOf]; omega
        · have hpd : decide (0 < pc) = false := by simp; omega
          clear v5 v6
          go_wp2_with fail
          go_quiet (fail)
          go_wp2_with fail
          go_roundw
          case rel => exact ⟨i + 1, _, by omega, by go_num, rfl, hN, ⟨hbl3.os, hbl3.tape, hbl3.output, hbl3.size, hbl3.block⟩, y3⟩
          case measure => simp [intOf]; omega
--%%
end Go.Proofs.Ytpheeblpfcipaaa
