/-
  Layer 15's law SocialSums: its walk. No conditions.
-/
import Derived.Test.YtpheeblpfcipaaaLaw15b
import Derived.RegionTactic
import Derived.BigRegion
namespace Go.Proofs.Ytpheeblpfcipaaa
set_option linter.unusedVariables false
open Go.RowKit
theorem sumL_len (f : Nat → List Sh) (nc k j : Nat) : (sumL f nc k j).length = nc := by simp [sumL]
theorem sumL_get (f : Nat → List Sh) (nc k i : Nat) (hi : i < nc) : (sumL f nc k 0).getD i sh0 = sumI f k i := by simp [sumL, List.getD, hi]
--%%
set_option maxRecDepth 100000 in
set_option maxHeartbeats 1600000 in
theorem socialSums_walk (sch : List (List Bd)) (cts : List Ct) (kds : List Kd) (l : List Bs) (As Ac Ak A : Option Addr) (ns cs nc cc nk ck n c : Nat) (lim rnd : Int) (w : World) (hs : ScSl w As ns sch) (hc : CtSl w Ac nc cts) (hcc : nc ≤ cc) (hk : KdSl w Ak nk kds) (hck : nk ≤ ck) (hl : BsSl w A n l) :
    Calls Try.prog 4 #[.agg #[.slice As ns cs, .slice Ac nc cc, .slice Ak nk ck, .int .i64 lim, .int .i64 rnd], .slice A n c] w fun e w' => e = .returned (.bool true) ∧ Below w.heap.size w w' := by
  have z := Blk.mk w 26 #[.slice As ns cs, .slice Ac nc cc, .slice Ak nk ck, .int .i64 lim, .int .i64 rnd]
  have hb0 := below1 w (.cells #[.slice As ns cs, .slice Ac nc cc, .slice Ak nk ck, .int .i64 lim, .int .i64 rnd] 26)
  have HS := Lib.hid hs
  have HC := Lib.hid hc
  have HK := Lib.hid hk
  have HL := Lib.hid hl
  clear hs hc hk hl
  go_enter Try.func4, Try.ntmps4
  go_wp2_with fail
  refine (pays_c _).mono ?_
  rintro e w1 ⟨rfl, hb1⟩
  have z1 := z.t hb1
  have hb2 := bT hb0 hb1
  obtain ⟨p0, p1, p2, p3, p4⟩ := z1.all5
  go_wp2_with fail
  refine (fits15_c sch cts kds As Ac Ak ns cs nc cc nk ck lim rnd _ (HS.out.below hb2) (HC.out.below hb2) hcc (HK.out.below hb2) hck).mono ?_
  rintro e w2 ⟨bb, ⟨rfl, hy⟩, hb3⟩
  have hb4 := bT hb2 hb3
  cases bb
  · clear hy
    go_wp2_with fail
    go_ret
    exact ⟨rfl, hb4⟩
  obtain ⟨hOK, hn20⟩ := hy rfl
  have HOK := Lib.hid hOK
  clear hOK hy p0 p1 p2 p3 p4
  have z2 := z1.t hb3
  obtain ⟨p0, p1, p2, p3, p4⟩ := z2.all5
  by_cases hn : 60 < n
  · have hnd : (60 : Int) < (n : Int) := by omega
    go_wp2_with fail
    go_ret
    exact ⟨rfl, hb4⟩
  have hnd : ¬ (60 : Int) < (n : Int) := by omega
  have hcts : ∀ k, k < nc → CtOK (cts.getD k ct0) := fun k hk => HOK.out.cts k (by have := HC.out.1; omega)
  have KY := Lib.hid (fun W h1 h2 => year_c cts As Ac Ak A ns cs nc cc nk ck n c lim rnd l W h1 hcts h2 (by omega) (by omega))
  have KT := Lib.hid (fun W h1 h2 => todate_c cts As Ac Ak A ns cs nc cc nk ck n c lim rnd l W h1 hcts h2 (by omega) (by omega))
  clear hcts
  go_wp2_with fail
  refine (KY.out _ (HC.out.below hb4) (HL.out.below hb4)).mono ?_
  rintro e w3 ⟨⟨hyes, v, rfl, hv⟩ | ⟨⟨k, hk, hno⟩, rfl⟩, hb5⟩
  case inr =>
    have hb6 := bT hb4 hb5
    have z3 := z2.t hb5
    have HN := Lib.hid hno
    obtain ⟨p0, p1, p2, p3, p4⟩ := z3.all5
    clear hno
    go_wp2_with fail
    refine (KT.out _ (HC.out.below hb6) (HL.out.below hb6)).mono ?_
    rintro e w4 ⟨⟨hT, v, rfl, hv⟩ | ⟨_, rfl⟩, hb7⟩
    · have := hT.1 k hk
      rw [HN.out] at this
      cases this
    go_wp2_with fail
    go_ret
    exact ⟨rfl, bT hb6 hb7⟩
  have hb6 := bT hb4 hb5
  have z3 := z2.t hb5
  have HY := Lib.hid hyes
  obtain ⟨Av, cv, rfl, hcv, hrows⟩ := hv.sl (by omega)
  have HR := Lib.hid hrows
  have HV := Lib.hid hv
  clear hyes hv hrows p0 p1 p2 p3 p4
  obtain ⟨p0, p1, p2, p3, p4⟩ := z3.all5
  go_wp2_with fail
  refine (KT.out _ (HC.out.below hb6) (HL.out.below hb6)).mono ?_
  rintro e w4 ⟨⟨hT, v, rfl, hv⟩ | ⟨hT, rfl⟩, hb7⟩
  case inr =>
    clear hT
    go_wp2_with fail
    go_ret
    exact ⟨rfl, bT hb6 hb7⟩
  have hb8 := bT hb6 hb7
  have z4 := z3.t hb7
  have HT := Lib.hid hT
  obtain ⟨Aw, cw, rfl, hcw, hsh⟩ := hv.sl
  have HSH := Lib.hid hsh
  have HR4 := Lib.hid (HR.out.below hb7)
  clear hT hv hsh p0 p1 p2 p3 p4
  obtain ⟨p0, p1, p2, p3, p4⟩ := z4.all5
  have tn : ((nc : Int) != (nc : Int)) = false := by simp
  go_wp2_with fail
  go_loopw [9, 10, 12, 66, 71] (fun _ _ _ i _ wr => ∃ j : Nat, j ≤ nc ∧ i = .int .i64 j ∧ Below w4.heap.size w4 wr) (fun _ _ _ i _ _ => nc - (intOf i).toNat)
  case atStart => exact ⟨0, Nat.zero_le _, rfl, b0 _⟩
  case round =>
    obtain ⟨j, hj', rfl, hbl⟩ := hrel
    by_cases hj : j < nc
    case neg =>
      have z5 := z4.t hbl
      have hb9 := bT hb8 hbl
      have hs9 := hb9.size
      have hzl := z5.lt
      have HVV := HV.out.below (hb7)
      have HV5 := Lib.hid (HVV.below hbl)
      clear HVV p0 p1 p2 p3 p4
      obtain ⟨p0, p1, p2, p3, p4⟩ := z5.all5
      have e1 : IntKind.i64.wrap ((nc : Int) + 1) = (nc : Int) + 1 := by rw [IntKind.wrap_i64]; omega
      have hmk := fun W => run_make_K (P := Try.prog) 51 33 (.agg #[.int .i64 0, .int .i64 0]) 2 16 Try.underlying51 info_share nc (by omega) (by omega) W
      have hz : Value.cells (.agg #[.int .i64 0, .int .i64 0]) = #[.int .i64 0, .int .i64 0] := rfl
      rw [hz] at hmk
      obtain ⟨vs, hov, hvr⟩ := HV5.out
      have HV1 : Hid (∀ u ∈ vs, u.oneCell' = true) := fun u hu => by
        obtain ⟨k, hk, rfl⟩ := List.mem_iff_getElem.1 hu
        have hkn : k < n := by have := hov.1; omega
        obtain ⟨u, hu, ho⟩ := hvr k hkn
        obtain ⟨A, c, rfl⟩ := own_slice ho.2
        rw [List.getElem?_eq_getElem hk] at hu
        injection hu with hu
        rw [hu]
        rfl
      have hsrc := own_src hov
      have hbM := bA (bA (b0 wr) (.cells (madeCells #[.int .i64 0, .int .i64 0] (nc * 2)) 33)) (.cells #[.slice (some ⟨wr.heap.size, 0, none⟩) nc nc] 51)
      have hlit := World.ownsRow_lit (e := 51) (size := 1) (base := wr.heap.size) (wr.alloc (.cells (madeCells #[.int .i64 0, .int .i64 0] (nc * 2)) 33)) #[.slice (some ⟨wr.heap.size, 0, none⟩) nc nc] 1 (by simp) (by decide) rfl
      rw [World.size_alloc] at hlit
      obtain ⟨v', w', hr, ho, hg⟩ := run_appN (P := Try.prog) (((wr.alloc (.cells (madeCells #[.int .i64 0, .int .i64 0] (nc * 2)) 33)).alloc (.cells #[.slice (some ⟨wr.heap.size, 0, none⟩) nc nc] 51)).drew) 47 47 51 (.slice none 0 0) 1 24 Try.underlying47 info_row rfl (by decide) hlit.drew Av n cv vs (hsrc.below hbM.drew) (HV1.out) (by omega) (by omega) (by simp; omega)
      obtain ⟨g, cap, rfl, hgb, hgl, hgc, hgo⟩ := own_form ho (by omega)
      have h0 := hgo.cellAt 0 (by omega)
      have hbW : Below wr.heap.size wr w' := hbM.drew.grown hg (by simp; omega) (fun k hk => by injection hk with hk; have : wr.heap.size + 1 = k := hk; omega)
      have ks := sum_miss g 0 (1 + n) cap nc nc (some ⟨wr.heap.size, 0, none⟩) (nc + 1) w' hgl h0 (by omega) (by omega) (by omega) (by omega)
      rw [show ((nc + 1 : Nat) : Int) = (nc : Int) + 1 from by omega] at ks
      have KS := Lib.hid ks
      clear ks
      have G : Hid (∀ W, Below wr.heap.size wr W → Below wr.heap.size wr W ∧ W.cell? ⟨w.heap.size, 1, none⟩ = some (.slice Ac nc cc)) := fun W hW => ⟨hW, (z5.t hW).cell 1⟩
      have HBW := Lib.hid hbW
      have HRR := Lib.hid hr
      clear hov hsrc hlit ho hg hgo h0 hvr hr
      go_wp2_with fail
      go_region_held3 (fun W => Below wr.heap.size wr W ∧ W.cell? ⟨w.heap.size, 1, none⟩ = some (.slice Ac nc cc))
        (first | assumption | exact G.out _ (b0 _).drew | exact G.out _ (bA (b0 _) _).drew | exact G.out _ hbM.drew | exact G.out _ HBW.out | (exact sK G.out (by assumption) (by assumption)))
        (first | (refine step_of_run rfl _ _ _ rfl _ _ rfl rfl _ _ HRR.out ?_) | (go_at_call 16; (with_reducible refine KS.out.mono ?_); rintro e w6 ⟨rfl, hb10⟩))
      all_goals
        have hbz := bT hb9 (show Below wr.heap.size wr _ ∧ _ from by assumption).1
        go_wp2_with fail
        refine (sum_neg none 0 0 _).mono ?_
        rintro e w' ⟨rfl, rfl⟩
        go_wp2_with fail
        go_ret
        exact ⟨rfl, hbz⟩
    obtain ⟨wo, rfl⟩ : ∃ wo : World, wo = wr := ⟨_, rfl⟩
    have hbl0 := hbl.size
    go_wp2_with fail
    go_loopw [12, 71] (fun _ i wr => ∃ k : Nat, k ≤ n ∧ i = .int .i64 k ∧ Below w4.heap.size w4 wr ∧ Blk wr wo.heap.size 33 #[.int .i64 (sumI (rowY cts l nc) k j).a, .int .i64 (sumI (rowY cts l nc) k j).b]) (fun _ i _ => n - (intOf i).toNat)
    case atStart => exact ⟨0, Nat.zero_le _, rfl, bA hbl _, Blk.mk _ _ _⟩
    case round =>
      obtain ⟨k, hk', rfl, hbl2, y⟩ := hrel
      have hsz2 := hbl2.size
      have hyl := y.lt
      have jj0 : (0 : Int) ≤ (j : Int) := by omega
      have jj1 : (j : Int) < (nc : Int) := by omega
      have jj2 : ((j : Int)).toNat = j := by omega
      by_cases hk : k < n
      case neg =>
        obtain rfl : k = n := by omega
        have hal := (HSH.out.below hbl2).2.2
        obtain ⟨g, o, rfl, hlt, hat⟩ := hal (by omega)
        obtain ⟨c0, c1⟩ := hat j (by rw [sumL_len]; exact hj)
        rw [sumL_get _ _ _ _ hj] at c0 c1
        clear hal hat
        generalize (sumI (rowY cts l nc) k j).a = pa at *
        generalize (sumI (rowY cts l nc) k j).b = pb at *
        obtain ⟨y0, y1, y2, y3⟩ := y.all2
        go_wp2_with fail
        go_quiet (fail)
        go_wp2_with fail
        go_roundw
        case rel => exact ⟨j + 1, by omega, by go_num, ⟨hbl2.os, hbl2.tape, hbl2.output, hbl2.size, hbl2.block⟩⟩
        case measure => simp [intOf]; omega
      obtain ⟨bA, oA, rfl, hltA, hatA⟩ := HR4.out.2 (by omega)
      obtain ⟨B, cB, f0, hrow⟩ := hatA k hk
      obtain ⟨g, o, rfl, hlt, hat⟩ := hrow.2.2 (by omega)
      obtain ⟨c0, c1⟩ := hat j (by rw [← hrow.1]; exact hj)
      rw [← hbl2.cell (p := ⟨bA, _, none⟩) hltA] at f0
      rw [← hbl2.cell (p := ⟨g, _, none⟩) hlt] at c0 c1
      have hok := HT.out.2 k j hk hj
      have e1 : Hid (sumI (rowY cts l nc) (k + 1) j = ⟨(sumI (rowY cts l nc) k j).a + ((rowY cts l nc k).getD j sh0).a, (sumI (rowY cts l nc) k j).b + ((rowY cts l nc k).getD j sh0).b⟩) := rfl
      simp only [okS, Bool.and_eq_true] at hok
      rw [e1.out] at hok
      have ha := mr_iff.1 hok.1.2
      have hb := mr_iff.1 hok.2
      clear hatA hat hrow hok
      generalize sumI (rowY cts l nc) k j = x at *
      generalize (rowY cts l nc k).getD j sh0 = r at *
      obtain ⟨xa, xb⟩ := x
      obtain ⟨ra, rb⟩ := r
      dsimp only at c0 c1 ha hb y e1
      have wa : IntKind.i64.wrap (xa + ra) = xa + ra := by rw [IntKind.wrap_i64]; omega
      have wb : IntKind.i64.wrap (xb + rb) = xb + rb := by rw [IntKind.wrap_i64]; omega
      obtain ⟨y0, y1, y2, y3⟩ := y.all2
      have hgne : g ≠ wo.heap.size := by omega
      have hAne : bA ≠ wo.heap.size := by omega
      go_wp2_with fail
      go_region
      go_wp2_with fail
      go_region
      go_wp2_with fail
      go_roundw
      case rel => exact ⟨k + 1, by omega, by go_num, (bS (bS hbl2 (p := ⟨wo.heap.size, 0, none⟩) hbl0 _) (p := ⟨wo.heap.size, 1, none⟩) hbl0 _).drew.drew, by rw [e1.out]; exact y.two _ _⟩
      case measure => simp [intOf]; omega
--%%
end Go.Proofs.Ytpheeblpfcipaaa
