/-
 Layer 21: two employees of whom the same can be told. Conditions as named.
-/
import Derived.Test.YtmlphohnegmgkaaGreatM9
import Derived.Test.YtmlphohnegmgkaaGreatM4
import Derived.Test.YtmlphohnegmgkaaGreatM0
import Derived.Laws.StructEq
import Derived.Deep.RegionHeld3
namespace Go.Proofs.YtmlphohnegmgkaaGreat
set_option maxRecDepth 100000
set_option maxHeartbeats 25600000
set_option linter.unusedVariables false
set_option linter.unusedSimpArgs false
open Go.RowKit
--%
theorem like_c {w0 w1 W : World} {fq days : Int} {p y o q y2 o2 : Nat} {E : Em} (h : PE w0 fq days W p y o E) (h2 : PE w1 fq days W q y2 o2 E) :
  Calls Tryz.prog 65 #[.pointer (some ⟨p, 0, none⟩), .pointer (some ⟨q, 0, none⟩)] W fun e w' => e = .returned (.bool true) ∧ Below W.heap.size W w' := by
 have HP := Lib.hid h
 have HQ := Lib.hid h2
 have HBL := Lib.hid (b0 W)
 have HNI : Hid (E.ins.length ≤ 1000) := by have := h.ok.ins53; unfold Hid; omega
 have HNB : Hid (E.bk.length ≤ 8) := h.ok.bk.len
 have HNX : Hid (E.next.length ≤ 1000) := h.ok.nx
 have HNR : Hid (E.yr.t.rows.length ≤ 1000) := by have := h.ok.yr; have := h.ok.tc; unfold Hid; omega
 obtain ⟨ni, hni⟩ : ∃ n, n = E.ins.length := ⟨_, rfl⟩
 have HNN := Lib.hid hni
 clear h h2 hni
 go_enter Tryz.func65, Tryz.ntmps65
 go_wp2_with fail
 refine (pe_inputs HP.out).mono ?_
 rintro e V1 ⟨⟨A1, c1, rfl, hin1⟩, hb⟩
 replace HP := Lib.hid (HP.out.below hb)
 replace HQ := Lib.hid (HQ.out.below hb)
 replace HBL := Lib.hid (bT HBL.out hb)
 have HI1 := Lib.hid hin1.view
 clear hin1
 clear hb
 go_wp2_with fail
 refine (pe_inputs HQ.out).mono ?_
 rintro e V2 ⟨⟨A2, c2, rfl, hin2⟩, hb⟩
 replace HP := Lib.hid (HP.out.below hb)
 replace HQ := Lib.hid (HQ.out.below hb)
 replace HBL := Lib.hid (bT HBL.out hb)
 replace HI1 := Lib.hid (HI1.out.below hb)
 have HI2 := Lib.hid hin2.view
 clear hin2
 clear hb
 rw [← HNN.out] at HI1 HI2 ⊢
 go_wp2_with fail
 refine (pe_period HP.out).mono ?_
 rintro e V3 ⟨rfl, hb⟩
 replace HP := Lib.hid (HP.out.below hb)
 replace HQ := Lib.hid (HQ.out.below hb)
 replace HBL := Lib.hid (bT HBL.out hb)
 replace HI1 := Lib.hid (HI1.out.below hb)
 replace HI2 := Lib.hid (HI2.out.below hb)
 clear hb
 go_wp2_with fail
 refine (pe_period HQ.out).mono ?_
 rintro e V4 ⟨rfl, hb⟩
 replace HP := Lib.hid (HP.out.below hb)
 replace HQ := Lib.hid (HQ.out.below hb)
 replace HBL := Lib.hid (bT HBL.out hb)
 replace HI1 := Lib.hid (HI1.out.below hb)
 replace HI2 := Lib.hid (HI2.out.below hb)
 clear hb
 go_wp2_with fail
 refine (pe_taxcode HP.out).mono ?_
 rintro e V5 ⟨rfl, hb⟩
 replace HP := Lib.hid (HP.out.below hb)
 replace HQ := Lib.hid (HQ.out.below hb)
 replace HBL := Lib.hid (bT HBL.out hb)
 replace HI1 := Lib.hid (HI1.out.below hb)
 replace HI2 := Lib.hid (HI2.out.below hb)
 clear hb
 go_wp2_with fail
 refine (pe_taxcode HQ.out).mono ?_
 rintro e V6 ⟨rfl, hb⟩
 replace HP := Lib.hid (HP.out.below hb)
 replace HQ := Lib.hid (HQ.out.below hb)
 replace HBL := Lib.hid (bT HBL.out hb)
 replace HI1 := Lib.hid (HI1.out.below hb)
 replace HI2 := Lib.hid (HI2.out.below hb)
 clear hb
 go_wp2_with fail
 refine (pe_protd HP.out).mono ?_
 rintro e V7 ⟨rfl, hb⟩
 replace HP := Lib.hid (HP.out.below hb)
 replace HQ := Lib.hid (HQ.out.below hb)
 replace HBL := Lib.hid (bT HBL.out hb)
 replace HI1 := Lib.hid (HI1.out.below hb)
 replace HI2 := Lib.hid (HI2.out.below hb)
 clear hb
 go_wp2_with fail
 refine (pe_protd HQ.out).mono ?_
 rintro e V8 ⟨rfl, hb⟩
 replace HP := Lib.hid (HP.out.below hb)
 replace HQ := Lib.hid (HQ.out.below hb)
 replace HBL := Lib.hid (bT HBL.out hb)
 replace HI1 := Lib.hid (HI1.out.below hb)
 replace HI2 := Lib.hid (HI2.out.below hb)
 clear hb
 go_wp2_with fail
 refine (pe_next HP.out).mono ?_
 rintro e V9 ⟨⟨A3, c3, rfl, hx3⟩, hb⟩
 replace HP := Lib.hid (HP.out.below hb)
 replace HQ := Lib.hid (HQ.out.below hb)
 replace HBL := Lib.hid (bT HBL.out hb)
 replace HI1 := Lib.hid (HI1.out.below hb)
 replace HI2 := Lib.hid (HI2.out.below hb)
 have HX3 := Lib.hid (el_row hx3 rfl)
 clear hx3
 clear hb
 go_wp2_with fail
 refine (pe_next HQ.out).mono ?_
 rintro e V10 ⟨⟨A4, c4, rfl, hx4⟩, hb⟩
 replace HP := Lib.hid (HP.out.below hb)
 replace HQ := Lib.hid (HQ.out.below hb)
 replace HBL := Lib.hid (bT HBL.out hb)
 replace HI1 := Lib.hid (HI1.out.below hb)
 replace HI2 := Lib.hid (HI2.out.below hb)
 replace HX3 := Lib.hid (HX3.out.below hb)
 have HX4 := Lib.hid (el_row hx4 rfl)
 clear hx4
 clear hb
 go_wp2_with fail
 refine (esame_c A3 A4 _ c3 _ c4 E.next E.next _ HX3.out HX4.out true (Lib.hid (sameB_self _).symm)).mono ?_
 rintro e V11 ⟨rfl, hb⟩
 replace HP := Lib.hid (HP.out.below hb)
 replace HQ := Lib.hid (HQ.out.below hb)
 replace HBL := Lib.hid (bT HBL.out hb)
 replace HI1 := Lib.hid (HI1.out.below hb)
 replace HI2 := Lib.hid (HI2.out.below hb)
 replace HX3 := Lib.hid (HX3.out.below hb)
 clear HX3 HX4
 clear hb
 go_wp2_with fail
 refine (pe_orders HP.out).mono ?_
 rintro e V12 ⟨⟨v5, rfl, ho5⟩, hb⟩
 replace HP := Lib.hid (HP.out.below hb)
 replace HQ := Lib.hid (HQ.out.below hb)
 replace HBL := Lib.hid (bT HBL.out hb)
 replace HI1 := Lib.hid (HI1.out.below hb)
 replace HI2 := Lib.hid (HI2.out.below hb)
 obtain ⟨A5, c5, rfl⟩ := own_slice ho5.2
 have HX5 : Hid (RowSl odC 7 od0 _ A5 E.bk.length E.bk) := own_row odC_len ho5.2 rfl (by have := HNB.out; omega) (by decide)
 clear ho5
 clear hb
 go_wp2_with fail
 refine (pe_orders HQ.out).mono ?_
 rintro e V13 ⟨⟨v6, rfl, ho6⟩, hb⟩
 replace HP := Lib.hid (HP.out.below hb)
 replace HQ := Lib.hid (HQ.out.below hb)
 replace HBL := Lib.hid (bT HBL.out hb)
 replace HI1 := Lib.hid (HI1.out.below hb)
 replace HI2 := Lib.hid (HI2.out.below hb)
 replace HX5 := Lib.hid (HX5.out.below hb)
 obtain ⟨A6, c6, rfl⟩ := own_slice ho6.2
 have HX6 : Hid (RowSl odC 7 od0 _ A6 E.bk.length E.bk) := own_row odC_len ho6.2 rfl (by have := HNB.out; omega) (by decide)
 clear ho6
 clear hb
 go_wp2_with fail
 refine ((seqOd_c A5 A6 _ c5 _ c6 E.bk E.bk _ HX5.out HX6.out).mono fun _ _ h => SameR.yes h rfl).mono ?_
 rintro e V14 ⟨rfl, hb⟩
 replace HP := Lib.hid (HP.out.below hb)
 replace HQ := Lib.hid (HQ.out.below hb)
 replace HBL := Lib.hid (bT HBL.out hb)
 replace HI1 := Lib.hid (HI1.out.below hb)
 replace HI2 := Lib.hid (HI2.out.below hb)
 replace HX5 := Lib.hid (HX5.out.below hb)
 clear HX5 HX6
 clear hb
 have hn9 : ni ≤ 1000 := by have := HNI.out; have := HNN.out; omega
 go_wp2_with fail
 go_loopw [7, 56] (fun _ i wr => ∃ k : Nat, k ≤ ni ∧ i = .int .i64 k ∧ Hid (Below V14.heap.size V14 wr)) (fun _ i _ => ni - (intOf i).toNat)
 case atStart => exact ⟨0, Nat.zero_le _, rfl, b0 _⟩
 case round =>
  obtain ⟨k, hk', rfl, HWR⟩ := hrel
  by_cases hk : k < ni
  case neg =>
   obtain rfl : k = ni := by omega
   replace HP := Lib.hid (HP.out.below HWR.out)
   replace HQ := Lib.hid (HQ.out.below HWR.out)
   replace HBL := Lib.hid (bT HBL.out HWR.out)
   clear HI1 HI2 HWR HNI HNB HNX hk hk'
   go_wp2_with fail
   refine (pe_posted HP.out).mono ?_
   rintro e V15 ⟨⟨q1, B1, d1, B2, d2, rfl, _, hy⟩, hb⟩
   replace HP := Lib.hid (HP.out.below hb)
   replace HQ := Lib.hid (HQ.out.below hb)
   replace HBL := Lib.hid (bT HBL.out hb)
   have HY := Lib.hid hy
   clear hy
   clear hb
   go_wp2_with fail
   refine (ytotals_c q1 _ E.yr B1 d1 B2 d2 _ HY.out HNR.out).mono ?_
   rintro e V16 ⟨⟨A7, c7, rfl, ho7⟩, hb⟩
   replace HP := Lib.hid (HP.out.below hb)
   replace HQ := Lib.hid (HQ.out.below hb)
   replace HBL := Lib.hid (bT HBL.out hb)
   have HX7 := Lib.hid (own_row (f := shC) (K := 2) (d := sh0) shC_len ho7 rfl (by have := HNR.out; omega) (by decide))
   clear ho7 HY
   clear hb
   go_wp2_with fail
   refine (pe_posted HQ.out).mono ?_
   rintro e V17 ⟨⟨q2, B3, d3, B4, d4, rfl, _, hy⟩, hb⟩
   replace HP := Lib.hid (HP.out.below hb)
   replace HQ := Lib.hid (HQ.out.below hb)
   replace HBL := Lib.hid (bT HBL.out hb)
   replace HX7 := Lib.hid (HX7.out.below hb)
   have HY := Lib.hid hy
   clear hy
   clear hb
   go_wp2_with fail
   refine (ytotals_c q2 _ E.yr B3 d3 B4 d4 _ HY.out HNR.out).mono ?_
   rintro e V18 ⟨⟨A8, c8, rfl, ho8⟩, hb⟩
   replace HP := Lib.hid (HP.out.below hb)
   replace HQ := Lib.hid (HQ.out.below hb)
   replace HBL := Lib.hid (bT HBL.out hb)
   replace HX7 := Lib.hid (HX7.out.below hb)
   have HX8 := Lib.hid (own_row (f := shC) (K := 2) (d := sh0) shC_len ho8 rfl (by have := HNR.out; omega) (by decide))
   clear ho8 HY
   clear hb
   unfold toC
   go_wp2_with fail
   refine (yrsame_c E.yr.t.b.c E.yr.t.b.t E.yr.t.b.s E.yr.t.tx E.yr.t.sh E.yr.t.net E.yr.t.tk E.yr.t.py E.yr.t.rows A7 A8 _ c7 c8 _ HX7.out HX8.out).mono ?_
   rintro e V19 ⟨rfl, hb⟩
   replace HP := Lib.hid (HP.out.below hb)
   replace HQ := Lib.hid (HQ.out.below hb)
   replace HBL := Lib.hid (bT HBL.out hb)
   replace HX7 := Lib.hid (HX7.out.below hb)
   replace HX8 := Lib.hid (HX8.out.below hb)
   clear HX7 HX8
   clear hb
   go_wp2_with fail
   refine (pe_posted HP.out).mono ?_
   rintro e V20 ⟨⟨q3, B5, d5, B6, d6, rfl, _, hy⟩, hb⟩
   replace HP := Lib.hid (HP.out.below hb)
   replace HQ := Lib.hid (HQ.out.below hb)
   replace HBL := Lib.hid (bT HBL.out hb)
   have HY := Lib.hid hy
   clear hy
   clear hb
   go_wp2_with fail
   refine (ycount_c q3 E.yr B5 d5 B6 d6 _ HY.out.blk).mono ?_
   rintro e Vc ⟨rfl, rfl⟩
   clear HY
   go_wp2_with fail
   refine (pe_posted HQ.out).mono ?_
   rintro e V21 ⟨⟨q4, B7, d7, B8, d8, rfl, _, hy⟩, hb⟩
   replace HP := Lib.hid (HP.out.below hb)
   replace HQ := Lib.hid (HQ.out.below hb)
   replace HBL := Lib.hid (bT HBL.out hb)
   have HY := Lib.hid hy
   clear hy
   clear hb
   go_wp2_with fail
   refine (ycount_c q4 E.yr B7 d7 B8 d8 _ HY.out.blk).mono ?_
   rintro e Vd ⟨rfl, rfl⟩
   clear HY
   go_wp2_with fail
   refine bodyPost_ret (v := .bool true) (by simp [results, Tryz.results65, go_sem]) rfl ⟨rfl, HBL.out⟩
  have hI1 := HI1.out.below HWR.out
  have hI2 := HI2.out.below HWR.out
  obtain ⟨L1, m1, r1, s1⟩ := hI1.ex
  obtain ⟨L2, m2, r2, s2⟩ := hI2.ex
  have g1 : (L1.getD k inp0).z = E.ins.getD k in0 := by rw [← m1, getD_mapz]
  have g2 : (L2.getD k inp0).z = E.ins.getD k in0 := by rw [← m2, getD_mapz]
  have l1 := r1.1
  have l2 := r2.1
  obtain ⟨b1, f1, rfl, hlt1, hat1⟩ := r1.2.2 (by omega)
  obtain ⟨b2, f2, rfl, hlt2, hat2⟩ := r2.2.2 (by omega)
  have hc1 := hat1 k hk
  have hc2 := hat2 k hk
  have e1 := s1 _ (getD_mem' inp0 (show k < L1.length by omega))
  have e2 := s2 _ (getD_mem' inp0 (show k < L2.length by omega))
  rw [g1] at e1
  rw [g2] at e2
  generalize hq1 : L1.getD k inp0 = x at *
  generalize hq2 : L2.getD k inp0 = z at *
  obtain ⟨xz, xA, xn, xk⟩ := x
  obtain ⟨zz, zA, zn, zk⟩ := z
  dsimp only at g1 g2 e1 e2 hc1 hc2
  subst g1
  subst g2
  generalize hin : E.ins.getD k in0 = u at *
  obtain ⟨⟨us, uk, ua, uf, ual⟩, ul⟩ := u
  obtain ⟨x0, x1, x2, x3, x4, x5⟩ : wr.cell? ⟨b1, f1 + k * 6, none⟩ = some (.int .i64 us) ∧ wr.cell? ⟨b1, f1 + k * 6 + 1, none⟩ = some (.int .i64 uk) ∧ wr.cell? ⟨b1, f1 + k * 6 + 2, none⟩ = some (.int .i64 ua) ∧ wr.cell? ⟨b1, f1 + k * 6 + 3, none⟩ = some (.int .i64 uf) ∧ wr.cell? ⟨b1, f1 + k * 6 + 4, none⟩ = some (.bool ual) ∧ wr.cell? ⟨b1, f1 + k * 6 + 5, none⟩ = some (.slice xA xn xk) := ⟨hc1 0 _ rfl, hc1 1 _ rfl, hc1 2 _ rfl, hc1 3 _ rfl, hc1 4 _ rfl, hc1 5 _ rfl⟩
  obtain ⟨y0, y1, y2, y3, y4, y5⟩ : wr.cell? ⟨b2, f2 + k * 6, none⟩ = some (.int .i64 us) ∧ wr.cell? ⟨b2, f2 + k * 6 + 1, none⟩ = some (.int .i64 uk) ∧ wr.cell? ⟨b2, f2 + k * 6 + 2, none⟩ = some (.int .i64 ua) ∧ wr.cell? ⟨b2, f2 + k * 6 + 3, none⟩ = some (.int .i64 uf) ∧ wr.cell? ⟨b2, f2 + k * 6 + 4, none⟩ = some (.bool ual) ∧ wr.cell? ⟨b2, f2 + k * 6 + 5, none⟩ = some (.slice zA zn zk) := ⟨hc2 0 _ rfl, hc2 1 _ rfl, hc2 2 _ rfl, hc2 3 _ rfl, hc2 4 _ rfl, hc2 5 _ rfl⟩
  have HE1 := Lib.hid e1
  have HE2 := Lib.hid e2
  clear hc1 hc2 hat1 hat2 s1 s2 r1 r2 m1 m2 hI1 hI2 l1 l2 e1 e2 hq1 hq2 hin
  have kk0 : (0 : Int) ≤ (k : Int) := by omega
  have kk1 : (k : Int) < (ni : Int) := by omega
  have kk2 : ((k : Int)).toNat = k := by omega
  have G : Hid (∀ W, Below wr.heap.size wr W → Below wr.heap.size wr W ∧ (W.cell? ⟨b1, f1 + k * 6, none⟩ = some (.int .i64 us) ∧ W.cell? ⟨b1, f1 + k * 6 + 1, none⟩ = some (.int .i64 uk) ∧ W.cell? ⟨b1, f1 + k * 6 + 2, none⟩ = some (.int .i64 ua) ∧ W.cell? ⟨b1, f1 + k * 6 + 3, none⟩ = some (.int .i64 uf) ∧ W.cell? ⟨b1, f1 + k * 6 + 4, none⟩ = some (.bool ual) ∧ W.cell? ⟨b1, f1 + k * 6 + 5, none⟩ = some (.slice xA xn xk) ∧ W.cell? ⟨b2, f2 + k * 6, none⟩ = some (.int .i64 us) ∧ W.cell? ⟨b2, f2 + k * 6 + 1, none⟩ = some (.int .i64 uk) ∧ W.cell? ⟨b2, f2 + k * 6 + 2, none⟩ = some (.int .i64 ua) ∧ W.cell? ⟨b2, f2 + k * 6 + 3, none⟩ = some (.int .i64 uf) ∧ W.cell? ⟨b2, f2 + k * 6 + 4, none⟩ = some (.bool ual) ∧ W.cell? ⟨b2, f2 + k * 6 + 5, none⟩ = some (.slice zA zn zk))) := fun W hW => ⟨hW, (hW.cell (p := ⟨b1, _, none⟩) hlt1).trans x0, (hW.cell (p := ⟨b1, _, none⟩) hlt1).trans x1, (hW.cell (p := ⟨b1, _, none⟩) hlt1).trans x2, (hW.cell (p := ⟨b1, _, none⟩) hlt1).trans x3, (hW.cell (p := ⟨b1, _, none⟩) hlt1).trans x4, (hW.cell (p := ⟨b1, _, none⟩) hlt1).trans x5, (hW.cell (p := ⟨b2, _, none⟩) hlt2).trans y0, (hW.cell (p := ⟨b2, _, none⟩) hlt2).trans y1, (hW.cell (p := ⟨b2, _, none⟩) hlt2).trans y2, (hW.cell (p := ⟨b2, _, none⟩) hlt2).trans y3, (hW.cell (p := ⟨b2, _, none⟩) hlt2).trans y4, (hW.cell (p := ⟨b2, _, none⟩) hlt2).trans y5⟩
  have KK := Lib.hid (fun W (hW : Below wr.heap.size wr W) => esame_c xA zA xn xk zn zk ul ul W (HE1.out.below hW) (HE2.out.below hW) true (Lib.hid (sameB_self _).symm))
  go_wp2_with fail
  go_region_held3 (fun W => Below wr.heap.size wr W ∧ (W.cell? ⟨b1, f1 + k * 6, none⟩ = some (.int .i64 us) ∧ W.cell? ⟨b1, f1 + k * 6 + 1, none⟩ = some (.int .i64 uk) ∧ W.cell? ⟨b1, f1 + k * 6 + 2, none⟩ = some (.int .i64 ua) ∧ W.cell? ⟨b1, f1 + k * 6 + 3, none⟩ = some (.int .i64 uf) ∧ W.cell? ⟨b1, f1 + k * 6 + 4, none⟩ = some (.bool ual) ∧ W.cell? ⟨b1, f1 + k * 6 + 5, none⟩ = some (.slice xA xn xk) ∧ W.cell? ⟨b2, f2 + k * 6, none⟩ = some (.int .i64 us) ∧ W.cell? ⟨b2, f2 + k * 6 + 1, none⟩ = some (.int .i64 uk) ∧ W.cell? ⟨b2, f2 + k * 6 + 2, none⟩ = some (.int .i64 ua) ∧ W.cell? ⟨b2, f2 + k * 6 + 3, none⟩ = some (.int .i64 uf) ∧ W.cell? ⟨b2, f2 + k * 6 + 4, none⟩ = some (.bool ual) ∧ W.cell? ⟨b2, f2 + k * 6 + 5, none⟩ = some (.slice zA zn zk)))
   (with_reducible (first | assumption | exact G.out _ (b0 _).drew | exact sK G.out (by assumption) (by assumption)))
   ((go_at_call 72; (with_reducible refine (KK.out _ (show Below wr.heap.size wr _ ∧ _ from by assumption).1).mono ?_); rintro e W9 ⟨rfl, hb⟩; have HBB := bT (show Below wr.heap.size wr _ ∧ _ from by assumption).1 hb))
  clear G KK HE1 HE2
  go_wp2_with fail
  go_roundw
  case rel => exact ⟨k + 1, by omega, by go_num, Lib.hid (bT HWR.out HBB)⟩
  case measure => simp [intOf]; omega
end Go.Proofs.YtmlphohnegmgkaaGreat
