/-
 Contract of layer 23's example: a period that is paid by twice as much. No conditions.
-/
import Derived.Test.YtiaabmhjkoohmaaGreatM9
namespace Go.Proofs.YtiaabmhjkoohmaaGreat
set_option maxRecDepth 100000
set_option maxHeartbeats 25600000
set_option linter.unusedVariables false
set_option linter.unusedSimpArgs false
open Go.RowKit Tryz
open Lib (hid)
theorem ins_first {w : World} {lo base : Nat} {A : Option Addr} {n c : Nat} {l : List In} {z : El} (h : Iw9 w lo base A n c l) (hn : 0 < n) (hz : (l.getD 0 in0).l = [z]) : ∃ g g2 c2, A = some ⟨g, 0, none⟩ ∧ w.cell? ⟨g, 5, none⟩ = some (.slice (some ⟨g2, 0, none⟩) 1 c2) ∧ w.cell? ⟨g2, 1, none⟩ = some (.int .i64 z.a) ∧ g < w.heap.size ∧ g2 < w.heap.size := by
 obtain ⟨L, h1, h2, h3, h4⟩ := h.ex
 obtain ⟨g, rfl, _, hc, _, cs, hb⟩ := osz h3 hn
 have hl : 0 < L.length := by omega
 have hm := gez' inp0 (l := L) (k := 0) hl
 obtain ⟨q1, q2⟩ := h4 _ hm
 have hz2 : (L.getD 0 inp0).z.l = [z] := by rw [← gmz' InP.z L 0 inp0 hl, h1]; exact hz
 rw [hz2] at q1 q2
 have hx := (hc 5 (by omega)).trans (fkz inPC 6 inp0 ilz L 0 5 _ hl (by decide) rfl)
 generalize L.getD 0 inp0 = q at *
 obtain ⟨qz, A2, m2, c2⟩ := q
 dsimp only at q1 q2 hx
 subst q1
 obtain ⟨g2, rfl, _, hc2, _, cs2, hb2⟩ := osz q2 (by simp)
 exact ⟨g, g2, c2, rfl, hx, hc2 1 (by simp), hb.lt, hb2.lt⟩
theorem fxs_first {w : World} {lo base : Nat} {A : Option Addr} {n c : Nat} {l : List Fx} {a : Int} (h : FxOwn w lo base A n c l) (hn : 0 < n) (ha : (l.getD 0 fx0).a = a) : ∃ g, A = some ⟨g, 0, none⟩ ∧ w.cell? ⟨g, 2, none⟩ = some (.int .i64 a) ∧ g < w.heap.size := by
 obtain ⟨L, h1, h2, h3, h4⟩ := h.ex
 obtain ⟨g, rfl, _, hc, _, cs, hb⟩ := osz h3 hn
 have hl : 0 < L.length := by omega
 have hz2 : (L.getD 0 fxp0).z = l.getD 0 fx0 := by rw [← h1]; exact (gmz' FxP.z L 0 fxp0 hl).symm
 have hx := (hc 2 (by omega)).trans (fkz fxPC 3 fxp0 fxPC_len L 0 2 _ hl (by decide) rfl)
 rw [hz2, ha] at hx
 exact ⟨g, rfl, hx, hb.lt⟩
--%
theorem fixes_g (t : Tb) (hlt : Hid (t = plT23)) (c : Cd) (hct : c = ⟨0, 1, 0, 0, false⟩) (E0 : Em) (D1 D2 D3 D4 : Dk) (V : Ef) (z1 z2 : Sp) (h0 : Hid (0 = newE t c)) (e0 : Hid (E0 = newV t c))
  (h1 : Hid (0 = payE (dnewV E0).e (cntI 4 365) [salE 1000])) (d1 : Hid (D1 = { dnewV E0 with e := payV (dnewV E0).e [salE 1000] })) (h2 : Hid (0 = runE D1.e (nIz 4) (cntI 4 365))) (s2 : Hid (z1 = rSz D1.e (nIz 4))) (d2 : Hid (D2 = drunV D1 (nIz 4)))
  (h3 : Hid (0 = effE D2.e (nIz 4) (cntI 4 365) 1 [salE 2000])) (v3 : Hid (V = effV D2.e (nIz 4) 1 [salE 2000])) (n3 : Hid (V.b.c = 1000 ∧ V.tx = 200 ∧ V.net = 800))
  (h4 : Hid (0 = chgE D2 (nIz 4) (cntI 4 365) 1 salB 2000)) (l4 : Hid ((chgL D2 1 salB 2000).length ≤ 1000)) (d3 : Hid (D3 = dfixV D2 1 (chgL D2 1 salB 2000))) (h5 : Hid (230 = chgE D3 (nIz 4) (cntI 4 365) 2 salB 5)) (l5 : Hid ((chgL D3 2 salB 5).length ≤ 1000))
  (h6 : Hid (0 = runE D3.e (nIz 4) (cntI 4 365))) (s6 : Hid (z2 = rSz D3.e (nIz 4))) (d4 : Hid (D4 = drunV D3 (nIz 4))) (n6 : Hid (z2.b.c = 1000 ∧ z2.tx = 200))
  (h7 : Hid (0 = asE D4 1)) (h8 : Hid (0 = asE D4 2)) (nA : Hid ((asL D4 1).length = 1 ∧ ((asL D4 1).getD 0 in0).l = [salE 1000])) (nB : Hid ((asL D4 2).length = 2 ∧ ((asL D4 2).getD 0 in0).l = [salE 2000]))
  (nC : Hid (D4.fx.length = 1 ∧ (D4.fx.getD 0 fx0).a = 1 ∧ D4.fs.length = 2 ∧ periodI D4.e (cntI 4 365) = 3)) (w : World) :
  Calls prog 7 #[] w fun e w' => e = .returned (.bool true) ∧ Below w.heap.size w w' := by
 go_enter func7, ntmps7
 go_wp2_with fail
 refine (plain23_c w).mono ?_
 rintro e W1 ⟨⟨As, Ac, Ak, rfl, hs, hc, hk⟩, hb1⟩
 rw [← hlt.out] at hs hc hk
 have HTB := hid (⟨hs, hc, hk, hb1⟩ : _ ∧ _ ∧ _ ∧ _)
 have HL : Hid ((5000 : Int) = t.lim ∧ (1 : Int) = t.rnd) := by unfold Hid; rw [hlt.out]; exact ⟨rfl, rfl⟩
 clear hs hc hk hb1
 try rw [show plT23.lim = 5000 from rfl, show plT23.rnd = 1 from rfl]
 go_wp2_with fail
 refine (months23_c W1).mono ?_
 rintro e W2 ⟨⟨gy, rfl, hy⟩, hb2⟩
 have HY := hid hy
 have HB2 := hid (bT HTB.out.2.2.2 hb2)
 have hb2h := hid hb2
 clear hy hb2
 go_wp2_with fail
 have KN := pe_new (w0 := w) HB2.out t As Ac Ak 1 1 0 0 1 1 5000 1 4 365 (by decide) (by decide) gy c (hs := HTB.out.1.below hb2h.out) (hc := HTB.out.2.1.below hb2h.out) (by decide) (hkd := HTB.out.2.2.1.below hb2h.out) (by decide) HL.out.1 HL.out.2 (by decide) HY.out 0 h0
 rw [hct] at KN
 refine KN.mono ?_
 clear KN
 rintro e W3 ⟨hn, _, hb3⟩
 obtain ⟨p, y, o, rfl, hp, _⟩ := hn rfl
 clear hn
 rw [← hct, ← e0.out] at hp
 have P3 := hid hp
 clear hp hb3 HTB HL HY HB2 hb2h hct h0 e0 hlt
 go_wp2_with fail
 refine (pg_new P3.out).mono ?_
 rintro e W4 ⟨⟨gd, gp, gq, rfl, hg⟩, hb⟩
 have P4 := hid hg
 clear hg hb P3
 go_upto_region 3 with fail
 refine wRz (fun W => W.cell? ⟨gd, 0, none⟩ = some (.pointer (some ⟨gp, 0, none⟩))) 15 (by kernel_rfl) ((P4.out.below (b0 W4).drew).desk) (fun hH9 => ?_)
 refine tkG 0 (h := ?_)
 refine tkG 1 (h := ?_)
 refine tkG 2 (h := ?_)
 refine tkG 3 (h := ?_)
 refine tkG 4 (h := ?_)
 refine tkG 5 (h := ?_)
 refine tkG 6 (h := ?_)
 refine tkG 7 (h := ?_)
 refine tkG 8 (h := ?_)
 refine tkG 9 (h := ?_)
 refine tkG 10 (h := ?_)
 refine tkO 11 (h := fun K hK => ?_)
 go_simp
 go_at_call 35
 refine (eof_c salB 1000 W4.drew).mono ?_
 rintro e W5 ⟨rfl, hb⟩
 have hb5 := bT (b0 W4).drew hb
 have P5 := hid (P4.out.below hb5)
 refine shG hK (P5.out.desk) (h := fun hH9 => ?_)
 clear hK K
 refine tkO 12 (h := fun K hK => ?_)
 go_simp
 refine shG hK ((P5.out.below (bz1 W5 (.cells #[.string salB, .int .i64 1000, .int .i64 100] 98))).desk) (h := fun hH9 => ?_)
 clear hK K
 refine tkO 13 (h := fun K hK => ?_)
 go_simp
 go_at_call 34
 refine (pg_pay (P5.out.below (bz1 W5 (.cells #[.string salB, .int .i64 1000, .int .i64 100] 98))) (els_one1 W5 (salE 1000)) (by decide) 0 h1 (hid (fun _ => d1.out)) (hid (fun h => absurd rfl h))).mono ?_
 rintro e W6 ⟨rfl, hp, _⟩
 have P6 := hid hp
 clear hp
 refine shG hK (P6.out.desk) (h := fun hH9 => ?_)
 clear hK K
 refine tkG 14 (h := ?_)
 refine wL9 (i := 15) (by kernel_rfl) rfl (by decide) (fun K hK => ?_)
 go_simp
 refine hK.out _ _ (wD9 (by kernel_rfl) ?_ _)
 clear hK K
 clear hH9 P5 P4
 try simp only [Exit.then]
 go_wp2_with fail
 refine (pg_run P6.out 0 z1 h2 s2 (hid (fun _ => d2.out)) (hid (fun h => absurd rfl h))).mono ?_
 rintro e W7 ⟨⟨⟨zp, ⟨zc, zt, zs⟩, ztx, zsh, zrows, znet, ztk, zpy⟩, A7, n7, c7, B7, m7, d7, rfl, _⟩, hp, _⟩
 have P7 := hid (hp.below (bz1 W7 (.cells #[.int .i64 zp, .int .i64 zc, .int .i64 zt, .int .i64 zs, .int .i64 ztx, .int .i64 zsh, .slice A7 n7 c7, .int .i64 znet, .slice B7 m7 d7, .int .i64 zpy] 45)))
 clear hp P6 h1 d1 h2 s2 d2
 unfold spC
 go_upto_region 6 with fail
 generalize hwn : W7.alloc (.cells #[.int .i64 zp, .int .i64 zc, .int .i64 zt, .int .i64 zs, .int .i64 ztx, .int .i64 zsh, .slice A7 n7 c7, .int .i64 znet, .slice B7 m7 d7, .int .i64 zpy] 45) = V7 at *
 clear hwn
 go_wp2_with fail
 refine (eof_c salB 2000 V7).mono ?_
 rintro e W8 ⟨rfl, hb⟩
 have P8 := hid (P7.out.below (bA hb (.cells #[.string salB, .int .i64 2000, .int .i64 100] 98)))
 clear hb P7
 go_wp2_with fail
 refine (pg_effect P8.out 1 (els_one1 W8 (salE 2000)) (by decide) 0 V h3 v3).mono ?_
 rintro e W9 ⟨⟨_, A', c', rfl, _⟩ | ⟨hx, _⟩, hb⟩
 case inr => exact absurd rfl hx
 obtain ⟨⟨vc, vt, vs⟩, vtx, vsh, vrows, vnet⟩ := V
 obtain ⟨m1, m2, m3⟩ := n3.out
 dsimp only at m1 m2 m3
 subst m1
 subst m2
 subst m3
 clear n3 v3 h3
 unfold efC
 dsimp only
 have P9 := hid ((P8.out.below hb).below (bz1 W9 (.cells #[.int .i64 1000, .int .i64 vt, .int .i64 vs, .int .i64 200, .int .i64 vsh, .slice A' vrows.length c', .int .i64 800] 73)))
 have HE9 := hid (Blk.mk W9 73 #[.int .i64 1000, .int .i64 vt, .int .i64 vs, .int .i64 200, .int .i64 vsh, .slice A' vrows.length c', .int .i64 800])
 clear hb P8
 go_upto_region 9 with fail
 generalize hwn : W9.alloc (.cells #[.int .i64 1000, .int .i64 vt, .int .i64 vs, .int .i64 200, .int .i64 vsh, .slice A' vrows.length c', .int .i64 800] 73) = V9 at *
 clear hwn
 obtain ⟨a0, a1, a2, a3, a4, a5, a6⟩ := (HE9.out).q7
 go_wp2_with fail
 refine (none_no 1000 vt vs 200 vsh 800 A' vrows.length c' V9 rfl).mono ?_
 rintro e W10 ⟨rfl, hb⟩
 have P10 := hid (P9.out.below hb)
 clear hb P9 HE9 a0 a1 a2 a3 a4 a5 a6
 go_wp2_with fail
 refine (pg_change P10.out 1 salB 2000 l4.out 0 h4 (hid (fun _ => d3.out)) (hid (fun h => absurd rfl h))).mono ?_
 rintro e W11 ⟨rfl, hp, _⟩
 have P11 := hid hp
 clear hp P10 h4 l4 d3
 go_wp2_with fail
 refine (pg_change (D' := D3) P11.out 2 salB 5 l5.out 230 h5 (hid (fun h => absurd h (by decide))) (hid (fun _ => rfl))).mono ?_
 rintro e W12 ⟨rfl, hp, _⟩
 have P12 := hid hp
 clear hp P11 h5 l5
 go_wp2_with fail
 refine (pg_run P12.out 0 z2 h6 s6 (hid (fun _ => d4.out)) (hid (fun h => absurd rfl h))).mono ?_
 rintro e W13 ⟨⟨⟨yp, ⟨yc, yt, ys⟩, ytx, ysh, yrows, ynet, ytk, ypy⟩, A8, n8, c8, B8, m8, d8, rfl, hv⟩, hp, _⟩
 obtain ⟨hZ, hzz⟩ := hv.ok rfl
 clear hzz
 have v1 : yc = 1000 := (congrArg (fun z => z.b.c) hZ).trans n6.out.1
 have v2 : ytx = 200 := (congrArg Sp.tx hZ).trans n6.out.2
 subst v1
 subst v2
 have P13 := hid (hp.below (bz1 W13 (.cells #[.int .i64 yp, .int .i64 1000, .int .i64 yt, .int .i64 ys, .int .i64 200, .int .i64 ysh, .slice A8 n8 c8, .int .i64 ynet, .slice B8 m8 d8, .int .i64 ypy] 45)))
 have HS := hid (Blk.mk W13 45 #[.int .i64 yp, .int .i64 1000, .int .i64 yt, .int .i64 ys, .int .i64 200, .int .i64 ysh, .slice A8 n8 c8, .int .i64 ynet, .slice B8 m8 d8, .int .i64 ypy])
 clear hp hv hZ P12 h6 s6 d4 n6
 unfold spC
 go_upto_region 12 with fail
 generalize hwn : W13.alloc (.cells #[.int .i64 yp, .int .i64 1000, .int .i64 yt, .int .i64 ys, .int .i64 200, .int .i64 ysh, .slice A8 n8 c8, .int .i64 ynet, .slice B8 m8 d8, .int .i64 ypy] 45) = V13 at *
 clear hwn
 have KA := pg_as P13.out 1 0 h7
 unfold AsR at KA
 rw [nA.out.1] at KA
 go_wp2_with fail
 refine KA.mono ?_
 clear KA
 rintro e W14 ⟨⟨_, A1, k1, rfl, ho⟩ | ⟨hx, _⟩, hb⟩
 case inr => exact absurd rfl hx
 obtain ⟨g1, q1, e1, rfl, x1, x2, l1, l2⟩ := ins_first ho (by decide) nA.out.2
 have HX := hid (⟨x1, x2, l1, l2⟩ : _ ∧ _ ∧ _ ∧ _)
 have P14 := hid (P13.out.below hb)
 replace HS := hid (HS.out.t hb)
 clear ho x1 x2 l1 l2 hb P13 h7
 have KA := pg_as P14.out 2 0 h8
 unfold AsR at KA
 rw [nB.out.1] at KA
 go_wp2_with fail
 refine KA.mono ?_
 clear KA
 rintro e W15 ⟨⟨_, A2, k2, rfl, ho⟩ | ⟨hx, _⟩, hb⟩
 case inr => exact absurd rfl hx
 obtain ⟨g2, q2, e2, rfl, x1, x2, l1, l2⟩ := ins_first ho (by decide) nB.out.2
 have HX2 := hid (⟨x1, x2, l1, l2⟩ : _ ∧ _ ∧ _ ∧ _)
 have P15 := hid (P14.out.below hb)
 replace HS := hid (HS.out.t hb)
 replace HX := hid (⟨(hb.cell (p := ⟨g1, 5, none⟩) HX.out.2.2.1).trans HX.out.1, (hb.cell (p := ⟨q1, 1, none⟩) HX.out.2.2.2).trans HX.out.2.1, Nat.lt_of_lt_of_le HX.out.2.2.1 hb.size, Nat.lt_of_lt_of_le HX.out.2.2.2 hb.size⟩ : _ ∧ _ ∧ _ ∧ _)
 clear ho x1 x2 l1 l2 hb P14 h8
 have KF := pg_fixes P15.out
 unfold FxR at KF
 rw [nC.out.1] at KF
 go_wp2_with fail
 refine KF.mono ?_
 clear KF
 rintro e W16 ⟨⟨A3, k3, rfl, ho⟩, hb⟩
 obtain ⟨g3, rfl, x3, l3⟩ := fxs_first ho (by decide) nC.out.2.1
 have P16 := hid (P15.out.below hb)
 replace HS := hid (HS.out.t hb)
 replace HX := hid (⟨(hb.cell (p := ⟨g1, 5, none⟩) HX.out.2.2.1).trans HX.out.1, (hb.cell (p := ⟨q1, 1, none⟩) HX.out.2.2.2).trans HX.out.2.1, Nat.lt_of_lt_of_le HX.out.2.2.1 hb.size, Nat.lt_of_lt_of_le HX.out.2.2.2 hb.size⟩ : _ ∧ _ ∧ _ ∧ _)
 replace HX2 := hid (⟨(hb.cell (p := ⟨g2, 5, none⟩) HX2.out.2.2.1).trans HX2.out.1, (hb.cell (p := ⟨q2, 1, none⟩) HX2.out.2.2.2).trans HX2.out.2.1, Nat.lt_of_lt_of_le HX2.out.2.2.1 hb.size, Nat.lt_of_lt_of_le HX2.out.2.2.2 hb.size⟩ : _ ∧ _ ∧ _ ∧ _)
 clear ho hb P15
 have y1 := HX.out.1
 have w1 : W16.cell? ⟨q1, 1, none⟩ = some (.int .i64 1000) := HX.out.2.1
 have y2 := HX2.out.1
 have w2 : W16.cell? ⟨q2, 1, none⟩ = some (.int .i64 2000) := HX2.out.2.1
 have s1 := HS.out.cv 1 (.int .i64 1000) rfl
 have s4 := HS.out.cv 4 (.int .i64 200) rfl
 have KI := pg_first P16.out
 unfold InsR at KI
 rw [nC.out.2.2.1] at KI
 go_wp2_with fail
 refine KI.mono ?_
 clear KI
 rintro e W17 ⟨⟨A4, k4, rfl, _⟩, hb⟩
 have P17 := hid (P16.out.below hb)
 clear hb P16 x3 l3 s1 s4 y1 y2 w1 w2 HX HX2 HS
 go_wp2_with fail
 refine (pg_clone P17.out).mono ?_
 rintro e W18 ⟨⟨gd2, gp2, gy2, rfl, hp⟩, hb⟩
 have P18 := hid (P17.out.below hb)
 have d18 := hp.desk
 obtain ⟨o2, hpe⟩ := hp.pe
 have KP := pe_period hpe
 rw [nC.out.2.2.2] at KP
 clear hp hb P17
 go_wp2_with fail
 refine KP.mono ?_
 rintro e W19 ⟨rfl, hb⟩
 clear KP d18
 have P19 := hid (P18.out.below hb)
 clear hb P18
 go_wp2_with fail
 exact bodyPost_ret (v := .bool true) (by simp [results, results7, go_sem]) rfl ⟨rfl, P19.out.bl⟩
theorem fixes_c (w : World) : Calls prog 7 #[] w fun e w' => e = .returned (.bool true) ∧ Below w.heap.size w w' := by
 have hn := nom_m
 have hc := cnt_m 365
 refine fixes_g plT23 (hid rfl) plC rfl fk0 fd1 fd2 fd3 fd4 (effV fd2.e 12 1 [salE 2000]) (rSz fk1 12) (rSz fd3.e 12) (hid fk0_e.symm) (hid rfl) ?_ (hid rfl) ?_ ?_ ?_ ?_ ?_ (hid fx_v) ?_ (hid (by decide +kernel)) (hid rfl) ?_ (hid (by decide +kernel)) ?_ ?_ ?_ (hid fd4_s) (hid fas_e.1.symm) (hid fas_e.2.symm) (hid ⟨fas_v.1, fas_v.2.1⟩) (hid fas_v.2.2) ?_ w
 ·
  rw [hc]; exact hid fk1_e.symm
 ·
  rw [hn, hc]; exact hid fd2_e.symm
 ·
  rw [hn]; exact hid rfl
 ·
  rw [hn]; exact hid rfl
 ·
  rw [hn, hc]; exact hid fx_e.symm
 ·
  rw [hn]; exact hid rfl
 ·
  rw [hn, hc]; exact hid (by decide +kernel)
 ·
  rw [hn, hc]; exact hid (by decide +kernel)
 ·
  rw [hn, hc]; exact hid fd4_e.symm
 ·
  rw [hn]; exact hid rfl
 ·
  rw [hn]; exact hid rfl
 ·
  rw [hc]; exact hid fd4_v
--%
end Go.Proofs.YtiaabmhjkoohmaaGreat
