/-
 Contract of layer 21's example: a period of a thousand, and one in which the first one is corrected. No conditions.
-/
import Derived.Test.YtmlphohnegmgkaaGreatM9
namespace Go.Proofs.YtmlphohnegmgkaaGreat
set_option maxRecDepth 100000
set_option maxHeartbeats 25600000
set_option linter.unusedVariables false
set_option linter.unusedSimpArgs false
open Go.RowKit
--%
theorem pays_g (t : Tb) (hlt : Hid (t = plT)) (c : Cd) (hct : c = ⟨0, 1, 0, 0, false⟩) (E0 E1 E2 E3 E4 E5 E6 : Em) (z1 z2 : Sp) (h0 : Hid (0 = newE t c)) (e0 : Hid (E0 = newV t c)) (h1 : Hid (0 = payE E0 (cntI 4 365) [salE 1000])) (e1 : Hid (E1 = payV E0 [salE 1000])) (h2 : Hid (0 = runE E1 (nomI 4) (cntI 4 365))) (s2 : Hid (z1 = runS E1 (nomI 4))) (e2 : Hid (E2 = runV E1 (nomI 4)))
  (h3 : Hid (0 = replE E2 (nomI 4) (cntI 4 365) 1 [salE 2000])) (e3 : Hid (E3 = replV E2 1 [salE 2000])) (h4 : Hid (addE E3.bk ⟨1, 0, 100, 0, 0, 0, 0⟩ = 0)) (e4 : Hid (E4 = ordEV E3 ⟨1, 0, 100, 0, 0, 0, 0⟩)) (h5 : Hid (0 = protE 650)) (e5 : Hid (E5 = protV E4 650)) (h6 : Hid (0 = runE E5 (nomI 4) (cntI 4 365))) (s6 : Hid (z2 = runS E5 (nomI 4))) (e6 : Hid (E6 = runV E5 (nomI 4)))
  (hA : Hid (z1.net = 700 ∧ z1.tx = 200)) (hB : Hid (z2.b.c = 1000 ∧ z2.tx = 200 ∧ z2.net = 700 ∧ z2.py = 650 ∧ z2.tk.length = 1 ∧ (z2.tk.getD 0 tk0).ca = 50)) (hC : Hid (periodI E6 (cntI 4 365) = 3 ∧ E6.ins.length = 2 ∧ E6.yr.sl.length = 2 ∧ E6.bk.length = 1 ∧ (E6.bk.getD 0 od0).ar = 50)) (w : World) :
  Calls Tryz.prog 41 #[] w fun e w' => e = .returned (.bool true) ∧ Below w.heap.size w w' := by
 go_enter Tryz.func41, Tryz.ntmps41
 go_wp2_with fail
 refine (plain21_c w).mono ?_
 rintro e W1 ⟨⟨As, Ac, Ak, rfl, hs, hc, hk⟩, hb1⟩
 rw [← hlt.out] at hs hc hk
 have HTB := Lib.hid (⟨hs, hc, hk, hb1⟩ : _ ∧ _ ∧ _ ∧ _)
 have HL : Hid ((5000 : Int) = t.lim ∧ (1 : Int) = t.rnd) := by unfold Hid; rw [hlt.out]; exact ⟨rfl, rfl⟩
 clear hs hc hk hb1
 try rw [show plT.lim = 5000 from rfl, show plT.rnd = 1 from rfl]
 go_wp2_with fail
 refine (months21_c W1).mono ?_
 rintro e W2 ⟨⟨gy, rfl, hy⟩, hb2⟩
 have HY := Lib.hid hy
 have HB2 := Lib.hid (bT HTB.out.2.2.2 hb2)
 have hb2h := Lib.hid hb2
 clear hy hb2
 go_wp2_with fail
 have KN := pe_new (w0 := w) HB2.out t As Ac Ak 1 1 1 1 1 1 5000 1 4 365 (by decide) (by decide) gy c (hs := HTB.out.1.below hb2h.out) (hc := HTB.out.2.1.below hb2h.out) (by decide) (hkd := HTB.out.2.2.1.below hb2h.out) (by decide) HL.out.1 HL.out.2 (by decide) HY.out 0 h0
 rw [hct] at KN
 refine KN.mono ?_
 clear KN
 rintro e W3 ⟨hn, _, hb3⟩
 obtain ⟨p, y, o, rfl, hp, _⟩ := hn rfl
 clear hn
 rw [← hct, ← e0.out] at hp
 have P3 := Lib.hid hp
 clear hp hb3 HTB HL HY HB2 hb2h hct h0 e0 hlt
 go_wp2_with fail
 refine (eof_c salB 1000 W3).mono ?_
 rintro e W4 ⟨rfl, hb⟩
 have P4 := Lib.hid (P3.out.below (bA hb (.cells #[.string salB, .int .i64 1000, .int .i64 100] 149)))
 clear hb
 go_wp2_with fail
 refine (pe_pay P4.out (els_one1 W4 (salE 1000)) (by decide) 0 E1 h1 (Lib.hid (fun _ => e1.out)) (Lib.hid (fun h => absurd rfl h))).mono ?_
 rintro e W5 ⟨rfl, hp, hz⟩
 clear hz
 have P5 := Lib.hid hp
 clear hp P3 P4 h1 e1
 go_wp2_with fail
 refine (pe_run P5.out 0 z1 E2 h2 s2 (Lib.hid (fun _ => e2.out)) (Lib.hid (fun h => absurd rfl h))).mono ?_
 rintro e W6 ⟨⟨⟨zp, ⟨zc, zt, zs⟩, ztx, zsh, zrows, znet, ztk, zpy⟩, A7, n7, c7, B7, m7, d7, rfl, hv⟩, ⟨o6, hp, hz1⟩, hz2⟩
 clear hz1 hz2
 obtain ⟨hZ, hzz⟩ := hv.ok rfl
 clear hzz
 have v1 : znet = 700 := (congrArg Sp.net hZ).trans hA.out.1
 have v2 : ztx = 200 := (congrArg Sp.tx hZ).trans hA.out.2
 subst v1
 subst v2
 clear hZ hv hA h2 s2 e2
 have P6 := Lib.hid (hp.below (below1 W6 (.cells #[.int .i64 zp, .int .i64 zc, .int .i64 zt, .int .i64 zs, .int .i64 200, .int .i64 zsh, .slice A7 n7 c7, .int .i64 700, .slice B7 m7 d7, .int .i64 zpy] 76)))
 have hBA := Blk.mk W6 76 #[.int .i64 zp, .int .i64 zc, .int .i64 zt, .int .i64 zs, .int .i64 200, .int .i64 zsh, .slice A7 n7 c7, .int .i64 700, .slice B7 m7 d7, .int .i64 zpy]
 clear hp
 unfold spC
 go_upto_region 5 with fail
 have HBA := Lib.hid hBA
 clear hBA
 generalize hwn : W6.alloc (.cells #[.int .i64 zp, .int .i64 zc, .int .i64 zt, .int .i64 zs, .int .i64 200, .int .i64 zsh, .slice A7 n7 c7, .int .i64 700, .slice B7 m7 d7, .int .i64 zpy] 76) = V6 at *
 clear hwn
 go_wp2_with fail
 refine (eof_c salB 2000 V6).mono ?_
 rintro e W7 ⟨rfl, hb⟩
 have P7 := Lib.hid (P6.out.below (bA hb (.cells #[.string salB, .int .i64 2000, .int .i64 100] 149)))
 replace HBA := Lib.hid (HBA.out.t (bA hb (.cells #[.string salB, .int .i64 2000, .int .i64 100] 149)))
 clear hb P6
 go_wp2_with fail
 refine (pe_repl P7.out 1 (els_one1 W7 (salE 2000)) (by decide) 0 E3 h3 (Lib.hid (fun _ => e3.out)) (Lib.hid (fun h => absurd rfl h))).mono ?_
 rintro e W8 ⟨rfl, hp, hk, hz⟩
 clear hz
 have P8 := Lib.hid hp
 replace HBA := Lib.hid (P7.out.blk hk HBA.out (by decide))
 clear hp hk P7 h3 e3
 go_wp2_with fail
 refine (pe_order P8.out 1 0 100 0 0).mono ?_
 rintro e W9 ⟨rfl, hp, hk, hz⟩
 clear hz
 rw [← e4.out] at hp
 rw [h4.out]
 have P9 := Lib.hid hp
 replace HBA := Lib.hid (P8.out.blk hk HBA.out (by decide))
 clear hp hk P8 h4 e4
 go_wp2_with fail
 refine (pe_prot P9.out 650 0 E5 h5 (Lib.hid (fun _ => e5.out)) (Lib.hid (fun h => absurd rfl h))).mono ?_
 rintro e W10 ⟨rfl, hp, hk, hz⟩
 clear hz
 have P10 := Lib.hid hp
 replace HBA := Lib.hid (P9.out.blk hk HBA.out (by decide))
 clear hp hk P9 h5 e5
 go_wp2_with fail
 refine (pe_run P10.out 0 z2 E6 h6 s6 (Lib.hid (fun _ => e6.out)) (Lib.hid (fun h => absurd rfl h))).mono ?_
 rintro e W11 ⟨⟨⟨yp, ⟨yc, yt, ys⟩, ytx, ysh, yrows, ynet, ytk, ypy⟩, A8, n8, c8, B8, m8, d8, rfl, hv⟩, ⟨o11, hp, hz1⟩, hk, hz2⟩
 clear hz1 hz2
 replace HBA := Lib.hid (P10.out.blk hk HBA.out (by decide))
 obtain ⟨hZ, hn8, hm8, hr8, ht8⟩ := hv.ok rfl
 clear hn8 hr8
 have v1 : yc = 1000 := (congrArg (fun z => z.b.c) hZ).trans hB.out.1
 have v2 : ytx = 200 := (congrArg Sp.tx hZ).trans hB.out.2.1
 have v3 : ynet = 700 := (congrArg Sp.net hZ).trans hB.out.2.2.1
 have v4 : ypy = 650 := (congrArg Sp.py hZ).trans hB.out.2.2.2.1
 have v5 : m8 = 1 := hm8.trans hB.out.2.2.2.2.1
 subst v1
 subst v2
 subst v3
 subst v4
 subst v5
 obtain ⟨g8, hg8, y1, hc8, y2⟩ := own_some ht8 (by decide)
 clear y1 y2
 subst hg8
 have hx8 := hc8 5 (by decide)
 have hf8 := flat_key tkC 6 tk0 tkC_len z2.tk 0 5 (.int .i64 50) (by rw [← hm8]; decide) (by decide) (by rw [← hB.out.2.2.2.2.2]; rfl)
 rw [show 0 * 6 + 5 = 5 from rfl] at hf8
 rw [hf8] at hx8
 have hgl : g8 < W11.heap.size := (ht8.lt g8 rfl).2
 have hb12 := below1 W11 (.cells #[.int .i64 yp, .int .i64 1000, .int .i64 yt, .int .i64 ys, .int .i64 200, .int .i64 ysh, .slice A8 n8 c8, .int .i64 700, .slice (some ⟨g8, 0, none⟩) 1 d8, .int .i64 650] 76)
 have P11 := Lib.hid (hp.below hb12)
 have HBB := Lib.hid (Blk.mk W11 76 #[.int .i64 yp, .int .i64 1000, .int .i64 yt, .int .i64 ys, .int .i64 200, .int .i64 ysh, .slice A8 n8 c8, .int .i64 700, .slice (some ⟨g8, 0, none⟩) 1 d8, .int .i64 650])
 replace HBA := Lib.hid (HBA.out.t hb12)
 have HX8 := Lib.hid ((hb12.cell (p := ⟨g8, 5, none⟩) hgl).trans hx8)
 have HGL : Hid (g8 < (W11.alloc (.cells #[.int .i64 yp, .int .i64 1000, .int .i64 yt, .int .i64 ys, .int .i64 200, .int .i64 ysh, .slice A8 n8 c8, .int .i64 700, .slice (some ⟨g8, 0, none⟩) 1 d8, .int .i64 650] 76)).heap.size) := Nat.lt_of_lt_of_le hgl hb12.size
 clear hv hZ hm8 ht8 hc8 hx8 hf8 hgl hp hk hb12 P10 h6 s6 e6 hB
 unfold spC
 go_upto_region 8 with fail
 generalize hwn : W11.alloc (.cells #[.int .i64 yp, .int .i64 1000, .int .i64 yt, .int .i64 ys, .int .i64 200, .int .i64 ysh, .slice A8 n8 c8, .int .i64 700, .slice (some ⟨g8, 0, none⟩) 1 d8, .int .i64 650] 76) = V11 at *
 clear hwn
 have a7_1 := HBA.out.cv 7 (.int .i64 700) rfl
 have a4_1 := HBA.out.cv 4 (.int .i64 200) rfl
 have b1_1 := HBB.out.cv 1 (.int .i64 1000) rfl
 have b4_1 := HBB.out.cv 4 (.int .i64 200) rfl
 have b7_1 := HBB.out.cv 7 (.int .i64 700) rfl
 have b8_1 := HBB.out.cv 8 (.slice (some ⟨g8, 0, none⟩) 1 d8) rfl
 have b9_1 := HBB.out.cv 9 (.int .i64 650) rfl
 have x8_1 := HX8.out
 go_wp2_with fail
 refine (pe_period P11.out).mono ?_
 rw [hC.out.1]
 rintro e W12 ⟨rfl, hb⟩
 clear a7_1 a4_1 b1_1 b4_1 b7_1 b8_1 b9_1 x8_1
 replace HBA := Lib.hid (HBA.out.t hb)
 replace HBB := Lib.hid (HBB.out.t hb)
 replace HX8 := Lib.hid ((hb.cell (p := ⟨g8, 5, none⟩) HGL.out).trans HX8.out)
 replace HGL := Lib.hid (Nat.lt_of_lt_of_le HGL.out hb.size)
 have P12 := Lib.hid (P11.out.below hb)
 clear hb P11
 have a7_2 := HBA.out.cv 7 (.int .i64 700) rfl
 have a4_2 := HBA.out.cv 4 (.int .i64 200) rfl
 have b1_2 := HBB.out.cv 1 (.int .i64 1000) rfl
 have b4_2 := HBB.out.cv 4 (.int .i64 200) rfl
 have b7_2 := HBB.out.cv 7 (.int .i64 700) rfl
 have b8_2 := HBB.out.cv 8 (.slice (some ⟨g8, 0, none⟩) 1 d8) rfl
 have b9_2 := HBB.out.cv 9 (.int .i64 650) rfl
 have x8_2 := HX8.out
 go_wp2_with fail
 have KI := pe_inputs P12.out
 unfold InsR at KI
 rw [hC.out.2.1] at KI
 refine KI.mono ?_
 clear KI
 rintro e W13 ⟨⟨A13, c13, rfl, _⟩, hb⟩
 clear a7_2 a4_2 b1_2 b4_2 b7_2 b8_2 b9_2 x8_2
 replace HBA := Lib.hid (HBA.out.t hb)
 replace HBB := Lib.hid (HBB.out.t hb)
 replace HX8 := Lib.hid ((hb.cell (p := ⟨g8, 5, none⟩) HGL.out).trans HX8.out)
 replace HGL := Lib.hid (Nat.lt_of_lt_of_le HGL.out hb.size)
 have P13 := Lib.hid (P12.out.below hb)
 clear hb P12
 have a7_3 := HBA.out.cv 7 (.int .i64 700) rfl
 have a4_3 := HBA.out.cv 4 (.int .i64 200) rfl
 have b1_3 := HBB.out.cv 1 (.int .i64 1000) rfl
 have b4_3 := HBB.out.cv 4 (.int .i64 200) rfl
 have b7_3 := HBB.out.cv 7 (.int .i64 700) rfl
 have b8_3 := HBB.out.cv 8 (.slice (some ⟨g8, 0, none⟩) 1 d8) rfl
 have b9_3 := HBB.out.cv 9 (.int .i64 650) rfl
 have x8_3 := HX8.out
 go_wp2_with fail
 refine (pe_posted P13.out).mono ?_
 rintro e W14 ⟨⟨q14, A14, c14, B14, d14, rfl, _, hy⟩, hb⟩
 clear a7_3 a4_3 b1_3 b4_3 b7_3 b8_3 b9_3 x8_3
 replace HBA := Lib.hid (HBA.out.t hb)
 replace HBB := Lib.hid (HBB.out.t hb)
 replace HX8 := Lib.hid ((hb.cell (p := ⟨g8, 5, none⟩) HGL.out).trans HX8.out)
 replace HGL := Lib.hid (Nat.lt_of_lt_of_le HGL.out hb.size)
 have P14 := Lib.hid (P13.out.below hb)
 clear hb P13
 have a7_4 := HBA.out.cv 7 (.int .i64 700) rfl
 have a4_4 := HBA.out.cv 4 (.int .i64 200) rfl
 have b1_4 := HBB.out.cv 1 (.int .i64 1000) rfl
 have b4_4 := HBB.out.cv 4 (.int .i64 200) rfl
 have b7_4 := HBB.out.cv 7 (.int .i64 700) rfl
 have b8_4 := HBB.out.cv 8 (.slice (some ⟨g8, 0, none⟩) 1 d8) rfl
 have b9_4 := HBB.out.cv 9 (.int .i64 650) rfl
 have x8_4 := HX8.out
 go_wp2_with fail
 have KC := ycount_c q14 E6.yr A14 c14 B14 d14 W14 hy.blk
 rw [hC.out.2.2.1] at KC
 refine KC.mono ?_
 clear KC hy
 rintro e W15 ⟨rfl, rfl⟩
 go_wp2_with fail
 have KO := pe_orders P14.out
 unfold GivesOd at KO
 rw [hC.out.2.2.2.1] at KO
 refine KO.mono ?_
 clear KO
 rintro e W16 ⟨⟨v16, rfl, ho⟩, hb⟩
 obtain ⟨A16, c16, rfl⟩ := own_slice ho.2
 clear ho
 clear a7_4 a4_4 b1_4 b4_4 b7_4 b8_4 b9_4 x8_4
 replace HBA := Lib.hid (HBA.out.t hb)
 replace HBB := Lib.hid (HBB.out.t hb)
 replace HX8 := Lib.hid ((hb.cell (p := ⟨g8, 5, none⟩) HGL.out).trans HX8.out)
 replace HGL := Lib.hid (Nat.lt_of_lt_of_le HGL.out hb.size)
 have P15 := Lib.hid (P14.out.below hb)
 clear hb P14
 have a7_5 := HBA.out.cv 7 (.int .i64 700) rfl
 have a4_5 := HBA.out.cv 4 (.int .i64 200) rfl
 have b1_5 := HBB.out.cv 1 (.int .i64 1000) rfl
 have b4_5 := HBB.out.cv 4 (.int .i64 200) rfl
 have b7_5 := HBB.out.cv 7 (.int .i64 700) rfl
 have b8_5 := HBB.out.cv 8 (.slice (some ⟨g8, 0, none⟩) 1 d8) rfl
 have b9_5 := HBB.out.cv 9 (.int .i64 650) rfl
 have x8_5 := HX8.out
 go_wp2_with fail
 have KO := pe_orders P15.out
 unfold GivesOd at KO
 rw [hC.out.2.2.2.1] at KO
 refine KO.mono ?_
 clear KO
 rintro e W17 ⟨⟨v17, rfl, ho⟩, hb⟩
 obtain ⟨A17, c17, rfl⟩ := own_slice ho.2
 obtain ⟨g17, hg17, y1, hc17, y2⟩ := own_some ho.2 (by decide)
 clear y1 y2
 subst hg17
 have hx17 := hc17 6 (by decide)
 have hf17 := flat_key odC 7 od0 odC_len E6.bk 0 6 (.int .i64 50) (by rw [hC.out.2.2.2.1]; decide) (by decide) (by rw [← hC.out.2.2.2.2]; rfl)
 rw [show 0 * 7 + 6 = 6 from rfl] at hf17
 rw [hf17] at hx17
 clear ho hc17 hf17
 clear a7_5 a4_5 b1_5 b4_5 b7_5 b8_5 b9_5 x8_5
 replace HBA := Lib.hid (HBA.out.t hb)
 replace HBB := Lib.hid (HBB.out.t hb)
 replace HX8 := Lib.hid ((hb.cell (p := ⟨g8, 5, none⟩) HGL.out).trans HX8.out)
 replace HGL := Lib.hid (Nat.lt_of_lt_of_le HGL.out hb.size)
 have P16 := Lib.hid (P15.out.below hb)
 clear hb P15
 have a7_6 := HBA.out.cv 7 (.int .i64 700) rfl
 have a4_6 := HBA.out.cv 4 (.int .i64 200) rfl
 have b1_6 := HBB.out.cv 1 (.int .i64 1000) rfl
 have b4_6 := HBB.out.cv 4 (.int .i64 200) rfl
 have b7_6 := HBB.out.cv 7 (.int .i64 700) rfl
 have b8_6 := HBB.out.cv 8 (.slice (some ⟨g8, 0, none⟩) 1 d8) rfl
 have b9_6 := HBB.out.cv 9 (.int .i64 650) rfl
 have x8_6 := HX8.out
 go_wp2_with fail
 refine bodyPost_ret (v := .bool true) (by simp [results, Tryz.results41, go_sem]) rfl ⟨rfl, P16.out.bl⟩
theorem pays_c (w : World) : Calls Tryz.prog 41 #[] w fun e w' => e = .returned (.bool true) ∧ Below w.heap.size w w' := by
 have hn := nom_m
 have hc := cnt_m 365
 refine pays_g plT (Lib.hid rfl) plC rfl pe0 pe1 pe2 pe3 pe4 pe5 pe6 (runS pe1 12) (runS pe5 12) (Lib.hid pe0_e.symm) (Lib.hid rfl) ?_ (Lib.hid rfl) ?_ ?_ ?_ ?_ (Lib.hid rfl) (Lib.hid pe4_e) (Lib.hid rfl) (Lib.hid pe5_e.symm) (Lib.hid rfl) ?_ ?_ ?_ (Lib.hid pyA) (Lib.hid pyB) ?_ w
 ·
  rw [hc]; exact Lib.hid pe1_e.symm
 ·
  rw [hn, hc]; exact Lib.hid pe2_e.symm
 ·
  rw [hn]; exact Lib.hid rfl
 ·
  rw [hn]; exact Lib.hid rfl
 ·
  rw [hn, hc]; exact Lib.hid pe3_e.symm
 ·
  rw [hn, hc]; exact Lib.hid pe6_e.symm
 ·
  rw [hn]; exact Lib.hid rfl
 ·
  rw [hn]; exact Lib.hid rfl
 ·
  rw [hc]; exact Lib.hid pyC
--%
end Go.Proofs.YtmlphohnegmgkaaGreat
