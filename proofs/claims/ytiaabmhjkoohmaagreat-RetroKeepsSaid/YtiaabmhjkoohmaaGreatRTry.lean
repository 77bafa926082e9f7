/-
 Contract of an employee's Tryz. Conditions as named.
-/
import Derived.Test.YtiaabmhjkoohmaaGreatM7
namespace Go.Proofs.YtiaabmhjkoohmaaGreat
set_option maxRecDepth 100000
set_option maxHeartbeats 25600000
set_option linter.unusedVariables false
set_option linter.unusedSimpArgs false
open Go.RowKit Tryz
open Lib (hid)
--%
theorem rtry_c (fq days : Int) (lo li p y o : Nat) (E : Em) (gr : Int) (w : World) (h : Ea9 w lo li fq days p y o E) (hk : EmOK fq days E) (re : Int) (z : Sp) (he : Hid (re = tEz E (nIz fq) (cntI fq days) gr)) (hz : Hid (z = tryV E (nIz fq) gr)) :
  Calls prog 20 #[.pointer (some ⟨p, 0, none⟩), .int .i64 gr] w (SlipU re z w) := by
 have HF0 := hid (Fr.start w)
 have HE0 := hid h
 have HOK := hid hk
 obtain ⟨K, ns, nc, nk, nn, ni, hns, hnc, hnk, hnn, hni, hB, hR⟩ := h.letters
 have HB := hid hB
 have HRW := hid hR
 have HNS := hid hns
 have HNC := hid hnc
 have HNK := hid hnk
 have HNN := hid hnn
 have HNI := hid hni
 have HLT : Hid (p < w.heap.size) := hB.lt
 obtain ⟨E1, hE1⟩ : ∃ E1, E1 = openE E (cntI fq days) := ⟨_, rfl⟩
 have K1 := hid (fun W (hW : Below w.heap.size w W) => ropen_c fq days lo li p y o E W (h.below hW) hk)
 rw [← hE1] at K1
 unfold ValB at K1
 have htb0 : tbE E.tb = 0 := by
  have htb := hk.tb
  unfold keepE at htb
  by_cases h0 : tbE E.tb = 0
  ·
   exact h0
  ·
   rw [if_pos h0] at htb; exact absurd htb h0
 obtain ⟨hok, hls, hlc, hlk, _⟩ := tb_of htb0
 have hlim := riz.1 hok.lim
 obtain ⟨E2, hE2⟩ : ∃ E2, E2 = rEz E.tb (nIz fq) gr (tryIn E) := ⟨_, rfl⟩
 obtain ⟨V2, hV2⟩ : ∃ V2, V2 = reckV E.tb (nIz fq) gr (tryIn E) := ⟨_, rfl⟩
 have KW := hid (fun W (hW : Below w.heap.size w W) => rwith_c fq days lo li p y o E W (h.below hW) (by have := hk.ins53; omega))
 have hni1 : (tryIn E).length = ni + 1 := by unfold tryIn; rw [List.length_append, ← hni]; rfl
 unfold InsWR at KW
 rw [hni1] at KW
 have KR := hid (fun W (hW : Below w.heap.size w W) (h0 : E1 = 0) (A5 : Option Addr) (c5 : Nat) (hin : Inz W A5 (ni + 1) (tryIn E)) => (reckon_c E.tb K.As K.Ac K.Ak A5 ns K.cs nc K.cc nk K.ck (ni + 1) c5 E.tb.lim E.tb.rnd fq days K.gy gr (tryIn E) W (by rw [hns]; exact hR.tb.view.s.below hW) (by rw [hnc]; exact hR.tb.view.c.below hW) (by rw [hnk]; exact hR.tb.view.k.below hW) rfl hk.tb hk.f hk.d (hR.gy.t hW) hin (by
  have h1 := hk.ins
  rw [hE1] at h0
  unfold openE at h0
  rw [← hni] at h1 h0
  by_cases h2 : (ni : Int) = cntI fq days
  ·
   rw [if_pos h2] at h0; cases h0
  ·
   omega) E2 V2 hE2 hV2).mono fun _ _ h => h.v hW.size)
 obtain ⟨Ay, cy, By, dy, hyr⟩ := hR.yr
 have hyn := hk.yr
 have KT := hid (fun W (hW : Below w.heap.size w W) => ytotals_c y lo E.yr Ay cy By dy W (hyr.below hW) (by omega))
 have KP : Hid (E1 = 0 → ∀ W (hW : Below w.heap.size w W), Calls prog 38 #[.pointer (some ⟨p, 0, none⟩)] W fun e w' => e = .returned (.int .i64 ((ni : Int) + 1)) ∧ Below W.heap.size W w') := fun h0 W hW => by
  have h1 := rperiod_c fq days lo li p y o E W (h.below hW) hk
  rw [hE1] at h0
  unfold openE at h0
  unfold ValB periodI at h1
  rw [← hni] at h1 h0
  by_cases h2 : (ni : Int) = cntI fq days
  ·
   rw [if_pos h2] at h0; cases h0
  ·
   rw [if_neg h2] at h1; exact h1
 obtain ⟨E3, hE3⟩ : ∃ E3, E3 = rslE E.tb E.yr.t V2 ((ni : Int) + 1) (!E.c.al) := ⟨_, rfl⟩
 have hz3 : Hid (z = rslZ E.tb E.yr.t V2 ((ni : Int) + 1) (!E.c.al)) := hz.out.trans (by unfold tryV; rw [hV2, ← hni])
 have KS := hid (fun W (A1 : Option Addr) (n1 a1 : Nat) (C : Option Addr) (m b : Nat) (B : Option Addr) (n d : Nat) (hx : Sh9 W C m V2.sh) (hy : Sh9 W B n E.yr.t.rows) (hm : m ≤ 64) => rslip_c E.tb K.As K.Ac K.Ak ns K.cs nc K.cc nk K.ck E.tb.lim E.tb.rnd E.yr.t B n d V2 A1 n1 a1 C m b ((ni : Int) + 1) (!E.c.al) W hlim rfl hx hy hm E3 z hE3 hz3)
 obtain ⟨E4, hE4⟩ : ∃ E4, E4 = ytryE E.yr z := ⟨_, rfl⟩
 have KY := hid (fun W (hW : Below w.heap.size w W) (A2 : Option Addr) (n2 c2 : Nat) (B2 : Option Addr) (m2 d2 : Nat) (hr : Sh9 W A2 n2 z.rows) (ht : TkSl W B2 m2 z.tk) => ytry_c y lo E.yr Ay cy By dy z A2 B2 n2 c2 m2 d2 W (hyr.below hW) (by omega) (by have := hk.sl; have := hk.ins53; omega) hr ht E4 _ hE4 (hid rfl))
 have H1 : Hid (re = sqz E1 (sqz E2 (sqz E3 E4))) := he.out.trans (by unfold tEz; rw [hE1, hE2, hE3, hE4, hz.out, hV2, ← hni])
 have HLN : Hid (∀ n m : Nat, n = z.rows.length → m = z.tk.length → n ≤ 9223372036854775807 ∧ m ≤ 9223372036854775807) := fun n m h1 h2 => by
  have h3 : z.rows.length = V2.sh.length := by rw [hz3.out]; unfold rslZ makeZ; exact deltaL_len _ _ _
  have h4 : z.tk.length = 0 := by rw [hz3.out]; rfl
  have h5 : V2.sh.length ≤ 64 := by rw [hV2]; unfold reckV; simp [sumL]; omega
  omega
 have HSHn : Hid (V2.sh.length ≤ 64) := by unfold Hid; rw [hV2]; unfold reckV; simp [sumL]; omega
 unfold ReckR clC at KR
 unfold ToR toC at KT
 unfold SlipU spC clC toC at KS
 unfold TryR spC toC at KY
 unfold SlipU spC
 clear hns hnc hnk hnn hni hB hR
 clear h hk he hz hE1 hE2 hV2 hE3 hz3 hE4 htb0 hok hls hlc hlk hni1 hyr hyn hlim
 have HF1 := al9 ((HF0.out.al 45 #[.int .i64 0, .int .i64 0, .int .i64 0, .int .i64 0, .int .i64 0, .int .i64 0, .slice none 0 0, .int .i64 0, .slice none 0 0, .int .i64 0]))
 clear HF0
 go_enter func20, ntmps20
 go_wp2_with fail
 refine (K1.out _ HF1.out.bl).mono ?_
 rintro e W1 ⟨rfl, hb⟩
 have HF2 := hid (HF1.out.ca hb)
 clear hb HF1
 obtain ⟨c0_0, c0_1, c0_2, c0_3, c0_4, c0_5, c0_6, c0_7, c0_8, c0_9⟩ := (HF2.out.b 0 rfl).q10
 obtain ⟨f0_0, f0_1, f0_2, f0_3, f0_4, f0_5, f0_6, f0_7, f0_8, f0_9⟩ := (HF2.out.b 0 rfl).r10
 have HE1 : Hid (E1 = 0 → E1 = 0) := fun h => h
 by_cases h0 : E1 = 0
 case neg =>
  have tr : (E1 != 0) = true := by simpa using h0
  have HE := hid (H1.out.trans (sN9 h0))
  have HN0 : Hid (re ≠ 0) := by unfold Hid; rw [HE.out]; exact h0
  clear h0
  obtain ⟨c0_0_2, c0_1_2, c0_2_2, c0_3_2, c0_4_2, c0_5_2, c0_6_2, c0_7_2, c0_8_2, c0_9_2⟩ := (HF2.out.b 0 rfl).q10
  obtain ⟨f0_0_2, f0_1_2, f0_2_2, f0_3_2, f0_4_2, f0_5_2, f0_6_2, f0_7_2, f0_8_2, f0_9_2⟩ := (HF2.out.b 0 rfl).r10
  go_wp2_with fail
  refine bodyPost_ret (v := .tuple #[.agg #[.int .i64 0, .int .i64 0, .int .i64 0, .int .i64 0, .int .i64 0, .int .i64 0, .slice none 0 0, .int .i64 0, .slice none 0 0, .int .i64 0], .int .i64 E1]) (by simp [results, results20, go_sem, c0_0, c0_1, c0_2, c0_3, c0_4, c0_5, c0_6, c0_7, c0_8, c0_9, c0_0_2, c0_1_2, c0_2_2, c0_3_2, c0_4_2, c0_5_2, c0_6_2, c0_7_2, c0_8_2, c0_9_2]) rfl ⟨⟨sp0, none, 0, 0, none, 0, 0, by rw [HE.out]; rfl, Slz.err HN0.out⟩, ?_⟩
  have hg := HF2.out.ge 0 rfl
  exact bp9 HF2.out.bl hg (.int .i64 0) (.int .i64 0) (.int .i64 0) (.int .i64 0) (.int .i64 0) (.int .i64 0) (.slice none 0 0) (.int .i64 0) (.slice none 0 0) (.int .i64 0)
 replace KR := hid (fun W hW => KR.out W hW h0)
 replace KP := hid (KP.out h0)
 have H2 := hid (H1.out.trans (sE9 h0))
 subst h0
 clear HE1 K1
 go_upto_region 4 with fail
 clear c0_0 f0_0 c0_1 f0_1 c0_2 f0_2 c0_3 f0_3 c0_4 f0_4 c0_5 f0_5 c0_6 f0_6 c0_7 f0_7 c0_8 f0_8 c0_9 f0_9
 generalize hwn : W1 = v2 at *
 try clear hwn
 go_cut [7, 8] (fun y0 y1 wx => ∃ (g : Nat) (per : List Bs) (sc st ss ctx : Int) (csh : List Sh) (A1 : Option Addr) (n1 a1 : Nat) (C1 : Option Addr) (m1 b1 : Nat), y0 = .pointer (some ⟨g, 0, none⟩) ∧ y1 = .int .i64 E2 ∧ Hid (Fr w wx [(w.heap.size, 45, #[.int .i64 0, .int .i64 0, .int .i64 0, .int .i64 0, .int .i64 0, .int .i64 0, .slice none 0 0, .int .i64 0, .slice none 0 0, .int .i64 0]), (g, 121, #[.slice A1 n1 a1, .int .i64 sc, .int .i64 st, .int .i64 ss, .int .i64 ctx, .slice C1 m1 b1])]) ∧ Hid (ClnV wx w.heap.size E2 V2 (Cln.mk per (Bs.mk sc st ss) ctx csh) A1 n1 a1 C1 m1 b1))
 case first =>
  go_wp2_with fail
  have G : Hid (∀ W, Fr w W [(w.heap.size, 45, #[.int .i64 0, .int .i64 0, .int .i64 0, .int .i64 0, .int .i64 0, .int .i64 0, .slice none 0 0, .int .i64 0, .slice none 0 0, .int .i64 0])] → Below w.heap.size w W ∧ (W.cell? ⟨p, 0, none⟩ = some (.slice K.As ns K.cs) ∧ W.cell? ⟨p, 1, none⟩ = some (.slice K.Ac nc K.cc) ∧ W.cell? ⟨p, 2, none⟩ = some (.slice K.Ak nk K.ck) ∧ W.cell? ⟨p, 3, none⟩ = some (.int .i64 E.tb.lim) ∧ W.cell? ⟨p, 4, none⟩ = some (.int .i64 E.tb.rnd) ∧ W.cell? ⟨p, 5, none⟩ = some (.pointer (some ⟨K.gy, 0, none⟩)))) := fun W hW => ⟨hW.bl, (HB.out.t hW.bl).cv 0 _ rfl, (HB.out.t hW.bl).cv 1 _ rfl, (HB.out.t hW.bl).cv 2 _ rfl, (HB.out.t hW.bl).cv 3 _ rfl, (HB.out.t hW.bl).cv 4 _ rfl, (HB.out.t hW.bl).cv 5 _ rfl⟩
  have HF3 := hid (HF2.out.dr)
  refine wG9 G 18 (by kernel_rfl) HF3.out (fun hH9 => ?_)
  refine tkG 0 (h := ?_)
  refine tkG 1 (h := ?_)
  refine tkG 2 (h := ?_)
  refine tkG 3 (h := ?_)
  refine tkG 4 (h := ?_)
  refine tkG 5 (h := ?_)
  refine tkG 6 (h := ?_)
  refine tkG 7 (h := ?_)
  refine tkG 8 (h := ?_)
  refine tkG 9 (h := ?_)
  refine w2z (i := 10) (j := 15) (by kernel_rfl) rfl rfl (fun Kx hK => ?_) (fun Kx hK => ?_)
  ·
   go_simp
   go_at_call 53
   refine (KW.out _ HF3.out.bl).mono ?_
   rintro e W4 ⟨⟨A5, c5, rfl, ho⟩, hb⟩
   have HF4 := hid (HF3.out.ca hb)
   have HIN := hid ho.view
   clear ho
   clear hb
   refine shG hK (G.out _ HF4.out) (h := fun hH9 => ?_)
   clear hK Kx
   refine w2z (i := 11) (j := 15) (by kernel_rfl) rfl rfl (fun Kx hK => ?_) (fun Kx hK => ?_)
   ·
    go_simp
    go_at_call 52
    refine (KR.out _ HF4.out.bl A5 c5 HIN.out).mono ?_
    rintro e W5 ⟨⟨⟨per, ⟨sc, st, ss⟩, ctx, csh⟩, A1, n1, a1, C1, m1, b1, rfl, hq⟩, hb⟩
    replace HIN := hid (HIN.out.below hb)
    have HF5 := hid (HF4.out.ca hb)
    clear HIN
    have HCL := hid hq
    clear hq
    clear hb
    refine shG hK (G.out _ HF5.out) (h := fun hH9 => ?_)
    clear hK Kx
    refine tkG 12 (h := ?_)
    refine tkG 13 (h := ?_)
    refine tkG 14 (h := ?_)
    refine tkO 15 (h := fun Kx hK => ?_)
    go_simp
    have HCL_ := HCL
    replace HCL := hid (HCL.out.below (bz1 _ (.cells #[.slice none 0 0, .int .i64 0, .int .i64 0, .int .i64 0, .int .i64 0, .slice none 0 0] 121)))
    have HF6 := al8 (HF5.out.al 121 #[.slice none 0 0, .int .i64 0, .int .i64 0, .int .i64 0, .int .i64 0, .slice none 0 0])
    refine shG hK (G.out _ (HF6.out.cut 1)) (h := fun hH9 => ?_)
    clear hK Kx
    refine tkO 16 (h := fun Kx hK => ?_)
    go_simp
    replace HCL := hid (HCL_.out.below (bz1 _ (.cells #[.slice A1 n1 a1, .int .i64 sc, .int .i64 st, .int .i64 ss, .int .i64 ctx, .slice C1 m1 b1] 121)))
    have HF7 := al8 (HF5.out.al 121 #[.slice A1 n1 a1, .int .i64 sc, .int .i64 st, .int .i64 ss, .int .i64 ctx, .slice C1 m1 b1])
    refine shG hK (G.out _ (HF7.out.cut 1)) (h := fun hH9 => ?_)
    clear hK Kx
    refine tkG 17 (h := ?_)
    refine wD9 (by kernel_rfl) ?_ _
    clear G hH9
    try simp only [Exit.then]
    go_wp2_with fail
    go_meet
    refine ⟨_, per, sc, st, ss, ctx, csh, A1, n1, a1, C1, m1, b1, rfl, rfl, hid (HF7.out), HCL⟩
   ·
    go_simp
    have HIN_ := HIN
    replace HIN := hid (HIN.out.below (bz1 _ (.cells #[.slice none 0 0, .int .i64 0, .int .i64 0, .int .i64 0, .int .i64 0, .slice none 0 0] 121)))
    have HF5 := al8 (HF4.out.al 121 #[.slice none 0 0, .int .i64 0, .int .i64 0, .int .i64 0, .int .i64 0, .slice none 0 0])
    refine shG hK (G.out _ (HF5.out.cut 1)) (h := fun hH9 => ?_)
    clear hK Kx
    refine tkO 11 (h := fun Kx hK => ?_)
    go_simp
    go_at_call 52
    refine (KR.out _ HF5.out.bl A5 c5 HIN.out).mono ?_
    rintro e W5 ⟨⟨⟨per, ⟨sc, st, ss⟩, ctx, csh⟩, A1, n1, a1, C1, m1, b1, rfl, hq⟩, hb⟩
    replace HIN := hid (HIN.out.below hb)
    have HF6 := hid (HF5.out.ca hb)
    clear HIN
    have HCL := hid hq
    clear hq
    clear hb
    refine shG hK (G.out _ (HF6.out.cut 1)) (h := fun hH9 => ?_)
    clear hK Kx
    refine tkG 12 (h := ?_)
    refine tkG 13 (h := ?_)
    refine tkG 14 (h := ?_)
    refine tkO 16 (h := fun Kx hK => ?_)
    obtain ⟨sk0, sk1, sk2, sk3, sk4, sk5, sf0, sf1, sf2, sf3, sf4, sf5⟩ := (HF6.out.b 1 rfl).af6
    go_simp
    replace HCL := hid (HCL.out.grown (HF6.out.b 1 rfl) (by decide) (by decide) (put6_gr _ _ (.slice A1 n1 a1) (.int .i64 sc) (.int .i64 st) (.int .i64 ss) (.int .i64 ctx) (.slice C1 m1 b1)))
    have HF7 := hid (HF6.out.put6 1 rfl (.slice A1 n1 a1) (.int .i64 sc) (.int .i64 st) (.int .i64 ss) (.int .i64 ctx) (.slice C1 m1 b1))
    clear sk0 sk1 sk2 sk3 sk4 sk5 sf0 sf1 sf2 sf3 sf4 sf5
    refine shG hK (G.out _ (HF7.out.cut 1)) (h := fun hH9 => ?_)
    clear hK Kx
    refine tkG 17 (h := ?_)
    refine wD9 (by kernel_rfl) ?_ _
    clear G hH9
    try simp only [Exit.then]
    go_wp2_with fail
    go_meet
    refine ⟨_, per, sc, st, ss, ctx, csh, A1, n1, a1, C1, m1, b1, rfl, rfl, hid (HF7.out), HCL⟩
  ·
   go_simp
   have HF4 := al8 (HF3.out.al 121 #[.slice none 0 0, .int .i64 0, .int .i64 0, .int .i64 0, .int .i64 0, .slice none 0 0])
   refine shG hK (G.out _ (HF4.out.cut 1)) (h := fun hH9 => ?_)
   clear hK Kx
   refine tkO 10 (h := fun Kx hK => ?_)
   go_simp
   go_at_call 53
   refine (KW.out _ HF4.out.bl).mono ?_
   rintro e W4 ⟨⟨A5, c5, rfl, ho⟩, hb⟩
   have HF5 := hid (HF4.out.ca hb)
   have HIN := hid ho.view
   clear ho
   clear hb
   refine shG hK (G.out _ (HF5.out.cut 1)) (h := fun hH9 => ?_)
   clear hK Kx
   refine tkO 11 (h := fun Kx hK => ?_)
   go_simp
   go_at_call 52
   refine (KR.out _ HF5.out.bl A5 c5 HIN.out).mono ?_
   rintro e W5 ⟨⟨⟨per, ⟨sc, st, ss⟩, ctx, csh⟩, A1, n1, a1, C1, m1, b1, rfl, hq⟩, hb⟩
   replace HIN := hid (HIN.out.below hb)
   have HF6 := hid (HF5.out.ca hb)
   clear HIN
   have HCL := hid hq
   clear hq
   clear hb
   refine shG hK (G.out _ (HF6.out.cut 1)) (h := fun hH9 => ?_)
   clear hK Kx
   refine tkG 12 (h := ?_)
   refine tkG 13 (h := ?_)
   refine tkG 14 (h := ?_)
   refine tkO 16 (h := fun Kx hK => ?_)
   obtain ⟨sk0, sk1, sk2, sk3, sk4, sk5, sf0, sf1, sf2, sf3, sf4, sf5⟩ := (HF6.out.b 1 rfl).af6
   go_simp
   replace HCL := hid (HCL.out.grown (HF6.out.b 1 rfl) (by decide) (by decide) (put6_gr _ _ (.slice A1 n1 a1) (.int .i64 sc) (.int .i64 st) (.int .i64 ss) (.int .i64 ctx) (.slice C1 m1 b1)))
   have HF7 := hid (HF6.out.put6 1 rfl (.slice A1 n1 a1) (.int .i64 sc) (.int .i64 st) (.int .i64 ss) (.int .i64 ctx) (.slice C1 m1 b1))
   clear sk0 sk1 sk2 sk3 sk4 sk5 sf0 sf1 sf2 sf3 sf4 sf5
   refine shG hK (G.out _ (HF7.out.cut 1)) (h := fun hH9 => ?_)
   clear hK Kx
   refine tkG 17 (h := ?_)
   refine wD9 (by kernel_rfl) ?_ _
   clear G hH9
   try simp only [Exit.then]
   go_wp2_with fail
   go_meet
   refine ⟨_, per, sc, st, ss, ctx, csh, A1, n1, a1, C1, m1, b1, rfl, rfl, hid (HF7.out), HCL⟩
 case rest =>
  obtain ⟨g2, per, sc, st, ss, ctx, csh, A1, n1, a1, C1, m1, b1, rfl, rfl, HFc, HC2_0⟩ := hcut
  have HF3 := HFc
  clear HFc HF2
  obtain ⟨c0_0, c0_1, c0_2, c0_3, c0_4, c0_5, c0_6, c0_7, c0_8, c0_9⟩ := (HF3.out.b 0 rfl).q10
  obtain ⟨f0_0, f0_1, f0_2, f0_3, f0_4, f0_5, f0_6, f0_7, f0_8, f0_9⟩ := (HF3.out.b 0 rfl).r10
  by_cases h0 : E2 = 0
  case neg =>
   have tr : (E2 != 0) = true := by simpa using h0
   have HE : Hid (re = E2) := H2.out.trans (sN9 h0)
   have HN0 : Hid (re ≠ 0) := by unfold Hid; rw [HE.out]; exact h0
   clear h0
   obtain ⟨c0_0_3, c0_1_3, c0_2_3, c0_3_3, c0_4_3, c0_5_3, c0_6_3, c0_7_3, c0_8_3, c0_9_3⟩ := (HF3.out.b 0 rfl).q10
   obtain ⟨f0_0_3, f0_1_3, f0_2_3, f0_3_3, f0_4_3, f0_5_3, f0_6_3, f0_7_3, f0_8_3, f0_9_3⟩ := (HF3.out.b 0 rfl).r10
   go_wp2_with fail
   refine bodyPost_ret (v := .tuple #[.agg #[.int .i64 0, .int .i64 0, .int .i64 0, .int .i64 0, .int .i64 0, .int .i64 0, .slice none 0 0, .int .i64 0, .slice none 0 0, .int .i64 0], .int .i64 E2]) (by simp [results, results20, go_sem, c0_0, c0_1, c0_2, c0_3, c0_4, c0_5, c0_6, c0_7, c0_8, c0_9, c0_0_3, c0_1_3, c0_2_3, c0_3_3, c0_4_3, c0_5_3, c0_6_3, c0_7_3, c0_8_3, c0_9_3]) rfl ⟨⟨sp0, none, 0, 0, none, 0, 0, by rw [HE.out]; rfl, Slz.err HN0.out⟩, ?_⟩
   have hg := HF3.out.ge 0 rfl
   exact bp9 HF3.out.bl hg (.int .i64 0) (.int .i64 0) (.int .i64 0) (.int .i64 0) (.int .i64 0) (.int .i64 0) (.slice none 0 0) (.int .i64 0) (.slice none 0 0) (.int .i64 0)
  have H3 := hid (H2.out.trans (sE9 h0))
  subst h0
  obtain ⟨hZ, hco⟩ := HC2_0.out.ok rfl
  subst hZ
  have HCO := hid hco
  clear HC2_0 hco KR KW
  dsimp only at KS HSHn
  have HM9 : Hid (m1 ≤ 9223372036854775807) := by have h1 := HCO.out.ls; have h2 := HSHn.out; dsimp only at h1; unfold Hid; omega
  have HM64 : Hid (m1 ≤ 64) := by have h1 := HCO.out.ls; have h2 := HSHn.out; dsimp only at h1; unfold Hid; omega
  have HT9 : Hid (E.yr.t.rows.length ≤ 9223372036854775807) := by have := HOK.out.yr; have := HOK.out.tc; unfold Hid; omega
  go_upto_region 7 with fail
  clear c0_0 f0_0 c0_1 f0_1 c0_2 f0_2 c0_3 f0_3 c0_4 f0_4 c0_5 f0_5 c0_6 f0_6 c0_7 f0_7 c0_8 f0_8 c0_9 f0_9
  go_cut [9, 8] (fun y0 y1 wx => ∃ (g : Nat) (zp zc zt zs ztx zsh : Int) (zrows : List Sh) (znet : Int) (ztk : List Tk) (zpy : Int) (A7 : Option Addr) (n7 c7 : Nat) (B7 : Option Addr) (m7 d7 : Nat), y0 = .pointer (some ⟨g, 0, none⟩) ∧ y1 = .int .i64 E3 ∧ Hid (Fr w wx [(w.heap.size, 45, #[.int .i64 0, .int .i64 0, .int .i64 0, .int .i64 0, .int .i64 0, .int .i64 0, .slice none 0 0, .int .i64 0, .slice none 0 0, .int .i64 0]), (g2, 121, #[.slice A1 n1 a1, .int .i64 sc, .int .i64 st, .int .i64 ss, .int .i64 ctx, .slice C1 m1 b1]), (g, 45, #[.int .i64 zp, .int .i64 zc, .int .i64 zt, .int .i64 zs, .int .i64 ztx, .int .i64 zsh, .slice A7 n7 c7, .int .i64 znet, .slice B7 m7 d7, .int .i64 zpy])]) ∧ Hid (Slz wx w.heap.size E3 z (Sp.mk zp (Bs.mk zc zt zs) ztx zsh zrows znet ztk zpy) A7 n7 c7 B7 m7 d7))
  case first =>
   go_wp2_with fail
   have G : Hid (∀ W, Fr w W [(w.heap.size, 45, #[.int .i64 0, .int .i64 0, .int .i64 0, .int .i64 0, .int .i64 0, .int .i64 0, .slice none 0 0, .int .i64 0, .slice none 0 0, .int .i64 0]), (g2, 121, #[.slice A1 n1 a1, .int .i64 sc, .int .i64 st, .int .i64 ss, .int .i64 ctx, .slice C1 m1 b1])] → Below w.heap.size w W ∧ (W.cell? ⟨g2, 0, none⟩ = some (.slice A1 n1 a1) ∧ W.cell? ⟨g2, 1, none⟩ = some (.int .i64 sc) ∧ W.cell? ⟨g2, 2, none⟩ = some (.int .i64 st) ∧ W.cell? ⟨g2, 3, none⟩ = some (.int .i64 ss) ∧ W.cell? ⟨g2, 4, none⟩ = some (.int .i64 ctx) ∧ W.cell? ⟨g2, 5, none⟩ = some (.slice C1 m1 b1) ∧ W.cell? ⟨p, 0, none⟩ = some (.slice K.As ns K.cs) ∧ W.cell? ⟨p, 1, none⟩ = some (.slice K.Ac nc K.cc) ∧ W.cell? ⟨p, 2, none⟩ = some (.slice K.Ak nk K.ck) ∧ W.cell? ⟨p, 3, none⟩ = some (.int .i64 E.tb.lim) ∧ W.cell? ⟨p, 4, none⟩ = some (.int .i64 E.tb.rnd) ∧ W.cell? ⟨p, 10, none⟩ = some (.bool E.c.al) ∧ W.cell? ⟨p, 14, none⟩ = some (.pointer (some ⟨y, 0, none⟩)))) := fun W hW => ⟨hW.bl, (hW.b 1 rfl).cv 0 _ rfl, (hW.b 1 rfl).cv 1 _ rfl, (hW.b 1 rfl).cv 2 _ rfl, (hW.b 1 rfl).cv 3 _ rfl, (hW.b 1 rfl).cv 4 _ rfl, (hW.b 1 rfl).cv 5 _ rfl, (HB.out.t hW.bl).cv 0 _ rfl, (HB.out.t hW.bl).cv 1 _ rfl, (HB.out.t hW.bl).cv 2 _ rfl, (HB.out.t hW.bl).cv 3 _ rfl, (HB.out.t hW.bl).cv 4 _ rfl, (HB.out.t hW.bl).cv 10 _ rfl, (HB.out.t hW.bl).cv 14 _ rfl⟩
   replace HCO := hid (HCO.out.below (b0 _).drew)
   have HF4 := hid (HF3.out.dr)
   refine wG9 G 25 (by kernel_rfl) HF4.out (fun hH9 => ?_)
   refine tkG 0 (h := ?_)
   refine tkG 1 (h := ?_)
   refine tkG 2 (h := ?_)
   refine tkG 3 (h := ?_)
   refine tkG 4 (h := ?_)
   refine tkG 5 (h := ?_)
   refine tkG 6 (h := ?_)
   refine tkG 7 (h := ?_)
   refine tkG 9 (h := ?_)
   refine tkG 10 (h := ?_)
   refine tkG 12 (h := ?_)
   refine tkG 13 (h := ?_)
   refine tkG 14 (h := ?_)
   refine tkG 15 (h := ?_)
   refine tkG 16 (h := ?_)
   refine tkG 17 (h := ?_)
   refine w2z (i := 8) (j := 22) (by kernel_rfl) rfl rfl (fun Kx hK => ?_) (fun Kx hK => ?_)
   ·
    go_simp
    go_at_call 26
    refine (KT.out _ HF4.out.bl).mono ?_
    rintro e W5 ⟨⟨At, ct, rfl, hot⟩, hb⟩
    replace HCO := hid (HCO.out.below hb)
    have HF5 := hid (HF4.out.ca hb)
    have HTO := hid (oM9 hot HF4.out.bl.size)
    clear hot
    clear hb
    refine shG hK (G.out _ HF5.out) (h := fun hH9 => ?_)
    clear hK Kx
    refine w2z (i := 11) (j := 22) (by kernel_rfl) rfl rfl (fun Kx hK => ?_) (fun Kx hK => ?_)
    ·
     go_simp
     go_at_call 38
     refine (KP.out _ HF5.out.bl).mono ?_
     rintro e W6 ⟨rfl, hb⟩
     replace HTO := hid (oB9 HTO.out hb)
     replace HCO := hid (HCO.out.below hb)
     have HF6 := hid (HF5.out.ca hb)
     clear hb
     refine shG hK (G.out _ HF6.out) (h := fun hH9 => ?_)
     clear hK Kx
     refine w2z (i := 18) (j := 22) (by kernel_rfl) rfl rfl (fun Kx hK => ?_) (fun Kx hK => ?_)
     ·
      go_simp
      go_at_call 54
      refine (KS.out _ A1 n1 a1 C1 m1 b1 At _ ct (row_sh (ow9 sl9 HCO.out.sh HCO.out.ls HM9.out (by decide))) (row_sh (ow9 sl9 HTO.out rfl HT9.out (by decide))) HM64.out).mono ?_
      rintro e W7 ⟨⟨⟨zp, ⟨zc, zt, zs⟩, ztx, zsh, zrows, znet, ztk, zpy⟩, A7, n7, c7, B7, m7, d7, rfl, hv⟩, hb⟩
      replace HTO := hid (oB9 HTO.out hb)
      replace HCO := hid (HCO.out.below hb)
      have HF7 := hid (HF6.out.ca hb)
      have HSV := hid (hv.more HF6.out.bl.size)
      clear hv HCO HTO
      clear hb
      refine shG hK (G.out _ HF7.out) (h := fun hH9 => ?_)
      clear hK Kx
      refine tkG 19 (h := ?_)
      refine tkG 20 (h := ?_)
      refine tkG 21 (h := ?_)
      refine tkO 22 (h := fun Kx hK => ?_)
      go_simp
      have HSV_ := HSV
      replace HSV := hid (HSV.out.below (bz1 _ (.cells #[.int .i64 0, .int .i64 0, .int .i64 0, .int .i64 0, .int .i64 0, .int .i64 0, .slice none 0 0, .int .i64 0, .slice none 0 0, .int .i64 0] 45)))
      have HF8 := al8 (HF7.out.al 45 #[.int .i64 0, .int .i64 0, .int .i64 0, .int .i64 0, .int .i64 0, .int .i64 0, .slice none 0 0, .int .i64 0, .slice none 0 0, .int .i64 0])
      refine shG hK (G.out _ (HF8.out.cut 2)) (h := fun hH9 => ?_)
      clear hK Kx
      refine tkO 23 (h := fun Kx hK => ?_)
      go_simp
      replace HSV := hid (HSV_.out.below (bz1 _ (.cells #[.int .i64 zp, .int .i64 zc, .int .i64 zt, .int .i64 zs, .int .i64 ztx, .int .i64 zsh, .slice A7 n7 c7, .int .i64 znet, .slice B7 m7 d7, .int .i64 zpy] 45)))
      have HF9 := al8 (HF7.out.al 45 #[.int .i64 zp, .int .i64 zc, .int .i64 zt, .int .i64 zs, .int .i64 ztx, .int .i64 zsh, .slice A7 n7 c7, .int .i64 znet, .slice B7 m7 d7, .int .i64 zpy])
      refine shG hK (G.out _ (HF9.out.cut 2)) (h := fun hH9 => ?_)
      clear hK Kx
      refine tkG 24 (h := ?_)
      refine wD9 (by kernel_rfl) ?_ _
      clear G hH9
      try simp only [Exit.then]
      go_wp2_with fail
      go_meet
      refine ⟨_, zp, zc, zt, zs, ztx, zsh, zrows, znet, ztk, zpy, A7, n7, c7, B7, m7, d7, rfl, rfl, hid (HF9.out), HSV⟩
     ·
      go_simp
      have HTO_ := HTO
      replace HTO := hid (HTO.out.alloc (.cells #[.int .i64 0, .int .i64 0, .int .i64 0, .int .i64 0, .int .i64 0, .int .i64 0, .slice none 0 0, .int .i64 0, .slice none 0 0, .int .i64 0] 45))
      have HCO_ := HCO
      replace HCO := hid (HCO.out.below (bz1 _ (.cells #[.int .i64 0, .int .i64 0, .int .i64 0, .int .i64 0, .int .i64 0, .int .i64 0, .slice none 0 0, .int .i64 0, .slice none 0 0, .int .i64 0] 45)))
      have HF7 := al8 (HF6.out.al 45 #[.int .i64 0, .int .i64 0, .int .i64 0, .int .i64 0, .int .i64 0, .int .i64 0, .slice none 0 0, .int .i64 0, .slice none 0 0, .int .i64 0])
      refine shG hK (G.out _ (HF7.out.cut 2)) (h := fun hH9 => ?_)
      clear hK Kx
      refine tkO 18 (h := fun Kx hK => ?_)
      go_simp
      go_at_call 54
      refine (KS.out _ A1 n1 a1 C1 m1 b1 At _ ct (row_sh (ow9 sl9 HCO.out.sh HCO.out.ls HM9.out (by decide))) (row_sh (ow9 sl9 HTO.out rfl HT9.out (by decide))) HM64.out).mono ?_
      rintro e W7 ⟨⟨⟨zp, ⟨zc, zt, zs⟩, ztx, zsh, zrows, znet, ztk, zpy⟩, A7, n7, c7, B7, m7, d7, rfl, hv⟩, hb⟩
      replace HTO := hid (oB9 HTO.out hb)
      replace HCO := hid (HCO.out.below hb)
      have HF8 := hid (HF7.out.ca hb)
      have HSV := hid (hv.more HF7.out.bl.size)
      clear hv HCO HTO
      clear hb
      refine shG hK (G.out _ (HF8.out.cut 2)) (h := fun hH9 => ?_)
      clear hK Kx
      refine tkG 19 (h := ?_)
      refine tkG 20 (h := ?_)
      refine tkG 21 (h := ?_)
      refine tkO 23 (h := fun Kx hK => ?_)
      obtain ⟨sk0, sk1, sk2, sk3, sk4, sk5, sk6, sk7, sk8, sk9, sf0, sf1, sf2, sf3, sf4, sf5, sf6, sf7, sf8, sf9⟩ := (HF8.out.b 2 rfl).af10
      go_simp
      replace HSV := hid (HSV.out.grown (HF8.out.b 2 rfl) (by decide) (by decide) (pgz _ _ (.int .i64 zp) (.int .i64 zc) (.int .i64 zt) (.int .i64 zs) (.int .i64 ztx) (.int .i64 zsh) (.slice A7 n7 c7) (.int .i64 znet) (.slice B7 m7 d7) (.int .i64 zpy)))
      have HF9 := hid (HF8.out.put10 2 rfl (.int .i64 zp) (.int .i64 zc) (.int .i64 zt) (.int .i64 zs) (.int .i64 ztx) (.int .i64 zsh) (.slice A7 n7 c7) (.int .i64 znet) (.slice B7 m7 d7) (.int .i64 zpy))
      clear sk0 sk1 sk2 sk3 sk4 sk5 sk6 sk7 sk8 sk9 sf0 sf1 sf2 sf3 sf4 sf5 sf6 sf7 sf8 sf9
      refine shG hK (G.out _ (HF9.out.cut 2)) (h := fun hH9 => ?_)
      clear hK Kx
      refine tkG 24 (h := ?_)
      refine wD9 (by kernel_rfl) ?_ _
      clear G hH9
      try simp only [Exit.then]
      go_wp2_with fail
      go_meet
      refine ⟨_, zp, zc, zt, zs, ztx, zsh, zrows, znet, ztk, zpy, A7, n7, c7, B7, m7, d7, rfl, rfl, hid (HF9.out), HSV⟩
    ·
     go_simp
     have HTO_ := HTO
     replace HTO := hid (HTO.out.alloc (.cells #[.int .i64 0, .int .i64 0, .int .i64 0, .int .i64 0, .int .i64 0, .int .i64 0, .slice none 0 0, .int .i64 0, .slice none 0 0, .int .i64 0] 45))
     have HCO_ := HCO
     replace HCO := hid (HCO.out.below (bz1 _ (.cells #[.int .i64 0, .int .i64 0, .int .i64 0, .int .i64 0, .int .i64 0, .int .i64 0, .slice none 0 0, .int .i64 0, .slice none 0 0, .int .i64 0] 45)))
     have HF6 := al8 (HF5.out.al 45 #[.int .i64 0, .int .i64 0, .int .i64 0, .int .i64 0, .int .i64 0, .int .i64 0, .slice none 0 0, .int .i64 0, .slice none 0 0, .int .i64 0])
     refine shG hK (G.out _ (HF6.out.cut 2)) (h := fun hH9 => ?_)
     clear hK Kx
     refine tkO 11 (h := fun Kx hK => ?_)
     go_simp
     go_at_call 38
     refine (KP.out _ HF6.out.bl).mono ?_
     rintro e W6 ⟨rfl, hb⟩
     replace HTO := hid (oB9 HTO.out hb)
     replace HCO := hid (HCO.out.below hb)
     have HF7 := hid (HF6.out.ca hb)
     clear hb
     refine shG hK (G.out _ (HF7.out.cut 2)) (h := fun hH9 => ?_)
     clear hK Kx
     refine tkO 18 (h := fun Kx hK => ?_)
     go_simp
     go_at_call 54
     refine (KS.out _ A1 n1 a1 C1 m1 b1 At _ ct (row_sh (ow9 sl9 HCO.out.sh HCO.out.ls HM9.out (by decide))) (row_sh (ow9 sl9 HTO.out rfl HT9.out (by decide))) HM64.out).mono ?_
     rintro e W7 ⟨⟨⟨zp, ⟨zc, zt, zs⟩, ztx, zsh, zrows, znet, ztk, zpy⟩, A7, n7, c7, B7, m7, d7, rfl, hv⟩, hb⟩
     replace HTO := hid (oB9 HTO.out hb)
     replace HCO := hid (HCO.out.below hb)
     have HF8 := hid (HF7.out.ca hb)
     have HSV := hid (hv.more HF7.out.bl.size)
     clear hv HCO HTO
     clear hb
     refine shG hK (G.out _ (HF8.out.cut 2)) (h := fun hH9 => ?_)
     clear hK Kx
     refine tkG 19 (h := ?_)
     refine tkG 20 (h := ?_)
     refine tkG 21 (h := ?_)
     refine tkO 23 (h := fun Kx hK => ?_)
     obtain ⟨sk0, sk1, sk2, sk3, sk4, sk5, sk6, sk7, sk8, sk9, sf0, sf1, sf2, sf3, sf4, sf5, sf6, sf7, sf8, sf9⟩ := (HF8.out.b 2 rfl).af10
     go_simp
     replace HSV := hid (HSV.out.grown (HF8.out.b 2 rfl) (by decide) (by decide) (pgz _ _ (.int .i64 zp) (.int .i64 zc) (.int .i64 zt) (.int .i64 zs) (.int .i64 ztx) (.int .i64 zsh) (.slice A7 n7 c7) (.int .i64 znet) (.slice B7 m7 d7) (.int .i64 zpy)))
     have HF9 := hid (HF8.out.put10 2 rfl (.int .i64 zp) (.int .i64 zc) (.int .i64 zt) (.int .i64 zs) (.int .i64 ztx) (.int .i64 zsh) (.slice A7 n7 c7) (.int .i64 znet) (.slice B7 m7 d7) (.int .i64 zpy))
     clear sk0 sk1 sk2 sk3 sk4 sk5 sk6 sk7 sk8 sk9 sf0 sf1 sf2 sf3 sf4 sf5 sf6 sf7 sf8 sf9
     refine shG hK (G.out _ (HF9.out.cut 2)) (h := fun hH9 => ?_)
     clear hK Kx
     refine tkG 24 (h := ?_)
     refine wD9 (by kernel_rfl) ?_ _
     clear G hH9
     try simp only [Exit.then]
     go_wp2_with fail
     go_meet
     refine ⟨_, zp, zc, zt, zs, ztx, zsh, zrows, znet, ztk, zpy, A7, n7, c7, B7, m7, d7, rfl, rfl, hid (HF9.out), HSV⟩
   ·
    go_simp
    have HCO_ := HCO
    replace HCO := hid (HCO.out.below (bz1 _ (.cells #[.int .i64 0, .int .i64 0, .int .i64 0, .int .i64 0, .int .i64 0, .int .i64 0, .slice none 0 0, .int .i64 0, .slice none 0 0, .int .i64 0] 45)))
    have HF5 := al8 (HF4.out.al 45 #[.int .i64 0, .int .i64 0, .int .i64 0, .int .i64 0, .int .i64 0, .int .i64 0, .slice none 0 0, .int .i64 0, .slice none 0 0, .int .i64 0])
    refine shG hK (G.out _ (HF5.out.cut 2)) (h := fun hH9 => ?_)
    clear hK Kx
    refine tkO 8 (h := fun Kx hK => ?_)
    go_simp
    go_at_call 26
    refine (KT.out _ HF5.out.bl).mono ?_
    rintro e W5 ⟨⟨At, ct, rfl, hot⟩, hb⟩
    replace HCO := hid (HCO.out.below hb)
    have HF6 := hid (HF5.out.ca hb)
    have HTO := hid (oM9 hot HF5.out.bl.size)
    clear hot
    clear hb
    refine shG hK (G.out _ (HF6.out.cut 2)) (h := fun hH9 => ?_)
    clear hK Kx
    refine tkO 11 (h := fun Kx hK => ?_)
    go_simp
    go_at_call 38
    refine (KP.out _ HF6.out.bl).mono ?_
    rintro e W6 ⟨rfl, hb⟩
    replace HTO := hid (oB9 HTO.out hb)
    replace HCO := hid (HCO.out.below hb)
    have HF7 := hid (HF6.out.ca hb)
    clear hb
    refine shG hK (G.out _ (HF7.out.cut 2)) (h := fun hH9 => ?_)
    clear hK Kx
    refine tkO 18 (h := fun Kx hK => ?_)
    go_simp
    go_at_call 54
    refine (KS.out _ A1 n1 a1 C1 m1 b1 At _ ct (row_sh (ow9 sl9 HCO.out.sh HCO.out.ls HM9.out (by decide))) (row_sh (ow9 sl9 HTO.out rfl HT9.out (by decide))) HM64.out).mono ?_
    rintro e W7 ⟨⟨⟨zp, ⟨zc, zt, zs⟩, ztx, zsh, zrows, znet, ztk, zpy⟩, A7, n7, c7, B7, m7, d7, rfl, hv⟩, hb⟩
    replace HTO := hid (oB9 HTO.out hb)
    replace HCO := hid (HCO.out.below hb)
    have HF8 := hid (HF7.out.ca hb)
    have HSV := hid (hv.more HF7.out.bl.size)
    clear hv HCO HTO
    clear hb
    refine shG hK (G.out _ (HF8.out.cut 2)) (h := fun hH9 => ?_)
    clear hK Kx
    refine tkG 19 (h := ?_)
    refine tkG 20 (h := ?_)
    refine tkG 21 (h := ?_)
    refine tkO 23 (h := fun Kx hK => ?_)
    obtain ⟨sk0, sk1, sk2, sk3, sk4, sk5, sk6, sk7, sk8, sk9, sf0, sf1, sf2, sf3, sf4, sf5, sf6, sf7, sf8, sf9⟩ := (HF8.out.b 2 rfl).af10
    go_simp
    replace HSV := hid (HSV.out.grown (HF8.out.b 2 rfl) (by decide) (by decide) (pgz _ _ (.int .i64 zp) (.int .i64 zc) (.int .i64 zt) (.int .i64 zs) (.int .i64 ztx) (.int .i64 zsh) (.slice A7 n7 c7) (.int .i64 znet) (.slice B7 m7 d7) (.int .i64 zpy)))
    have HF9 := hid (HF8.out.put10 2 rfl (.int .i64 zp) (.int .i64 zc) (.int .i64 zt) (.int .i64 zs) (.int .i64 ztx) (.int .i64 zsh) (.slice A7 n7 c7) (.int .i64 znet) (.slice B7 m7 d7) (.int .i64 zpy))
    clear sk0 sk1 sk2 sk3 sk4 sk5 sk6 sk7 sk8 sk9 sf0 sf1 sf2 sf3 sf4 sf5 sf6 sf7 sf8 sf9
    refine shG hK (G.out _ (HF9.out.cut 2)) (h := fun hH9 => ?_)
    clear hK Kx
    refine tkG 24 (h := ?_)
    refine wD9 (by kernel_rfl) ?_ _
    clear G hH9
    try simp only [Exit.then]
    go_wp2_with fail
    go_meet
    refine ⟨_, zp, zc, zt, zs, ztx, zsh, zrows, znet, ztk, zpy, A7, n7, c7, B7, m7, d7, rfl, rfl, hid (HF9.out), HSV⟩
  case rest =>
   obtain ⟨g3, zp, zc, zt, zs, ztx, zsh, zrows, znet, ztk, zpy, A7, n7, c7, B7, m7, d7, rfl, rfl, HFc, HC3_0⟩ := hcut
   have HF4 := HFc
   clear HFc HF3
   obtain ⟨c0_0, c0_1, c0_2, c0_3, c0_4, c0_5, c0_6, c0_7, c0_8, c0_9⟩ := (HF4.out.b 0 rfl).q10
   obtain ⟨f0_0, f0_1, f0_2, f0_3, f0_4, f0_5, f0_6, f0_7, f0_8, f0_9⟩ := (HF4.out.b 0 rfl).r10
   by_cases h0 : E3 = 0
   case neg =>
    have tr : (E3 != 0) = true := by simpa using h0
    have HE : Hid (re = E3) := H3.out.trans (sN9 h0)
    have HN0 : Hid (re ≠ 0) := by unfold Hid; rw [HE.out]; exact h0
    clear h0
    obtain ⟨c0_0_4, c0_1_4, c0_2_4, c0_3_4, c0_4_4, c0_5_4, c0_6_4, c0_7_4, c0_8_4, c0_9_4⟩ := (HF4.out.b 0 rfl).q10
    obtain ⟨f0_0_4, f0_1_4, f0_2_4, f0_3_4, f0_4_4, f0_5_4, f0_6_4, f0_7_4, f0_8_4, f0_9_4⟩ := (HF4.out.b 0 rfl).r10
    go_wp2_with fail
    refine bodyPost_ret (v := .tuple #[.agg #[.int .i64 0, .int .i64 0, .int .i64 0, .int .i64 0, .int .i64 0, .int .i64 0, .slice none 0 0, .int .i64 0, .slice none 0 0, .int .i64 0], .int .i64 E3]) (by simp [results, results20, go_sem, c0_0, c0_1, c0_2, c0_3, c0_4, c0_5, c0_6, c0_7, c0_8, c0_9, c0_0_4, c0_1_4, c0_2_4, c0_3_4, c0_4_4, c0_5_4, c0_6_4, c0_7_4, c0_8_4, c0_9_4]) rfl ⟨⟨sp0, none, 0, 0, none, 0, 0, by rw [HE.out]; rfl, Slz.err HN0.out⟩, ?_⟩
    have hg := HF4.out.ge 0 rfl
    exact bp9 HF4.out.bl hg (.int .i64 0) (.int .i64 0) (.int .i64 0) (.int .i64 0) (.int .i64 0) (.int .i64 0) (.slice none 0 0) (.int .i64 0) (.slice none 0 0) (.int .i64 0)
   have H4 := hid (H3.out.trans (sE9 h0))
   subst h0
   obtain ⟨hZ, hn7, hm7, _, _⟩ := HC3_0.out.ok rfl
   have HN7 := hid hn7
   have HM7 := hid hm7
   clear hn7 hm7
   subst hZ
   dsimp only at KY
   have HSV := HC3_0
   clear HC3_0 KS KT KP HCO
   have HN9 : Hid (n7 ≤ 9223372036854775807 ∧ m7 ≤ 9223372036854775807) := HLN.out _ _ HN7.out HM7.out
   go_upto_region 10 with fail
   clear c0_0 f0_0 c0_1 f0_1 c0_2 f0_2 c0_3 f0_3 c0_4 f0_4 c0_5 f0_5 c0_6 f0_6 c0_7 f0_7 c0_8 f0_8 c0_9 f0_9
   go_cut [10, 11] (fun y0 y1 wx => ∃ (g : Nat) (vc vt vs vtx vsh vnet vtk vpy : Int) (A8 : Option Addr) (n8 c8 : Nat), y0 = .pointer (some ⟨g, 0, none⟩) ∧ y1 = .int .i64 E4 ∧ Hid (Fr w wx [(w.heap.size, 45, #[.int .i64 0, .int .i64 0, .int .i64 0, .int .i64 0, .int .i64 0, .int .i64 0, .slice none 0 0, .int .i64 0, .slice none 0 0, .int .i64 0]), (g2, 121, #[.slice A1 n1 a1, .int .i64 sc, .int .i64 st, .int .i64 ss, .int .i64 ctx, .slice C1 m1 b1]), (g3, 45, #[.int .i64 zp, .int .i64 zc, .int .i64 zt, .int .i64 zs, .int .i64 ztx, .int .i64 zsh, .slice A7 n7 c7, .int .i64 znet, .slice B7 m7 d7, .int .i64 zpy]), (g, 82, #[.int .i64 vc, .int .i64 vt, .int .i64 vs, .int .i64 vtx, .int .i64 vsh, .slice A8 n8 c8, .int .i64 vnet, .int .i64 vtk, .int .i64 vpy])]) ∧ Hid (Slz wx w.heap.size 0 (Sp.mk zp (Bs.mk zc zt zs) ztx zsh zrows znet ztk zpy) (Sp.mk zp (Bs.mk zc zt zs) ztx zsh zrows znet ztk zpy) A7 n7 c7 B7 m7 d7))
   case first =>
    go_wp2_with fail
    have G : Hid (∀ W, Fr w W [(w.heap.size, 45, #[.int .i64 0, .int .i64 0, .int .i64 0, .int .i64 0, .int .i64 0, .int .i64 0, .slice none 0 0, .int .i64 0, .slice none 0 0, .int .i64 0]), (g2, 121, #[.slice A1 n1 a1, .int .i64 sc, .int .i64 st, .int .i64 ss, .int .i64 ctx, .slice C1 m1 b1]), (g3, 45, #[.int .i64 zp, .int .i64 zc, .int .i64 zt, .int .i64 zs, .int .i64 ztx, .int .i64 zsh, .slice A7 n7 c7, .int .i64 znet, .slice B7 m7 d7, .int .i64 zpy])] → Below w.heap.size w W ∧ (W.cell? ⟨g3, 0, none⟩ = some (.int .i64 zp) ∧ W.cell? ⟨g3, 1, none⟩ = some (.int .i64 zc) ∧ W.cell? ⟨g3, 2, none⟩ = some (.int .i64 zt) ∧ W.cell? ⟨g3, 3, none⟩ = some (.int .i64 zs) ∧ W.cell? ⟨g3, 4, none⟩ = some (.int .i64 ztx) ∧ W.cell? ⟨g3, 5, none⟩ = some (.int .i64 zsh) ∧ W.cell? ⟨g3, 6, none⟩ = some (.slice A7 n7 c7) ∧ W.cell? ⟨g3, 7, none⟩ = some (.int .i64 znet) ∧ W.cell? ⟨g3, 8, none⟩ = some (.slice B7 m7 d7) ∧ W.cell? ⟨g3, 9, none⟩ = some (.int .i64 zpy) ∧ W.cell? ⟨p, 14, none⟩ = some (.pointer (some ⟨y, 0, none⟩)))) := fun W hW => ⟨hW.bl, (hW.b 2 rfl).cv 0 _ rfl, (hW.b 2 rfl).cv 1 _ rfl, (hW.b 2 rfl).cv 2 _ rfl, (hW.b 2 rfl).cv 3 _ rfl, (hW.b 2 rfl).cv 4 _ rfl, (hW.b 2 rfl).cv 5 _ rfl, (hW.b 2 rfl).cv 6 _ rfl, (hW.b 2 rfl).cv 7 _ rfl, (hW.b 2 rfl).cv 8 _ rfl, (hW.b 2 rfl).cv 9 _ rfl, (HB.out.t hW.bl).cv 14 _ rfl⟩
    replace HSV := hid (HSV.out.below (b0 _).drew)
    have HF5 := hid (HF4.out.dr)
    refine wG9 G 12 (by kernel_rfl) HF5.out (fun hH9 => ?_)
    refine tkG 0 (h := ?_)
    refine tkG 1 (h := ?_)
    refine tkG 2 (h := ?_)
    refine tkG 3 (h := ?_)
    refine tkG 4 (h := ?_)
    refine w2z (i := 5) (j := 9) (by kernel_rfl) rfl rfl (fun Kx hK => ?_) (fun Kx hK => ?_)
    ·
     go_simp
     go_at_call 55
     refine (KY.out _ HF5.out.bl A7 n7 c7 B7 m7 d7 (row_sh (ow9 sl9 (HSV.out.ok rfl).2.2.2.1 HN7.out HN9.out.1 (by decide))) (ow9 (f := tkC) (K := 6) (d := tk0) tkC_len' (HSV.out.ok rfl).2.2.2.2 HM7.out HN9.out.2 (by decide))).mono ?_
     rintro e W6 ⟨⟨⟨⟨vc, vt, vs⟩, vtx, vsh, vrows, vnet, vtk, vpy⟩, A8, n8, c8, rfl, hq⟩, hb⟩
     replace HSV := hid (HSV.out.below hb)
     have HF6 := hid (HF5.out.ca hb)
     clear hq
     clear hb
     refine shG hK (G.out _ HF6.out) (h := fun hH9 => ?_)
     clear hK Kx
     refine tkG 6 (h := ?_)
     refine tkG 7 (h := ?_)
     refine tkG 8 (h := ?_)
     refine tkO 9 (h := fun Kx hK => ?_)
     go_simp
     have HSV_ := HSV
     replace HSV := hid (HSV.out.below (bz1 _ (.cells #[.int .i64 0, .int .i64 0, .int .i64 0, .int .i64 0, .int .i64 0, .slice none 0 0, .int .i64 0, .int .i64 0, .int .i64 0] 82)))
     have HF7 := al8 (HF6.out.al 82 #[.int .i64 0, .int .i64 0, .int .i64 0, .int .i64 0, .int .i64 0, .slice none 0 0, .int .i64 0, .int .i64 0, .int .i64 0])
     refine shG hK (G.out _ (HF7.out.cut 3)) (h := fun hH9 => ?_)
     clear hK Kx
     refine tkO 10 (h := fun Kx hK => ?_)
     go_simp
     replace HSV := hid (HSV_.out.below (bz1 _ (.cells #[.int .i64 vc, .int .i64 vt, .int .i64 vs, .int .i64 vtx, .int .i64 vsh, .slice A8 n8 c8, .int .i64 vnet, .int .i64 vtk, .int .i64 vpy] 82)))
     have HF8 := al8 (HF6.out.al 82 #[.int .i64 vc, .int .i64 vt, .int .i64 vs, .int .i64 vtx, .int .i64 vsh, .slice A8 n8 c8, .int .i64 vnet, .int .i64 vtk, .int .i64 vpy])
     refine shG hK (G.out _ (HF8.out.cut 3)) (h := fun hH9 => ?_)
     clear hK Kx
     refine tkG 11 (h := ?_)
     refine wD9 (by kernel_rfl) ?_ _
     clear G hH9
     try simp only [Exit.then]
     go_wp2_with fail
     go_meet
     refine ⟨_, vc, vt, vs, vtx, vsh, vnet, vtk, vpy, A8, n8, c8, rfl, rfl, hid (HF8.out), HSV⟩
    ·
     go_simp
     have HSV_ := HSV
     replace HSV := hid (HSV.out.below (bz1 _ (.cells #[.int .i64 0, .int .i64 0, .int .i64 0, .int .i64 0, .int .i64 0, .slice none 0 0, .int .i64 0, .int .i64 0, .int .i64 0] 82)))
     have HF6 := al8 (HF5.out.al 82 #[.int .i64 0, .int .i64 0, .int .i64 0, .int .i64 0, .int .i64 0, .slice none 0 0, .int .i64 0, .int .i64 0, .int .i64 0])
     refine shG hK (G.out _ (HF6.out.cut 3)) (h := fun hH9 => ?_)
     clear hK Kx
     refine tkO 5 (h := fun Kx hK => ?_)
     go_simp
     go_at_call 55
     refine (KY.out _ HF6.out.bl A7 n7 c7 B7 m7 d7 (row_sh (ow9 sl9 (HSV.out.ok rfl).2.2.2.1 HN7.out HN9.out.1 (by decide))) (ow9 (f := tkC) (K := 6) (d := tk0) tkC_len' (HSV.out.ok rfl).2.2.2.2 HM7.out HN9.out.2 (by decide))).mono ?_
     rintro e W6 ⟨⟨⟨⟨vc, vt, vs⟩, vtx, vsh, vrows, vnet, vtk, vpy⟩, A8, n8, c8, rfl, hq⟩, hb⟩
     replace HSV := hid (HSV.out.below hb)
     have HF7 := hid (HF6.out.ca hb)
     clear hq
     clear hb
     refine shG hK (G.out _ (HF7.out.cut 3)) (h := fun hH9 => ?_)
     clear hK Kx
     refine tkG 6 (h := ?_)
     refine tkG 7 (h := ?_)
     refine tkG 8 (h := ?_)
     refine tkO 10 (h := fun Kx hK => ?_)
     obtain ⟨sk0, sk1, sk2, sk3, sk4, sk5, sk6, sk7, sk8, sf0, sf1, sf2, sf3, sf4, sf5, sf6, sf7, sf8⟩ := (HF7.out.b 3 rfl).af9
     go_simp
     replace HSV := hid (HSV.out.grown (HF7.out.b 3 rfl) (by decide) (by decide) (put9_gr _ _ (.int .i64 vc) (.int .i64 vt) (.int .i64 vs) (.int .i64 vtx) (.int .i64 vsh) (.slice A8 n8 c8) (.int .i64 vnet) (.int .i64 vtk) (.int .i64 vpy)))
     have HF8 := hid (HF7.out.put9 3 rfl (.int .i64 vc) (.int .i64 vt) (.int .i64 vs) (.int .i64 vtx) (.int .i64 vsh) (.slice A8 n8 c8) (.int .i64 vnet) (.int .i64 vtk) (.int .i64 vpy))
     clear sk0 sk1 sk2 sk3 sk4 sk5 sk6 sk7 sk8 sf0 sf1 sf2 sf3 sf4 sf5 sf6 sf7 sf8
     refine shG hK (G.out _ (HF8.out.cut 3)) (h := fun hH9 => ?_)
     clear hK Kx
     refine tkG 11 (h := ?_)
     refine wD9 (by kernel_rfl) ?_ _
     clear G hH9
     try simp only [Exit.then]
     go_wp2_with fail
     go_meet
     refine ⟨_, vc, vt, vs, vtx, vsh, vnet, vtk, vpy, A8, n8, c8, rfl, rfl, hid (HF8.out), HSV⟩
   case rest =>
    obtain ⟨g4, vc, vt, vs, vtx, vsh, vnet, vtk, vpy, A8, n8, c8, rfl, rfl, HFc, HC4_0⟩ := hcut
    have HF5 := HFc
    clear HFc HF4
    obtain ⟨c0_0, c0_1, c0_2, c0_3, c0_4, c0_5, c0_6, c0_7, c0_8, c0_9⟩ := (HF5.out.b 0 rfl).q10
    obtain ⟨f0_0, f0_1, f0_2, f0_3, f0_4, f0_5, f0_6, f0_7, f0_8, f0_9⟩ := (HF5.out.b 0 rfl).r10
    by_cases h0 : E4 = 0
    case neg =>
     have tr : (E4 != 0) = true := by simpa using h0
     have HE : Hid (re = E4) := H4.out
     have HN0 : Hid (re ≠ 0) := by unfold Hid; rw [HE.out]; exact h0
     clear h0
     obtain ⟨c0_0_5, c0_1_5, c0_2_5, c0_3_5, c0_4_5, c0_5_5, c0_6_5, c0_7_5, c0_8_5, c0_9_5⟩ := (HF5.out.b 0 rfl).q10
     obtain ⟨f0_0_5, f0_1_5, f0_2_5, f0_3_5, f0_4_5, f0_5_5, f0_6_5, f0_7_5, f0_8_5, f0_9_5⟩ := (HF5.out.b 0 rfl).r10
     go_wp2_with fail
     refine bodyPost_ret (v := .tuple #[.agg #[.int .i64 0, .int .i64 0, .int .i64 0, .int .i64 0, .int .i64 0, .int .i64 0, .slice none 0 0, .int .i64 0, .slice none 0 0, .int .i64 0], .int .i64 E4]) (by simp [results, results20, go_sem, c0_0, c0_1, c0_2, c0_3, c0_4, c0_5, c0_6, c0_7, c0_8, c0_9, c0_0_5, c0_1_5, c0_2_5, c0_3_5, c0_4_5, c0_5_5, c0_6_5, c0_7_5, c0_8_5, c0_9_5]) rfl ⟨⟨sp0, none, 0, 0, none, 0, 0, by rw [HE.out]; rfl, Slz.err HN0.out⟩, ?_⟩
     have hg := HF5.out.ge 0 rfl
     exact bp9 HF5.out.bl hg (.int .i64 0) (.int .i64 0) (.int .i64 0) (.int .i64 0) (.int .i64 0) (.int .i64 0) (.slice none 0 0) (.int .i64 0) (.slice none 0 0) (.int .i64 0)
    have H5 : Hid (re = 0) := H4.out.trans h0
    subst h0
    clear c0_0 f0_0 c0_1 f0_1 c0_2 f0_2 c0_3 f0_3 c0_4 f0_4 c0_5 f0_5 c0_6 f0_6 c0_7 f0_7 c0_8 f0_8 c0_9 f0_9
    obtain ⟨c2_0, c2_1, c2_2, c2_3, c2_4, c2_5, c2_6, c2_7, c2_8, c2_9⟩ := (HF5.out.b 2 rfl).q10
    obtain ⟨c0_0, c0_1, c0_2, c0_3, c0_4, c0_5, c0_6, c0_7, c0_8, c0_9⟩ := (HF5.out.b 0 rfl).q10
    obtain ⟨f0_0, f0_1, f0_2, f0_3, f0_4, f0_5, f0_6, f0_7, f0_8, f0_9⟩ := (HF5.out.b 0 rfl).r10
    go_wp2_with fail
    have hg := HF5.out.ge 0 rfl
    refine bodyPost_ret (v := .tuple #[.agg #[.int .i64 zp, .int .i64 zc, .int .i64 zt, .int .i64 zs, .int .i64 ztx, .int .i64 zsh, .slice A7 n7 c7, .int .i64 znet, .slice B7 m7 d7, .int .i64 zpy], .int .i64 0]) (by simp [results, results20, go_sem, c0_0, c0_1, c0_2, c0_3, c0_4, c0_5, c0_6, c0_7, c0_8, c0_9]) rfl ⟨⟨(Sp.mk zp (Bs.mk zc zt zs) ztx zsh zrows znet ztk zpy), A7, n7, c7, B7, m7, d7, by rw [H5.out], ?_⟩, bp9 HF5.out.bl hg (.int .i64 zp) (.int .i64 zc) (.int .i64 zt) (.int .i64 zs) (.int .i64 ztx) (.int .i64 zsh) (.slice A7 n7 c7) (.int .i64 znet) (.slice B7 m7 d7) (.int .i64 zpy)⟩
    rw [H5.out]
    exact HC4_0.out.grown (HF5.out.b 0 rfl) (by decide) (by decide) (pgz _ _ (.int .i64 zp) (.int .i64 zc) (.int .i64 zt) (.int .i64 zs) (.int .i64 ztx) (.int .i64 zsh) (.slice A7 n7 c7) (.int .i64 znet) (.slice B7 m7 d7) (.int .i64 zpy))
end Go.Proofs.YtiaabmhjkoohmaaGreat
