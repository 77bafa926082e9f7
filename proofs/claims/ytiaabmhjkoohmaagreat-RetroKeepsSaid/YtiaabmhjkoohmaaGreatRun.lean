/-
 Contract of an employee's Run. Conditions as named.
-/
import Derived.Test.YtiaabmhjkoohmaaGreatRTry
import Derived.Test.YtiaabmhjkoohmaaGreatM8
namespace Go.Proofs.YtiaabmhjkoohmaaGreat
set_option maxRecDepth 100000
set_option maxHeartbeats 25600000
set_option linter.unusedVariables false
set_option linter.unusedSimpArgs false
open Go.RowKit Tryz
open Lib (hid)
--%
theorem rrun_c (fq days : Int) (lo li p y o : Nat) (E : Em) (w : World) (h : Ea9 w lo li fq days p y o E) (hk : EmOK fq days E) (re : Int) (z2 : Sp) (E' : Em) (he : Hid (re = runE E (nIz fq) (cntI fq days))) (hz2 : Hid (z2 = rSz E (nIz fq))) (h1 : Hid (re = 0 → E' = runV E (nIz fq))) (h2 : Hid (re ≠ 0 → E' = E)) :
  Calls prog 71 #[.pointer (some ⟨p, 0, none⟩)] w (RunR re z2 E' lo fq days p y o w) := by
 have HF0 := hid (Fr.start w)
 have HEM := hid h
 have HOK := hid hk
 obtain ⟨K, ns, nc, nk, nn, ni, hns, hnc, hnk, hnn, hni, hB, hR⟩ := h.letters
 have HB := hid hB
 have HRW := hid hR
 have HNS := hid hns
 have HNC := hid hnc
 have HNK := hid hnk
 have HNN := hid hnn
 have HNI := hid hni
 have HLT : Hid (p < w.heap.size) := hB.lt
 obtain ⟨nq1, nq2, nq3⟩ := h.diff
 have HN1 := hid nq1
 have HN2 := hid nq2
 obtain ⟨E1, hE1⟩ : ∃ E1, E1 = tEz E (nIz fq) (cntI fq days) 0 := ⟨_, rfl⟩
 obtain ⟨z, hz⟩ : ∃ z, z = tryV E (nIz fq) 0 := ⟨_, rfl⟩
 have KT := hid (fun W (hW : Below w.heap.size w W) => rtry_c fq days lo li p y o E 0 W (h.below hW) hk E1 z hE1 hz)
 obtain ⟨T, hT⟩ : ∃ T, T = runTk E (nIz fq) := ⟨_, rfl⟩
 obtain ⟨bl, hbl⟩ : ∃ l, l = tookL E.bk T := ⟨_, rfl⟩
 obtain ⟨E2, hE2⟩ : ∃ E1, E1 = bookE E.bk z.net E.prot := ⟨_, rfl⟩
 have hTl : T.length ≤ 8 := by rw [hT, runTk_len]; exact hk.bk.len
 have KB := hid (fun W (hW : Below w.heap.size w W) => bclone_c o E.bk W (hR.bk.t hW) (by have := hk.bk.len; omega))
 have KA := hid (fun W (q : Nat) (hq : Bk W q E.bk) => abook_u z.net E.prot q E.bk W hq hk.bk E2 hE2 T (by rw [hT, hz]; exact hid rfl) bl hbl)
 obtain ⟨E3, hE3⟩ : ∃ E1, E1 = mEz z.p z.b z.tx z.sh z.rows T := ⟨_, rfl⟩
 have hz2' : Hid (z2 = makeZ z.p z.b z.tx z.sh z.rows T) := hz2.out.trans (by unfold rSz; rw [hz, hT])
 have hzr : E1 = 0 → z.rows.length ≤ 20 := fun h0 => by
  rw [hE1] at h0
  obtain ⟨_, h3⟩ := sZ9 h0
  obtain ⟨_, h3⟩ := sZ9 h3
  obtain ⟨_, h3⟩ := sZ9 h3
  have h4 := chkY_len (ytryE_zero h3).1
  rw [← hz] at h4
  have := hk.yn
  have := hk.tc
  omega
 have KM : Hid (E1 = 0 → ∀ (W : World) (A : Option Addr) (n c : Nat) (B : Option Addr) (m d : Nat), Sh9 W A n z.rows → TkSl W B m T → Calls prog 88 #[.int .i64 z.p, .agg #[.int .i64 z.b.c, .int .i64 z.b.t, .int .i64 z.b.s], .int .i64 z.tx, .int .i64 z.sh, .slice A n c, .slice B m d] W (SlipU E3 z2 W)) := fun h0 W A n c B m d hr ht => (smake_c z.p z.b z.tx z.sh z.rows T A B n c m d W hr ht (by have := hr.1; have := hzr h0; omega) (by have := ht.1; omega) E3 z2 hE3 hz2').mono fun _ _ h => h.u
 obtain ⟨E4, hE4⟩ : ∃ E1, E1 = ytryE E.yr z2 := ⟨_, rfl⟩
 obtain ⟨Ay, cy, By, dy, hyr⟩ := hR.yr
 have hYR := hid hyr
 have hz2l : E1 = 0 → z2.rows.length ≤ 20 ∧ z2.tk.length ≤ 8 := fun h0 => by
  have h3 : z2.rows = z.rows := by rw [hz2'.out]; rfl
  have h4 : z2.tk = T := by rw [hz2'.out]; rfl
  rw [h3, h4]; exact ⟨hzr h0, hTl⟩
 have KP : Hid (E1 = 0 → ∀ (W : World) (A : Option Addr) (c : Nat) (B : Option Addr) (d : Nat), Below w.heap.size w W → SpOwn W 0 ⟨z2, A, c, B, d⟩ → Calls prog 109 #[.pointer (some ⟨y, 0, none⟩), .agg (spC z2 A z2.rows.length c B z2.tk.length d)] W (PostR E.yr z2 lo y Ay W)) := fun h0 W A c B d hW hs => ypost_c y lo E.yr Ay cy By dy z2 A B c d W (hyr.below hW) (by have := hk.yr; have := hk.tc; omega) (by have := hk.sl; have := hk.ins53; omega) hs (by have := (hz2l h0).1; omega) (by have := (hz2l h0).2; omega) (by have := h.lp; have := h.lt.1; have := hW.size; omega)
 have HYN : Hid (E4 ≠ 0 → ypostV E.yr z2 = E.yr) := fun h0 => by unfold ypostV; rw [if_neg (hE4 ▸ h0)]
 have HYZ : Hid (E4 = 0 → { E with ins := tryIn E, next := [], yr := ypostV E.yr z2, bk := bl } = runV E (nIz fq)) := fun h0 => by
  unfold ypostV runV
  rw [if_pos (hE4 ▸ h0), hz2.out, hbl, hT]
 have HYE : Hid (E4 = ytryE E.yr z2) := hE4
 have H1 : Hid (re = sqz E1 (sqz E2 (sqz E3 E4))) := he.out.trans (by unfold runE; rw [hE1, hE2, hE3, hE4, hz2.out, hT, hz])
 have KW : Hid (∀ (W : World) (Y : Yr), Ea9 W lo li fq days p y o { E with yr := Y } → Calls prog 53 #[.pointer (some ⟨p, 0, none⟩)] W (InsWR E lo W)) := fun W Y hW => rwith_c fq days lo li p y o { E with yr := Y } W hW (by have := hk.ins53; show E.ins.length ≤ 1000; omega)
 have hni1 : (tryIn E).length = ni + 1 := by unfold tryIn; rw [List.length_append, ← hni]; rfl
 have HTI := hid hni1
 have HLO : Hid (lo ≤ w.heap.size) := by have := h.lp; have := HLT.out; unfold Hid; omega
 have HYP : Hid (y < w.heap.size) := h.lt.2.1
 have HTL := hid hTl
 have HZR : Hid (E1 = 0 → z.rows.length ≤ 20) := hzr
 unfold SlipU spC at KT KM
 unfold BkCloneR at KB
 unfold BookU at KA
 unfold PostR spC at KP
 unfold InsWR at KW
 rw [hni1] at KW
 unfold RunR spC
 clear hns hnc hnk hnn hni hB hR
 clear h hk he hz2 hE1 hz hT hbl hE2 hTl hE3 hz2' hzr hE4 hyr hz2l hni1 nq1 nq2 nq3
 have HF1 := al9 ((HF0.out.al 45 #[.int .i64 0, .int .i64 0, .int .i64 0, .int .i64 0, .int .i64 0, .int .i64 0, .slice none 0 0, .int .i64 0, .slice none 0 0, .int .i64 0]))
 clear HF0
 go_enter func71, ntmps71
 go_wp2_with fail
 refine (KT.out _ HF1.out.bl).mono ?_
 rintro e W1 ⟨⟨⟨zp, ⟨zc, zt, zs⟩, ztx, zsh, zrows, znet, ztk, zpy⟩, A7, n7, c7, B7, m7, d7, rfl, hq⟩, hb⟩
 have HSV := hid ((hq.more HF1.out.bl.size).below (bz1 W1 (.cells #[.int .i64 zp, .int .i64 zc, .int .i64 zt, .int .i64 zs, .int .i64 ztx, .int .i64 zsh, .slice A7 n7 c7, .int .i64 znet, .slice B7 m7 d7, .int .i64 zpy] 45)))
 have HG2 := hid (HF1.out.ca hb)
 clear hb hq KT HF1
 try dsimp only at HSV
 go_upto_region 2 with fail
 have HF2 := al9 ((HG2.out.al 45 #[.int .i64 zp, .int .i64 zc, .int .i64 zt, .int .i64 zs, .int .i64 ztx, .int .i64 zsh, .slice A7 n7 c7, .int .i64 znet, .slice B7 m7 d7, .int .i64 zpy]))
 clear HG2
 generalize hwn : W1.alloc (.cells #[.int .i64 zp, .int .i64 zc, .int .i64 zt, .int .i64 zs, .int .i64 ztx, .int .i64 zsh, .slice A7 n7 c7, .int .i64 znet, .slice B7 m7 d7, .int .i64 zpy] 45) = v2 at *
 clear hwn
 by_cases h0 : E1 = 0
 case neg =>
  have tr : (E1 != 0) = true := by simpa using h0
  have HE : Hid (re = E1) := H1.out.trans (sN9 h0)
  have HN0 : Hid (re ≠ 0) := by unfold Hid; rw [HE.out]; exact h0
  clear h0
  obtain ⟨c0_0, c0_1, c0_2, c0_3, c0_4, c0_5, c0_6, c0_7, c0_8, c0_9⟩ := (HF2.out.b 0 rfl).q10
  obtain ⟨f0_0, f0_1, f0_2, f0_3, f0_4, f0_5, f0_6, f0_7, f0_8, f0_9⟩ := (HF2.out.b 0 rfl).r10
  go_wp2_with fail
  have hg := HF2.out.ge 0 rfl
  have hbl := bp9 HF2.out.bl hg (.int .i64 0) (.int .i64 0) (.int .i64 0) (.int .i64 0) (.int .i64 0) (.int .i64 0) (.slice none 0 0) (.int .i64 0) (.slice none 0 0) (.int .i64 0)
  refine bodyPost_ret (v := .tuple #[.agg #[.int .i64 0, .int .i64 0, .int .i64 0, .int .i64 0, .int .i64 0, .int .i64 0, .slice none 0 0, .int .i64 0, .slice none 0 0, .int .i64 0], .int .i64 E1]) (by simp [results, results71, go_sem, c0_0, c0_1, c0_2, c0_3, c0_4, c0_5, c0_6, c0_7, c0_8, c0_9]) rfl ⟨⟨sp0, none, 0, 0, none, 0, 0, by rw [HE.out]; rfl, Slz.err HN0.out⟩, ⟨li, o, ?_, Or.inl rfl⟩, Kp.below hbl (Nat.le_refl _), fun _ => c13 HB.out (HB.out.t hbl) rfl, fun h0 => absurd h0 HN0.out, hYR.out.slk (hYR.out.below hbl) (Or.inl rfl)⟩
  rw [h2.out HN0.out]
  exact HEM.out.below hbl
 have H2 := hid (H1.out.trans (sE9 h0))
 subst h0
 obtain ⟨hZ, hn7, hm7, ho7, _⟩ := HSV.out.ok rfl
 have HSO := hid ho7
 have HN7 := hid hn7
 clear hn7 hm7 ho7 HSV
 subst hZ
 replace KM := hid (KM.out rfl)
 replace KP := hid (KP.out rfl)
 have HZ20 := hid (HZR.out rfl)
 clear HZR
 try dsimp only at KA KM HSO HN7 HZ20
 have dd15 := (HB.out.t HF2.out.bl).cv 15 (.pointer (some ⟨o, 0, none⟩)) rfl
 go_wp2_with fail
 refine (KB.out _ HF2.out.bl).mono ?_
 rintro e W4 ⟨⟨q, rfl, hq4, hbq⟩, hb⟩
 clear dd15
 have HQ : Hid (w.heap.size ≤ q) := Nat.le_trans HF2.out.bl.size hq4
 have HBQ := hid hbq
 replace HSO := hid (oB9 HSO.out hb)
 have HG4 := hid (HF2.out.ca hb)
 clear hb hq4 hbq KB HF2
 go_wp2_with fail
 have G : Hid (∀ W, Fr w W [(w.heap.size, 45, #[.int .i64 0, .int .i64 0, .int .i64 0, .int .i64 0, .int .i64 0, .int .i64 0, .slice none 0 0, .int .i64 0, .slice none 0 0, .int .i64 0]), (W1.heap.size, 45, #[.int .i64 zp, .int .i64 zc, .int .i64 zt, .int .i64 zs, .int .i64 ztx, .int .i64 zsh, .slice A7 n7 c7, .int .i64 znet, .slice B7 m7 d7, .int .i64 zpy])] → Below w.heap.size w W ∧ (W.cell? ⟨W1.heap.size, 7, none⟩ = some (.int .i64 znet) ∧ W.cell? ⟨p, 11, none⟩ = some (.int .i64 E.prot))) := fun W hW => ⟨hW.bl, (hW.b 1 rfl).cv 7 _ rfl, (HB.out.t hW.bl).cv 11 _ rfl⟩
 replace HSO := hid (own_drew0 HSO.out)
 replace HBQ := hid (HBQ.out.below (b0 _).drew)
 have HF3 := hid (HG4.out.dr)
 refine wG9 G 15 (by kernel_rfl) HF3.out (fun hH9 => ?_)
 refine tkG 0 (h := ?_)
 refine tkG 1 (h := ?_)
 refine tkG 2 (h := ?_)
 refine tkG 3 (h := ?_)
 refine tkG 4 (h := ?_)
 refine tkG 5 (h := ?_)
 refine tkG 6 (h := ?_)
 refine tkO 7 (h := fun Kx hK => ?_)
 go_simp
 go_at_call 108
 refine (KA.out _ q HBQ.out).mono ?_
 rintro e W5 ⟨⟨A5, n5, c5, lf, rfl, ho5⟩, hbk5, hg5⟩
 obtain ⟨bv, hbq, _⟩ := HBQ.out
 have HO5 : Hid (E2 = 0 → n5 = T.length ∧ W5.ownsRow w.heap.size 116 6 (.slice A5 n5 c5) n5 (T.flatMap tkC)) := fun h0 => ⟨(ho5 h0).1, oM9 (ho5 h0).2 HF3.out.bl.size⟩
 have HG5 : Hid (Fr w W5 [(w.heap.size, 45, #[.int .i64 0, .int .i64 0, .int .i64 0, .int .i64 0, .int .i64 0, .int .i64 0, .slice none 0 0, .int .i64 0, .slice none 0 0, .int .i64 0]), (W1.heap.size, 45, #[.int .i64 zp, .int .i64 zc, .int .i64 zt, .int .i64 zs, .int .i64 ztx, .int .i64 zsh, .slice A7 n7 c7, .int .i64 znet, .slice B7 m7 d7, .int .i64 zpy])]) := Fr.othT (l := [(w.heap.size, 45, #[.int .i64 0, .int .i64 0, .int .i64 0, .int .i64 0, .int .i64 0, .int .i64 0, .slice none 0 0, .int .i64 0, .slice none 0 0, .int .i64 0]), (W1.heap.size, 45, #[.int .i64 zp, .int .i64 zc, .int .i64 zt, .int .i64 zs, .int .i64 ztx, .int .i64 zsh, .slice A7 n7 c7, .int .i64 znet, .slice B7 m7 d7, .int .i64 zpy])]) HF3.out hg5 HQ.out hbq (List.forall_mem_cons.2 ⟨(by decide : (45 : TypeId) ≠ 143), List.forall_mem_cons.2 ⟨(by decide : (45 : TypeId) ≠ 143), fun _ h => nomatch h⟩⟩)
 replace HSO := hid (HSO.out.kept hg5 (Or.inr (obz HSO.out hbq (by decide)).symm))
 clear HBQ
 have HBQ : Hid (E2 = 0 → Bk W5 q bl) := hbk5
 clear hbk5 ho5 hg5 hbq KA HF3
 refine shG hK (G.out _ HG5.out) (h := fun hH9 => ?_)
 clear hK Kx
 refine tkG 8 (h := ?_)
 refine tkG 9 (h := ?_)
 refine tkG 10 (h := ?_)
 refine tkG 11 (h := ?_)
 refine tkG 12 (h := ?_)
 refine tkG 13 (h := ?_)
 refine tkG 14 (h := ?_)
 refine wD9 (by kernel_rfl) ?_ _
 clear G hH9
 try simp only [Exit.then]
 by_cases h0 : E2 = 0
 case neg =>
  have tr : (E2 != 0) = true := by simpa using h0
  have HE : Hid (re = E2) := H2.out.trans (sN9 h0)
  have HN0 : Hid (re ≠ 0) := by unfold Hid; rw [HE.out]; exact h0
  clear h0
  obtain ⟨c0_0, c0_1, c0_2, c0_3, c0_4, c0_5, c0_6, c0_7, c0_8, c0_9⟩ := (HG5.out.b 0 rfl).q10
  obtain ⟨f0_0, f0_1, f0_2, f0_3, f0_4, f0_5, f0_6, f0_7, f0_8, f0_9⟩ := (HG5.out.b 0 rfl).r10
  go_wp2_with fail
  have hg := HG5.out.ge 0 rfl
  have hbl := bp9 HG5.out.bl hg (.int .i64 0) (.int .i64 0) (.int .i64 0) (.int .i64 0) (.int .i64 0) (.int .i64 0) (.slice none 0 0) (.int .i64 0) (.slice none 0 0) (.int .i64 0)
  refine bodyPost_ret (v := .tuple #[.agg #[.int .i64 0, .int .i64 0, .int .i64 0, .int .i64 0, .int .i64 0, .int .i64 0, .slice none 0 0, .int .i64 0, .slice none 0 0, .int .i64 0], .int .i64 E2]) (by simp [results, results71, go_sem, c0_0, c0_1, c0_2, c0_3, c0_4, c0_5, c0_6, c0_7, c0_8, c0_9]) rfl ⟨⟨sp0, none, 0, 0, none, 0, 0, by rw [HE.out]; rfl, Slz.err HN0.out⟩, ⟨li, o, ?_, Or.inl rfl⟩, Kp.below hbl (Nat.le_refl _), fun _ => c13 HB.out (HB.out.t hbl) rfl, fun h0 => absurd h0 HN0.out, hYR.out.slk (hYR.out.below hbl) (Or.inl rfl)⟩
  rw [h2.out HN0.out]
  exact HEM.out.below hbl
 have H3 := hid (H2.out.trans (sE9 h0))
 subst h0
 obtain ⟨hn5, ho5⟩ := HO5.out rfl
 have HN5 := hid hn5
 clear HO5 hn5
 have HO5 := hid ho5
 clear ho5
 replace HBQ := hid (HBQ.out rfl)
 obtain ⟨c1_0, c1_1, c1_2, c1_3, c1_4, c1_5, c1_6, c1_7, c1_8, c1_9⟩ := (HG5.out.b 1 rfl).q10
 obtain ⟨f1_0, f1_1, f1_2, f1_3, f1_4, f1_5, f1_6, f1_7, f1_8, f1_9⟩ := (HG5.out.b 1 rfl).r10
 go_wp2_with fail
 have hs8 : Sh9 W5 A7 n7 zrows := row_sh (ow9 sl9 HSO.out HN7.out (by have := HN7.out; have := HZ20.out; omega) (by decide))
 have ht8 : TkSl W5 A5 n5 T := ow9 (f := tkC) (K := 6) (d := tk0) tkC_len' HO5.out HN5.out (by have := HN5.out; have := HTL.out; omega) (by decide)
 refine (KM.out W5 A7 n7 c7 A5 n5 c5 hs8 ht8).mono ?_
 rintro e W8 ⟨⟨⟨sp, ⟨sc, st, ss⟩, stx, ssh, srows, snet, stk, spy⟩, A8, n8, c8, B8, m8, d8, rfl, hq⟩, hb⟩
 clear hs8 ht8
 clear c1_0 f1_0 c1_1 f1_1 c1_2 f1_2 c1_3 f1_3 c1_4 f1_4 c1_5 f1_5 c1_6 f1_6 c1_7 f1_7 c1_8 f1_8 c1_9 f1_9
 have HSV := hid (hq.more HG5.out.bl.size)
 have HG8 := hid (HG5.out.ca hb)
 replace HBQ := hid (HBQ.out.t hb)
 clear hb hq KM HSO HO5 HG5
 obtain ⟨c1_0, c1_1, c1_2, c1_3, c1_4, c1_5, c1_6, c1_7, c1_8, c1_9⟩ := (HG8.out.b 1 rfl).q10
 obtain ⟨f1_0, f1_1, f1_2, f1_3, f1_4, f1_5, f1_6, f1_7, f1_8, f1_9⟩ := (HG8.out.b 1 rfl).r10
 try dsimp only at HSV
 go_upto_region 9 with fail
 clear c1_0 f1_0 c1_1 f1_1 c1_2 f1_2 c1_3 f1_3 c1_4 f1_4 c1_5 f1_5 c1_6 f1_6 c1_7 f1_7 c1_8 f1_8 c1_9 f1_9
 have HG9 : Hid (Fr w (((((((((((W8).setCell ⟨W1.heap.size, 0, none⟩ (.int .i64 sp)).setCell ⟨W1.heap.size, 1, none⟩ (.int .i64 sc)).setCell ⟨W1.heap.size, 2, none⟩ (.int .i64 st)).setCell ⟨W1.heap.size, 3, none⟩ (.int .i64 ss)).setCell ⟨W1.heap.size, 4, none⟩ (.int .i64 stx)).setCell ⟨W1.heap.size, 5, none⟩ (.int .i64 ssh)).setCell ⟨W1.heap.size, 6, none⟩ (.slice A8 n8 c8)).setCell ⟨W1.heap.size, 7, none⟩ (.int .i64 snet)).setCell ⟨W1.heap.size, 8, none⟩ (.slice B8 m8 d8)).setCell ⟨W1.heap.size, 9, none⟩ (.int .i64 spy)) [(w.heap.size, 45, #[.int .i64 0, .int .i64 0, .int .i64 0, .int .i64 0, .int .i64 0, .int .i64 0, .slice none 0 0, .int .i64 0, .slice none 0 0, .int .i64 0]), (W1.heap.size, 45, #[.int .i64 sp, .int .i64 sc, .int .i64 st, .int .i64 ss, .int .i64 stx, .int .i64 ssh, .slice A8 n8 c8, .int .i64 snet, .slice B8 m8 d8, .int .i64 spy])]) := HG8.out.put10 1 rfl (.int .i64 sp) (.int .i64 sc) (.int .i64 st) (.int .i64 ss) (.int .i64 stx) (.int .i64 ssh) (.slice A8 n8 c8) (.int .i64 snet) (.slice B8 m8 d8) (.int .i64 spy)
 replace HSV := hid (HSV.out.grown (HG8.out.b 1 rfl) (by decide) (by decide) (pgz W8 W1.heap.size (.int .i64 sp) (.int .i64 sc) (.int .i64 st) (.int .i64 ss) (.int .i64 stx) (.int .i64 ssh) (.slice A8 n8 c8) (.int .i64 snet) (.slice B8 m8 d8) (.int .i64 spy)))
 replace HBQ := hid (HBQ.out.grownB (HG8.out.b 1 rfl) (by decide) (by decide) (pgz W8 W1.heap.size (.int .i64 sp) (.int .i64 sc) (.int .i64 st) (.int .i64 ss) (.int .i64 stx) (.int .i64 ssh) (.slice A8 n8 c8) (.int .i64 snet) (.slice B8 m8 d8) (.int .i64 spy)))
 clear HG8
 generalize hwn : ((((((((((W8).setCell ⟨W1.heap.size, 0, none⟩ (.int .i64 sp)).setCell ⟨W1.heap.size, 1, none⟩ (.int .i64 sc)).setCell ⟨W1.heap.size, 2, none⟩ (.int .i64 st)).setCell ⟨W1.heap.size, 3, none⟩ (.int .i64 ss)).setCell ⟨W1.heap.size, 4, none⟩ (.int .i64 stx)).setCell ⟨W1.heap.size, 5, none⟩ (.int .i64 ssh)).setCell ⟨W1.heap.size, 6, none⟩ (.slice A8 n8 c8)).setCell ⟨W1.heap.size, 7, none⟩ (.int .i64 snet)).setCell ⟨W1.heap.size, 8, none⟩ (.slice B8 m8 d8)).setCell ⟨W1.heap.size, 9, none⟩ (.int .i64 spy) = v9 at *
 clear hwn
 by_cases h0 : E3 = 0
 case neg =>
  have tr : (E3 != 0) = true := by simpa using h0
  have HE : Hid (re = E3) := H3.out.trans (sN9 h0)
  have HN0 : Hid (re ≠ 0) := by unfold Hid; rw [HE.out]; exact h0
  clear h0
  obtain ⟨c0_0, c0_1, c0_2, c0_3, c0_4, c0_5, c0_6, c0_7, c0_8, c0_9⟩ := (HG9.out.b 0 rfl).q10
  obtain ⟨f0_0, f0_1, f0_2, f0_3, f0_4, f0_5, f0_6, f0_7, f0_8, f0_9⟩ := (HG9.out.b 0 rfl).r10
  go_wp2_with fail
  have hg := HG9.out.ge 0 rfl
  have hbl := bp9 HG9.out.bl hg (.int .i64 0) (.int .i64 0) (.int .i64 0) (.int .i64 0) (.int .i64 0) (.int .i64 0) (.slice none 0 0) (.int .i64 0) (.slice none 0 0) (.int .i64 0)
  refine bodyPost_ret (v := .tuple #[.agg #[.int .i64 0, .int .i64 0, .int .i64 0, .int .i64 0, .int .i64 0, .int .i64 0, .slice none 0 0, .int .i64 0, .slice none 0 0, .int .i64 0], .int .i64 E3]) (by simp [results, results71, go_sem, c0_0, c0_1, c0_2, c0_3, c0_4, c0_5, c0_6, c0_7, c0_8, c0_9]) rfl ⟨⟨sp0, none, 0, 0, none, 0, 0, by rw [HE.out]; rfl, Slz.err HN0.out⟩, ⟨li, o, ?_, Or.inl rfl⟩, Kp.below hbl (Nat.le_refl _), fun _ => c13 HB.out (HB.out.t hbl) rfl, fun h0 => absurd h0 HN0.out, hYR.out.slk (hYR.out.below hbl) (Or.inl rfl)⟩
  rw [h2.out HN0.out]
  exact HEM.out.below hbl
 have H4 := hid (H3.out.trans (sE9 h0))
 subst h0
 obtain ⟨hZ, hn8, hm8, ho8, hp8⟩ := HSV.out.ok rfl
 have HSP : Hid (SpOwn v9 w.heap.size ⟨(Sp.mk sp (Bs.mk sc st ss) stx ssh srows snet stk spy), A8, c8, B8, d8⟩) := ⟨by show v9.ownsRow _ _ _ (.slice A8 srows.length c8) srows.length (srows.flatMap shC); rw [← hZ] at hn8 ho8; dsimp only at hn8 ho8; rw [← hn8]; exact ho8, by show v9.ownsRow _ _ _ (.slice B8 stk.length d8) stk.length (stk.flatMap tkC); rw [← hZ] at hm8 hp8; dsimp only at hm8 hp8; rw [← hm8]; exact hp8⟩
 have hn8 : n8 = srows.length := by rw [hn8, ← hZ]
 have hm8 : m8 = stk.length := by rw [hm8, ← hZ]
 clear HSV ho8 hp8
 subst hZ
 subst hn8
 subst hm8
 try dsimp only at KP
 go_wp2_with fail
 have G : Hid (∀ W, Fr w W [(w.heap.size, 45, #[.int .i64 0, .int .i64 0, .int .i64 0, .int .i64 0, .int .i64 0, .int .i64 0, .slice none 0 0, .int .i64 0, .slice none 0 0, .int .i64 0]), (W1.heap.size, 45, #[.int .i64 sp, .int .i64 sc, .int .i64 st, .int .i64 ss, .int .i64 stx, .int .i64 ssh, .slice A8 srows.length c8, .int .i64 snet, .slice B8 stk.length d8, .int .i64 spy])] → Below w.heap.size w W ∧ (W.cell? ⟨W1.heap.size, 0, none⟩ = some (.int .i64 sp) ∧ W.cell? ⟨W1.heap.size, 1, none⟩ = some (.int .i64 sc) ∧ W.cell? ⟨W1.heap.size, 2, none⟩ = some (.int .i64 st) ∧ W.cell? ⟨W1.heap.size, 3, none⟩ = some (.int .i64 ss) ∧ W.cell? ⟨W1.heap.size, 4, none⟩ = some (.int .i64 stx) ∧ W.cell? ⟨W1.heap.size, 5, none⟩ = some (.int .i64 ssh) ∧ W.cell? ⟨W1.heap.size, 6, none⟩ = some (.slice A8 srows.length c8) ∧ W.cell? ⟨W1.heap.size, 7, none⟩ = some (.int .i64 snet) ∧ W.cell? ⟨W1.heap.size, 8, none⟩ = some (.slice B8 stk.length d8) ∧ W.cell? ⟨W1.heap.size, 9, none⟩ = some (.int .i64 spy) ∧ W.cell? ⟨p, 14, none⟩ = some (.pointer (some ⟨y, 0, none⟩)))) := fun W hW => ⟨hW.bl, (hW.b 1 rfl).cv 0 _ rfl, (hW.b 1 rfl).cv 1 _ rfl, (hW.b 1 rfl).cv 2 _ rfl, (hW.b 1 rfl).cv 3 _ rfl, (hW.b 1 rfl).cv 4 _ rfl, (hW.b 1 rfl).cv 5 _ rfl, (hW.b 1 rfl).cv 6 _ rfl, (hW.b 1 rfl).cv 7 _ rfl, (hW.b 1 rfl).cv 8 _ rfl, (hW.b 1 rfl).cv 9 _ rfl, (HB.out.t hW.bl).cv 14 _ rfl⟩
 replace HSP := hid (HSP.out.below (b0 _).drew)
 replace HBQ := hid (HBQ.out.below (b0 _).drew)
 have HF4 := hid (HG9.out.dr)
 refine wG9 G 5 (by kernel_rfl) HF4.out (fun hH9 => ?_)
 refine tkG 0 (h := ?_)
 refine tkG 1 (h := ?_)
 refine tkG 2 (h := ?_)
 refine tkG 3 (h := ?_)
 refine tkG 4 (h := ?_)
 refine wL9 (i := 5) (by kernel_rfl) rfl (by decide) (fun Kx hK => ?_)
 go_simp
 go_at_call 109
 refine (KP.out _ A8 c8 B8 d8 HF4.out.bl (HSP.out.more (Nat.zero_le _))).mono ?_
 rintro e W11 ⟨rfl, ⟨Ay2, ⟨cy2, By2, dy2, hya⟩, hay⟩, hk11⟩
 have hyo := hYR.out.below HF4.out.bl
 have ty := Ty.one hyo.blk (by decide : mtB 111 = true)
 have HAW : Hid (Ay2 = Ay ∨ ∃ g, Ay2 = some ⟨g, 0, none⟩ ∧ w.heap.size ≤ g) := hay.imp id (fun ⟨g, h1, h2⟩ => ⟨g, h1, Nat.le_trans HF4.out.bl.size h2⟩)
 have HEP := hid ((HEM.out.below HF4.out.bl).year hk11 hya)
 have HYA := hid hya
 have HAY : Hid (∀ b, Ay2.map Addr.block = some b → b ≠ w.heap.size) := fun b hb => by
  rcases hay with rfl | ⟨g, rfl, hg⟩
  ·
   have := hYR.out.old b hb; omega
  ·
   have hb2 : g = b := Option.some.inj hb
   have h0 := (HF4.out.b 0 rfl).lt
   omega
 have HSPn := hid (HSP.out.fx ty hk11)
 have HBQn := hid (HBQ.out.fx ty hk11 (by have := HQ.out; have := HYP.out; omega))
 have HK11 := hid (HF4.out.actK hk11 HYP.out)
 clear HSP HBQ hya hay hk11 hyo ty KP HF4
 refine hK.out _ _ ?_
 clear hK Kx
 try simp only [gA, gB, gC, pN, pU, pL, pZ, pS]
 refine wL9 (i := 6) (by kernel_rfl) rfl (by decide) (fun Kx hK => ?_)
 go_simp
 refine hK.out _ _ ?_
 clear hK Kx
 try simp only [gA, gB, gC, pN, pU, pL, pZ, pS]
 refine wD9 (by kernel_rfl) ?_ _
 clear G hH9
 try simp only [Exit.then]
 try simp only [gA, gB, gC, pN, pU, pL, pZ, pS]
 by_cases h0 : E4 = 0
 case neg =>
  have tr : (ytryE E.yr (Sp.mk sp (Bs.mk sc st ss) stx ssh srows snet stk spy) != 0) = true := by rw [← HYE.out]; simpa using h0
  have HE : Hid (re = ytryE E.yr (Sp.mk sp (Bs.mk sc st ss) stx ssh srows snet stk spy)) := H4.out.trans HYE.out
  have HN0 : Hid (re ≠ 0) := by unfold Hid; rw [H4.out]; exact h0
  have HV := HYN.out h0
  clear h0
  rw [HV] at HEP HYA
  clear HV
  obtain ⟨c0_0, c0_1, c0_2, c0_3, c0_4, c0_5, c0_6, c0_7, c0_8, c0_9⟩ := (HK11.out.b 0 rfl).q10
  obtain ⟨f0_0, f0_1, f0_2, f0_3, f0_4, f0_5, f0_6, f0_7, f0_8, f0_9⟩ := (HK11.out.b 0 rfl).r10
  go_wp2_with fail
  have hg := HK11.out.ge 0 rfl
  have hgr := pgz W11 w.heap.size (.int .i64 0) (.int .i64 0) (.int .i64 0) (.int .i64 0) (.int .i64 0) (.int .i64 0) (.slice none 0 0) (.int .i64 0) (.slice none 0 0) (.int .i64 0)
  have hB0 := HK11.out.b 0 rfl
  have hkk := kp_put10 HK11.out.bl (Or.inl hg) (.int .i64 0) (.int .i64 0) (.int .i64 0) (.int .i64 0) (.int .i64 0) (.int .i64 0) (.slice none 0 0) (.int .i64 0) (.slice none 0 0) (.int .i64 0)
  have hkp : Kp w.heap.size (fx3 p y o) w _ := hkk.mono (fun g hg => Or.inr (Or.inl hg))
  have tyW : Ty (fun g => g = y) w := Ty.one hYR.out.blk (by decide)
  refine bodyPost_ret (v := .tuple #[.agg #[.int .i64 0, .int .i64 0, .int .i64 0, .int .i64 0, .int .i64 0, .int .i64 0, .slice none 0 0, .int .i64 0, .slice none 0 0, .int .i64 0], .int .i64 (ytryE E.yr (Sp.mk sp (Bs.mk sc st ss) stx ssh srows snet stk spy))]) (by simp [results, results71, go_sem, c0_0, c0_1, c0_2, c0_3, c0_4, c0_5, c0_6, c0_7, c0_8, c0_9]) rfl ⟨⟨sp0, none, 0, 0, none, 0, 0, by rw [HE.out]; rfl, Slz.err HN0.out⟩, ⟨li, o, ?_, Or.inl rfl⟩, hkp, fun _ => c13 HB.out (HB.out.kp hkk HB.out.lt HN1.out) rfl, fun h0 => absurd h0 HN0.out, hYR.out.slk (HYA.out.pt hB0 HAY.out hgr) HAW.out⟩
  rw [h2.out HN0.out]
  obtain ⟨K9, b1, b2⟩ := HEM.out.ex
  refine ⟨⟨K9, b1.kp hkk b1.lt HN1.out, b2.tb.fx tyW hkk, b2.gy.fx tyW hkk, own_fx b2.nx tyW hkk (by decide), b2.ins.fx tyW hkk, ⟨_, _, _, _, HYA.out.pt hB0 HAY.out hgr⟩, b2.bk.fx tyW hkk (fun he => HEM.out.diff.2.2 he.symm)⟩, HEM.out.lp, HEM.out.ly, HEM.out.lo', HEM.out.li'⟩
 have H5 : Hid (re = 0) := H4.out.trans h0
 have HV := hid (HYZ.out h0)
 have tr : ytryE E.yr (Sp.mk sp (Bs.mk sc st ss) stx ssh srows snet stk spy) = 0 := HYE.out.symm.trans h0
 rw [tr]
 clear H4 HYE HYN HYZ h0 tr
 go_wp2_with fail
 refine (KW.out _ _ HEP.out).mono ?_
 rintro e W12 ⟨⟨A12, c12, rfl, hin⟩, hb⟩
 obtain ⟨L12, x1, x2, ho12, x4⟩ := hin.ex
 obtain ⟨g12, rfl, hg12, x5⟩ := osz ho12 (by omega)
 clear x5
 have HG12 : Hid (w.heap.size ≤ g12) := Nat.le_trans HK11.out.bl.size hg12
 have HIN := hid (hin.more (Nat.le_refl lo) HK11.out.bl.size)
 have HK12 := hid (HK11.out.ca hb)
 replace HYA := hid (HYA.out.below hb)
 have HSP := hid (HSPn.out.below hb)
 have HBQ := hid (HBQn.out.t hb)
 have HBK := hid (HB.out.kp HK12.out.bl HB.out.lt HN1.out)
 clear x1 x2 x4 hin ho12 hg12 hb HK11 HEP HSPn HBQn KW
 have qz := HBK.out
 have p12 := qz.cv 12 (.slice K.An nn K.cn) rfl
 have q12 := qz.free 12
 have p13 := qz.cv 13 (.slice K.Ai ni K.ci) rfl
 have q13 := qz.free 13
 have p15 := qz.cv 15 (.pointer (some ⟨o, 0, none⟩)) rfl
 have q15 := qz.free 15
 clear qz
 go_upto_region 15 with fail
 clear p12 q12 p13 q13 p15 q15
 have hgr : W12.grownBy ((((W12).setCell ⟨p, 13, none⟩ (.slice (some ⟨g12, 0, none⟩) (ni + 1) c12)).setCell ⟨p, 12, none⟩ (.slice none 0 0)).setCell ⟨p, 15, none⟩ (.pointer (some ⟨q, 0, none⟩))) (some p) := ((gJ9 W12 p 13 (.slice (some ⟨g12, 0, none⟩) (ni + 1) c12)).trans (gJ9 _ p 12 (.slice none 0 0))).trans (gJ9 _ p 15 (.pointer (some ⟨q, 0, none⟩)))
 have HBP : Hid (Blk ((((W12).setCell ⟨p, 13, none⟩ (.slice (some ⟨g12, 0, none⟩) (ni + 1) c12)).setCell ⟨p, 12, none⟩ (.slice none 0 0)).setCell ⟨p, 15, none⟩ (.pointer (some ⟨q, 0, none⟩))) p 109 #[.slice K.As ns K.cs, .slice K.Ac nc K.cc, .slice K.Ak nk K.ck, .int .i64 E.tb.lim, .int .i64 E.tb.rnd, .pointer (some ⟨K.gy, 0, none⟩), .int .i64 E.c.s, .int .i64 E.c.k, .int .i64 E.c.a, .int .i64 E.c.f, .bool E.c.al, .int .i64 E.prot, .slice none 0 0, .slice (some ⟨g12, 0, none⟩) (ni + 1) c12, .pointer (some ⟨y, 0, none⟩), .pointer (some ⟨q, 0, none⟩)]) := ((HBK.out.setJ 13 (.slice (some ⟨g12, 0, none⟩) (ni + 1) c12)).setJ 12 (.slice none 0 0)).setJ 15 (.pointer (some ⟨q, 0, none⟩))
 have ty := Ty.one HBK.out (by decide : mtB 109 = true)
 have kp : Kp W12.heap.size (fun g => g = p) W12 ((((W12).setCell ⟨p, 13, none⟩ (.slice (some ⟨g12, 0, none⟩) (ni + 1) c12)).setCell ⟨p, 12, none⟩ (.slice none 0 0)).setCell ⟨p, 15, none⟩ (.pointer (some ⟨q, 0, none⟩))) := Kp.grown hgr (Nat.le_refl _) (fun k hk => by injection hk with hk; exact Or.inr hk.symm)
 have HK13 : Hid (FrK (fun g => g = y ∨ g = p) w ((((W12).setCell ⟨p, 13, none⟩ (.slice (some ⟨g12, 0, none⟩) (ni + 1) c12)).setCell ⟨p, 12, none⟩ (.slice none 0 0)).setCell ⟨p, 15, none⟩ (.pointer (some ⟨q, 0, none⟩))) [(w.heap.size, 45, #[.int .i64 0, .int .i64 0, .int .i64 0, .int .i64 0, .int .i64 0, .int .i64 0, .slice none 0 0, .int .i64 0, .slice none 0 0, .int .i64 0]), (W1.heap.size, 45, #[.int .i64 sp, .int .i64 sc, .int .i64 st, .int .i64 ss, .int .i64 stx, .int .i64 ssh, .slice A8 srows.length c8, .int .i64 snet, .slice B8 stk.length d8, .int .i64 spy])]) := FrK.act (h := ⟨HK12.out.bl.mono (fun g hg => Or.inl hg), HK12.out.at', HK12.out.ne⟩) kp (fun g _ hg => Or.inr hg) (fun x hx => by obtain ⟨i, hi⟩ := List.getElem?_of_mem hx; have h1 := (HK12.out.at' i x hi).1; have h2 := HLT.out; show ¬ x.1 = p; omega)
 replace HYA := hid (HYA.out.fx ty kp (fun he => HN1.out he.symm))
 replace HIN := hid (HIN.out.fx ty kp)
 replace HSP := hid (HSP.out.fx ty kp)
 replace HBQ := hid (HBQ.out.fx ty kp (by have := HQ.out; have := HLT.out; omega))
 clear hgr ty kp HK12 HBK
 generalize hwn : (((W12).setCell ⟨p, 13, none⟩ (.slice (some ⟨g12, 0, none⟩) (ni + 1) c12)).setCell ⟨p, 12, none⟩ (.slice none 0 0)).setCell ⟨p, 15, none⟩ (.pointer (some ⟨q, 0, none⟩)) = v13 at *
 clear hwn
 obtain ⟨c0_0, c0_1, c0_2, c0_3, c0_4, c0_5, c0_6, c0_7, c0_8, c0_9⟩ := (HK13.out.b 0 rfl).q10
 obtain ⟨f0_0, f0_1, f0_2, f0_3, f0_4, f0_5, f0_6, f0_7, f0_8, f0_9⟩ := (HK13.out.b 0 rfl).r10
 obtain ⟨c1_0, c1_1, c1_2, c1_3, c1_4, c1_5, c1_6, c1_7, c1_8, c1_9⟩ := (HK13.out.b 1 rfl).q10
 go_wp2_with fail
 have hg := HK13.out.ge 0 rfl
 have hgr := pgz v13 w.heap.size (.int .i64 sp) (.int .i64 sc) (.int .i64 st) (.int .i64 ss) (.int .i64 stx) (.int .i64 ssh) (.slice A8 srows.length c8) (.int .i64 snet) (.slice B8 stk.length d8) (.int .i64 spy)
 have hB0 := HK13.out.b 0 rfl
 have hkk := kp_put10 HK13.out.bl (Or.inl hg) (.int .i64 sp) (.int .i64 sc) (.int .i64 st) (.int .i64 ss) (.int .i64 stx) (.int .i64 ssh) (.slice A8 srows.length c8) (.int .i64 snet) (.slice B8 stk.length d8) (.int .i64 spy)
 have hkp : Kp w.heap.size (fx3 p y o) w _ := hkk.mono (fun g hg => hg.elim (fun h => Or.inr (Or.inl h)) (fun h => Or.inl h))
 have tyW : Ty (fun g => g = y ∨ g = p) w := fun g hg _ => by
  rcases hg with rfl | rfl
  ·
   exact ⟨_, _, hYR.out.blk, by decide⟩
  ·
   exact ⟨_, _, HB.out, by decide⟩
 have hbp := HBP.out.grown hgr (by intro he; injection he with he; have := HLT.out; omega)
 refine bodyPost_ret (v := .tuple #[.agg #[.int .i64 sp, .int .i64 sc, .int .i64 st, .int .i64 ss, .int .i64 stx, .int .i64 ssh, .slice A8 srows.length c8, .int .i64 snet, .slice B8 stk.length d8, .int .i64 spy], .int .i64 0]) (by simp [results, results71, go_sem, c0_0, c0_1, c0_2, c0_3, c0_4, c0_5, c0_6, c0_7, c0_8, c0_9]) rfl ⟨⟨(Sp.mk sp (Bs.mk sc st ss) stx ssh srows snet stk spy), A8, srows.length, c8, B8, stk.length, d8, by rw [H5.out], ⟨fun _ => ⟨rfl, rfl, rfl, ?_, ?_⟩, fun h0 => absurd H5.out h0⟩⟩, ⟨w.heap.size, q, ?_, Or.inr HQ.out⟩, hkp, fun h0 => absurd H5.out h0, fun _ => ⟨g12, ni + 1, c12, hbp.cv 13 _ rfl, HG12.out⟩, hYR.out.slk (HYA.out.pt hB0 HAY.out hgr) HAW.out⟩
 ·
  exact HSP.out.rows.kept hgr (Or.inr (obz HSP.out.rows hB0 (by decide)).symm)
 ·
  exact HSP.out.tk.kept hgr (Or.inr (obz HSP.out.tk hB0 (by decide)).symm)
 rw [h1.out H5.out, ← HV.out]
 obtain ⟨a1, a2, a3, a4, a5, a6⟩ := HRW.out
 refine ⟨⟨⟨K.As, K.cs, K.Ac, K.cc, K.Ak, K.ck, K.gy, none, 0, some ⟨g12, 0, none⟩, c12⟩, ?_, ⟨a1.fx tyW hkk, a2.fx tyW hkk, World.ownsRow_nil _ _ _ _, ?_, ⟨_, _, _, _, HYA.out.pt hB0 HAY.out hgr⟩, HBQ.out.grownB hB0 (by decide) (by decide) hgr⟩⟩, HEM.out.lp, HEM.out.ly, Nat.le_trans HLO.out HQ.out, HLO.out⟩
 ·
  unfold emC
  dsimp only
  rw [← HNS.out, ← HNC.out, ← HNK.out, HTI.out]
  exact hbp
 ·
  dsimp only
  rw [HTI.out]
  exact HIN.out.grown hB0 (by decide) (by decide) hgr
end Go.Proofs.YtiaabmhjkoohmaaGreat
