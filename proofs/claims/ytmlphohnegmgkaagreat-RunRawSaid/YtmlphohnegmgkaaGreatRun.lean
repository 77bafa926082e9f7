/-
 Contract of an employee's Run. Conditions as named.
-/
import Derived.Test.YtmlphohnegmgkaaGreatRTry
import Derived.Test.YtmlphohnegmgkaaGreatM8
namespace Go.Proofs.YtmlphohnegmgkaaGreat
set_option maxRecDepth 100000
set_option maxHeartbeats 25600000
set_option linter.unusedVariables false
set_option linter.unusedSimpArgs false
open Go.RowKit
--%
theorem rrun_c (fq days : Int) (lo li p y o : Nat) (E : Em) (w : World) (h : EmpAt w lo li fq days p y o E) (hk : EmOK fq days E) (re : Int) (z2 : Sp) (E' : Em) (he : Hid (re = runE E (nomI fq) (cntI fq days))) (hz2 : Hid (z2 = runS E (nomI fq))) (h1 : Hid (re = 0 → E' = runV E (nomI fq))) (h2 : Hid (re ≠ 0 → E' = E)) :
  Calls Tryz.prog 60 #[.pointer (some ⟨p, 0, none⟩)] w (RunR re z2 E' lo fq days p y o w) := by
 have HF0 := Lib.hid (Fr.start w)
 have HEM := Lib.hid h
 have HOK := Lib.hid hk
 obtain ⟨K, ns, nc, nk, nn, ni, hns, hnc, hnk, hnn, hni, hB, hR⟩ := h.letters
 have HB := Lib.hid hB
 have HRW := Lib.hid hR
 have HNS := Lib.hid hns
 have HNC := Lib.hid hnc
 have HNK := Lib.hid hnk
 have HNN := Lib.hid hnn
 have HNI := Lib.hid hni
 have HLT : Hid (p < w.heap.size) := hB.lt
 obtain ⟨nq1, nq2, nq3⟩ := h.diff
 have HN1 := Lib.hid nq1
 have HN2 := Lib.hid nq2
 obtain ⟨E1, hE1⟩ : ∃ E1, E1 = tryE E (nomI fq) (cntI fq days) 0 := ⟨_, rfl⟩
 obtain ⟨z, hz⟩ : ∃ z, z = tryV E (nomI fq) 0 := ⟨_, rfl⟩
 have KT := Lib.hid (fun W (hW : Below w.heap.size w W) => rtry_c fq days lo li p y o E 0 W (h.below hW) hk E1 z hE1 hz)
 obtain ⟨T, hT⟩ : ∃ T, T = runTk E (nomI fq) := ⟨_, rfl⟩
 obtain ⟨bl, hbl⟩ : ∃ l, l = tookL E.bk T := ⟨_, rfl⟩
 obtain ⟨E2, hE2⟩ : ∃ E1, E1 = bookE E.bk z.net E.prot := ⟨_, rfl⟩
 have hTl : T.length ≤ 8 := by rw [hT, runTk_len]; exact hk.bk.len
 have KB := Lib.hid (fun W (hW : Below w.heap.size w W) => bclone_c o E.bk W (hR.bk.t hW) (by have := hk.bk.len; omega))
 have KA := Lib.hid (fun W (q : Nat) (hq : Bk W q E.bk) => abook_u z.net E.prot q E.bk W hq hk.bk E2 hE2 T (by rw [hT, hz]; exact Lib.hid rfl) bl hbl)
 obtain ⟨E3, hE3⟩ : ∃ E1, E1 = makeE z.p z.b z.tx z.sh z.rows T := ⟨_, rfl⟩
 have hz2' : Hid (z2 = makeZ z.p z.b z.tx z.sh z.rows T) := hz2.out.trans (by unfold runS; rw [hz, hT])
 have hzr : E1 = 0 → z.rows.length ≤ 20 := fun h0 => by
  rw [hE1] at h0
  obtain ⟨_, h3⟩ := seqE_zero h0
  obtain ⟨_, h3⟩ := seqE_zero h3
  obtain ⟨_, h3⟩ := seqE_zero h3
  have h4 := chkY_len (ytryE_zero h3).1
  rw [← hz] at h4
  have := hk.yn
  have := hk.tc
  omega
 have KM : Hid (E1 = 0 → ∀ (W : World) (A : Option Addr) (n c : Nat) (B : Option Addr) (m d : Nat), ShareSl W A n z.rows → TkSl W B m T → Calls Tryz.prog 122 #[.int .i64 z.p, .agg #[.int .i64 z.b.c, .int .i64 z.b.t, .int .i64 z.b.s], .int .i64 z.tx, .int .i64 z.sh, .slice A n c, .slice B m d] W (SlipU E3 z2 W)) := fun h0 W A n c B m d hr ht => (smake_c z.p z.b z.tx z.sh z.rows T A B n c m d W hr ht (by have := hr.1; have := hzr h0; omega) (by have := ht.1; omega) E3 z2 hE3 hz2').mono fun _ _ h => h.u
 obtain ⟨E4, hE4⟩ : ∃ E1, E1 = ytryE E.yr z2 := ⟨_, rfl⟩
 obtain ⟨Ay, cy, By, dy, hyr⟩ := hR.yr
 have hYR := Lib.hid hyr
 have hz2l : E1 = 0 → z2.rows.length ≤ 20 ∧ z2.tk.length ≤ 8 := fun h0 => by
  have h3 : z2.rows = z.rows := by rw [hz2'.out]; rfl
  have h4 : z2.tk = T := by rw [hz2'.out]; rfl
  rw [h3, h4]; exact ⟨hzr h0, hTl⟩
 have KP : Hid (E1 = 0 → ∀ (W : World) (A : Option Addr) (c : Nat) (B : Option Addr) (d : Nat), Below w.heap.size w W → SpOwn W 0 ⟨z2, A, c, B, d⟩ → Calls Tryz.prog 123 #[.pointer (some ⟨y, 0, none⟩), .agg (spC z2 A z2.rows.length c B z2.tk.length d)] W (PostR E.yr z2 lo y Ay W)) := fun h0 W A c B d hW hs => ypost_c y lo E.yr Ay cy By dy z2 A B c d W (hyr.below hW) (by have := hk.yr; have := hk.tc; omega) (by have := hk.sl; have := hk.ins53; omega) hs (by have := (hz2l h0).1; omega) (by have := (hz2l h0).2; omega) (by have := h.lp; have := h.lt.1; have := hW.size; omega)
 have HYN : Hid (E4 ≠ 0 → ypostV E.yr z2 = E.yr) := fun h0 => by unfold ypostV; rw [if_neg (hE4 ▸ h0)]
 have HYZ : Hid (E4 = 0 → { E with ins := tryIn E, next := [], yr := ypostV E.yr z2, bk := bl } = runV E (nomI fq)) := fun h0 => by
  unfold ypostV runV
  rw [if_pos (hE4 ▸ h0), hz2.out, hbl, hT]
 have HYE : Hid (E4 = ytryE E.yr z2) := hE4
 have H1 : Hid (re = seqE E1 (seqE E2 (seqE E3 E4))) := he.out.trans (by unfold runE; rw [hE1, hE2, hE3, hE4, hz2.out, hT, hz])
 have KW : Hid (∀ (W : World) (Y : Yr), EmpAt W lo li fq days p y o { E with yr := Y } → Calls Tryz.prog 124 #[.pointer (some ⟨p, 0, none⟩)] W (InsWR E lo W)) := fun W Y hW => rwith_c fq days lo li p y o { E with yr := Y } W hW (by have := hk.ins53; show E.ins.length ≤ 1000; omega)
 have hni1 : (tryIn E).length = ni + 1 := by unfold tryIn; rw [List.length_append, ← hni]; rfl
 have HTI := Lib.hid hni1
 have HLO : Hid (lo ≤ w.heap.size) := by have := h.lp; have := HLT.out; unfold Hid; omega
 have HYP : Hid (y < w.heap.size) := h.lt.2.1
 have HTL := Lib.hid hTl
 have HZR : Hid (E1 = 0 → z.rows.length ≤ 20) := hzr
 unfold SlipU spC at KT KM
 unfold BkCloneR at KB
 unfold BookU at KA
 unfold PostR spC at KP
 unfold InsWR at KW
 rw [hni1] at KW
 unfold RunR spC
 clear hns hnc hnk hnn hni hB hR
 clear h hk he hz2 hE1 hz hT hbl hE2 hTl hE3 hz2' hzr hE4 hyr hz2l hni1 nq1 nq2 nq3
 have hx := (HF0.out.al 76 #[.int .i64 0, .int .i64 0, .int .i64 0, .int .i64 0, .int .i64 0, .int .i64 0, .slice none 0 0, .int .i64 0, .slice none 0 0, .int .i64 0])
 try simp only [World.size_alloc, World.size_setCell] at hx
 have HF1 := Lib.hid hx
 clear hx HF0
 go_enter Tryz.func60, Tryz.ntmps60
 go_wp2_with fail
 refine (KT.out _ HF1.out.bl).mono ?_
 rintro e W1 ⟨⟨⟨zp, ⟨zc, zt, zs⟩, ztx, zsh, zrows, znet, ztk, zpy⟩, A7, n7, c7, B7, m7, d7, rfl, hq⟩, hb⟩
 have HSV := Lib.hid ((hq.more HF1.out.bl.size).below (below1 W1 (.cells #[.int .i64 zp, .int .i64 zc, .int .i64 zt, .int .i64 zs, .int .i64 ztx, .int .i64 zsh, .slice A7 n7 c7, .int .i64 znet, .slice B7 m7 d7, .int .i64 zpy] 76)))
 have HG2 := Lib.hid (HF1.out.ca hb)
 clear hb hq KT HF1
 try dsimp only at HSV
 go_upto_region 2 with fail
 have hx := (HG2.out.al 76 #[.int .i64 zp, .int .i64 zc, .int .i64 zt, .int .i64 zs, .int .i64 ztx, .int .i64 zsh, .slice A7 n7 c7, .int .i64 znet, .slice B7 m7 d7, .int .i64 zpy])
 try simp only [World.size_alloc, World.size_setCell] at hx
 have HF2 := Lib.hid hx
 clear hx HG2
 generalize hwn : W1.alloc (.cells #[.int .i64 zp, .int .i64 zc, .int .i64 zt, .int .i64 zs, .int .i64 ztx, .int .i64 zsh, .slice A7 n7 c7, .int .i64 znet, .slice B7 m7 d7, .int .i64 zpy] 76) = v2 at *
 clear hwn
 by_cases h0 : E1 = 0
 case neg =>
  have tr : (E1 != 0) = true := by simpa using h0
  have HE : Hid (re = E1) := H1.out.trans (seqE_no h0)
  have HN0 : Hid (re ≠ 0) := by unfold Hid; rw [HE.out]; exact h0
  clear h0
  have qz := HF2.out.b 0 rfl
  have c0_0 := qz.cv 0 (.int .i64 0) rfl
  have f0_0 := qz.free 0
  have c0_1 := qz.cv 1 (.int .i64 0) rfl
  have f0_1 := qz.free 1
  have c0_2 := qz.cv 2 (.int .i64 0) rfl
  have f0_2 := qz.free 2
  have c0_3 := qz.cv 3 (.int .i64 0) rfl
  have f0_3 := qz.free 3
  have c0_4 := qz.cv 4 (.int .i64 0) rfl
  have f0_4 := qz.free 4
  have c0_5 := qz.cv 5 (.int .i64 0) rfl
  have f0_5 := qz.free 5
  have c0_6 := qz.cv 6 (.slice none 0 0) rfl
  have f0_6 := qz.free 6
  have c0_7 := qz.cv 7 (.int .i64 0) rfl
  have f0_7 := qz.free 7
  have c0_8 := qz.cv 8 (.slice none 0 0) rfl
  have f0_8 := qz.free 8
  have c0_9 := qz.cv 9 (.int .i64 0) rfl
  have f0_9 := qz.free 9
  clear qz
  go_wp2_with fail
  have hg := HF2.out.ge 0 rfl
  have hbl := below_put10 HF2.out.bl hg (.int .i64 0) (.int .i64 0) (.int .i64 0) (.int .i64 0) (.int .i64 0) (.int .i64 0) (.slice none 0 0) (.int .i64 0) (.slice none 0 0) (.int .i64 0)
  refine bodyPost_ret (v := .tuple #[.agg #[.int .i64 0, .int .i64 0, .int .i64 0, .int .i64 0, .int .i64 0, .int .i64 0, .slice none 0 0, .int .i64 0, .slice none 0 0, .int .i64 0], .int .i64 E1]) (by simp [results, Tryz.results60, go_sem, c0_0, c0_1, c0_2, c0_3, c0_4, c0_5, c0_6, c0_7, c0_8, c0_9]) rfl ⟨⟨sp0, none, 0, 0, none, 0, 0, by rw [HE.out]; rfl, SlipV.err HN0.out⟩, ⟨li, o, ?_, Or.inl rfl⟩, Kp.below hbl (Nat.le_refl _), fun _ => c13 HB.out (HB.out.t hbl) rfl, fun h0 => absurd h0 HN0.out, hYR.out.slk (hYR.out.below hbl) (Or.inl rfl)⟩
  rw [h2.out HN0.out]
  exact HEM.out.below hbl
 have H2 := Lib.hid (H1.out.trans (seqE_ok h0))
 subst h0
 obtain ⟨hZ, hn7, hm7, ho7, _⟩ := HSV.out.ok rfl
 have HSO := Lib.hid ho7
 have HN7 := Lib.hid hn7
 clear hn7 hm7 ho7 HSV
 subst hZ
 replace KM := Lib.hid (KM.out rfl)
 replace KP := Lib.hid (KP.out rfl)
 have HZ20 := Lib.hid (HZR.out rfl)
 clear HZR
 try dsimp only at KA KM HSO HN7 HZ20
 have dd15 := (HB.out.t HF2.out.bl).cv 15 (.pointer (some ⟨o, 0, none⟩)) rfl
 go_wp2_with fail
 refine (KB.out _ HF2.out.bl).mono ?_
 rintro e W4 ⟨⟨q, rfl, hq4, hbq⟩, hb⟩
 clear dd15
 have HQ : Hid (w.heap.size ≤ q) := Nat.le_trans HF2.out.bl.size hq4
 have HBQ := Lib.hid hbq
 replace HSO := Lib.hid (own_below HSO.out hb)
 have HG4 := Lib.hid (HF2.out.ca hb)
 clear hb hq4 hbq KB HF2
 go_wp2_with fail
 have G : Hid (∀ W, Fr w W [(w.heap.size, 76, #[.int .i64 0, .int .i64 0, .int .i64 0, .int .i64 0, .int .i64 0, .int .i64 0, .slice none 0 0, .int .i64 0, .slice none 0 0, .int .i64 0]), (W1.heap.size, 76, #[.int .i64 zp, .int .i64 zc, .int .i64 zt, .int .i64 zs, .int .i64 ztx, .int .i64 zsh, .slice A7 n7 c7, .int .i64 znet, .slice B7 m7 d7, .int .i64 zpy])] → Below w.heap.size w W ∧ (W.cell? ⟨W1.heap.size, 7, none⟩ = some (.int .i64 znet) ∧ W.cell? ⟨p, 11, none⟩ = some (.int .i64 E.prot))) := fun W hW => ⟨hW.bl, (hW.b 1 rfl).cv 7 _ rfl, (HB.out.t hW.bl).cv 11 _ rfl⟩
 replace HSO := Lib.hid (own_drew0 HSO.out)
 replace HBQ := Lib.hid (HBQ.out.below (b0 _).drew)
 have HF3 := Lib.hid (HG4.out.dr)
 refine wp_region_G G 15 (by kernel_rfl) HF3.out (fun hHeld => ?_)
 refine tkF (i := 0) (v := ?v1_1) rfl (Or.inl ⟨by rfl, ?hy1_1⟩) ?rest1_1
 case hy1_1 => (intro w hSw; (try dsimp only at hSw); go_simp; try with_reducible rfl)
 try simp only [gA, gB, gC, pN, pU, pL, pZ, pS]
 refine tkF (i := 1) (v := ?v1_2) rfl (Or.inl ⟨by rfl, ?hy1_2⟩) ?rest1_2
 case hy1_2 => (intro w hSw; (try dsimp only at hSw); go_simp; try with_reducible rfl)
 try simp only [gA, gB, gC, pN, pU, pL, pZ, pS]
 refine tkF (i := 2) (v := ?v1_3) rfl (Or.inl ⟨by rfl, ?hy1_3⟩) ?rest1_3
 case hy1_3 => (intro w hSw; (try dsimp only at hSw); go_simp; try with_reducible rfl)
 try simp only [gA, gB, gC, pN, pU, pL, pZ, pS]
 refine tkF (i := 3) (v := ?v1_4) rfl (Or.inl ⟨by rfl, ?hy1_4⟩) ?rest1_4
 case hy1_4 => (intro w hSw; (try dsimp only at hSw); go_simp; try with_reducible rfl)
 try simp only [gA, gB, gC, pN, pU, pL, pZ, pS]
 refine tkF (i := 4) (v := ?v1_5) rfl (Or.inl ⟨by rfl, ?hy1_5⟩) ?rest1_5
 case hy1_5 => (intro w hSw; (try dsimp only at hSw); go_simp; try with_reducible rfl)
 try simp only [gA, gB, gC, pN, pU, pL, pZ, pS]
 refine tkF (i := 5) (v := ?v1_6) rfl (Or.inl ⟨by rfl, ?hy1_6⟩) ?rest1_6
 case hy1_6 => (intro w hSw; (try dsimp only at hSw); go_simp; try with_reducible rfl)
 try simp only [gA, gB, gC, pN, pU, pL, pZ, pS]
 refine tkF (i := 6) (v := ?v1_7) rfl (Or.inl ⟨by rfl, ?hy1_7⟩) ?rest1_7
 case hy1_7 => (intro w hSw; (try dsimp only at hSw); go_simp; try with_reducible rfl)
 try simp only [gA, gB, gC, pN, pU, pL, pZ, pS]
 refine wpAnyE_one (i := 7) (by kernel_rfl) rfl (fun Kx hK => ?_)
 go_simp
 go_at_call 121
 refine (KA.out _ q HBQ.out).mono ?_
 rintro e W5 ⟨⟨A5, n5, c5, lf, rfl, ho5⟩, hbk5, hg5⟩
 obtain ⟨bv, hbq, _⟩ := HBQ.out
 have HO5 : Hid (E2 = 0 → n5 = T.length ∧ W5.ownsRow w.heap.size 183 6 (.slice A5 n5 c5) n5 (T.flatMap tkC)) := fun h0 => ⟨(ho5 h0).1, own_more (ho5 h0).2 HF3.out.bl.size⟩
 have HG5 : Hid (Fr w W5 [(w.heap.size, 76, #[.int .i64 0, .int .i64 0, .int .i64 0, .int .i64 0, .int .i64 0, .int .i64 0, .slice none 0 0, .int .i64 0, .slice none 0 0, .int .i64 0]), (W1.heap.size, 76, #[.int .i64 zp, .int .i64 zc, .int .i64 zt, .int .i64 zs, .int .i64 ztx, .int .i64 zsh, .slice A7 n7 c7, .int .i64 znet, .slice B7 m7 d7, .int .i64 zpy])]) := Fr.othT (l := [(w.heap.size, 76, #[.int .i64 0, .int .i64 0, .int .i64 0, .int .i64 0, .int .i64 0, .int .i64 0, .slice none 0 0, .int .i64 0, .slice none 0 0, .int .i64 0]), (W1.heap.size, 76, #[.int .i64 zp, .int .i64 zc, .int .i64 zt, .int .i64 zs, .int .i64 ztx, .int .i64 zsh, .slice A7 n7 c7, .int .i64 znet, .slice B7 m7 d7, .int .i64 zpy])]) HF3.out hg5 HQ.out hbq (List.forall_mem_cons.2 ⟨(by decide : (76 : TypeId) ≠ 192), List.forall_mem_cons.2 ⟨(by decide : (76 : TypeId) ≠ 192), fun _ h => nomatch h⟩⟩)
 replace HSO := Lib.hid (HSO.out.kept hg5 (Or.inr (own_blk HSO.out hbq (by decide)).symm))
 clear HBQ
 have HBQ : Hid (E2 = 0 → Bk W5 q bl) := hbk5
 clear hbk5 ho5 hg5 hbq KA HF3
 refine hK.out _ _ (G.out _ HG5.out) (fun hHeld => ?_)
 clear hK Kx
 try simp only [gA, gB, gC, pN, pU, pL, pZ, pS]
 refine tkF (i := 8) (v := ?v1_8) rfl (Or.inl ⟨by rfl, ?hy1_8⟩) ?rest1_8
 case hy1_8 => (intro w hSw; (try dsimp only at hSw); go_simp; try with_reducible rfl)
 try simp only [gA, gB, gC, pN, pU, pL, pZ, pS]
 refine tkF (i := 9) (v := ?v1_9) rfl (Or.inl ⟨by rfl, ?hy1_9⟩) ?rest1_9
 case hy1_9 => (intro w hSw; (try dsimp only at hSw); go_simp; try with_reducible rfl)
 try simp only [gA, gB, gC, pN, pU, pL, pZ, pS]
 refine tkF (i := 10) (v := ?v1_10) rfl (Or.inl ⟨by rfl, ?hy1_10⟩) ?rest1_10
 case hy1_10 => (intro w hSw; (try dsimp only at hSw); go_simp; try with_reducible rfl)
 try simp only [gA, gB, gC, pN, pU, pL, pZ, pS]
 refine tkF (i := 11) (v := ?v1_11) rfl (Or.inl ⟨by rfl, ?hy1_11⟩) ?rest1_11
 case hy1_11 => (intro w hSw; (try dsimp only at hSw); go_simp; try with_reducible rfl)
 try simp only [gA, gB, gC, pN, pU, pL, pZ, pS]
 refine tkF (i := 12) (v := ?v1_12) rfl (Or.inl ⟨by rfl, ?hy1_12⟩) ?rest1_12
 case hy1_12 => (intro w hSw; (try dsimp only at hSw); go_simp; try with_reducible rfl)
 try simp only [gA, gB, gC, pN, pU, pL, pZ, pS]
 refine tkF (i := 13) (v := ?v1_13) rfl (Or.inl ⟨by rfl, ?hy1_13⟩) ?rest1_13
 case hy1_13 => (intro w hSw; (try dsimp only at hSw); go_simp; try with_reducible rfl)
 try simp only [gA, gB, gC, pN, pU, pL, pZ, pS]
 refine tkF (i := 14) (v := ?v1_14) rfl (Or.inl ⟨by rfl, ?hy1_14⟩) ?rest1_14
 case hy1_14 => (intro w hSw; (try dsimp only at hSw); go_simp; try with_reducible rfl)
 try simp only [gA, gB, gC, pN, pU, pL, pZ, pS]
 refine wpAnyE_done (by kernel_rfl) ?_ _
 clear G hHeld
 try simp only [Exit.then]
 try simp only [gA, gB, gC, pN, pU, pL, pZ, pS]
 by_cases h0 : E2 = 0
 case neg =>
  have tr : (E2 != 0) = true := by simpa using h0
  have HE : Hid (re = E2) := H2.out.trans (seqE_no h0)
  have HN0 : Hid (re ≠ 0) := by unfold Hid; rw [HE.out]; exact h0
  clear h0
  have qz := HG5.out.b 0 rfl
  have c0_0 := qz.cv 0 (.int .i64 0) rfl
  have f0_0 := qz.free 0
  have c0_1 := qz.cv 1 (.int .i64 0) rfl
  have f0_1 := qz.free 1
  have c0_2 := qz.cv 2 (.int .i64 0) rfl
  have f0_2 := qz.free 2
  have c0_3 := qz.cv 3 (.int .i64 0) rfl
  have f0_3 := qz.free 3
  have c0_4 := qz.cv 4 (.int .i64 0) rfl
  have f0_4 := qz.free 4
  have c0_5 := qz.cv 5 (.int .i64 0) rfl
  have f0_5 := qz.free 5
  have c0_6 := qz.cv 6 (.slice none 0 0) rfl
  have f0_6 := qz.free 6
  have c0_7 := qz.cv 7 (.int .i64 0) rfl
  have f0_7 := qz.free 7
  have c0_8 := qz.cv 8 (.slice none 0 0) rfl
  have f0_8 := qz.free 8
  have c0_9 := qz.cv 9 (.int .i64 0) rfl
  have f0_9 := qz.free 9
  clear qz
  go_wp2_with fail
  have hg := HG5.out.ge 0 rfl
  have hbl := below_put10 HG5.out.bl hg (.int .i64 0) (.int .i64 0) (.int .i64 0) (.int .i64 0) (.int .i64 0) (.int .i64 0) (.slice none 0 0) (.int .i64 0) (.slice none 0 0) (.int .i64 0)
  refine bodyPost_ret (v := .tuple #[.agg #[.int .i64 0, .int .i64 0, .int .i64 0, .int .i64 0, .int .i64 0, .int .i64 0, .slice none 0 0, .int .i64 0, .slice none 0 0, .int .i64 0], .int .i64 E2]) (by simp [results, Tryz.results60, go_sem, c0_0, c0_1, c0_2, c0_3, c0_4, c0_5, c0_6, c0_7, c0_8, c0_9]) rfl ⟨⟨sp0, none, 0, 0, none, 0, 0, by rw [HE.out]; rfl, SlipV.err HN0.out⟩, ⟨li, o, ?_, Or.inl rfl⟩, Kp.below hbl (Nat.le_refl _), fun _ => c13 HB.out (HB.out.t hbl) rfl, fun h0 => absurd h0 HN0.out, hYR.out.slk (hYR.out.below hbl) (Or.inl rfl)⟩
  rw [h2.out HN0.out]
  exact HEM.out.below hbl
 have H3 := Lib.hid (H2.out.trans (seqE_ok h0))
 subst h0
 obtain ⟨hn5, ho5⟩ := HO5.out rfl
 have HN5 := Lib.hid hn5
 clear HO5 hn5
 have HO5 := Lib.hid ho5
 clear ho5
 replace HBQ := Lib.hid (HBQ.out rfl)
 have qz := HG5.out.b 1 rfl
 have c1_0 := qz.cv 0 (.int .i64 zp) rfl
 have f1_0 := qz.free 0
 have c1_1 := qz.cv 1 (.int .i64 zc) rfl
 have f1_1 := qz.free 1
 have c1_2 := qz.cv 2 (.int .i64 zt) rfl
 have f1_2 := qz.free 2
 have c1_3 := qz.cv 3 (.int .i64 zs) rfl
 have f1_3 := qz.free 3
 have c1_4 := qz.cv 4 (.int .i64 ztx) rfl
 have f1_4 := qz.free 4
 have c1_5 := qz.cv 5 (.int .i64 zsh) rfl
 have f1_5 := qz.free 5
 have c1_6 := qz.cv 6 (.slice A7 n7 c7) rfl
 have f1_6 := qz.free 6
 have c1_7 := qz.cv 7 (.int .i64 znet) rfl
 have f1_7 := qz.free 7
 have c1_8 := qz.cv 8 (.slice B7 m7 d7) rfl
 have f1_8 := qz.free 8
 have c1_9 := qz.cv 9 (.int .i64 zpy) rfl
 have f1_9 := qz.free 9
 clear qz
 go_wp2_with fail
 have hs8 : ShareSl W5 A7 n7 zrows := row_sh (own_row shC_len HSO.out HN7.out (by have := HN7.out; have := HZ20.out; omega) (by decide))
 have ht8 : TkSl W5 A5 n5 T := own_row (f := tkC) (K := 6) (d := tk0) tkC_len' HO5.out HN5.out (by have := HN5.out; have := HTL.out; omega) (by decide)
 refine (KM.out W5 A7 n7 c7 A5 n5 c5 hs8 ht8).mono ?_
 rintro e W8 ⟨⟨⟨sp, ⟨sc, st, ss⟩, stx, ssh, srows, snet, stk, spy⟩, A8, n8, c8, B8, m8, d8, rfl, hq⟩, hb⟩
 clear hs8 ht8
 clear c1_0 f1_0 c1_1 f1_1 c1_2 f1_2 c1_3 f1_3 c1_4 f1_4 c1_5 f1_5 c1_6 f1_6 c1_7 f1_7 c1_8 f1_8 c1_9 f1_9
 have HSV := Lib.hid (hq.more HG5.out.bl.size)
 have HG8 := Lib.hid (HG5.out.ca hb)
 replace HBQ := Lib.hid (HBQ.out.t hb)
 clear hb hq KM HSO HO5 HG5
 have qz := HG8.out.b 1 rfl
 have c1_0 := qz.cv 0 (.int .i64 zp) rfl
 have f1_0 := qz.free 0
 have c1_1 := qz.cv 1 (.int .i64 zc) rfl
 have f1_1 := qz.free 1
 have c1_2 := qz.cv 2 (.int .i64 zt) rfl
 have f1_2 := qz.free 2
 have c1_3 := qz.cv 3 (.int .i64 zs) rfl
 have f1_3 := qz.free 3
 have c1_4 := qz.cv 4 (.int .i64 ztx) rfl
 have f1_4 := qz.free 4
 have c1_5 := qz.cv 5 (.int .i64 zsh) rfl
 have f1_5 := qz.free 5
 have c1_6 := qz.cv 6 (.slice A7 n7 c7) rfl
 have f1_6 := qz.free 6
 have c1_7 := qz.cv 7 (.int .i64 znet) rfl
 have f1_7 := qz.free 7
 have c1_8 := qz.cv 8 (.slice B7 m7 d7) rfl
 have f1_8 := qz.free 8
 have c1_9 := qz.cv 9 (.int .i64 zpy) rfl
 have f1_9 := qz.free 9
 clear qz
 try dsimp only at HSV
 go_upto_region 9 with fail
 clear c1_0 f1_0 c1_1 f1_1 c1_2 f1_2 c1_3 f1_3 c1_4 f1_4 c1_5 f1_5 c1_6 f1_6 c1_7 f1_7 c1_8 f1_8 c1_9 f1_9
 have HG9 : Hid (Fr w (((((((((((W8).setCell ⟨W1.heap.size, 0, none⟩ (.int .i64 sp)).setCell ⟨W1.heap.size, 1, none⟩ (.int .i64 sc)).setCell ⟨W1.heap.size, 2, none⟩ (.int .i64 st)).setCell ⟨W1.heap.size, 3, none⟩ (.int .i64 ss)).setCell ⟨W1.heap.size, 4, none⟩ (.int .i64 stx)).setCell ⟨W1.heap.size, 5, none⟩ (.int .i64 ssh)).setCell ⟨W1.heap.size, 6, none⟩ (.slice A8 n8 c8)).setCell ⟨W1.heap.size, 7, none⟩ (.int .i64 snet)).setCell ⟨W1.heap.size, 8, none⟩ (.slice B8 m8 d8)).setCell ⟨W1.heap.size, 9, none⟩ (.int .i64 spy)) [(w.heap.size, 76, #[.int .i64 0, .int .i64 0, .int .i64 0, .int .i64 0, .int .i64 0, .int .i64 0, .slice none 0 0, .int .i64 0, .slice none 0 0, .int .i64 0]), (W1.heap.size, 76, #[.int .i64 sp, .int .i64 sc, .int .i64 st, .int .i64 ss, .int .i64 stx, .int .i64 ssh, .slice A8 n8 c8, .int .i64 snet, .slice B8 m8 d8, .int .i64 spy])]) := HG8.out.put10 1 rfl (.int .i64 sp) (.int .i64 sc) (.int .i64 st) (.int .i64 ss) (.int .i64 stx) (.int .i64 ssh) (.slice A8 n8 c8) (.int .i64 snet) (.slice B8 m8 d8) (.int .i64 spy)
 replace HSV := Lib.hid (HSV.out.grown (HG8.out.b 1 rfl) (by decide) (by decide) (put10_gr W8 W1.heap.size (.int .i64 sp) (.int .i64 sc) (.int .i64 st) (.int .i64 ss) (.int .i64 stx) (.int .i64 ssh) (.slice A8 n8 c8) (.int .i64 snet) (.slice B8 m8 d8) (.int .i64 spy)))
 replace HBQ := Lib.hid (HBQ.out.grownB (HG8.out.b 1 rfl) (by decide) (by decide) (put10_gr W8 W1.heap.size (.int .i64 sp) (.int .i64 sc) (.int .i64 st) (.int .i64 ss) (.int .i64 stx) (.int .i64 ssh) (.slice A8 n8 c8) (.int .i64 snet) (.slice B8 m8 d8) (.int .i64 spy)))
 clear HG8
 generalize hwn : ((((((((((W8).setCell ⟨W1.heap.size, 0, none⟩ (.int .i64 sp)).setCell ⟨W1.heap.size, 1, none⟩ (.int .i64 sc)).setCell ⟨W1.heap.size, 2, none⟩ (.int .i64 st)).setCell ⟨W1.heap.size, 3, none⟩ (.int .i64 ss)).setCell ⟨W1.heap.size, 4, none⟩ (.int .i64 stx)).setCell ⟨W1.heap.size, 5, none⟩ (.int .i64 ssh)).setCell ⟨W1.heap.size, 6, none⟩ (.slice A8 n8 c8)).setCell ⟨W1.heap.size, 7, none⟩ (.int .i64 snet)).setCell ⟨W1.heap.size, 8, none⟩ (.slice B8 m8 d8)).setCell ⟨W1.heap.size, 9, none⟩ (.int .i64 spy) = v9 at *
 clear hwn
 by_cases h0 : E3 = 0
 case neg =>
  have tr : (E3 != 0) = true := by simpa using h0
  have HE : Hid (re = E3) := H3.out.trans (seqE_no h0)
  have HN0 : Hid (re ≠ 0) := by unfold Hid; rw [HE.out]; exact h0
  clear h0
  have qz := HG9.out.b 0 rfl
  have c0_0 := qz.cv 0 (.int .i64 0) rfl
  have f0_0 := qz.free 0
  have c0_1 := qz.cv 1 (.int .i64 0) rfl
  have f0_1 := qz.free 1
  have c0_2 := qz.cv 2 (.int .i64 0) rfl
  have f0_2 := qz.free 2
  have c0_3 := qz.cv 3 (.int .i64 0) rfl
  have f0_3 := qz.free 3
  have c0_4 := qz.cv 4 (.int .i64 0) rfl
  have f0_4 := qz.free 4
  have c0_5 := qz.cv 5 (.int .i64 0) rfl
  have f0_5 := qz.free 5
  have c0_6 := qz.cv 6 (.slice none 0 0) rfl
  have f0_6 := qz.free 6
  have c0_7 := qz.cv 7 (.int .i64 0) rfl
  have f0_7 := qz.free 7
  have c0_8 := qz.cv 8 (.slice none 0 0) rfl
  have f0_8 := qz.free 8
  have c0_9 := qz.cv 9 (.int .i64 0) rfl
  have f0_9 := qz.free 9
  clear qz
  go_wp2_with fail
  have hg := HG9.out.ge 0 rfl
  have hbl := below_put10 HG9.out.bl hg (.int .i64 0) (.int .i64 0) (.int .i64 0) (.int .i64 0) (.int .i64 0) (.int .i64 0) (.slice none 0 0) (.int .i64 0) (.slice none 0 0) (.int .i64 0)
  refine bodyPost_ret (v := .tuple #[.agg #[.int .i64 0, .int .i64 0, .int .i64 0, .int .i64 0, .int .i64 0, .int .i64 0, .slice none 0 0, .int .i64 0, .slice none 0 0, .int .i64 0], .int .i64 E3]) (by simp [results, Tryz.results60, go_sem, c0_0, c0_1, c0_2, c0_3, c0_4, c0_5, c0_6, c0_7, c0_8, c0_9]) rfl ⟨⟨sp0, none, 0, 0, none, 0, 0, by rw [HE.out]; rfl, SlipV.err HN0.out⟩, ⟨li, o, ?_, Or.inl rfl⟩, Kp.below hbl (Nat.le_refl _), fun _ => c13 HB.out (HB.out.t hbl) rfl, fun h0 => absurd h0 HN0.out, hYR.out.slk (hYR.out.below hbl) (Or.inl rfl)⟩
  rw [h2.out HN0.out]
  exact HEM.out.below hbl
 have H4 := Lib.hid (H3.out.trans (seqE_ok h0))
 subst h0
 obtain ⟨hZ, hn8, hm8, ho8, hp8⟩ := HSV.out.ok rfl
 have HSP : Hid (SpOwn v9 w.heap.size ⟨(Sp.mk sp (Bs.mk sc st ss) stx ssh srows snet stk spy), A8, c8, B8, d8⟩) := ⟨by show v9.ownsRow _ _ _ (.slice A8 srows.length c8) srows.length (srows.flatMap shC); rw [← hZ] at hn8 ho8; dsimp only at hn8 ho8; rw [← hn8]; exact ho8, by show v9.ownsRow _ _ _ (.slice B8 stk.length d8) stk.length (stk.flatMap tkC); rw [← hZ] at hm8 hp8; dsimp only at hm8 hp8; rw [← hm8]; exact hp8⟩
 have hn8 : n8 = srows.length := by rw [hn8, ← hZ]
 have hm8 : m8 = stk.length := by rw [hm8, ← hZ]
 clear HSV ho8 hp8
 subst hZ
 subst hn8
 subst hm8
 try dsimp only at KP
 go_wp2_with fail
 have G : Hid (∀ W, Fr w W [(w.heap.size, 76, #[.int .i64 0, .int .i64 0, .int .i64 0, .int .i64 0, .int .i64 0, .int .i64 0, .slice none 0 0, .int .i64 0, .slice none 0 0, .int .i64 0]), (W1.heap.size, 76, #[.int .i64 sp, .int .i64 sc, .int .i64 st, .int .i64 ss, .int .i64 stx, .int .i64 ssh, .slice A8 srows.length c8, .int .i64 snet, .slice B8 stk.length d8, .int .i64 spy])] → Below w.heap.size w W ∧ (W.cell? ⟨W1.heap.size, 0, none⟩ = some (.int .i64 sp) ∧ W.cell? ⟨W1.heap.size, 1, none⟩ = some (.int .i64 sc) ∧ W.cell? ⟨W1.heap.size, 2, none⟩ = some (.int .i64 st) ∧ W.cell? ⟨W1.heap.size, 3, none⟩ = some (.int .i64 ss) ∧ W.cell? ⟨W1.heap.size, 4, none⟩ = some (.int .i64 stx) ∧ W.cell? ⟨W1.heap.size, 5, none⟩ = some (.int .i64 ssh) ∧ W.cell? ⟨W1.heap.size, 6, none⟩ = some (.slice A8 srows.length c8) ∧ W.cell? ⟨W1.heap.size, 7, none⟩ = some (.int .i64 snet) ∧ W.cell? ⟨W1.heap.size, 8, none⟩ = some (.slice B8 stk.length d8) ∧ W.cell? ⟨W1.heap.size, 9, none⟩ = some (.int .i64 spy) ∧ W.cell? ⟨p, 14, none⟩ = some (.pointer (some ⟨y, 0, none⟩)))) := fun W hW => ⟨hW.bl, (hW.b 1 rfl).cv 0 _ rfl, (hW.b 1 rfl).cv 1 _ rfl, (hW.b 1 rfl).cv 2 _ rfl, (hW.b 1 rfl).cv 3 _ rfl, (hW.b 1 rfl).cv 4 _ rfl, (hW.b 1 rfl).cv 5 _ rfl, (hW.b 1 rfl).cv 6 _ rfl, (hW.b 1 rfl).cv 7 _ rfl, (hW.b 1 rfl).cv 8 _ rfl, (hW.b 1 rfl).cv 9 _ rfl, (HB.out.t hW.bl).cv 14 _ rfl⟩
 replace HSP := Lib.hid (HSP.out.below (b0 _).drew)
 replace HBQ := Lib.hid (HBQ.out.below (b0 _).drew)
 have HF4 := Lib.hid (HG9.out.dr)
 refine wp_region_G G 5 (by kernel_rfl) HF4.out (fun hHeld => ?_)
 refine tkF (i := 0) (v := ?v2_15) rfl (Or.inl ⟨by rfl, ?hy2_15⟩) ?rest2_15
 case hy2_15 => (intro w hSw; (try dsimp only at hSw); go_simp; try with_reducible rfl)
 try simp only [gA, gB, gC, pN, pU, pL, pZ, pS]
 refine tkF (i := 1) (v := ?v2_16) rfl (Or.inl ⟨by rfl, ?hy2_16⟩) ?rest2_16
 case hy2_16 => (intro w hSw; (try dsimp only at hSw); go_simp; try with_reducible rfl)
 try simp only [gA, gB, gC, pN, pU, pL, pZ, pS]
 refine tkF (i := 2) (v := ?v2_17) rfl (Or.inl ⟨by rfl, ?hy2_17⟩) ?rest2_17
 case hy2_17 => (intro w hSw; (try dsimp only at hSw); go_simp; try with_reducible rfl)
 try simp only [gA, gB, gC, pN, pU, pL, pZ, pS]
 refine tkF (i := 3) (v := ?v2_18) rfl (Or.inl ⟨by rfl, ?hy2_18⟩) ?rest2_18
 case hy2_18 => (intro w hSw; (try dsimp only at hSw); go_simp; try with_reducible rfl)
 try simp only [gA, gB, gC, pN, pU, pL, pZ, pS]
 refine tkF (i := 4) (v := ?v2_19) rfl (Or.inl ⟨by rfl, ?hy2_19⟩) ?rest2_19
 case hy2_19 => (intro w hSw; (try dsimp only at hSw); go_simp; try with_reducible rfl)
 try simp only [gA, gB, gC, pN, pU, pL, pZ, pS]
 refine wpAnyE_late (i := 5) (by kernel_rfl) rfl (by decide) (fun Kx hK => ?_)
 go_simp
 go_at_call 123
 refine (KP.out _ A8 c8 B8 d8 HF4.out.bl (HSP.out.more (Nat.zero_le _))).mono ?_
 rintro e W11 ⟨rfl, ⟨Ay2, ⟨cy2, By2, dy2, hya⟩, hay⟩, hk11⟩
 have hyo := hYR.out.below HF4.out.bl
 have ty := Ty.one hyo.blk (by decide : mtB 156 = true)
 have HAW : Hid (Ay2 = Ay ∨ ∃ g, Ay2 = some ⟨g, 0, none⟩ ∧ w.heap.size ≤ g) := hay.imp id (fun ⟨g, h1, h2⟩ => ⟨g, h1, Nat.le_trans HF4.out.bl.size h2⟩)
 have HEP := Lib.hid ((HEM.out.below HF4.out.bl).year hk11 hya)
 have HYA := Lib.hid hya
 have HAY : Hid (∀ b, Ay2.map Addr.block = some b → b ≠ w.heap.size) := fun b hb => by
  rcases hay with rfl | ⟨g, rfl, hg⟩
  ·
   have := hYR.out.old b hb; omega
  ·
   have hb2 : g = b := Option.some.inj hb
   have h0 := (HF4.out.b 0 rfl).lt
   omega
 have HSPn := Lib.hid (HSP.out.fx ty hk11)
 have HBQn := Lib.hid (HBQ.out.fx ty hk11 (by have := HQ.out; have := HYP.out; omega))
 have HK11 := Lib.hid (HF4.out.actK hk11 HYP.out)
 clear HSP HBQ hya hay hk11 hyo ty KP HF4
 refine hK.out _ _ ?_
 clear hK Kx
 try simp only [gA, gB, gC, pN, pU, pL, pZ, pS]
 refine wpAnyE_late (i := 6) (by kernel_rfl) rfl (by decide) (fun Kx hK => ?_)
 go_simp
 refine hK.out _ _ ?_
 clear hK Kx
 try simp only [gA, gB, gC, pN, pU, pL, pZ, pS]
 refine wpAnyE_done (by kernel_rfl) ?_ _
 clear G hHeld
 try simp only [Exit.then]
 try simp only [gA, gB, gC, pN, pU, pL, pZ, pS]
 by_cases h0 : E4 = 0
 case neg =>
  have tr : (ytryE E.yr (Sp.mk sp (Bs.mk sc st ss) stx ssh srows snet stk spy) != 0) = true := by rw [← HYE.out]; simpa using h0
  have HE : Hid (re = ytryE E.yr (Sp.mk sp (Bs.mk sc st ss) stx ssh srows snet stk spy)) := H4.out.trans HYE.out
  have HN0 : Hid (re ≠ 0) := by unfold Hid; rw [H4.out]; exact h0
  have HV := HYN.out h0
  clear h0
  rw [HV] at HEP HYA
  clear HV
  have qz := HK11.out.b 0 rfl
  have c0_0 := qz.cv 0 (.int .i64 0) rfl
  have f0_0 := qz.free 0
  have c0_1 := qz.cv 1 (.int .i64 0) rfl
  have f0_1 := qz.free 1
  have c0_2 := qz.cv 2 (.int .i64 0) rfl
  have f0_2 := qz.free 2
  have c0_3 := qz.cv 3 (.int .i64 0) rfl
  have f0_3 := qz.free 3
  have c0_4 := qz.cv 4 (.int .i64 0) rfl
  have f0_4 := qz.free 4
  have c0_5 := qz.cv 5 (.int .i64 0) rfl
  have f0_5 := qz.free 5
  have c0_6 := qz.cv 6 (.slice none 0 0) rfl
  have f0_6 := qz.free 6
  have c0_7 := qz.cv 7 (.int .i64 0) rfl
  have f0_7 := qz.free 7
  have c0_8 := qz.cv 8 (.slice none 0 0) rfl
  have f0_8 := qz.free 8
  have c0_9 := qz.cv 9 (.int .i64 0) rfl
  have f0_9 := qz.free 9
  clear qz
  go_wp2_with fail
  have hg := HK11.out.ge 0 rfl
  have hgr := put10_gr W11 w.heap.size (.int .i64 0) (.int .i64 0) (.int .i64 0) (.int .i64 0) (.int .i64 0) (.int .i64 0) (.slice none 0 0) (.int .i64 0) (.slice none 0 0) (.int .i64 0)
  have hB0 := HK11.out.b 0 rfl
  have hkk := kp_put10 HK11.out.bl (Or.inl hg) (.int .i64 0) (.int .i64 0) (.int .i64 0) (.int .i64 0) (.int .i64 0) (.int .i64 0) (.slice none 0 0) (.int .i64 0) (.slice none 0 0) (.int .i64 0)
  have hkp : Kp w.heap.size (fx3 p y o) w _ := hkk.mono (fun g hg => Or.inr (Or.inl hg))
  have tyW : Ty (fun g => g = y) w := Ty.one hYR.out.blk (by decide)
  refine bodyPost_ret (v := .tuple #[.agg #[.int .i64 0, .int .i64 0, .int .i64 0, .int .i64 0, .int .i64 0, .int .i64 0, .slice none 0 0, .int .i64 0, .slice none 0 0, .int .i64 0], .int .i64 (ytryE E.yr (Sp.mk sp (Bs.mk sc st ss) stx ssh srows snet stk spy))]) (by simp [results, Tryz.results60, go_sem, c0_0, c0_1, c0_2, c0_3, c0_4, c0_5, c0_6, c0_7, c0_8, c0_9]) rfl ⟨⟨sp0, none, 0, 0, none, 0, 0, by rw [HE.out]; rfl, SlipV.err HN0.out⟩, ⟨li, o, ?_, Or.inl rfl⟩, hkp, fun _ => c13 HB.out (HB.out.kp hkk HB.out.lt HN1.out) rfl, fun h0 => absurd h0 HN0.out, hYR.out.slk (HYA.out.pt hB0 HAY.out hgr) HAW.out⟩
  rw [h2.out HN0.out]
  obtain ⟨K9, b1, b2⟩ := HEM.out.ex
  refine ⟨⟨K9, b1.kp hkk b1.lt HN1.out, b2.tb.fx tyW hkk, b2.gy.fx tyW hkk, own_fx b2.nx tyW hkk (by decide), b2.ins.fx tyW hkk, ⟨_, _, _, _, HYA.out.pt hB0 HAY.out hgr⟩, b2.bk.fx tyW hkk (fun he => HEM.out.diff.2.2 he.symm)⟩, HEM.out.lp, HEM.out.ly, HEM.out.lo', HEM.out.li'⟩
 have H5 : Hid (re = 0) := H4.out.trans h0
 have HV := Lib.hid (HYZ.out h0)
 have tr : ytryE E.yr (Sp.mk sp (Bs.mk sc st ss) stx ssh srows snet stk spy) = 0 := HYE.out.symm.trans h0
 rw [tr]
 clear H4 HYE HYN HYZ h0 tr
 go_wp2_with fail
 refine (KW.out _ _ HEP.out).mono ?_
 rintro e W12 ⟨⟨A12, c12, rfl, hin⟩, hb⟩
 obtain ⟨L12, x1, x2, ho12, x4⟩ := hin.ex
 obtain ⟨g12, rfl, hg12, x5⟩ := own_some ho12 (by omega)
 clear x5
 have HG12 : Hid (w.heap.size ≤ g12) := Nat.le_trans HK11.out.bl.size hg12
 have HIN := Lib.hid (hin.more (Nat.le_refl lo) HK11.out.bl.size)
 have HK12 := Lib.hid (HK11.out.ca hb)
 replace HYA := Lib.hid (HYA.out.below hb)
 have HSP := Lib.hid (HSPn.out.below hb)
 have HBQ := Lib.hid (HBQn.out.t hb)
 have HBK := Lib.hid (HB.out.kp HK12.out.bl HB.out.lt HN1.out)
 clear x1 x2 x4 hin ho12 hg12 hb HK11 HEP HSPn HBQn KW
 have p12 := HBK.out.cv 12 (.slice K.An nn K.cn) rfl
 have q12 := HBK.out.free 12
 have p13 := HBK.out.cv 13 (.slice K.Ai ni K.ci) rfl
 have q13 := HBK.out.free 13
 have p15 := HBK.out.cv 15 (.pointer (some ⟨o, 0, none⟩)) rfl
 have q15 := HBK.out.free 15
 go_upto_region 15 with fail
 clear p12 q12 p13 q13 p15 q15
 have hgr : W12.grownBy ((((W12).setCell ⟨p, 13, none⟩ (.slice (some ⟨g12, 0, none⟩) (ni + 1) c12)).setCell ⟨p, 12, none⟩ (.slice none 0 0)).setCell ⟨p, 15, none⟩ (.pointer (some ⟨q, 0, none⟩))) (some p) := ((grown_setJ W12 p 13 (.slice (some ⟨g12, 0, none⟩) (ni + 1) c12)).trans (grown_setJ _ p 12 (.slice none 0 0))).trans (grown_setJ _ p 15 (.pointer (some ⟨q, 0, none⟩)))
 have HBP : Hid (Blk ((((W12).setCell ⟨p, 13, none⟩ (.slice (some ⟨g12, 0, none⟩) (ni + 1) c12)).setCell ⟨p, 12, none⟩ (.slice none 0 0)).setCell ⟨p, 15, none⟩ (.pointer (some ⟨q, 0, none⟩))) p 154 #[.slice K.As ns K.cs, .slice K.Ac nc K.cc, .slice K.Ak nk K.ck, .int .i64 E.tb.lim, .int .i64 E.tb.rnd, .pointer (some ⟨K.gy, 0, none⟩), .int .i64 E.c.s, .int .i64 E.c.k, .int .i64 E.c.a, .int .i64 E.c.f, .bool E.c.al, .int .i64 E.prot, .slice none 0 0, .slice (some ⟨g12, 0, none⟩) (ni + 1) c12, .pointer (some ⟨y, 0, none⟩), .pointer (some ⟨q, 0, none⟩)]) := ((HBK.out.setJ 13 (.slice (some ⟨g12, 0, none⟩) (ni + 1) c12)).setJ 12 (.slice none 0 0)).setJ 15 (.pointer (some ⟨q, 0, none⟩))
 have ty := Ty.one HBK.out (by decide : mtB 154 = true)
 have kp : Kp W12.heap.size (fun g => g = p) W12 ((((W12).setCell ⟨p, 13, none⟩ (.slice (some ⟨g12, 0, none⟩) (ni + 1) c12)).setCell ⟨p, 12, none⟩ (.slice none 0 0)).setCell ⟨p, 15, none⟩ (.pointer (some ⟨q, 0, none⟩))) := Kp.grown hgr (Nat.le_refl _) (fun k hk => by injection hk with hk; exact Or.inr hk.symm)
 have HK13 : Hid (FrK (fun g => g = y ∨ g = p) w ((((W12).setCell ⟨p, 13, none⟩ (.slice (some ⟨g12, 0, none⟩) (ni + 1) c12)).setCell ⟨p, 12, none⟩ (.slice none 0 0)).setCell ⟨p, 15, none⟩ (.pointer (some ⟨q, 0, none⟩))) [(w.heap.size, 76, #[.int .i64 0, .int .i64 0, .int .i64 0, .int .i64 0, .int .i64 0, .int .i64 0, .slice none 0 0, .int .i64 0, .slice none 0 0, .int .i64 0]), (W1.heap.size, 76, #[.int .i64 sp, .int .i64 sc, .int .i64 st, .int .i64 ss, .int .i64 stx, .int .i64 ssh, .slice A8 srows.length c8, .int .i64 snet, .slice B8 stk.length d8, .int .i64 spy])]) := FrK.act (h := ⟨HK12.out.bl.mono (fun g hg => Or.inl hg), HK12.out.at', HK12.out.ne⟩) kp (fun g _ hg => Or.inr hg) (fun x hx => by obtain ⟨i, hi⟩ := List.getElem?_of_mem hx; have h1 := (HK12.out.at' i x hi).1; have h2 := HLT.out; show ¬ x.1 = p; omega)
 replace HYA := Lib.hid (HYA.out.fx ty kp (fun he => HN1.out he.symm))
 replace HIN := Lib.hid (HIN.out.fx ty kp)
 replace HSP := Lib.hid (HSP.out.fx ty kp)
 replace HBQ := Lib.hid (HBQ.out.fx ty kp (by have := HQ.out; have := HLT.out; omega))
 clear hgr ty kp HK12 HBK
 generalize hwn : (((W12).setCell ⟨p, 13, none⟩ (.slice (some ⟨g12, 0, none⟩) (ni + 1) c12)).setCell ⟨p, 12, none⟩ (.slice none 0 0)).setCell ⟨p, 15, none⟩ (.pointer (some ⟨q, 0, none⟩)) = v13 at *
 clear hwn
 have qz := HK13.out.b 0 rfl
 have c0_0 := qz.cv 0 (.int .i64 0) rfl
 have f0_0 := qz.free 0
 have c0_1 := qz.cv 1 (.int .i64 0) rfl
 have f0_1 := qz.free 1
 have c0_2 := qz.cv 2 (.int .i64 0) rfl
 have f0_2 := qz.free 2
 have c0_3 := qz.cv 3 (.int .i64 0) rfl
 have f0_3 := qz.free 3
 have c0_4 := qz.cv 4 (.int .i64 0) rfl
 have f0_4 := qz.free 4
 have c0_5 := qz.cv 5 (.int .i64 0) rfl
 have f0_5 := qz.free 5
 have c0_6 := qz.cv 6 (.slice none 0 0) rfl
 have f0_6 := qz.free 6
 have c0_7 := qz.cv 7 (.int .i64 0) rfl
 have f0_7 := qz.free 7
 have c0_8 := qz.cv 8 (.slice none 0 0) rfl
 have f0_8 := qz.free 8
 have c0_9 := qz.cv 9 (.int .i64 0) rfl
 have f0_9 := qz.free 9
 clear qz
 have qz := HK13.out.b 1 rfl
 have c1_0 := qz.cv 0 (.int .i64 sp) rfl
 have c1_1 := qz.cv 1 (.int .i64 sc) rfl
 have c1_2 := qz.cv 2 (.int .i64 st) rfl
 have c1_3 := qz.cv 3 (.int .i64 ss) rfl
 have c1_4 := qz.cv 4 (.int .i64 stx) rfl
 have c1_5 := qz.cv 5 (.int .i64 ssh) rfl
 have c1_6 := qz.cv 6 (.slice A8 srows.length c8) rfl
 have c1_7 := qz.cv 7 (.int .i64 snet) rfl
 have c1_8 := qz.cv 8 (.slice B8 stk.length d8) rfl
 have c1_9 := qz.cv 9 (.int .i64 spy) rfl
 clear qz
 go_wp2_with fail
 have hg := HK13.out.ge 0 rfl
 have hgr := put10_gr v13 w.heap.size (.int .i64 sp) (.int .i64 sc) (.int .i64 st) (.int .i64 ss) (.int .i64 stx) (.int .i64 ssh) (.slice A8 srows.length c8) (.int .i64 snet) (.slice B8 stk.length d8) (.int .i64 spy)
 have hB0 := HK13.out.b 0 rfl
 have hkk := kp_put10 HK13.out.bl (Or.inl hg) (.int .i64 sp) (.int .i64 sc) (.int .i64 st) (.int .i64 ss) (.int .i64 stx) (.int .i64 ssh) (.slice A8 srows.length c8) (.int .i64 snet) (.slice B8 stk.length d8) (.int .i64 spy)
 have hkp : Kp w.heap.size (fx3 p y o) w _ := hkk.mono (fun g hg => hg.elim (fun h => Or.inr (Or.inl h)) (fun h => Or.inl h))
 have tyW : Ty (fun g => g = y ∨ g = p) w := fun g hg _ => by
  rcases hg with rfl | rfl
  ·
   exact ⟨_, _, hYR.out.blk, by decide⟩
  ·
   exact ⟨_, _, HB.out, by decide⟩
 have hbp := HBP.out.grown hgr (by intro he; injection he with he; have := HLT.out; omega)
 refine bodyPost_ret (v := .tuple #[.agg #[.int .i64 sp, .int .i64 sc, .int .i64 st, .int .i64 ss, .int .i64 stx, .int .i64 ssh, .slice A8 srows.length c8, .int .i64 snet, .slice B8 stk.length d8, .int .i64 spy], .int .i64 0]) (by simp [results, Tryz.results60, go_sem, c0_0, c0_1, c0_2, c0_3, c0_4, c0_5, c0_6, c0_7, c0_8, c0_9]) rfl ⟨⟨(Sp.mk sp (Bs.mk sc st ss) stx ssh srows snet stk spy), A8, srows.length, c8, B8, stk.length, d8, by rw [H5.out], ⟨fun _ => ⟨rfl, rfl, rfl, ?_, ?_⟩, fun h0 => absurd H5.out h0⟩⟩, ⟨w.heap.size, q, ?_, Or.inr HQ.out⟩, hkp, fun h0 => absurd H5.out h0, fun _ => ⟨g12, ni + 1, c12, hbp.cv 13 _ rfl, HG12.out⟩, hYR.out.slk (HYA.out.pt hB0 HAY.out hgr) HAW.out⟩
 ·
  exact HSP.out.rows.kept hgr (Or.inr (own_blk HSP.out.rows hB0 (by decide)).symm)
 ·
  exact HSP.out.tk.kept hgr (Or.inr (own_blk HSP.out.tk hB0 (by decide)).symm)
 rw [h1.out H5.out, ← HV.out]
 obtain ⟨a1, a2, a3, a4, a5, a6⟩ := HRW.out
 refine ⟨⟨⟨K.As, K.cs, K.Ac, K.cc, K.Ak, K.ck, K.gy, none, 0, some ⟨g12, 0, none⟩, c12⟩, ?_, ⟨a1.fx tyW hkk, a2.fx tyW hkk, World.ownsRow_nil _ _ _ _, ?_, ⟨_, _, _, _, HYA.out.pt hB0 HAY.out hgr⟩, HBQ.out.grownB hB0 (by decide) (by decide) hgr⟩⟩, HEM.out.lp, HEM.out.ly, Nat.le_trans HLO.out HQ.out, HLO.out⟩
 ·
  unfold emC
  dsimp only
  rw [← HNS.out, ← HNC.out, ← HNK.out, HTI.out]
  exact hbp
 ·
  dsimp only
  rw [HTI.out]
  exact HIN.out.grown hB0 (by decide) (by decide) hgr
end Go.Proofs.YtmlphohnegmgkaaGreat
