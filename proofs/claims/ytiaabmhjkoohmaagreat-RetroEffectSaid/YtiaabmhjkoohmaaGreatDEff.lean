/-
 Contract of a desk's Effect. Conditions as named.
-/
import Derived.Test.YtiaabmhjkoohmaaGreatDBet
import Derived.Test.YtiaabmhjkoohmaaGreatM9
namespace Go.Proofs.YtiaabmhjkoohmaaGreat
set_option maxRecDepth 100000
set_option maxHeartbeats 25600000
set_option linter.unusedVariables false
set_option linter.unusedSimpArgs false
open Go.RowKit Tryz
open Lib (hid)
theorem put7_gr (W : World) (g : Nat) (v0 v1 v2 v3 v4 v5 v6 : Value) : W.grownBy (((((((W.setCell ⟨g, 0, none⟩ v0).setCell ⟨g, 1, none⟩ v1).setCell ⟨g, 2, none⟩ v2).setCell ⟨g, 3, none⟩ v3).setCell ⟨g, 4, none⟩ v4).setCell ⟨g, 5, none⟩ v5).setCell ⟨g, 6, none⟩ v6) (some g) := sg9 g [v0, v1, v2, v3, v4, v5, v6] W 0
theorem SlipV.fx' {X : Nat → Prop} {w w' : World} {base : Nat} {E : Int} {z Z : Sp} {A : Option Addr} {n c : Nat} {B : Option Addr} {m d : Nat} (h : SlipV w base E z Z A n c B m d) (ty : Ty X w) (hk : Kp w.heap.size X w w') : SlipV w' base E z Z A n c B m d :=
 ⟨fun h0 => ⟨(h.ok h0).1, (h.ok h0).2.1, (h.ok h0).2.2.1, own_fx (h.ok h0).2.2.2.1 ty hk (by decide), own_fx (h.ok h0).2.2.2.2 ty hk (by decide)⟩, h.no⟩
--%
theorem pd_effect {w0 W : World} {fq days : Int} {s : DkS} {D : Dk} (h : PD w0 fq days W s D) (k : Int) {A : Option Addr} {m c : Nat} {l : List El} (hl : ElSl W A m l) (hm : m ≤ 1000) (re : Int) (V : Ef) (he : Hid (re = effE D.e (nomI fq) (cntI fq days) k l)) (hV : Hid (V = effV D.e (nomI fq) k l)) :
  Calls prog 21 #[.pointer (some ⟨s.d, 0, none⟩), .int .i64 k, .slice A m c] W (BetR re V W) := by
 have hb0 := below1 W (.cells #[.int .i64 0, .int .i64 0, .int .i64 0, .int .i64 0, .int .i64 0, .slice none 0 0, .int .i64 0] 73)
 have hp := (h.below hb0)
 obtain ⟨c1, c2, hB⟩ := hp.desk
 obtain ⟨E1, hE1⟩ : ∃ E, E = tryE D.e (nomI fq) (cntI fq days) 0 := ⟨_, rfl⟩
 obtain ⟨z1, hz1⟩ : ∃ z, z = tryV D.e (nomI fq) 0 := ⟨_, rfl⟩
 obtain ⟨E2, hE2⟩ : ∃ E, E = replE D.e (nomI fq) (cntI fq days) k l := ⟨_, rfl⟩
 obtain ⟨D2, hp1, hp2⟩ := pickD E2 (replV D.e k l) D.e
 obtain ⟨E3, hE3⟩ : ∃ E, E = tryE (replV D.e k l) (nomI fq) (cntI fq days) 0 := ⟨_, rfl⟩
 obtain ⟨z3, hz3⟩ : ∃ z, z = tryV (replV D.e k l) (nomI fq) 0 := ⟨_, rfl⟩
 obtain ⟨E4, hE4⟩ : ∃ E, E = betE z1 z3 := ⟨_, rfl⟩
 have H1 : Hid (re = seqE E1 (seqE E2 (seqE E3 E4))) := he.out.trans (by unfold effE; rw [hE1, hE2, hE3, hE4, hz1, hz3])
 have HV : Hid (V = betV z1 z3) := hV.out.trans (by unfold effV; rw [hz1, hz3])
 have KT := hid (pe_try hp.pe 0 E1 z1 hE1 hz1)
 have HL := hid (hl.below hb0)
 have HPE := hid hp.pe
 have HDB := hid hB
 have HB0 := hid hb0
 have HR0 := hid (Blk.mk W 73 #[.int .i64 0, .int .i64 0, .int .i64 0, .int .i64 0, .int .i64 0, .slice none 0 0, .int .i64 0])
 have HP1 := hid hp1
 have HP2 := hid hp2
 have HE2 := hid hE2
 have HE3 := hid hE3
 have HZ3 := hid hz3
 have HE4 := hid hE4
 have HLN : Hid (E1 = 0 → z1.rows.length ≤ 20) := fun h0 => by
  rw [hE1] at h0
  obtain ⟨_, h3⟩ := sZ9 h0
  obtain ⟨_, h3⟩ := sZ9 h3
  obtain ⟨_, h3⟩ := sZ9 h3
  have h4 := chkY_len (ytryE_zero h3).1
  rw [← hz1] at h4
  have := h.ok.e.yn
  have := h.ok.e.tc
  omega
 have HLN3 : Hid (E2 = 0 → E3 = 0 → z3.rows.length ≤ 20) := fun h2 h0 => by
  have hok := h.ok.e.repl (hE2.symm.trans h2)
  rw [hE3] at h0
  obtain ⟨_, h3⟩ := sZ9 h0
  obtain ⟨_, h3⟩ := sZ9 h3
  obtain ⟨_, h3⟩ := sZ9 h3
  have h4 := chkY_len (ytryE_zero h3).1
  rw [← hz3] at h4
  have := hok.yn
  have := hok.tc
  omega
 have d0 := hB.cv 0 (.pointer (some ⟨s.p, 0, none⟩)) rfl
 unfold SlipE spC at KT
 unfold BetR efC ef0
 dsimp only
 clear he hV hE1 hz1 hE2 hp1 hp2 hE3 hz3 hE4 hB hp hb0 hl h
 go_enter func21, ntmps21
 go_wp2_with fail
 refine KT.out.mono ?_
 rintro e W1 ⟨⟨⟨zp, ⟨zc, zt, zs⟩, ztx, zsh, zrows, znet, ztk, zpy⟩, A7, n7, c7, B7, m7, d7, rfl, hq⟩, hb⟩
 clear d0 KT
 have HQ1 := hid ((hq.more HB0.out.size).below (below1 W1 (.cells #[.int .i64 zp, .int .i64 zc, .int .i64 zt, .int .i64 zs, .int .i64 ztx, .int .i64 zsh, .slice A7 n7 c7, .int .i64 znet, .slice B7 m7 d7, .int .i64 zpy] 45)))
 have hb1 := bT hb (below1 W1 (.cells #[.int .i64 zp, .int .i64 zc, .int .i64 zt, .int .i64 zs, .int .i64 ztx, .int .i64 zsh, .slice A7 n7 c7, .int .i64 znet, .slice B7 m7 d7, .int .i64 zpy] 45))
 have HG1 := hid (Blk.mk W1 45 #[.int .i64 zp, .int .i64 zc, .int .i64 zt, .int .i64 zs, .int .i64 ztx, .int .i64 zsh, .slice A7 n7 c7, .int .i64 znet, .slice B7 m7 d7, .int .i64 zpy])
 replace HR0 := hid (HR0.out.t hb1)
 replace HDB := hid (HDB.out.t hb1)
 replace HPE := hid (HPE.out.below hb1)
 replace HL := hid (HL.out.below hb1)
 replace HB0 := hid (bT HB0.out hb1)
 clear hb hb1 hq
 go_upto_region 2 with fail
 generalize hwn : W1.alloc (.cells #[.int .i64 zp, .int .i64 zc, .int .i64 zt, .int .i64 zs, .int .i64 ztx, .int .i64 zsh, .slice A7 n7 c7, .int .i64 znet, .slice B7 m7 d7, .int .i64 zpy] 45) = V1 at *
 clear hwn
 by_cases h0 : E1 = 0
 case neg =>
  have tr : (E1 != 0) = true := by simpa using h0
  have HE := hid (H1.out.trans (sN9 h0))
  obtain ⟨a0, a1, a2, a3, a4, a5, a6⟩ := (HR0.out).q7
  obtain ⟨bb0, bb1, bb2, bb3, bb4, bb5, bb6⟩ := (HR0.out).r7
  go_wp2_with fail
  have hbl := HB0.out.grown (put7_gr V1 W.heap.size (.int .i64 0) (.int .i64 0) (.int .i64 0) (.int .i64 0) (.int .i64 0) (.slice none 0 0) (.int .i64 0)) HB0.out.size (fun k hk => by injection hk with hk; omega)
  refine bodyPost_ret (v := .tuple #[.agg #[.int .i64 0, .int .i64 0, .int .i64 0, .int .i64 0, .int .i64 0, .slice none 0 0, .int .i64 0], .int .i64 E1]) (by simp [results, results21, go_sem, a0, a1, a2, a3, a4, a5, a6]) rfl ⟨Or.inr ⟨by rw [HE.out]; exact h0, by rw [HE.out]; rfl⟩, hbl⟩
 have H2 := hid (H1.out.trans (sE9 h0))
 replace HLN := hid (HLN.out h0)
 subst h0
 clear H1
 have dB := HDB.out.cv 0 (.pointer (some ⟨s.p, 0, none⟩)) rfl
 have KC := hid (pe_clone HPE.out)
 go_wp2_with fail
 refine KC.out.mono ?_
 rintro e W2 ⟨⟨q, y2, o2, rfl, hq⟩, hb⟩
 clear dB KC
 have HQ := hid hq
 have HV1 : Hid (W.heap.size ≤ V1.heap.size) := HB0.out.size
 replace HR0 := hid (HR0.out.t hb)
 replace HG1 := hid (HG1.out.t hb)
 replace HDB := hid (HDB.out.t hb)
 replace HQ1 := hid (HQ1.out.below hb)
 replace HL := hid (HL.out.below hb)
 replace HB0 := hid (bT HB0.out hb)
 clear hb hq
 have KR := hid (pe_repl (c := c) HQ.out k HL.out hm E2 D2 HE2 HP1 HP2)
 go_wp2_with fail
 refine KR.out.mono ?_
 rintro e W3 ⟨rfl, hp, hk, hs⟩
 clear KR hs
 have hbl := below_kp HB0.out hk (by obtain ⟨a1, a2, a3⟩ := HQ.out.ge; have := HV1.out; rintro g (rfl | rfl | rfl) <;> omega)
 replace HR0 := hid (HQ.out.blk hk HR0.out (by decide))
 replace HG1 := hid (HQ.out.blk hk HG1.out (by decide))
 replace HQ1 := hid (HQ1.out.fx' HQ.out.ty hk)
 have HP3 := hid hp
 replace HB0 := hid hbl
 clear hk hp hbl HL HQ HDB
 by_cases h0 : E2 = 0
 case neg =>
  have tr : (E2 != 0) = true := by simpa using h0
  have HE := hid (H2.out.trans (sN9 h0))
  obtain ⟨a0, a1, a2, a3, a4, a5, a6⟩ := (HR0.out).q7
  obtain ⟨bb0, bb1, bb2, bb3, bb4, bb5, bb6⟩ := (HR0.out).r7
  go_wp2_with fail
  have hbl := HB0.out.grown (put7_gr W3 W.heap.size (.int .i64 0) (.int .i64 0) (.int .i64 0) (.int .i64 0) (.int .i64 0) (.slice none 0 0) (.int .i64 0)) HB0.out.size (fun k hk => by injection hk with hk; omega)
  refine bodyPost_ret (v := .tuple #[.agg #[.int .i64 0, .int .i64 0, .int .i64 0, .int .i64 0, .int .i64 0, .slice none 0 0, .int .i64 0], .int .i64 E2]) (by simp [results, results21, go_sem, a0, a1, a2, a3, a4, a5, a6]) rfl ⟨Or.inr ⟨by rw [HE.out]; exact h0, by rw [HE.out]; rfl⟩, hbl⟩
 have H3 := hid (H2.out.trans (sE9 h0))
 have e9 := HP1.out h0
 replace HLN3 := hid (HLN3.out h0)
 subst h0
 subst e9
 clear H2 HE2 HP2
 have KT := hid (pe_try HP3.out 0 E3 z3 HE3 HZ3)
 unfold SlipE spC at KT
 go_wp2_with fail
 refine KT.out.mono ?_
 rintro e W4 ⟨⟨⟨xp, ⟨xc, xt, xs⟩, xtx, xsh, xrows, xnet, xtk, xpy⟩, A8, n8, c8, B8, m8, d8, rfl, hq⟩, hb⟩
 clear KT HE3 HZ3 HP3
 have HQ2 := hid ((hq.more HB0.out.size).below (below1 W4 (.cells #[.int .i64 xp, .int .i64 xc, .int .i64 xt, .int .i64 xs, .int .i64 xtx, .int .i64 xsh, .slice A8 n8 c8, .int .i64 xnet, .slice B8 m8 d8, .int .i64 xpy] 45)))
 have hb1 := bT hb (below1 W4 (.cells #[.int .i64 xp, .int .i64 xc, .int .i64 xt, .int .i64 xs, .int .i64 xtx, .int .i64 xsh, .slice A8 n8 c8, .int .i64 xnet, .slice B8 m8 d8, .int .i64 xpy] 45))
 have HG2 := hid (Blk.mk W4 45 #[.int .i64 xp, .int .i64 xc, .int .i64 xt, .int .i64 xs, .int .i64 xtx, .int .i64 xsh, .slice A8 n8 c8, .int .i64 xnet, .slice B8 m8 d8, .int .i64 xpy])
 replace HR0 := hid (HR0.out.t hb1)
 replace HG1 := hid (HG1.out.t hb1)
 replace HQ1 := hid (HQ1.out.below hb1)
 replace HB0 := hid (bT HB0.out hb1)
 clear hb hb1 hq
 go_upto_region 9 with fail
 generalize hwn : W4.alloc (.cells #[.int .i64 xp, .int .i64 xc, .int .i64 xt, .int .i64 xs, .int .i64 xtx, .int .i64 xsh, .slice A8 n8 c8, .int .i64 xnet, .slice B8 m8 d8, .int .i64 xpy] 45) = V4 at *
 clear hwn
 by_cases h0 : E3 = 0
 case neg =>
  have tr : (E3 != 0) = true := by simpa using h0
  have HE := hid (H3.out.trans (sN9 h0))
  obtain ⟨a0, a1, a2, a3, a4, a5, a6⟩ := (HR0.out).q7
  obtain ⟨bb0, bb1, bb2, bb3, bb4, bb5, bb6⟩ := (HR0.out).r7
  go_wp2_with fail
  have hbl := HB0.out.grown (put7_gr V4 W.heap.size (.int .i64 0) (.int .i64 0) (.int .i64 0) (.int .i64 0) (.int .i64 0) (.slice none 0 0) (.int .i64 0)) HB0.out.size (fun k hk => by injection hk with hk; omega)
  refine bodyPost_ret (v := .tuple #[.agg #[.int .i64 0, .int .i64 0, .int .i64 0, .int .i64 0, .int .i64 0, .slice none 0 0, .int .i64 0], .int .i64 E3]) (by simp [results, results21, go_sem, a0, a1, a2, a3, a4, a5, a6]) rfl ⟨Or.inr ⟨by rw [HE.out]; exact h0, by rw [HE.out]; rfl⟩, hbl⟩
 have H4 := hid (H3.out.trans (sE9 h0))
 replace HLN3 := hid (HLN3.out h0)
 subst h0
 clear H3
 obtain ⟨hZ1, hn1, hm1, ho1, ht1⟩ := HQ1.out.ok rfl
 obtain ⟨hZ2, hn2, hm2, ho2, ht2⟩ := HQ2.out.ok rfl
 have e1 : z1.rows = zrows := by rw [← hZ1]
 have e2 : z3.rows = xrows := by rw [← hZ2]
 have h91 := HLN.out
 have h92 := HLN3.out
 rw [e1] at ho1 hn1 h91
 rw [e2] at ho2 hn2 h92
 have hs1 : Sh9 V4 A7 n7 zrows := row_sh (ow9 sl9 ho1 hn1 (by omega) (by decide))
 have hs2 : Sh9 V4 A8 n8 xrows := row_sh (ow9 sl9 ho2 hn2 (by omega) (by decide))
 have KB := hid (between_c ⟨zp, ⟨zc, zt, zs⟩, ztx, zsh, zrows, znet, ztk, zpy⟩ ⟨xp, ⟨xc, xt, xs⟩, xtx, xsh, xrows, xnet, xtk, xpy⟩ A7 A8 B7 B8 n7 c7 n8 c8 m7 d7 m8 d8 V4 hs1 hs2 (by omega) E4 V (by rw [hZ1, hZ2]; exact HE4) (by rw [hZ1, hZ2]; exact HV))
 unfold BetR efC spC ef0 bs0 at KB
 dsimp only at KB
 clear hZ1 hn1 hm1 ho1 ht1 hZ2 hn2 hm2 ho2 ht2 e1 e2 h91 h92 hs1 hs2 HQ1 HQ2 HLN HLN3 HE4 HV
 have a0 := HG1.out.cv 0 (.int .i64 zp) rfl
 have dd0 := HG2.out.cv 0 (.int .i64 xp) rfl
 have a1 := HG1.out.cv 1 (.int .i64 zc) rfl
 have dd1 := HG2.out.cv 1 (.int .i64 xc) rfl
 have a2 := HG1.out.cv 2 (.int .i64 zt) rfl
 have dd2 := HG2.out.cv 2 (.int .i64 xt) rfl
 have a3 := HG1.out.cv 3 (.int .i64 zs) rfl
 have dd3 := HG2.out.cv 3 (.int .i64 xs) rfl
 have a4 := HG1.out.cv 4 (.int .i64 ztx) rfl
 have dd4 := HG2.out.cv 4 (.int .i64 xtx) rfl
 have a5 := HG1.out.cv 5 (.int .i64 zsh) rfl
 have dd5 := HG2.out.cv 5 (.int .i64 xsh) rfl
 have a6 := HG1.out.cv 6 (.slice A7 n7 c7) rfl
 have dd6 := HG2.out.cv 6 (.slice A8 n8 c8) rfl
 have a7 := HG1.out.cv 7 (.int .i64 znet) rfl
 have dd7 := HG2.out.cv 7 (.int .i64 xnet) rfl
 have a8 := HG1.out.cv 8 (.slice B7 m7 d7) rfl
 have dd8 := HG2.out.cv 8 (.slice B8 m8 d8) rfl
 have a9 := HG1.out.cv 9 (.int .i64 zpy) rfl
 have dd9 := HG2.out.cv 9 (.int .i64 xpy) rfl
 go_wp2_with fail
 refine KB.out.mono ?_
 rintro e W5 ⟨⟨h5, A', c', rfl, ho⟩ | ⟨h5, rfl⟩, hb⟩
 ·
  clear a0 dd0 a1 dd1 a2 dd2 a3 dd3 a4 dd4 a5 dd5 a6 dd6 a7 dd7 a8 dd8 a9 dd9
  have HRX := hid (HR0.out.t hb)
  have HBX := hid (bT HB0.out hb)
  have H5 := hid h5
  have HO := hid (oM9 ho HB0.out.size)
  clear ho
  clear hb h5 KB
  obtain ⟨a0, a1, a2, a3, a4, a5, a6⟩ := (HRX.out).q7
  obtain ⟨bb0, bb1, bb2, bb3, bb4, bb5, bb6⟩ := (HRX.out).r7
  go_wp2_with fail
  have hgr := put7_gr W5 W.heap.size (.int .i64 V.b.c) (.int .i64 V.b.t) (.int .i64 V.b.s) (.int .i64 V.tx) (.int .i64 V.sh) (.slice A' V.rows.length c') (.int .i64 V.net)
  have hbl := HBX.out.grown hgr HBX.out.size (fun k hk => by injection hk with hk; omega)
  refine bodyPost_ret (v := .tuple #[.agg #[.int .i64 V.b.c, .int .i64 V.b.t, .int .i64 V.b.s, .int .i64 V.tx, .int .i64 V.sh, .slice A' V.rows.length c', .int .i64 V.net], .int .i64 0]) (by simp [results, results21, go_sem, a0, a1, a2, a3, a4, a5, a6]) rfl ⟨Or.inl ⟨H4.out.trans H5.out, A', c', rfl, HO.out.kept hgr (Or.inr (own_blk HO.out HRX.out (by decide)).symm)⟩, hbl⟩
 ·
  clear a0 dd0 a1 dd1 a2 dd2 a3 dd3 a4 dd4 a5 dd5 a6 dd6 a7 dd7 a8 dd8 a9 dd9
  have HRX := hid (HR0.out.t hb)
  have HBX := hid (bT HB0.out hb)
  have H5 := hid h5
  clear hb h5 KB
  obtain ⟨a0, a1, a2, a3, a4, a5, a6⟩ := (HRX.out).q7
  obtain ⟨bb0, bb1, bb2, bb3, bb4, bb5, bb6⟩ := (HRX.out).r7
  go_wp2_with fail
  have hgr := put7_gr W5 W.heap.size (.int .i64 0) (.int .i64 0) (.int .i64 0) (.int .i64 0) (.int .i64 0) (.slice none 0 0) (.int .i64 0)
  have hbl := HBX.out.grown hgr HBX.out.size (fun k hk => by injection hk with hk; omega)
  refine bodyPost_ret (v := .tuple #[.agg #[.int .i64 0, .int .i64 0, .int .i64 0, .int .i64 0, .int .i64 0, .slice none 0 0, .int .i64 0], .int .i64 E4]) (by simp [results, results21, go_sem, a0, a1, a2, a3, a4, a5, a6]) rfl ⟨Or.inr ⟨by rw [H4.out]; exact H5.out, by rw [H4.out]; rfl⟩, hbl⟩
end Go.Proofs.YtiaabmhjkoohmaaGreat
