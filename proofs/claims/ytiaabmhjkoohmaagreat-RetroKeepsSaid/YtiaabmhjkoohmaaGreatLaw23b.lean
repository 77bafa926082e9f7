/-
 Layer 23: what was corrected is kept. Conditions as named.
-/
import Derived.Test.YtiaabmhjkoohmaaGreatM10
namespace Go.Proofs.YtiaabmhjkoohmaaGreat
set_option maxRecDepth 100000
set_option maxHeartbeats 25600000
set_option linter.unusedVariables false
set_option linter.unusedSimpArgs false
open Go.RowKit Tryz
open Lib (hid)
--%
theorem retroKeeps_walk (t : Tb) (As Ac Ak : Option Addr) (ns cs nc cc nk ck : Nat) (lim rnd : Int) (c : Cd) (w : World) (hs : ScSl w As ns t.sch) (hc : CtSl w Ac nc t.cts) (hcc : nc ≤ cc) (hkd : KdSl w Ak nk t.kds) (hck : nk ≤ ck) (hl : lim = t.lim) (hr : rnd = t.rnd) (hn : ns ≤ 9223372036854775807 ∧ nc ≤ 9223372036854775807 ∧ nk ≤ 9223372036854775807) (A : Option Addr) (n d : Nat) (ops : List OpP) (ho : OpSl w A n ops) :
  Calls prog 4 #[.agg #[.slice As ns cs, .slice Ac nc cc, .slice Ak nk ck, .int .i64 lim, .int .i64 rnd], .agg #[.int .i64 c.s, .int .i64 c.k, .int .i64 c.a, .int .i64 c.f, .bool c.al], .slice A n d] w fun e w' => e = .returned (.bool true) ∧ Below w.heap.size w w' := by
 have HF0 := hid (Fr.start w)
 have KB := hid (fun W (hW : Below w.heap.size w W) => begin23_c t As Ac Ak ns cs nc cc nk ck lim rnd c W (hs.below hW) (hc.below hW) hcc (hkd.below hW) hck hl hr hn)
 have HO := hid ho
 have hn9 := ho.1.2.1
 unfold BegR at KB
 clear hs hc hcc hkd hck hl hr hn ho
 have HF1 := al9 (((HF0.out.al 26 #[.slice As ns cs, .slice Ac nc cc, .slice Ak nk ck, .int .i64 lim, .int .i64 rnd]).al 28 #[.int .i64 c.s, .int .i64 c.k, .int .i64 c.a, .int .i64 c.f, .bool c.al]))
 clear HF0
 go_enter func4, ntmps4
 go_wp2_with fail
 refine (fixes_c _).mono ?_
 rintro e W1 ⟨rfl, hb⟩
 have HF2 := hid (HF1.out.ca hb)
 clear hb HF1
 obtain ⟨c0_0, c0_1, c0_2, c0_3, c0_4⟩ := (HF2.out.b 0 rfl).q5
 obtain ⟨c1_0, c1_1, c1_2, c1_3, c1_4⟩ := (HF2.out.b 1 rfl).q5
 go_wp2_with fail
 refine (KB.out _ HF2.out.bl).mono ?_
 rintro e W2 ⟨hbeg, hb⟩
 clear c0_0 c0_1 c0_2 c0_3 c0_4 c1_0 c1_1 c1_2 c1_3 c1_4
 have HBL : Hid (Below w.heap.size w W2) := (HF2.out.ca hb).bl
 have HBW0 : Hid (Below w.heap.size w W1) := HF2.out.bl
 clear KB hb HF2
 obtain ⟨gd, gp, gq, rfl, hp⟩ | rfl := hbeg
 case inr =>
  go_wp2_with fail
  refine bodyPost_ret (v := .bool true) (by simp [results, results4, go_sem]) rfl ⟨rfl, HBL.out⟩
 have HP0 := hid hp
 clear hp
 go_wp2_with fail
 refine (small23_c A n d ops W2 (HO.out.below HBL.out)).mono ?_
 rintro e W3 ⟨⟨r, rfl, hsm⟩, hb⟩
 have HB3 := hid (bT HBL.out hb)
 have HP3 := hid (HP0.out.below hb)
 clear hb HP0
 cases r
 case false =>
  go_wp2_with fail
  refine bodyPost_ret (v := .bool true) (by simp [results, results4, go_sem]) rfl ⟨rfl, HB3.out⟩
 obtain ⟨hn60, hm40⟩ := hsm rfl
 have HM40 := hid hm40
 clear hsm hm40
 go_wp2_with fail
 go_loopw [8, 9, 39] (fun a b i wr => ∃ (k : Nat) (A1 : Option Addr) (c1 : Nat) (A2 : Option Addr) (c2 : Nat) (D : Dk), k ≤ n ∧ i = .int .i64 k ∧ a = .slice A1 D.fx.length c1 ∧ b = .slice A2 D.fs.length c2 ∧ Hid (Woz W1 wr A1 D.fx.length c1 D.fx) ∧ Hid (∀ g, blkO A1 = some g → FxAt wr gd g) ∧ Hid (Foz W1.heap.size wr A2 D.fs.length c2 D.fs) ∧ Hid (PG W1 4 365 wr gd gp gq D) ∧ Hid (KeepOK D)) (fun _ _ i _ => n - (intOf i).toNat)
 case atStart => exact ⟨0, none, 0, none, 0, dnewV (newV t c), Nat.zero_le _, rfl, rfl, rfl, hid ⟨[], rfl, rfl, World.ownsRow_nil _ _ _ _, fun q hq => by cases hq⟩, hid (fun g hg => by cases hg), hid ⟨[], rfl, rfl, World.ownsRow_nil _ _ _ _, fun q hq => by cases hq⟩, HP3, hid (KeepOK.new _ _)⟩
 case round =>
  obtain ⟨k, A1, c1, A2, c2, D, hk', rfl, rfl, rfl, HW, HF, HR, HP, HI⟩ := hrel
  clear HP3 HBL HB3
  by_cases hk : k < n
  case pos =>
   have hO := HO.out.below (bT HBW0.out HP.out.bl)
   have hln := hO.1.1
   obtain ⟨b, off, rfl, hlt, hat⟩ := hO.1.2.2 (by omega)
   have hc := hat k hk
   have hel := HO.out.2 k (by omega)
   have h40 := HM40.out k hk
   generalize ops.getD k op0 = x at *
   obtain ⟨⟨zk, zl9, ⟨zs, zc, za, zf, zl⟩, zi, zp, zq, zr, zt, zn⟩, zA, zm, zd⟩ := x
   dsimp only at hel h40
   obtain ⟨x0, x1, x2, x3, x4, x5, x6, x7, x8, x9, x10, x11, x12⟩ : wr.cell? ⟨b, off + k * 13, none⟩ = some (.int .i64 zk) ∧ wr.cell? ⟨b, off + k * 13 + 1, none⟩ = some (.slice zA zm zd) ∧ wr.cell? ⟨b, off + k * 13 + 2, none⟩ = some (.int .i64 zs) ∧ wr.cell? ⟨b, off + k * 13 + 3, none⟩ = some (.int .i64 zc) ∧ wr.cell? ⟨b, off + k * 13 + 4, none⟩ = some (.int .i64 za) ∧ wr.cell? ⟨b, off + k * 13 + 5, none⟩ = some (.int .i64 zf) ∧ wr.cell? ⟨b, off + k * 13 + 6, none⟩ = some (.bool zl) ∧ wr.cell? ⟨b, off + k * 13 + 7, none⟩ = some (.int .i64 zi) ∧ wr.cell? ⟨b, off + k * 13 + 8, none⟩ = some (.int .i64 zp) ∧ wr.cell? ⟨b, off + k * 13 + 9, none⟩ = some (.int .i64 zq) ∧ wr.cell? ⟨b, off + k * 13 + 10, none⟩ = some (.int .i64 zr) ∧ wr.cell? ⟨b, off + k * 13 + 11, none⟩ = some (.int .i64 zt) ∧ wr.cell? ⟨b, off + k * 13 + 12, none⟩ = some (.int .i64 zn) := ⟨hc 0 _ rfl, hc 1 _ rfl, hc 2 _ rfl, hc 3 _ rfl, hc 4 _ rfl, hc 5 _ rfl, hc 6 _ rfl, hc 7 _ rfl, hc 8 _ rfl, hc 9 _ rfl, hc 10 _ rfl, hc 11 _ rfl, hc 12 _ rfl⟩
   have HEL : Hid (ElSl W1 zA zm zl9) := hel.below HBW0.out
   have HZM : Hid (zm ≤ 40) := h40
   have HK1 : Hid (k + 1 ≤ n) := hk
   clear hc hat hel h40 hO hln hk hk'
   have kk0 : (0 : Int) ≤ (k : Int) := by omega
   have kk1 : (k : Int) < (n : Int) := by have := HK1.out; omega
   have kk2 : ((k : Int)).toNat = k := by omega
   go_upto_region 11 with fail
   clear x0 x1 x2 x3 x4 x5 x6 x7 x8 x9 x10 x11 x12
   have hb1 := bz1 wr (.cells #[.int .i64 zk, .slice zA zm zd, .int .i64 zs, .int .i64 zc, .int .i64 za, .int .i64 zf, .bool zl, .int .i64 zi, .int .i64 zp, .int .i64 zq, .int .i64 zr, .int .i64 zt, .int .i64 zn] 39)
   have HOB := hid (Blk.mk wr 39 #[.int .i64 zk, .slice zA zm zd, .int .i64 zs, .int .i64 zc, .int .i64 za, .int .i64 zf, .bool zl, .int .i64 zi, .int .i64 zp, .int .i64 zq, .int .i64 zr, .int .i64 zt, .int .i64 zn])
   have HPa := hid (HP.out.below hb1)
   replace HW := hid (HW.out.below hb1)
   have HFa : Hid (∀ g, blkO A1 = some g → FxAt (wr.alloc (.cells #[.int .i64 zk, .slice zA zm zd, .int .i64 zs, .int .i64 zc, .int .i64 za, .int .i64 zf, .bool zl, .int .i64 zi, .int .i64 zp, .int .i64 zq, .int .i64 zr, .int .i64 zt, .int .i64 zn] 39)) gd g) := fun g hg => (HF.out g hg).same (hb1.cell (p := ⟨gd, 1, none⟩) HP.out.dlt)
   replace HR := hid (HR.out.below hb1)
   clear hb1 HP HF
   generalize hwn : wr.alloc (.cells #[.int .i64 zk, .slice zA zm zd, .int .i64 zs, .int .i64 zc, .int .i64 za, .int .i64 zf, .bool zl, .int .i64 zi, .int .i64 zp, .int .i64 zq, .int .i64 zr, .int .i64 zt, .int .i64 zn] 39) = V1 at *
   clear hwn
   obtain ⟨o3, hpe⟩ := HPa.out.pe
   have KN := pe_next hpe
   have d0 := HPa.out.desk
   unfold CloneV at KN
   clear hpe
   go_wp2_with fail
   refine KN.mono ?_
   rintro e V2 ⟨⟨An, cn, rfl, hon⟩, hb⟩
   clear KN d0
   have HON := hid (oM9 hon HPa.out.bl.size)
   have HPb := hid (HPa.out.below hb)
   replace HW := hid (HW.out.below hb)
   have HFb : Hid (∀ g, blkO A1 = some g → FxAt V2 gd g) := fun g hg => (HFa.out g hg).same (hb.cell (p := ⟨gd, 1, none⟩) HPa.out.dlt)
   replace HR := hid (HR.out.below hb)
   replace HOB := hid (HOB.out.t hb)
   clear hon hb HPa HFa
   obtain ⟨re, hre⟩ : ∃ r, r = doE D (nIz 4) (cntI 4 365) ⟨zk, zl9, ⟨zs, zc, za, zf, zl⟩, zi, zp, zq, zr, zt, zn⟩ := ⟨_, rfl⟩
   obtain ⟨z, hz⟩ : ∃ z, z = rSz D.e (nIz 4) := ⟨_, rfl⟩
   obtain ⟨D', hd1, hd2⟩ : ∃ D', (re = 0 → D' = doV D (nIz 4) ⟨zk, zl9, ⟨zs, zc, za, zf, zl⟩, zi, zp, zq, zr, zt, zn⟩) ∧ (re ≠ 0 → D' = D) := by
    by_cases h : re = 0
    ·
     exact ⟨_, fun _ => rfl, fun h2 => absurd h h2⟩
    ·
     exact ⟨_, fun h2 => absurd h2 h, fun _ => rfl⟩
   have HI2 : Hid (KeepOK D') := by
    by_cases h : re = 0
    ·
     rw [hd1 h]; exact HI.out.act HPb.out.ok _
    ·
     rw [hd2 h]; exact HI.out
   have HD1 := hid hd1
   have HD2 := hid hd2
   have HRE := hid hre
   have KD := hid (do23_c HPb.out ⟨⟨zk, zl9, ⟨zs, zc, za, zf, zl⟩, zi, zp, zq, zr, zt, zn⟩, zA, zm, zd⟩ HEL.out (by show zm ≤ 1000; have := HZM.out; omega) re z hre hz hd1 hd2)
   unfold DoR spC opC at KD
   dsimp only at KD
   have HOKd := hid HPb.out.ok
   clear hre hz hd1 hd2
   have qz := HOB.out
   have ob0 := qz.cv 0 (.int .i64 zk) rfl
   have ob1 := qz.cv 1 (.slice zA zm zd) rfl
   have ob2 := qz.cv 2 (.int .i64 zs) rfl
   have ob3 := qz.cv 3 (.int .i64 zc) rfl
   have ob4 := qz.cv 4 (.int .i64 za) rfl
   have ob5 := qz.cv 5 (.int .i64 zf) rfl
   have ob6 := qz.cv 6 (.bool zl) rfl
   have ob7 := qz.cv 7 (.int .i64 zi) rfl
   have ob8 := qz.cv 8 (.int .i64 zp) rfl
   have ob9 := qz.cv 9 (.int .i64 zq) rfl
   have ob10 := qz.cv 10 (.int .i64 zr) rfl
   have ob11 := qz.cv 11 (.int .i64 zt) rfl
   have ob12 := qz.cv 12 (.int .i64 zn) rfl
   clear qz
   go_wp2_with fail
   refine KD.out.mono ?_
   rintro e V3 ⟨⟨⟨sp, ⟨sc, st, ss⟩, stx, ssh, srows, snet, stk, spy⟩, A8, n8, c8, B8, m8, d8, rfl, _⟩, hp, hkd⟩
   clear KD ob0 ob1 ob2 ob3 ob4 ob5 ob6 ob7 ob8 ob9 ob10 ob11 ob12
   have hb := bz1 V3 (.cells #[.int .i64 sp, .int .i64 sc, .int .i64 st, .int .i64 ss, .int .i64 stx, .int .i64 ssh, .slice A8 n8 c8, .int .i64 snet, .slice B8 m8 d8, .int .i64 spy] 45)
   obtain ⟨hw3, hf3⟩ := HW.out.keep HFb.out hkd
   have HP4 := hid (hp.below hb)
   have HW4 := hid (hw3.below hb)
   have HF4 : Hid (∀ g, blkO A1 = some g → FxAt (V3.alloc (.cells #[.int .i64 sp, .int .i64 sc, .int .i64 st, .int .i64 ss, .int .i64 stx, .int .i64 ssh, .slice A8 n8 c8, .int .i64 snet, .slice B8 m8 d8, .int .i64 spy] 45)) gd g) := fun g hg => (hf3 g hg).same (hb.cell (p := ⟨gd, 1, none⟩) hp.dlt)
   have HR4 := hid ((HR.out.keep hkd).below hb)
   have HOB4 := hid ((hkd.blk HOB.out (by decide)).t hb)
   have HON4 := hid (oB9 (hkd.own HON.out (by decide)) hb)
   clear hb hw3 hf3 hp hkd HW HFb HR HOB HON HPb HI
   go_upto_region 13 with fail
   generalize hwn : V3.alloc (.cells #[.int .i64 sp, .int .i64 sc, .int .i64 st, .int .i64 ss, .int .i64 stx, .int .i64 ssh, .slice A8 n8 c8, .int .i64 snet, .slice B8 m8 d8, .int .i64 spy] 45) = V4 at *
   clear hwn
   have ob0 := HOB4.out.cv 0 (.int .i64 zk) rfl
   by_cases h0 : re = 0
   case neg =>
    have r0 : (re == 0) = false := by simpa using h0
    have e12 : D'.fx = D.fx ∧ D'.fs = D.fs := by rw [HD2.out h0]; exact ⟨rfl, rfl⟩
    clear h0
    obtain ⟨e1, e2⟩ := e12
    have HW5 : Hid (Woz W1 V4 A1 D'.fx.length c1 D'.fx) := by unfold Hid; rw [e1]; exact HW4.out
    have HR5 : Hid (Foz W1.heap.size V4 A2 D'.fs.length c2 D'.fs) := by unfold Hid; rw [e2]; exact HR4.out
    have ef : D.fx.length = D'.fx.length := by rw [e1]
    have es : D.fs.length = D'.fs.length := by rw [e2]
    have HEF := hid ef
    have HES := hid es
    clear e1 e2 ef es HW4 HR4 HD1 HD2 HRE
    go_wp2_with fail
    rw [HEF.out, HES.out]
    go_roundw
    case rel => exact ⟨k + 1, A1, c1, A2, c2, D', HK1.out, by go_num, rfl, rfl, HW5, HF4, HR5, HP4, HI2⟩
    case measure => have := HK1.out; simp [intOf]; omega
   have r0 : (re == 0) = true := by simpa using h0
   have hfs : D.fs.length ≤ 53 := by have h8 := HOKd.out.fs; have h9 := HOKd.out.e.ins53; omega
   have HFS := hid hfs
   have HSZ : Hid (W1.heap.size ≤ V4.heap.size) := HP4.out.bl.size
   by_cases k5 : zk = 5
   case pos =>
    have q5 : (zk == 5) = true := by simpa using k5
    obtain ⟨xs, hxs, happ⟩ := HR4.out.app
    have HXS := hid hxs
    have HAPP := hid happ
    have hD := (HD1.out h0).trans (doV_5 k5)
    have hfx : D'.fx.length = D.fx.length := by rw [hD]; rfl
    have hfs2 : D.fs.length + 1 = D'.fs.length := by rw [hD]; show _ = (D.fs ++ [_]).length; rw [List.length_append]; rfl
    have HD := hid hD
    have HX1 := hid hfx
    have HX2 := hid hfs2
    clear hxs happ hD hfx hfs2 hfs h0
    go_wp2_with (at_builtin; refine wpList_app1W _ rfl _ _ 59 rfl 35 _ 1 24 underlying59 info_els rfl (by decide) rfl HXS.out #[.slice An D.e.next.length cn] rfl (by first | rfl | simp) rfl (fun u hu => by simp at hu; subst hu; rfl) (by have := HFS.out; omega) (by have := HFS.out; omega) HSZ.out ?_; intro v' w6 ho' hg hw)
    obtain ⟨A6, c6, rfl⟩ := oL9 ho'
    replace hg : V4.grownBy w6 (blkO A2) := by rw [← bOz A2 D.fs.length c2]; exact hg
    obtain ⟨hPG, hce⟩ := HP4.out.elR HXS.out (Nat.le_refl _) hg
    have hr6 := HAPP.out w6 A6 c6 ⟨⟨D.e.c, D.e.next⟩, An, D.e.next.length, cn⟩ hg ho' rfl HON4.out
    have HR6 : Hid (Foz W1.heap.size w6 A6 D'.fs.length c6 D'.fs) := by unfold Hid; rw [← HX2.out, HD.out]; exact hr6
    have HW6 : Hid (Woz W1 w6 A1 D'.fx.length c1 D'.fx) := by unfold Hid; rw [HX1.out, HD.out]; exact HW4.out.kept HXS.out hg
    have HF6 : Hid (∀ g, blkO A1 = some g → FxAt w6 gd g) := fun g h => (HF4.out g h).same hce
    have HP6 := hid hPG
    clear hPG hce hr6 hg hw ho' HAPP HXS
    rw [HX2.out, ← HX1.out]
    go_roundw
    case rel => exact ⟨k + 1, A1, c1, A6, c6, D', HK1.out, by go_num, rfl, rfl, HW6, HF6, HR6, HP6, HI2⟩
    case measure => have := HK1.out; simp [intOf]; omega
   have q5 : (zk == 5) = false := by simpa using k5
   by_cases k6 : zk = 6
   case pos =>
    have q6 : (zk == 6) = true := by simpa using k6
    obtain ⟨xs, hxs, happ⟩ := HW4.out.app
    have HXS := hid hxs
    have HAPP := hid happ
    have hD := (HD1.out h0).trans (doV_6 k6)
    have hE := HRE.out.symm.trans h0
    rw [doE_6 k6] at hE
    obtain ⟨_, hE2⟩ := dfixE_zero hE
    obtain ⟨hkr, _⟩ := replE_zero hE2
    have hzn : zn = opK ⟨zk, zl9, ⟨zs, zc, za, zf, zl⟩, zi, zp, zq, zr, zt, zn⟩ := by
     have h8 := HOKd.out.e.ins53
     unfold opK at hkr ⊢
     dsimp only at hkr ⊢
     omega
    have hfs2 : D'.fs.length = D.fs.length := by rw [hD]; rfl
    have hfx : D.fx.length + 1 = D'.fx.length := by rw [hD]; show _ = (D.fx ++ [_]).length; rw [List.length_append]; rfl
    have hx56 := HOKd.out.fx
    have HD := hid hD
    have HX1 := hid hfx
    have HX2 := hid hfs2
    have HZN := hid hzn
    have HX5 := hid hx56
    clear hxs happ hD hfx hfs2 h0 hE hE2 hkr hzn hx56
    have ob1 := HOB4.out.cv 1 (.slice zA zm zd) rfl
    have ob12 := HOB4.out.cv 12 (.int .i64 zn) rfl
    have g8 : IntKind.i64.wrap (D.fs.length : Int) = (D.fs.length : Int) := IntWalk.i64_in _ (by omega)
    go_wp2_with (at_builtin; refine wpList_app1W _ rfl _ _ 52 rfl 62 _ 3 40 underlying52 info_fix rfl (by decide) rfl HXS.out #[.int .i64 zn, .slice zA zm zd, .int .i64 (D.fs.length : Int)] rfl (by first | rfl | simp) rfl (fxp_one (⟨⟨zn, zl9, D.fs.length⟩, zA, zm, zd⟩ : FxP)) (by have := HX5.out; omega) (by have := HX5.out; omega) HSZ.out ?_; intro v' w6 ho' hg hw)
    obtain ⟨A6, c6, rfl⟩ := oL9 ho'
    replace hw : blkO A6 = blkO A1 ∨ ∃ g, blkO A6 = some g ∧ V4.heap.size ≤ g := by rw [← bOz A6 (D.fx.length + 1) c6, ← bOz A1 D.fx.length c1]; exact hw
    replace hg : V4.grownBy w6 (blkO A1) := by rw [← bOz A1 D.fx.length c1]; exact hg
    obtain ⟨hPG, hce⟩ := HP4.out.fxR HXS.out (Nat.le_refl _) HF4.out hg
    have hr6 := HAPP.out w6 A6 c6 ⟨⟨zn, zl9, D.fs.length⟩, zA, zm, zd⟩ ho' HEL.out
    have HW6 : Hid (Woz W1 w6 A6 D'.fx.length c6 D'.fx) := by unfold Hid; rw [← HX1.out, HD.out]; show Woz W1 w6 A6 (D.fx.length + 1) c6 (D.fx ++ [⟨opK ⟨zk, zl9, ⟨zs, zc, za, zf, zl⟩, zi, zp, zq, zr, zt, zn⟩, zl9, D.fs.length⟩]); rw [← HZN.out]; exact hr6
    have HR6 : Hid (Foz W1.heap.size w6 A2 D'.fs.length c2 D'.fs) := by unfold Hid; rw [HX2.out, HD.out]; exact HR4.out.kept HXS.out hg
    have HF6 : Hid (∀ g, blkO A6 = some g → FxAt w6 gd g) := FxAt.app HF4.out (fun g h => HP4.out.fxAt h) hce hw
    have HP6 := hid hPG
    clear hPG hce hr6 hg hw ho' HAPP HXS
    rw [HX1.out, ← HX2.out]
    go_roundw
    case rel => exact ⟨k + 1, A6, c6, A2, c2, D', HK1.out, by go_num, rfl, rfl, HW6, HF6, HR6, HP6, HI2⟩
    case measure => have := HK1.out; simp [intOf]; omega
   have q6 : (zk == 6) = false := by simpa using k6
   have e12 : D'.fx = D.fx ∧ D'.fs = D.fs := by rw [HD1.out h0]; exact ⟨(doV_oth k5 k6).1, (doV_oth k5 k6).2.1⟩
   clear h0 k5 k6 hfs
   obtain ⟨e1, e2⟩ := e12
   have HW5 : Hid (Woz W1 V4 A1 D'.fx.length c1 D'.fx) := by unfold Hid; rw [e1]; exact HW4.out
   have HR5 : Hid (Foz W1.heap.size V4 A2 D'.fs.length c2 D'.fs) := by unfold Hid; rw [e2]; exact HR4.out
   have ef : D.fx.length = D'.fx.length := by rw [e1]
   have es : D.fs.length = D'.fs.length := by rw [e2]
   have HEF := hid ef
   have HES := hid es
   clear e1 e2 ef es HW4 HR4 HD1 HD2 HRE
   go_wp2_with fail
   rw [HEF.out, HES.out]
   go_roundw
   case rel => exact ⟨k + 1, A1, c1, A2, c2, D', HK1.out, by go_num, rfl, rfl, HW5, HF4, HR5, HP4, HI2⟩
   case measure => have := HK1.out; simp [intOf]; omega
  have HFL : Hid (D.fs.length ≤ 53) := by have h8 := HP.out.ok.fs; have h9 := HP.out.ok.e.ins53; unfold Hid; omega
  have HXL : Hid (D.fx.length ≤ 256) := HP.out.ok.fx
  have KF := pg_fixes HP.out
  unfold FxR at KF
  clear HF
  go_wp2_with fail
  refine KF.mono ?_
  clear KF
  rintro e V1 ⟨⟨A5, c5, rfl, ho5⟩, hb⟩
  clear hk hk'
  have HP1 := hid (HP.out.below hb)
  have HW1 := hid (HW.out.below hb)
  have HR1 := hid (HR.out.below hb)
  have HG1 := hid ho5
  have KX := pg_first HP1.out
  unfold InsR at KX
  clear ho5 hb HP HW HR
  have q9 : ((D.fx.length : Int) != (D.fx.length : Int)) = false := by simp
  have q8 : ((D.fs.length : Int) != (D.fs.length : Int)) = false := by simp
  go_wp2_with fail
  refine KX.mono ?_
  clear KX
  rintro e V2 ⟨⟨A6, c6, rfl, _⟩, hb⟩
  have HP2 := hid (HP1.out.below hb)
  have HW2 := hid (HW1.out.below hb)
  have hr2 := HR1.out.below hb
  have HG2 := hid (HG1.out.below hb)
  obtain ⟨L2, l1, l2, l3, l4⟩ := hr2.ex
  have HR2 := hid l3
  have HL2 := hid (⟨l1, l2, l4⟩ : _ ∧ _ ∧ _)
  have HSRC := hid (own_src (oB9 l3 (bz1 V2 (.cells #[] 35))))
  clear l1 l2 l3 l4 hr2 hb HP1 HW1 HR1 HG1
  go_wp2_with (at_builtin; refine wn9 _ rfl _ _ 59 rfl 35 _ 1 24 underlying59 info_els rfl (by decide) rfl (own_empty V2 35 1) A2 D.fs.length c2 _ rfl HSRC.out (es_one L2) (by have := HFL.out; omega) (by have := HFL.out; omega) (bz1 V2 _).size ?_; intro v' w6 ho' hg)
  obtain ⟨A9, c9, rfl⟩ := oL9 ho'
  have hb6 := below_app (bz1 V2 (.cells #[] 35)) (own_empty V2 35 1) hg (bz1 V2 (.cells #[] 35)).size (Nat.le_refl _)
  simp only [Nat.zero_add, List.nil_append] at ho' ⊢
  have HN6 := hid ho'
  have HB6 := hid hb6
  clear ho' hg hb6 HSRC q8 q9
  have HE2 : Hid (∀ q ∈ L2, ElSl V2 q.A q.n q.z.l) := fun q hq => el_row (HL2.out.2.2 q hq).2 (HL2.out.2.2 q hq).1
  go_loopw [105] (fun i wr => ∃ (j : Nat) (NL : List InP), j ≤ D.fx.length ∧ i = .int .i64 j ∧ Hid (NL.length = D.fs.length ∧ NL.map (fun q => q.z.l) = (D.fx.take j).foldl nowS (D.fs.map In.l)) ∧ Hid (wr.ownsRow V2.heap.size 35 1 (.slice A9 D.fs.length c9) D.fs.length (NL.flatMap esPC)) ∧ Hid (∀ q ∈ NL, ElSl V2 q.A q.n q.z.l) ∧ Hid (Below V2.heap.size V2 wr)) (fun i _ => D.fx.length - (intOf i).toNat)
  case atStart => exact ⟨0, L2, Nat.zero_le _, rfl, hid ⟨HL2.out.2.1.symm, by rw [← HL2.out.1, List.map_map]; rfl⟩, HN6, HE2, HB6⟩
  case round =>
   obtain ⟨j, NL, hj', rfl, HNL, HN, HE, HB⟩ := hrel
   clear HN6 HB6
   by_cases hj : j < D.fx.length
   case pos =>
    obtain ⟨bg, Ag, ng, cg, hA5, hlg, u0, u1, u2, elg⟩ := HG2.out.at j hj
    obtain ⟨bw, Aw, nw, cw, hA1, hlw, v0, v1, v2, elw⟩ := HW2.out.at j hj
    obtain ⟨⟨hk1, hk2⟩, hk3, _⟩ := HP2.out.ok.each _ (gez' fx0 hj)
    subst hA5
    subst hA1
    obtain ⟨f, hf⟩ : ∃ f, f = D.fx.getD j fx0 := ⟨_, rfl⟩
    rw [← hf] at u0 u2 v0 v2 elg elw hk1 hk2 hk3
    have HFE := hid hf.symm
    clear hf
    obtain ⟨fk, fl, fa⟩ := f
    dsimp only at u0 u2 v0 v2 elg elw hk1 hk2 hk3
    obtain ⟨kn, rfl⟩ : ∃ kn : Nat, fk = (kn : Int) + 1 := ⟨(fk - 1).toNat, by omega⟩
    have hkn : kn < D.fs.length := by omega
    have HKN := hid hkn
    have HELG := hid elg
    have HELW := hid (elw.below HP2.out.bl)
    have HJ : Hid (j + 1 ≤ D.fx.length) := hj
    have g0 := (HB.out.cell (p := ⟨bg, _, none⟩) hlg).trans u0
    have g1 := (HB.out.cell (p := ⟨bg, _, none⟩) hlg).trans u1
    have g2 := (HB.out.cell (p := ⟨bg, _, none⟩) hlg).trans u2
    have h0 := (HB.out.cell (p := ⟨bw, _, none⟩) hlw).trans v0
    have h1 := (HB.out.cell (p := ⟨bw, _, none⟩) hlw).trans v1
    have h2 := (HB.out.cell (p := ⟨bw, _, none⟩) hlw).trans v2
    have j0 : (0 : Int) ≤ (j : Int) := by omega
    have j1 : (j : Int) < (D.fx.length : Int) := by omega
    have j2 : ((j : Int)).toNat = j := by omega
    clear u0 u1 u2 v0 v1 v2 elg elw hk1 hk2 hk3 hj hj' hkn
    go_upto_region 25 with fail
    have hFB := Blk.mk wr 62 #[.int .i64 ((kn : Int) + 1), .slice Ag ng cg, .int .i64 fa]
    have G : Hid (∀ X, Below (wr.alloc (.cells #[.int .i64 ((kn : Int) + 1), .slice Ag ng cg, .int .i64 fa] 62)).heap.size (wr.alloc (.cells #[.int .i64 ((kn : Int) + 1), .slice Ag ng cg, .int .i64 fa] 62)) X → X.cell? ⟨wr.heap.size, 0, none⟩ = some (.int .i64 ((kn : Int) + 1)) ∧ X.cell? ⟨wr.heap.size, 1, none⟩ = some (.slice Ag ng cg) ∧ X.cell? ⟨wr.heap.size, 2, none⟩ = some (.int .i64 fa) ∧ X.cell? ⟨bw, j * 3, none⟩ = some (.int .i64 ((kn : Int) + 1)) ∧ X.cell? ⟨bw, j * 3 + 1, none⟩ = some (.slice Aw nw cw) ∧ X.cell? ⟨bw, j * 3 + 2, none⟩ = some (.int .i64 fa)) := fun X hX => by
     have hX0 := bT (bz1 wr (.cells #[.int .i64 ((kn : Int) + 1), .slice Ag ng cg, .int .i64 fa] 62)) hX
     exact ⟨(hFB.t hX).cv 0 _ rfl, (hFB.t hX).cv 1 _ rfl, (hFB.t hX).cv 2 _ rfl, (hX0.cell (p := ⟨bw, _, none⟩) (Nat.lt_of_lt_of_le hlw HB.out.size)).trans h0, (hX0.cell (p := ⟨bw, _, none⟩) (Nat.lt_of_lt_of_le hlw HB.out.size)).trans h1, (hX0.cell (p := ⟨bw, _, none⟩) (Nat.lt_of_lt_of_le hlw HB.out.size)).trans h2⟩
    have HBN := hid (bT HB.out (bz1 wr (.cells #[.int .i64 ((kn : Int) + 1), .slice Ag ng cg, .int .i64 fa] 62)))
    have HNN := hid (oB9 HN.out (bz1 wr (.cells #[.int .i64 ((kn : Int) + 1), .slice Ag ng cg, .int .i64 fa] 62)))
    have HFB := hid hFB
    clear hFB g0 g1 g2 h0 h1 h2 hlg hlw HB HN
    generalize hwn : wr.alloc (.cells #[.int .i64 ((kn : Int) + 1), .slice Ag ng cg, .int .i64 fa] 62) = V10 at *
    clear hwn
    refine wG9 G 28 (by kernel_rfl) (b0 V10).drew (fun hH9 => ?_)
    refine tkG 0 (h := ?_)
    refine tkG 1 (h := ?_)
    refine tkG 2 (h := ?_)
    refine tkG 3 (h := ?_)
    refine tkG 4 (h := ?_)
    refine tkG 5 (h := ?_)
    refine tkG 6 (h := ?_)
    refine tkG 7 (h := ?_)
    refine tkG 8 (h := ?_)
    refine tkG 9 (h := ?_)
    refine tkG 10 (h := ?_)
    refine tkG 11 (h := ?_)
    refine tkG 12 (h := ?_)
    refine tkG 13 (h := ?_)
    refine tkG 14 (h := ?_)
    refine tkG 15 (h := ?_)
    refine tkG 16 (h := ?_)
    refine tkG 17 (h := ?_)
    refine tkG 18 (h := ?_)
    refine tkG 19 (h := ?_)
    refine tkG 20 (h := ?_)
    refine tkG 21 (h := ?_)
    refine tkG 22 (h := ?_)
    refine tkG 23 (h := ?_)
    refine tkG 24 (h := ?_)
    refine tkG 25 (h := ?_)
    refine tkO 26 (h := fun K hK => ?_)
    go_simp
    go_at_call 17
    refine (esame_c Ag Aw ng cg nw cw fl fl V10.drew (HELG.out.below (bT HBN.out (b0 V10).drew)) (HELW.out.below (bT HBN.out (b0 V10).drew)) true (hid (sameB_self fl).symm)).mono ?_
    rintro e V11 ⟨rfl, hb⟩
    have HB11 : Below V10.heap.size V10 V11 := bT (b0 V10).drew hb
    refine shG hK (G.out _ HB11) (h := fun hH9 => ?_)
    clear hK K
    refine tkG 27 (h := ?_)
    refine wL9 (i := 28) (by kernel_rfl) rfl (by decide) (fun K hK => ?_)
    go_simp
    refine hK.out _ _ (wD9 (by kernel_rfl) ?_ _)
    clear hK K
    clear hH9
    try simp only [Exit.then]
    obtain ⟨f0, f1, f2, _⟩ := G.out _ HB11
    have HBO := hid (bT HBN.out HB11)
    have hn11 := oB9 HNN.out HB11
    obtain ⟨b9, hA9, hb9, hl9, e9, fr9⟩ := es_at hn11 HNL.out.1.symm kn HKN.out
    subst hA9
    have HN11 := hid hn11
    have kk0 : (0 : Int) ≤ (kn : Int) := by omega
    have kk1 : (kn : Int) < (D.fs.length : Int) := by have := HKN.out; omega
    have kk2 : ((kn : Int)).toNat = kn := by omega
    have hx256 : D.fx.length ≤ 256 := HXL.out
    have hj1 : j + 1 ≤ D.fx.length := HJ.out
    have g1 : IntKind.i64.wrap (kn : Int) = (kn : Int) := IntWalk.i64_in _ (by have := HKN.out; have := HFL.out; omega)
    have g2 : wrap64 (kn : Int) = (kn : Int) := IntWalk.wrap64_in _ (by have := HKN.out; have := HFL.out; omega)
    clear G hb HB11 hn11 HBN HNN HFB HELW
    go_wp2_with fail
    clear g1 g2 f0 f1 f2 e9 fr9 hl9
    go_roundw
    case rel =>
     obtain ⟨n1, n2⟩ := now_put (kn := kn) (q := ⟨⟨cd0, fl⟩, Ag, ng, cg⟩) HNL.out.1 HNL.out.2 HJ.out HFE.out rfl rfl
     exact ⟨j + 1, NL.set kn ⟨⟨cd0, fl⟩, Ag, ng, cg⟩, HJ.out, by go_num, hid ⟨n1, n2⟩, hid (es_put HN11.out HNL.out.1 HKN.out ⟨⟨cd0, fl⟩, Ag, ng, cg⟩), hid (mem_set_or HE.out HELG.out), hid (bS HBO.out (p := ⟨b9, kn, none⟩) hb9 _)⟩
    case measure =>
     have e1 : (intOf (.int .i64 (j : Int))).toNat = j := by simp [intOf]
     have e2 : (intOf (.int .i64 ((j : Int) + 1))).toNat = j + 1 := by simp [intOf]
     rw [e1, e2]
     omega
   have hnow : NL.map (fun q => q.z.l) = D.e.ins.map In.l := by
    rw [HNL.out.2, show j = D.fx.length by omega, List.take_length]
    exact HI.out.now.symm
   have HNW := hid hnow
   have HPt := hid (HP2.out.below HB.out)
   obtain ⟨o3, hpe⟩ := HPt.out.pe
   have KI := pe_inputs hpe
   have d0 := HPt.out.desk
   unfold InsR at KI
   clear hnow hpe
   go_wp2_with fail
   refine KI.mono ?_
   clear KI d0
   rintro e V12 ⟨⟨A7, c7, rfl, ho7⟩, hb⟩
   clear hj hj'
   have hb12 := bT HB.out hb
   have HPv := hid (HPt.out.below hb)
   have HNv := hid (oB9 HN.out hb)
   have HRv := hid (oB9 HR2.out hb12)
   have HGv := hid ho7
   have HEv : Hid (∀ q ∈ NL, ElSl V12 q.A q.n q.z.l) := fun q hq => (HE.out q hq).below hb12
   have HE2v : Hid (∀ q ∈ L2, ElSl V12 q.A q.n q.z.l) := fun q hq => (HE2.out q hq).below hb12
   have HLS : Hid (NL.length = D.fs.length ∧ D.fs.length = D.e.ins.length ∧ D.fs.length ≤ 53) := ⟨HNL.out.1, HPt.out.ok.fs, HFL.out⟩
   clear hb12 hb ho7 HP2 HPt HW2 HG2 HN HR2 HE HE2 HB HNL HI HXL HFL
   go_wp2_with fail
   go_loopw [153] (fun i wr => ∃ j : Nat, j ≤ D.e.ins.length ∧ i = .int .i64 j ∧ Hid (Below V12.heap.size V12 wr)) (fun i _ => D.e.ins.length - (intOf i).toNat)
   case atStart => exact ⟨0, Nat.zero_le _, rfl, hid (b0 V12)⟩
   case round =>
    obtain ⟨j, hj', rfl, HBL⟩ := hrel
    by_cases hj : j < D.e.ins.length
    case pos =>
     have hls := HLS.out
     obtain ⟨bi, Ai, ni, ci, hA7, hli, u0, u1, u2, u3, u4, u5, eli⟩ := HGv.out.at j hj
     obtain ⟨b9, hA9, hb9, hl9, e9, _⟩ := es_at HNv.out hls.1.symm j (by omega)
     obtain ⟨b2, hA2, hb2, hl2, e2, _⟩ := es_at HRv.out HL2.out.2.1 j (by omega)
     have hq9 : (NL.getD j inp0).z.l = (D.e.ins.getD j in0).l := map_at HNW.out j (by omega)
     have hq2 : (L2.getD j inp0).z.l = (D.fs.getD j in0).l := by
      have hl9 : j < L2.length := by rw [← HL2.out.2.1]; omega
      rw [← HL2.out.1]
      exact (congrArg In.l (gmz' InP.z L2 j inp0 hl9)).symm
     have ev9 := HEv.out _ (gez' inp0 (l := NL) (k := j) (by omega))
     have ev2 := HE2v.out _ (gez' inp0 (l := L2) (k := j) (by rw [← HL2.out.2.1]; omega))
     rw [hq9] at ev9
     rw [hq2] at ev2
     subst hA7
     subst hA9
     subst hA2
     have HJ : Hid (j + 1 ≤ D.e.ins.length) := hj
     have HJF : Hid (j < D.fs.length) := (by omega : j < D.fs.length)
     generalize NL.getD j inp0 = q9 at *
     generalize L2.getD j inp0 = q2 at *
     obtain ⟨z9, B9, n9, k9⟩ := q9
     obtain ⟨z2, B2, n2, k2⟩ := q2
     obtain ⟨li, hli2⟩ : ∃ l, l = (D.e.ins.getD j in0).l := ⟨_, rfl⟩
     obtain ⟨lf, hlf⟩ : ∃ l, l = (D.fs.getD j in0).l := ⟨_, rfl⟩
     obtain ⟨cc9, hcc9⟩ : ∃ l, l = (D.e.ins.getD j in0).c := ⟨_, rfl⟩
     rw [← hli2] at eli ev9
     rw [← hlf] at ev2
     rw [← hcc9] at u0 u1 u2 u3 u4
     obtain ⟨is1, ik1, ia1, if1, il1⟩ := cc9
     dsimp only at u0 u1 u2 u3 u4 e9 e2 ev9 ev2
     have HLF := hid hlf
     have HELI := hid eli
     have HEV9 := hid ev9
     have HEV2 := hid ev2
     have j0 : (0 : Int) ≤ (j : Int) := by omega
     have j1 : (j : Int) < (D.e.ins.length : Int) := by omega
     have j2 : ((j : Int)).toNat = j := by omega
     have j3 : (j : Int) < (D.fs.length : Int) := by omega
     have hj1 : j + 1 ≤ D.e.ins.length := hj
     have hi53 : D.e.ins.length ≤ 53 := by omega
     clear hq9 hq2 hli2 hlf hcc9 eli ev9 ev2 hls hj hj'
     have g0 := (HBL.out.cell (p := ⟨bi, _, none⟩) hli).trans u0
     have g1 := (HBL.out.cell (p := ⟨bi, _, none⟩) hli).trans u1
     have g2 := (HBL.out.cell (p := ⟨bi, _, none⟩) hli).trans u2
     have g3 := (HBL.out.cell (p := ⟨bi, _, none⟩) hli).trans u3
     have g4 := (HBL.out.cell (p := ⟨bi, _, none⟩) hli).trans u4
     have g5 := (HBL.out.cell (p := ⟨bi, _, none⟩) hli).trans u5
     clear u0 u1 u2 u3 u4 u5
     go_upto_region 32 with fail
     have hIB := Blk.mk wr 67 #[.int .i64 is1, .int .i64 ik1, .int .i64 ia1, .int .i64 if1, .bool il1, .slice Ai ni ci]
     have G : Hid (∀ X, Below (wr.alloc (.cells #[.int .i64 is1, .int .i64 ik1, .int .i64 ia1, .int .i64 if1, .bool il1, .slice Ai ni ci] 67)).heap.size (wr.alloc (.cells #[.int .i64 is1, .int .i64 ik1, .int .i64 ia1, .int .i64 if1, .bool il1, .slice Ai ni ci] 67)) X → X.cell? ⟨wr.heap.size, 5, none⟩ = some (.slice Ai ni ci) ∧ X.cell? ⟨b9, j, none⟩ = some (.slice B9 n9 k9) ∧ X.cell? ⟨b2, j, none⟩ = some (.slice B2 n2 k2)) := fun X hX => by
      have hX0 := bT (bz1 wr (.cells #[.int .i64 is1, .int .i64 ik1, .int .i64 ia1, .int .i64 if1, .bool il1, .slice Ai ni ci] 67)) hX
      exact ⟨(hIB.t hX).cv 5 _ rfl, ((bT HBL.out hX0).cell (p := ⟨b9, _, none⟩) hl9).trans e9, ((bT HBL.out hX0).cell (p := ⟨b2, _, none⟩) hl2).trans e2⟩
     have HBN := hid (bT HBL.out (bz1 wr (.cells #[.int .i64 is1, .int .i64 ik1, .int .i64 ia1, .int .i64 if1, .bool il1, .slice Ai ni ci] 67)))
     clear hIB g0 g1 g2 g3 g4 g5 hli hl9 hl2 e9 e2 hb9 hb2 HBL
     generalize hwn : wr.alloc (.cells #[.int .i64 is1, .int .i64 ik1, .int .i64 ia1, .int .i64 if1, .bool il1, .slice Ai ni ci] 67) = V14 at *
     clear hwn
     refine wG9 G 21 (by kernel_rfl) (b0 V14).drew (fun hH9 => ?_)
     refine tkG 0 (h := ?_)
     refine tkG 1 (h := ?_)
     refine tkG 2 (h := ?_)
     refine tkG 3 (h := ?_)
     refine tkG 4 (h := ?_)
     refine tkG 5 (h := ?_)
     refine tkO 6 (h := fun K hK => ?_)
     go_simp
     go_at_call 17
     refine (esame_c Ai B9 ni ci n9 k9 li li V14.drew (HELI.out.below (bT HBN.out (b0 V14).drew)) (HEV9.out.below (bT HBN.out (b0 V14).drew)) true (hid (sameB_self li).symm)).mono ?_
     rintro e V15 ⟨rfl, hb⟩
     have HB15 : Below V14.heap.size V14 V15 := bT (b0 V14).drew hb
     refine shG hK (G.out _ HB15) (h := fun hH9 => ?_)
     clear hK K
     refine tkG 7 (h := ?_)
     refine tkG 8 (h := ?_)
     refine tkG 9 (h := ?_)
     refine tkG 11 (h := ?_)
     refine tkG 15 (h := ?_)
     refine tkG 16 (h := ?_)
     refine tkG 17 (h := ?_)
     refine tkG 18 (h := ?_)
     refine tkO 10 (h := fun K hK => ?_)
     go_simp
     go_at_call 16
     have KX := pg_first (HPv.out.below (bT HBN.out HB15))
     unfold InsR at KX
     refine KX.mono ?_
     clear KX
     rintro e V16 ⟨⟨A16, c16, rfl, ho16⟩, hb⟩
     have HB16 : Below V14.heap.size V14 V16 := bT HB15 hb
     obtain ⟨b16, A17, n17, c17, hA16, hl16, _, _, _, _, _, x5, el17⟩ := ho16.at j HJF.out
     subst hA16
     rw [← HLF.out] at el17
     have HEL17 := hid el17
     clear ho16 el17
     refine shG hK (G.out _ HB16) (h := fun hH9 => ?_)
     clear hK K
     refine wpAnyE_mono (S' := fun X => (X.cell? ⟨wr.heap.size, 5, none⟩ = some (.slice Ai ni ci) ∧ X.cell? ⟨b9, j, none⟩ = some (.slice B9 n9 k9) ∧ X.cell? ⟨b2, j, none⟩ = some (.slice B2 n2 k2)) ∧ X.cell? ⟨b16, j * 6 + 5, none⟩ = some (.slice A17 n17 c17)) (fun _ h => h.1) _ _ _ _ ?_
     replace hH9 := And.intro hH9 x5
     refine tkG 12 (h := ?_)
     refine tkG 13 (h := ?_)
     refine tkG 14 (h := ?_)
     refine tkO 19 (h := fun K hK => ?_)
     go_simp
     go_at_call 17
     refine (esame_c A17 B2 n17 c17 n2 k2 lf lf V16 HEL17.out (HEV2.out.below (bT HBN.out HB16)) true (hid (sameB_self lf).symm)).mono ?_
     rintro e V17 ⟨rfl, hb⟩
     have HB17 : Below V14.heap.size V14 V17 := bT HB16 hb
     refine shG hK (⟨G.out _ HB17, (hb.cell (p := ⟨b16, _, none⟩) hl16).trans x5⟩) (h := fun hH9 => ?_)
     clear hK K
     refine tkG 20 (h := ?_)
     refine wL9 (i := 21) (by kernel_rfl) rfl (by decide) (fun K hK => ?_)
     go_simp
     refine hK.out _ _ (wD9 (by kernel_rfl) ?_ _)
     clear hK K
     clear G hH9
     try simp only [Exit.then]
     have HBD := hid (bT HBN.out HB17)
     clear HB17 hb
     go_wp2_with fail
     go_roundw
     case rel => exact ⟨j + 1, HJ.out, by go_num, HBD⟩
     case measure =>
      have e1 : (intOf (.int .i64 (j : Int))).toNat = j := by simp [intOf]
      have e2 : (intOf (.int .i64 ((j : Int) + 1))).toNat = j + 1 := by simp [intOf]
      rw [e1, e2]
      omega
    have HPw := hid (HPv.out.below HBL.out)
    have hf53 : D.fs.length ≤ 53 := HLS.out.2.2
    have KA := pg_as HPw.out ((D.fs.length : Int) + 1) 230 (hid (by unfold asE; rw [if_pos (Or.inr (by omega))]))
    unfold AsR at KA
    have g1 : IntKind.i64.wrap ((D.fs.length : Int) + 1) = (D.fs.length : Int) + 1 := IntWalk.i64_in _ (by omega)
    go_wp2_with fail
    refine KA.mono ?_
    clear KA g1
    rintro e V20 ⟨⟨hx, _⟩ | ⟨_, rfl⟩, hb⟩
    case inl => exact absurd hx (by decide)
    have HPx := hid (HPw.out.below hb)
    have KA := pg_as HPx.out (-1) 230 (hid (by unfold asE; rw [if_pos (Or.inl (by decide))]))
    unfold AsR at KA
    clear hb HPw hj hj'
    go_wp2_with fail
    refine KA.mono ?_
    clear KA
    rintro e V21 ⟨⟨hx, _⟩ | ⟨_, rfl⟩, hb⟩
    case inl => exact absurd hx (by decide)
    have HBF := hid (bT HBW0.out (HPx.out.below hb).bl)
    clear hb HPx
    go_wp2_with fail
    refine bodyPost_ret (v := .bool true) (by simp [results, results4, go_sem]) rfl ⟨rfl, HBF.out⟩
end Go.Proofs.YtiaabmhjkoohmaaGreat
