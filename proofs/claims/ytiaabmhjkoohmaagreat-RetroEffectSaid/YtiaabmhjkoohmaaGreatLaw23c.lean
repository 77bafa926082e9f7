/-
 Layer 23: what a correction would change. Conditions as named.
-/
import Derived.Test.YtiaabmhjkoohmaaGreatBeg23
import Derived.Test.YtiaabmhjkoohmaaGreatM12
import Derived.Test.YtiaabmhjkoohmaaGreatSmall23
namespace Go.Proofs.YtiaabmhjkoohmaaGreat
set_option maxRecDepth 100000
set_option maxHeartbeats 25600000
set_option linter.unusedVariables false
set_option linter.unusedSimpArgs false
open Go.RowKit Tryz
open Lib (hid)
theorem delta_at (x y : List Sh) (n k : Nat) (h : k < n) : (deltaL x y n).getD k sh0 = lessAtV x y k := by
 unfold deltaL
 rw [List.getD_eq_getElem?_getD, List.getElem?_map, List.getElem?_range h]
 rfl
theorem retroEffect_walk (t : Tb) (As Ac Ak : Option Addr) (ns cs nc cc nk ck : Nat) (lim rnd : Int) (w : World) (hs : ScSl w As ns t.sch) (hc : CtSl w Ac nc t.cts) (hcc : nc ≤ cc) (hkd : KdSl w Ak nk t.kds) (hck : nk ≤ ck) (hl : lim = t.lim) (hr : rnd = t.rnd) (hn : ns ≤ 9223372036854775807 ∧ nc ≤ 9223372036854775807 ∧ nk ≤ 9223372036854775807) (A : Option Addr) (n d : Nat) (ops : List OpP) (ho : OpSl w A n ops)
  (yk ys yc ya yf yi yp yq yr yt yn : Int) (yl : Bool) (yA : Option Addr) (ym yd : Nat) (y9 : List El) (hy : ElSl w yA ym y9) :
  Calls prog 5 #[.agg #[.slice As ns cs, .slice Ac nc cc, .slice Ak nk ck, .int .i64 lim, .int .i64 rnd], .slice A n d, .agg #[.int .i64 yk, .slice yA ym yd, .int .i64 ys, .int .i64 yc, .int .i64 ya, .int .i64 yf, .bool yl, .int .i64 yi, .int .i64 yp, .int .i64 yq, .int .i64 yr, .int .i64 yt, .int .i64 yn]] w fun e w' => e = .returned (.bool true) ∧ Below w.heap.size w w' := by
 have HF0 := hid (Fr.start w)
 have KB := hid (fun W (hW : Below w.heap.size w W) => begin23_c t As Ac Ak ns cs nc cc nk ck lim rnd (⟨0, 1, 1000, 0, false⟩ : Cd) W (hs.below hW) (hc.below hW) hcc (hkd.below hW) hck hl hr hn)
 dsimp only at KB
 have HO := hid ho
 have HY := hid hy
 have hn9 := ho.1.2.1
 unfold BegR at KB
 clear hs hc hcc hkd hck hl hr hn ho hy
 have HF1 := al9 (((HF0.out.al 26 #[.slice As ns cs, .slice Ac nc cc, .slice Ak nk ck, .int .i64 lim, .int .i64 rnd]).al 39 #[.int .i64 yk, .slice yA ym yd, .int .i64 ys, .int .i64 yc, .int .i64 ya, .int .i64 yf, .bool yl, .int .i64 yi, .int .i64 yp, .int .i64 yq, .int .i64 yr, .int .i64 yt, .int .i64 yn]))
 clear HF0
 go_enter func5, ntmps5
 go_wp2_with fail
 refine (fixes_c _).mono ?_
 rintro e W1 ⟨rfl, hb⟩
 have HF2 := hid (HF1.out.ca hb)
 clear hb HF1
 obtain ⟨c0_0, c0_1, c0_2, c0_3, c0_4⟩ := (HF2.out.b 0 rfl).q5
 go_wp2_with fail
 refine (KB.out _ HF2.out.bl).mono ?_
 rintro e W2 ⟨hbeg, hb⟩
 clear c0_0 c0_1 c0_2 c0_3 c0_4
 have HBL : Hid (Below w.heap.size w W2) := (HF2.out.ca hb).bl
 have HBW0 : Hid (Below w.heap.size w W1) := HF2.out.bl
 have HFX := hid (HF2.out.b 1 rfl)
 clear KB HF2
 obtain ⟨gd, gp, gq, rfl, hp⟩ | rfl := hbeg
 case inr =>
  go_wp2_with fail
  refine bodyPost_ret (v := .bool true) (by simp [results, results5, go_sem]) rfl ⟨rfl, HBL.out⟩
 have HP0 := hid hp
 clear hp hb
 go_wp2_with fail
 refine (small23_c A n d ops W2 (HO.out.below HBL.out)).mono ?_
 rintro e W3 ⟨⟨r, rfl, hsm⟩, hb⟩
 have HB3 := hid (bT HBL.out hb)
 have HP3 := hid (HP0.out.below hb)
 clear hb HP0
 cases r
 case false =>
  go_wp2_with fail
  refine bodyPost_ret (v := .bool true) (by simp [results, results5, go_sem]) rfl ⟨rfl, HB3.out⟩
 obtain ⟨hn60, hm40⟩ := hsm rfl
 have HM40 := hid hm40
 clear hsm hm40
 have f1 := (HFX.out.t HP3.out.bl).cv 1 (.slice yA ym yd) rfl
 by_cases hym : 40 < ym
 case pos =>
  have q1 : decide (40 < (ym : Int)) = true := decide_eq_true (by omega)
  have q2 : decide ((ym : Int) > 40) = true := decide_eq_true (by omega)
  go_wp2_with fail
  refine bodyPost_ret (v := .bool true) (by simp [results, results5, go_sem]) rfl ⟨rfl, HB3.out⟩
 have q1 : decide (40 < (ym : Int)) = false := decide_eq_false (by omega)
 have q2 : decide ((ym : Int) > 40) = false := decide_eq_false (by omega)
 have HYM : Hid (ym ≤ 1000) := (by omega : ym ≤ 1000)
 go_wp2_with fail
 clear f1 q1 q2 hym
 go_loopw [43] (fun i wr => ∃ (k : Nat) (D : Dk), k ≤ n ∧ i = .int .i64 k ∧ Hid (PG W1 4 365 wr gd gp gq D) ∧ Hid (Inv23 (nomI 4) D) ∧ Hid (D.fx.length ≤ k)) (fun i _ => n - (intOf i).toNat)
 case atStart => exact ⟨0, dnewV (newV t (⟨0, 1, 1000, 0, false⟩ : Cd)), Nat.zero_le _, rfl, HP3, hid (Inv23.new _ _ _), hid (Nat.le_refl 0)⟩
 case round =>
  obtain ⟨k, D, hk', rfl, HP, HI, HFL⟩ := hrel
  clear HP3 HBL HB3
  by_cases hk : k < n
  case pos =>
   have hO := HO.out.below (bT HBW0.out HP.out.bl)
   have hln := hO.1.1
   obtain ⟨b, off, rfl, hlt, hat⟩ := hO.1.2.2 (by omega)
   have hc := hat k hk
   have hel := HO.out.2 k (by omega)
   have h40 := HM40.out k hk
   generalize ops.getD k op0 = x at *
   obtain ⟨⟨zk, zl9, ⟨zs, zc, za, zf, zl⟩, zi, zp, zq, zr, zt, zn⟩, zA, zm, zd⟩ := x
   dsimp only at hel h40
   obtain ⟨x0, x1, x2, x3, x4, x5, x6, x7, x8, x9, x10, x11, x12⟩ : wr.cell? ⟨b, off + k * 13, none⟩ = some (.int .i64 zk) ∧ wr.cell? ⟨b, off + k * 13 + 1, none⟩ = some (.slice zA zm zd) ∧ wr.cell? ⟨b, off + k * 13 + 2, none⟩ = some (.int .i64 zs) ∧ wr.cell? ⟨b, off + k * 13 + 3, none⟩ = some (.int .i64 zc) ∧ wr.cell? ⟨b, off + k * 13 + 4, none⟩ = some (.int .i64 za) ∧ wr.cell? ⟨b, off + k * 13 + 5, none⟩ = some (.int .i64 zf) ∧ wr.cell? ⟨b, off + k * 13 + 6, none⟩ = some (.bool zl) ∧ wr.cell? ⟨b, off + k * 13 + 7, none⟩ = some (.int .i64 zi) ∧ wr.cell? ⟨b, off + k * 13 + 8, none⟩ = some (.int .i64 zp) ∧ wr.cell? ⟨b, off + k * 13 + 9, none⟩ = some (.int .i64 zq) ∧ wr.cell? ⟨b, off + k * 13 + 10, none⟩ = some (.int .i64 zr) ∧ wr.cell? ⟨b, off + k * 13 + 11, none⟩ = some (.int .i64 zt) ∧ wr.cell? ⟨b, off + k * 13 + 12, none⟩ = some (.int .i64 zn) := ⟨hc 0 _ rfl, hc 1 _ rfl, hc 2 _ rfl, hc 3 _ rfl, hc 4 _ rfl, hc 5 _ rfl, hc 6 _ rfl, hc 7 _ rfl, hc 8 _ rfl, hc 9 _ rfl, hc 10 _ rfl, hc 11 _ rfl, hc 12 _ rfl⟩
   have HEL : Hid (ElSl W1 zA zm zl9) := hel.below HBW0.out
   have HZM : Hid (zm ≤ 40) := h40
   have HK1 : Hid (k + 1 ≤ n) := hk
   clear hc hat hel h40 hO hln hk hk'
   have kk0 : (0 : Int) ≤ (k : Int) := by omega
   have kk1 : (k : Int) < (n : Int) := by have := HK1.out; omega
   have kk2 : ((k : Int)).toNat = k := by omega
   go_upto_region 9 with fail
   clear x0 x1 x2 x3 x4 x5 x6 x7 x8 x9 x10 x11 x12
   have HOB := hid (Blk.mk wr 39 #[.int .i64 zk, .slice zA zm zd, .int .i64 zs, .int .i64 zc, .int .i64 za, .int .i64 zf, .bool zl, .int .i64 zi, .int .i64 zp, .int .i64 zq, .int .i64 zr, .int .i64 zt, .int .i64 zn])
   have HPa := hid (HP.out.below (below1 wr (.cells #[.int .i64 zk, .slice zA zm zd, .int .i64 zs, .int .i64 zc, .int .i64 za, .int .i64 zf, .bool zl, .int .i64 zi, .int .i64 zp, .int .i64 zq, .int .i64 zr, .int .i64 zt, .int .i64 zn] 39)))
   clear HP
   generalize hwn : wr.alloc (.cells #[.int .i64 zk, .slice zA zm zd, .int .i64 zs, .int .i64 zc, .int .i64 za, .int .i64 zf, .bool zl, .int .i64 zi, .int .i64 zp, .int .i64 zq, .int .i64 zr, .int .i64 zt, .int .i64 zn] 39) = V1 at *
   clear hwn
   obtain ⟨re, hre⟩ : ∃ r, r = doE D (nomI 4) (cntI 4 365) ⟨zk, zl9, ⟨zs, zc, za, zf, zl⟩, zi, zp, zq, zr, zt, zn⟩ := ⟨_, rfl⟩
   obtain ⟨z, hz⟩ : ∃ z, z = runS D.e (nomI 4) := ⟨_, rfl⟩
   obtain ⟨D', hd1, hd2⟩ : ∃ D', (re = 0 → D' = doV D (nomI 4) ⟨zk, zl9, ⟨zs, zc, za, zf, zl⟩, zi, zp, zq, zr, zt, zn⟩) ∧ (re ≠ 0 → D' = D) := by
    by_cases h : re = 0
    ·
     exact ⟨_, fun _ => rfl, fun h2 => absurd h2 (by simp [h])⟩
    ·
     exact ⟨_, fun h2 => absurd h2 h, fun _ => rfl⟩
   have HI2 : Hid (Inv23 (nomI 4) D' ∧ D'.fx.length ≤ k + 1) := by
    have h9 := HFL.out
    by_cases h : re = 0
    ·
     rw [hd1 h]; exact ⟨HI.out.act _ (hre.symm.trans h), Nat.le_trans (doV_fx _) (by omega)⟩
    ·
     rw [hd2 h]; exact ⟨HI.out, by omega⟩
   have KD := hid (do23_c HPa.out ⟨⟨zk, zl9, ⟨zs, zc, za, zf, zl⟩, zi, zp, zq, zr, zt, zn⟩, zA, zm, zd⟩ HEL.out (by show zm ≤ 1000; have := HZM.out; omega) re z hre hz hd1 hd2)
   unfold DoR spC opC at KD
   dsimp only at KD
   clear hre hz hd1 hd2
   have qz := HOB.out
   have ob0 := qz.cv 0 (.int .i64 zk) rfl
   have ob1 := qz.cv 1 (.slice zA zm zd) rfl
   have ob2 := qz.cv 2 (.int .i64 zs) rfl
   have ob3 := qz.cv 3 (.int .i64 zc) rfl
   have ob4 := qz.cv 4 (.int .i64 za) rfl
   have ob5 := qz.cv 5 (.int .i64 zf) rfl
   have ob6 := qz.cv 6 (.bool zl) rfl
   have ob7 := qz.cv 7 (.int .i64 zi) rfl
   have ob8 := qz.cv 8 (.int .i64 zp) rfl
   have ob9 := qz.cv 9 (.int .i64 zq) rfl
   have ob10 := qz.cv 10 (.int .i64 zr) rfl
   have ob11 := qz.cv 11 (.int .i64 zt) rfl
   have ob12 := qz.cv 12 (.int .i64 zn) rfl
   clear qz
   go_wp2_with fail
   refine KD.out.mono ?_
   rintro e V2 ⟨⟨Z8, A8, n8, c8, B8, m8, d8, rfl, _⟩, hp, _⟩
   have HPn := hid hp
   clear KD hp HPa HOB HEL HI HFL ob0 ob1 ob2 ob3 ob4 ob5 ob6 ob7 ob8 ob9 ob10 ob11 ob12
   go_wp2_with fail
   go_roundw
   case rel => exact ⟨k + 1, D', HK1.out, by go_num, HPn, hid HI2.out.1, hid HI2.out.2⟩
   case measure => have := HK1.out; simp [intOf]; omega
  have HFL6 : Hid (D.fx.length ≤ 60) := by have := HFL.out; unfold Hid; omega
  clear HFL HM40 HO hn60 hn9
  have f12 := (HFX.out.t HP.out.bl).cv 12 (.int .i64 yn) rfl
  go_upto_region 12 with fail
  clear f12 hk hk'
  generalize max (-9) (min yn 99) = kx at *
  obtain ⟨re1, hre1⟩ : ∃ r, r = tryE D.e (nomI 4) (cntI 4 365) 0 := ⟨_, rfl⟩
  obtain ⟨z1, hz1⟩ : ∃ z, z = tryV D.e (nomI 4) 0 := ⟨_, rfl⟩
  obtain ⟨re2, hre2⟩ : ∃ r, r = effE D.e (nomI 4) (cntI 4 365) kx y9 := ⟨_, rfl⟩
  obtain ⟨Ve, hve⟩ : ∃ V, V = effV D.e (nomI 4) kx y9 := ⟨_, rfl⟩
  have HR1 := hid hre1
  have HZ1 := hid hz1
  have HR2 := hid hre2
  have HVE := hid hve
  obtain ⟨o3, hpe⟩ := HP.out.pe
  have KT := pe_try hpe 0 re1 z1 hre1 hz1
  have d0 := HP.out.desk
  unfold SlipE spC at KT
  clear hpe hre1 hz1 hre2 hve
  go_wp2_with fail
  refine KT.mono ?_
  clear KT
  rintro e V2 ⟨⟨⟨sp, ⟨sc, st, ss⟩, stx, ssh, srows, snet, stk, spy⟩, A8, n8, c8, B8, m8, d8, rfl, hv⟩, hb⟩
  clear d0
  have hb2 := bT hb (below1 V2 (.cells #[.int .i64 sp, .int .i64 sc, .int .i64 st, .int .i64 ss, .int .i64 stx, .int .i64 ssh, .slice A8 n8 c8, .int .i64 snet, .slice B8 m8 d8, .int .i64 spy] 45))
  have HP3 := hid (HP.out.below hb2)
  have HWS := hid (Blk.mk V2 45 #[.int .i64 sp, .int .i64 sc, .int .i64 st, .int .i64 ss, .int .i64 stx, .int .i64 ssh, .slice A8 n8 c8, .int .i64 snet, .slice B8 m8 d8, .int .i64 spy])
  have HV1 := hid (hv.below (below1 V2 (.cells #[.int .i64 sp, .int .i64 sc, .int .i64 st, .int .i64 ss, .int .i64 stx, .int .i64 ssh, .slice A8 n8 c8, .int .i64 snet, .slice B8 m8 d8, .int .i64 spy] 45)))
  clear hb hb2 hv HP
  go_upto_region 13 with fail
  generalize hwn : V2.alloc (.cells #[.int .i64 sp, .int .i64 sc, .int .i64 st, .int .i64 ss, .int .i64 stx, .int .i64 ssh, .slice A8 n8 c8, .int .i64 snet, .slice B8 m8 d8, .int .i64 spy] 45) = V3 at *
  clear hwn
  have KE := (pg_effect (c := yd) HP3.out kx (HY.out.below (bT HBW0.out HP3.out.bl)) HYM.out re2 Ve HR2 HVE).mono fun _ _ h => BetR.u h
  unfold BetU efC at KE
  have f1 := (HFX.out.t HP3.out.bl).cv 1 (.slice yA ym yd) rfl
  go_wp2_with fail
  refine KE.mono ?_
  clear KE f1
  rintro e V4 ⟨⟨⟨⟨ec, et, es⟩, ex, eh, erows, en⟩, A6, n6, c6, rfl, hv⟩, hb⟩
  have hb2 := bT hb (below1 V4 (.cells #[.int .i64 ec, .int .i64 et, .int .i64 es, .int .i64 ex, .int .i64 eh, .slice A6 n6 c6, .int .i64 en] 73))
  have HP5 := hid (HP3.out.below hb2)
  have HXS := hid (Blk.mk V4 73 #[.int .i64 ec, .int .i64 et, .int .i64 es, .int .i64 ex, .int .i64 eh, .slice A6 n6 c6, .int .i64 en])
  have HEV := hid (hv.below (below1 V4 (.cells #[.int .i64 ec, .int .i64 et, .int .i64 es, .int .i64 ex, .int .i64 eh, .slice A6 n6 c6, .int .i64 en] 73)))
  replace HWS := hid (HWS.out.t hb2)
  replace HV1 := hid (HV1.out.below hb2)
  clear hb hb2 hv HP3
  go_upto_region 14 with fail
  generalize hwn : V4.alloc (.cells #[.int .i64 ec, .int .i64 et, .int .i64 es, .int .i64 ex, .int .i64 eh, .slice A6 n6 c6, .int .i64 en] 73) = V5 at *
  clear hwn
  by_cases h1 : re1 = 0
  case neg =>
   have e2 : re2 = re1 := HR2.out.trans (by unfold effE; rw [← HR1.out]; exact sN9 h1)
   subst e2
   have tr : (re2 != 0) = true := by simpa using h1
   have tr2 : (re2 == re2) = true := by simp
   have KN := none_ev HEV.out (h1) V5
   unfold efC at KN
   dsimp only at KN
   obtain ⟨a0, a1, a2, a3, a4, a5, a6⟩ := (HXS.out).q7
   clear h1
   go_wp2_with fail
   refine KN.mono ?_
   rintro e V6 ⟨rfl, hb⟩
   have HBF := hid (bT HBW0.out (bT HP5.out.bl hb))
   clear KN hb
   go_wp2_with fail
   refine bodyPost_ret (v := .bool true) (by simp [results, results5, go_sem]) rfl ⟨rfl, HBF.out⟩
  have tr : (re1 != 0) = false := by simpa using h1
  go_wp2_with fail
  refine (pg_clone HP5.out).mono ?_
  rintro e V6 ⟨⟨gd2, gp2, gq2, rfl, hq⟩, hb⟩
  have HQ6 := hid hq
  have HP6 := hid (HP5.out.below hb)
  have HB56 := hid hb
  clear hq tr
  obtain ⟨re3, hre3⟩ : ∃ r, r = dfixE D (nomI 4) (cntI 4 365) kx y9 := ⟨_, rfl⟩
  obtain ⟨D2, hd1, hd2⟩ : ∃ D2, (re3 = 0 → D2 = dfixV D kx y9) ∧ (re3 ≠ 0 → D2 = D) := by
   by_cases h : re3 = 0
   ·
    exact ⟨_, fun _ => rfl, fun h2 => absurd h h2⟩
   ·
    exact ⟨_, fun h2 => absurd h2 h, fun _ => rfl⟩
  have KF := pg_fix (c := yd) HQ6.out kx (HY.out.below (bT HBW0.out HP5.out.bl)) HYM.out re3 hre3 hd1 hd2
  have f1 := (HFX.out.t HP6.out.bl).cv 1 (.slice yA ym yd) rfl
  have HR3 := hid hre3
  have HD1 := hid hd1
  clear hre3 hd1 hd2
  go_wp2_with fail
  refine KF.mono ?_
  clear KF f1
  rintro e V7 ⟨rfl, hq, _⟩
  have HQ7 := hid hq
  have HB7 : Hid (Below V5.heap.size V5 V7) := hq.bl
  have HP7 := hid (HP5.out.below HB7.out)
  replace HWS := hid (HWS.out.t HB7.out)
  replace HV1 := hid (HV1.out.below HB7.out)
  replace HXS := hid (HXS.out.t HB7.out)
  replace HEV := hid (HEV.out.below HB7.out)
  clear hq HQ6 HP6 HB56 HP5
  have HE3 : Hid (re3 = replE D.e (nomI 4) (cntI 4 365) kx y9) := HR3.out.trans (by unfold dfixE; rw [if_neg (by have := HFL6.out; omega)])
  clear HR3
  by_cases h3 : re3 = 0
  case neg =>
   have e2 : re2 = re3 := HR2.out.trans (by unfold effE; rw [← HR1.out, sE9 h1, ← HE3.out]; exact sN9 h3)
   subst e2
   have tr : (re2 != 0) = true := by simpa using h3
   have tr2 : (re2 == re2) = true := by simp
   have KN := none_ev HEV.out (h3) V7
   unfold efC at KN
   dsimp only at KN
   obtain ⟨a0, a1, a2, a3, a4, a5, a6⟩ := (HXS.out).q7
   clear h3 h1
   go_wp2_with fail
   refine KN.mono ?_
   rintro e V8 ⟨rfl, hb⟩
   have HBF := hid (bT HBW0.out (bT HP7.out.bl hb))
   clear KN hb
   go_wp2_with fail
   refine bodyPost_ret (v := .bool true) (by simp [results, results5, go_sem]) rfl ⟨rfl, HBF.out⟩
  obtain ⟨re4, hre4⟩ : ∃ r, r = tryE D2.e (nomI 4) (cntI 4 365) 0 := ⟨_, rfl⟩
  obtain ⟨z4, hz4⟩ : ∃ z, z = tryV D2.e (nomI 4) 0 := ⟨_, rfl⟩
  have hD2 := HD1.out h3
  have HR4 : Hid (re4 = tryE (replV D.e kx y9) (nomI 4) (cntI 4 365) 0) := hre4.trans (by rw [hD2]; rfl)
  have HZ4 : Hid (z4 = tryV (replV D.e kx y9) (nomI 4) 0) := hz4.trans (by rw [hD2]; rfl)
  have HD2 := hid hD2
  have HH3 : Hid (replE D.e (nomI 4) (cntI 4 365) kx y9 = 0) := HE3.out.symm.trans h3
  obtain ⟨o4, hpe⟩ := HQ7.out.pe
  have KT := pe_try hpe 0 re4 z4 hre4 hz4
  have d0 := HQ7.out.desk
  have tr : (re3 != 0) = false := by simpa using h3
  unfold SlipE spC at KT
  have HH1 := hid h1
  clear hpe hre4 hz4 hD2 HD1 HE3 h1 h3
  go_wp2_with fail
  refine KT.mono ?_
  clear KT
  rintro e V8 ⟨⟨⟨np, ⟨nc4, nt, ns4⟩, ntx, nsh, nrows, nnet, ntk, npy⟩, A9, n9, c9, B9, m9, d9, rfl, hv⟩, hb⟩
  clear d0 tr
  have hb2 := bT hb (below1 V8 (.cells #[.int .i64 np, .int .i64 nc4, .int .i64 nt, .int .i64 ns4, .int .i64 ntx, .int .i64 nsh, .slice A9 n9 c9, .int .i64 nnet, .slice B9 m9 d9, .int .i64 npy] 45))
  have HQ9 := hid (HQ7.out.below hb2)
  have HP9 := hid (HP7.out.below hb2)
  have HNS := hid (Blk.mk V8 45 #[.int .i64 np, .int .i64 nc4, .int .i64 nt, .int .i64 ns4, .int .i64 ntx, .int .i64 nsh, .slice A9 n9 c9, .int .i64 nnet, .slice B9 m9 d9, .int .i64 npy])
  have HV4 := hid (hv.below (below1 V8 (.cells #[.int .i64 np, .int .i64 nc4, .int .i64 nt, .int .i64 ns4, .int .i64 ntx, .int .i64 nsh, .slice A9 n9 c9, .int .i64 nnet, .slice B9 m9 d9, .int .i64 npy] 45)))
  replace HWS := hid (HWS.out.t hb2)
  replace HV1 := hid (HV1.out.below hb2)
  replace HXS := hid (HXS.out.t hb2)
  replace HEV := hid (HEV.out.below hb2)
  clear hb hb2 hv HQ7 HP7
  go_upto_region 21 with fail
  generalize hwn : V8.alloc (.cells #[.int .i64 np, .int .i64 nc4, .int .i64 nt, .int .i64 ns4, .int .i64 ntx, .int .i64 nsh, .slice A9 n9 c9, .int .i64 nnet, .slice B9 m9 d9, .int .i64 npy] 45) = V9 at *
  clear hwn
  by_cases h4 : re4 = 0
  case neg =>
   have e2 : re2 = re4 := HR2.out.trans (by unfold effE; rw [← HR1.out, sE9 HH1.out, sE9 HH3.out, ← HR4.out]; exact sN9 h4)
   subst e2
   have tr : (re2 != 0) = true := by simpa using h4
   have tr2 : (re2 == re2) = true := by simp
   have KN := none_ev HEV.out (h4) V9
   unfold efC at KN
   dsimp only at KN
   obtain ⟨a0, a1, a2, a3, a4, a5, a6⟩ := (HXS.out).q7
   clear h4
   go_wp2_with fail
   refine KN.mono ?_
   rintro e V10 ⟨rfl, hb⟩
   have HBF := hid (bT HBW0.out (bT HP9.out.bl hb))
   clear KN hb
   go_wp2_with fail
   refine bodyPost_ret (v := .bool true) (by simp [results, results5, go_sem]) rfl ⟨rfl, HBF.out⟩
  by_cases h2 : re2 = 0
  case neg =>
   have tr : (re2 != 0) = true := by simpa using h2
   have tr2 : (re4 == re2) = false := by rw [h4]; simpa using fun h => h2 h.symm
   have tr3 : (re4 == 0) = true := by simpa using h4
   have tr4 : (re4 != 0) = false := by simpa using h4
   have KN := none_ev HEV.out (h2) V9
   unfold efC at KN
   dsimp only at KN
   obtain ⟨a0, a1, a2, a3, a4, a5, a6⟩ := (HXS.out).q7
   clear h2 h4
   go_wp2_with fail
   refine KN.mono ?_
   rintro e V10 ⟨rfl, hb⟩
   have HBF := hid (bT HBW0.out (bT HP9.out.bl hb))
   clear KN hb
   go_wp2_with fail
   refine bodyPost_ret (v := .bool true) (by simp [results, results5, go_sem]) rfl ⟨rfl, HBF.out⟩
  obtain ⟨hZ1, hn8, hm8, ho8, ht8⟩ := HV1.out.ok HH1.out
  obtain ⟨hZ4, hn9, hm9, ho9, ht9⟩ := HV4.out.ok h4
  obtain ⟨hZe, hn6, ho6⟩ := HEV.out.ok h2
  have hEF := HR2.out.symm.trans h2
  obtain ⟨hB, b1, b2, b3, b4, b5, b6, b7⟩ := eff_letters hEF (hZ1.trans HZ1.out) (hZ4.trans HZ4.out) (hZe.trans HVE.out)
  dsimp only at b1 b2 b3 b4 b5 b6 b7
  subst b1
  subst b2
  subst b3
  subst b4
  subst b5
  subst b6
  rw [← hZ1] at hn8 ho8
  rw [← hZ4] at hn9 ho9
  rw [← hZe] at hn6 ho6
  dsimp only at hn8 ho8 hn9 ho9 hn6 ho6
  have hlr1 : srows.length = D.e.tb.cts.length := by have := congrArg (fun z => z.rows.length) (hZ1.trans HZ1.out); exact this.trans (try_rows _ _ _)
  have hlr4 : nrows.length = D.e.tb.cts.length := by have := congrArg (fun z => z.rows.length) (hZ4.trans HZ4.out); exact this.trans (try_rows _ _ _)
  have htc := HP9.out.ok.e.tc
  have hl6 : erows.length = nrows.length := by rw [b7]; exact deltaL_len _ _ _
  have HRW : Hid (∀ k, k < nrows.length → (erows.getD k sh0).a = (nrows.getD k sh0).a - (srows.getD k sh0).a ∧ (erows.getD k sh0).b = (nrows.getD k sh0).b - (srows.getD k sh0).b ∧ (-100000000000 ≤ (nrows.getD k sh0).a - (srows.getD k sh0).a ∧ (nrows.getD k sh0).a - (srows.getD k sh0).a ≤ 100000000000) ∧ -100000000000 ≤ (nrows.getD k sh0).b - (srows.getD k sh0).b ∧ (nrows.getD k sh0).b - (srows.getD k sh0).b ≤ 100000000000) := fun k hk => by
   obtain ⟨r1, r2, r3⟩ := lessAt_ok (hB.rows k hk)
   have e9 : erows.getD k sh0 = lessAtV nrows srows k := by rw [b7]; exact delta_at _ _ _ _ hk
   rw [e9, r3]
   exact ⟨rfl, rfl, okO_diff r1, okO_diff r2⟩
  have w1 := okO_diff hB.c
  have w2 := okO_diff hB.t
  have w3 := okO_diff hB.s
  have w4 := okO_diff hB.tx
  have w5 := okO_diff hB.sh
  have w6 := okO_diff hB.net
  dsimp only at w1 w2 w3 w4 w5 w6
  have HHE := hid hEF
  have HLS : Hid (srows.length = D.e.tb.cts.length ∧ nrows.length = D.e.tb.cts.length ∧ erows.length = D.e.tb.cts.length ∧ D.e.tb.cts.length ≤ 20) := ⟨hlr1, hlr4, hl6.trans hlr4, htc⟩
  have HO8 := hid ho8
  have HO9 := hid ho9
  have HO6 := hid ho6
  subst hn8
  subst hn9
  subst hn6
  have tr : (re2 != 0) = false := by simpa using h2
  have tr4 : (re4 != 0) = false := by simpa using h4
  have HH2 := hid h2
  have HH4 := hid h4
  clear hZ1 hZ4 hZe hm8 hm9 ht8 ht9 ho8 ho9 ho6 hEF hB b7 hlr1 hlr4 htc hl6 h2 h4 HV1 HV4 HEV
  have s1 := HWS.out.cv 1 (.int .i64 sc) rfl
  have n1 := HNS.out.cv 1 (.int .i64 nc4) rfl
  have s2 := HWS.out.cv 2 (.int .i64 st) rfl
  have n2 := HNS.out.cv 2 (.int .i64 nt) rfl
  have s3 := HWS.out.cv 3 (.int .i64 ss) rfl
  have n3 := HNS.out.cv 3 (.int .i64 ns4) rfl
  have s4 := HWS.out.cv 4 (.int .i64 stx) rfl
  have n4 := HNS.out.cv 4 (.int .i64 ntx) rfl
  have s5 := HWS.out.cv 5 (.int .i64 ssh) rfl
  have n5 := HNS.out.cv 5 (.int .i64 nsh) rfl
  have s6 := HWS.out.cv 6 (.slice A8 srows.length c8) rfl
  have n6 := HNS.out.cv 6 (.slice A9 nrows.length c9) rfl
  have s7 := HWS.out.cv 7 (.int .i64 snet) rfl
  have n7 := HNS.out.cv 7 (.int .i64 nnet) rfl
  have qz := HXS.out
  have a0 := qz.cv 0 (.int .i64 (nc4 - sc)) rfl
  have a1 := qz.cv 1 (.int .i64 (nt - st)) rfl
  have a2 := qz.cv 2 (.int .i64 (ns4 - ss)) rfl
  have a3 := qz.cv 3 (.int .i64 (ntx - stx)) rfl
  have a4 := qz.cv 4 (.int .i64 (nsh - ssh)) rfl
  have a5 := qz.cv 5 (.slice A6 erows.length c6) rfl
  have a6 := qz.cv 6 (.int .i64 (nnet - snet)) rfl
  clear qz
  have ql : ((erows.length : Int) != (nrows.length : Int)) = false := by have := HLS.out; simp; omega
  go_upto_region 23 with fail
  clear tr tr4
  go_wp2_with fail
  clear ql w1 w2 w3 w4 w5 w6 s1 n1 s2 n2 s3 n3 s4 n4 s5 n5 s6 n6 s7 n7 a0 a1 a2 a3 a4 a5 a6
  have HR6R := hid (ow9 (f := shC) (d := sh0) sl9 HO6.out rfl (by have := HLS.out; omega) (by decide))
  have HR9R := hid (ow9 (f := shC) (d := sh0) sl9 HO9.out rfl (by have := HLS.out; omega) (by decide))
  have HR8R := hid (ow9 (f := shC) (d := sh0) sl9 HO8.out rfl (by have := HLS.out; omega) (by decide))
  go_loopw [208] (fun i wr => ∃ j : Nat, j ≤ erows.length ∧ i = .int .i64 j ∧ Hid (Below V9.heap.size V9 wr)) (fun i _ => erows.length - (intOf i).toNat)
  case atStart => exact ⟨0, Nat.zero_le _, rfl, hid (b0 V9)⟩
  case round =>
   obtain ⟨j, hj', rfl, HBL⟩ := hrel
   by_cases hj : j < erows.length
   case pos =>
    have hls := HLS.out
    obtain ⟨b6, o6, hA6, hl6, ht6⟩ := (HR6R.out.below HBL.out).2.2 (by omega)
    obtain ⟨b9, o9, hA9, hl9, ht9⟩ := (HR9R.out.below HBL.out).2.2 (by omega)
    obtain ⟨b8, o8, hA8, hl8, ht8⟩ := (HR8R.out.below HBL.out).2.2 (by omega)
    have hc6 := ht6 j hj
    have hc9 := ht9 j (by omega)
    have hc8 := ht8 j (by omega)
    obtain ⟨r1, r2, r3, r4⟩ := HRW.out j (by omega)
    subst hA6
    subst hA9
    subst hA8
    have HJ : Hid (j + 1 ≤ erows.length) := hj
    have j0 : (0 : Int) ≤ (j : Int) := by omega
    have j1 : (j : Int) < (erows.length : Int) := by omega
    have j2 : ((j : Int)).toNat = j := by omega
    have j3 : (j : Int) < (nrows.length : Int) := by omega
    have j4 : (j : Int) < (srows.length : Int) := by omega
    clear ht6 ht9 ht8 hls
    generalize erows.getD j sh0 = xe at *
    generalize nrows.getD j sh0 = xn at *
    generalize srows.getD j sh0 = xs at *
    obtain ⟨ea, eb⟩ := xe
    obtain ⟨na, nb⟩ := xn
    obtain ⟨sa, sb⟩ := xs
    dsimp only at r1 r2 r3 r4
    subst r1
    subst r2
    obtain ⟨r3, r5⟩ := r3
    obtain ⟨r4, r6⟩ := r4
    have q3 : (na - sa != IntKind.i64.wrap (na - sa)) = false := by rw [IntWalk.i64_in _ (by omega)]; simp
    have q4 : (nb - sb != IntKind.i64.wrap (nb - sb)) = false := by rw [IntWalk.i64_in _ (by omega)]; simp
    clear r3 r4 r5 r6
    have u6 : wr.cell? ⟨b6, o6 + j * 2, none⟩ = some (.int .i64 (na - sa)) := hc6 0 _ rfl
    have v6 : wr.cell? ⟨b6, o6 + j * 2 + 1, none⟩ = some (.int .i64 (nb - sb)) := hc6 1 _ rfl
    have u9 : wr.cell? ⟨b9, o9 + j * 2, none⟩ = some (.int .i64 (na)) := hc9 0 _ rfl
    have v9 : wr.cell? ⟨b9, o9 + j * 2 + 1, none⟩ = some (.int .i64 (nb)) := hc9 1 _ rfl
    have u8 : wr.cell? ⟨b8, o8 + j * 2, none⟩ = some (.int .i64 (sa)) := hc8 0 _ rfl
    have v8 : wr.cell? ⟨b8, o8 + j * 2 + 1, none⟩ = some (.int .i64 (sb)) := hc8 1 _ rfl
    go_upto_region 28 with fail
    have hSB := Blk.mk wr 79 #[.int .i64 (na - sa), .int .i64 (nb - sb)]
    have G : Hid (∀ X, Below (wr.alloc (.cells #[.int .i64 (na - sa), .int .i64 (nb - sb)] 79)).heap.size (wr.alloc (.cells #[.int .i64 (na - sa), .int .i64 (nb - sb)] 79)) X → X.cell? ⟨b9, o9 + j * 2, none⟩ = some (.int .i64 (na)) ∧ X.cell? ⟨b9, o9 + j * 2 + 1, none⟩ = some (.int .i64 (nb)) ∧ X.cell? ⟨b8, o8 + j * 2, none⟩ = some (.int .i64 (sa)) ∧ X.cell? ⟨b8, o8 + j * 2 + 1, none⟩ = some (.int .i64 (sb)) ∧ X.cell? ⟨wr.heap.size, 0, none⟩ = some (.int .i64 (na - sa)) ∧ X.cell? ⟨wr.heap.size, 1, none⟩ = some (.int .i64 (nb - sb)) ∧ X.cell? ⟨V2.heap.size, 6, none⟩ = some (.slice (some ⟨b8, o8, none⟩) srows.length c8) ∧ X.cell? ⟨V8.heap.size, 6, none⟩ = some (.slice (some ⟨b9, o9, none⟩) nrows.length c9)) := fun X hX => by
     have hX0 := bT (below1 wr (.cells #[.int .i64 (na - sa), .int .i64 (nb - sb)] 79)) hX
     exact ⟨(hX0.cell (p := ⟨b9, _, none⟩) hl9).trans u9, (hX0.cell (p := ⟨b9, _, none⟩) hl9).trans v9, (hX0.cell (p := ⟨b8, _, none⟩) hl8).trans u8, (hX0.cell (p := ⟨b8, _, none⟩) hl8).trans v8, (hSB.t hX).cv 0 _ rfl, (hSB.t hX).cv 1 _ rfl, (HWS.out.t (bT HBL.out hX0)).cv 6 _ rfl, (HNS.out.t (bT HBL.out hX0)).cv 6 _ rfl⟩
    have HBN := hid (bT HBL.out (below1 wr (.cells #[.int .i64 (na - sa), .int .i64 (nb - sb)] 79)))
    clear hc6 hc9 hc8 u6 v6 u9 v9 u8 v8 hSB hj
    generalize hwn : wr.alloc (.cells #[.int .i64 (na - sa), .int .i64 (nb - sb)] 79) = V10 at *
    clear hwn
    refine wG9 G 33 (by kernel_rfl) (b0 V10).drew (fun hH9 => ?_)
    refine tkG 0 (h := ?_)
    refine tkG 1 (h := ?_)
    refine tkG 2 (h := ?_)
    refine tkG 3 (h := ?_)
    refine tkG 4 (h := ?_)
    refine tkG 5 (h := ?_)
    refine tkG 6 (h := ?_)
    refine tkG 7 (h := ?_)
    refine tkG 8 (h := ?_)
    refine tkG 9 (h := ?_)
    refine tkG 10 (h := ?_)
    refine tkG 11 (h := ?_)
    refine tkG 12 (h := ?_)
    refine tkG 13 (h := ?_)
    refine tkG 14 (h := ?_)
    refine tkG 15 (h := ?_)
    refine tkG 16 (h := ?_)
    refine tkG 17 (h := ?_)
    refine tkG 18 (h := ?_)
    refine tkG 19 (h := ?_)
    refine tkG 20 (h := ?_)
    refine tkG 21 (h := ?_)
    refine tkG 22 (h := ?_)
    refine tkG 23 (h := ?_)
    refine tkG 24 (h := ?_)
    refine tkG 25 (h := ?_)
    refine tkG 26 (h := ?_)
    refine tkG 27 (h := ?_)
    refine tkG 28 (h := ?_)
    refine tkG 29 (h := ?_)
    refine tkG 30 (h := ?_)
    refine tkG 31 (h := ?_)
    refine tkG 32 (h := ?_)
    refine wL9 (i := 33) (by kernel_rfl) rfl (by decide) (fun K hK => ?_)
    go_simp
    refine hK.out _ _ (wD9 (by kernel_rfl) ?_ _)
    clear hK K
    clear G hH9
    try simp only [Exit.then]
    have HBD := hid (bT HBN.out (b0 V10).drew)
    have hl20 : erows.length ≤ 20 := by have := HLS.out; omega
    have hj1 : j + 1 ≤ erows.length := HJ.out
    go_wp2_with fail
    go_roundw
    case rel => exact ⟨j + 1, HJ.out, by go_num, HBD⟩
    case measure =>
     have h9 := HJ.out
     have e1 : (intOf (.int .i64 (j : Int))).toNat = j := by simp [intOf]
     have e2 : (intOf (.int .i64 ((j : Int) + 1))).toNat = j + 1 := by simp [intOf]
     rw [e1, e2]
     omega
   have HPt := hid (HP9.out.below HBL.out)
   have HQt := hid (HQ9.out.below HBL.out)
   obtain ⟨hkr, _⟩ := replE_zero HH3.out
   obtain ⟨o5, hpe⟩ := HPt.out.pe
   have KI := pe_inputs hpe
   have d0 := HPt.out.desk
   unfold InsR at KI
   clear hpe HP9 HQ9 HR6R HR8R HR9R HRW HO8 HO9 HO6 HWS HNS HXS
   go_wp2_with fail
   refine KI.mono ?_
   clear KI
   rintro e V11 ⟨⟨A7, c7, rfl, ho⟩, hb⟩
   clear hj hj'
   obtain ⟨kk, rfl⟩ : ∃ kk : Nat, kx = (kk : Int) + 1 := ⟨(kx - 1).toNat, by omega⟩
   have hkk : kk < D.e.ins.length := by omega
   obtain ⟨b7, o7, A2, n2, c2, hA7, hl7, x5, hel⟩ := ins_at ho.view kk hkk
   subst hA7
   have HP11 := hid (HPt.out.below hb)
   have HQ11 := hid (HQt.out.below hb)
   have HEL := hid hel
   clear ho hl7 hel hb d0
   obtain ⟨l2, hl2⟩ : ∃ l, l = (D.e.ins.getD kk in0).l := ⟨_, rfl⟩
   rw [← hl2] at HEL
   have hn2 : n2 ≤ 1000 := by
    have h8 := HP11.out.ok.e.il (D.e.ins.getD kk in0) (getD_mem' in0 hkk)
    have h9 := HEL.out.1
    rw [hl2] at h9
    omega
   obtain ⟨hs0, hno⟩ := eff_same HI.out (k := (kk : Int) + 1) (by omega) HHE.out l2 (by rw [hl2, show ((kk : Int) + 1).toNat - 1 = kk by omega])
   obtain ⟨Vg, hvg⟩ : ∃ V, V = effV D.e (nomI 4) ((kk : Int) + 1) l2 := ⟨_, rfl⟩
   rw [← hvg] at hno
   have hrg : Vg.rows.length ≤ 1000 := by
    rw [hvg]
    show (deltaL _ _ _).length ≤ 1000
    rw [deltaL_len]
    have h8 := HP11.out.ok.e.tc
    have h9 : (tryV (replV D.e ((kk : Int) + 1) l2) (nomI 4) 0).rows.length = D.e.tb.cts.length := try_rows _ _ _
    omega
   have KE := pg_effect (c := c2) HP11.out ((kk : Int) + 1) HEL.out hn2 0 Vg hs0.symm hvg
   unfold BetR efC at KE
   have HNO := hid hno
   have HRG := hid hrg
   have hi53 : D.e.ins.length ≤ 53 := HP11.out.ok.e.ins53
   clear hs0 hvg hl2 hno hrg HHE HH1 HH3 HH2 HH4 HR1 HR2 HR4 HZ1 HZ4 HVE hkr
   have g1 : IntKind.i64.wrap (kk : Int) = (kk : Int) := IntWalk.i64_in _ (by omega)
   have g2 : wrap64 (kk : Int) = (kk : Int) := IntWalk.wrap64_in _ (by omega)
   have kk0 : (0 : Int) ≤ (kk : Int) := by omega
   have kk1 : (kk : Int) < (D.e.ins.length : Int) := by omega
   have kk2 : ((kk : Int)).toNat = kk := by omega
   go_wp2_with fail
   refine KE.mono ?_
   clear KE
   rintro e V12 ⟨⟨_, A14, c14, rfl, ho⟩ | ⟨hx, _⟩, hb⟩
   case inr => exact absurd rfl hx
   clear x5 g1 g2 kk0 kk1 kk2 hn2 HEL hkk hi53
   obtain ⟨⟨gc, gt, gs⟩, gx, gh, grows, gn⟩ := Vg
   dsimp only at HRG ho ⊢
   have hb2 := bT hb (below1 V12 (.cells #[.int .i64 gc, .int .i64 gt, .int .i64 gs, .int .i64 gx, .int .i64 gh, .slice A14 grows.length c14, .int .i64 gn] 73))
   have HP13 := hid (HP11.out.below hb2)
   have HQ13 := hid (HQ11.out.below hb2)
   have HGS := hid (Blk.mk V12 73 #[.int .i64 gc, .int .i64 gt, .int .i64 gs, .int .i64 gx, .int .i64 gh, .slice A14 grows.length c14, .int .i64 gn])
   have HOG := hid (oB9 ho (below1 V12 (.cells #[.int .i64 gc, .int .i64 gt, .int .i64 gs, .int .i64 gx, .int .i64 gh, .slice A14 grows.length c14, .int .i64 gn] 73)))
   clear hb hb2 ho HP11 HQ11 HPt HQt
   go_upto_region 32 with fail
   generalize hwn : V12.alloc (.cells #[.int .i64 gc, .int .i64 gt, .int .i64 gs, .int .i64 gx, .int .i64 gh, .slice A14 grows.length c14, .int .i64 gn] 73) = V13 at *
   clear hwn
   have G : Hid (∀ X, Below V13.heap.size V13 X → X.cell? ⟨V12.heap.size, 0, none⟩ = some (.int .i64 gc) ∧ X.cell? ⟨V12.heap.size, 1, none⟩ = some (.int .i64 gt) ∧ X.cell? ⟨V12.heap.size, 2, none⟩ = some (.int .i64 gs) ∧ X.cell? ⟨V12.heap.size, 3, none⟩ = some (.int .i64 gx) ∧ X.cell? ⟨V12.heap.size, 4, none⟩ = some (.int .i64 gh) ∧ X.cell? ⟨V12.heap.size, 5, none⟩ = some (.slice A14 grows.length c14) ∧ X.cell? ⟨V12.heap.size, 6, none⟩ = some (.int .i64 gn) ∧ X.cell? ⟨gd, 0, none⟩ = some (.pointer (some ⟨gp, 0, none⟩)) ∧ X.cell? ⟨gd2, 0, none⟩ = some (.pointer (some ⟨gp2, 0, none⟩))) := fun X hX => ⟨(HGS.out.t hX).cv 0 _ rfl, (HGS.out.t hX).cv 1 _ rfl, (HGS.out.t hX).cv 2 _ rfl, (HGS.out.t hX).cv 3 _ rfl, (HGS.out.t hX).cv 4 _ rfl, (HGS.out.t hX).cv 5 _ rfl, (HGS.out.t hX).cv 6 _ rfl, (HP13.out.below hX).desk, (HQ13.out.below hX).desk⟩
   have hD2 := HD2.out
   have hyr2 : D2.e.yr = D.e.yr := by rw [hD2]; rfl
   obtain ⟨fl, hfl⟩ : ∃ k, k = D.fx.length := ⟨_, rfl⟩
   have hfl2 : D2.fx.length = fl + 1 := by rw [hD2, hfl]; show (D.fx ++ [_]).length = _; rw [List.length_append]; rfl
   have fl60 : fl ≤ 60 := by rw [hfl]; exact HFL6.out
   have hyt : D.e.yr.t.rows.length ≤ 1000 := by have h8 := HP13.out.ok.e.tc; have h9 := HP13.out.ok.e.yr; omega
   have HHF := hid hfl
   have HHF2 := hid hfl2
   have HHY := hid hyr2
   have HYT := hid hyt
   have qf : (((fl + 1 : Nat) : Int) == IntKind.i64.wrap ((fl : Int) + 1)) = true := by rw [IntWalk.i64_in _ (by omega)]; simp
   have qf2 : ((fl : Int) + 1 == IntKind.i64.wrap ((fl : Int) + 1)) = true := by rw [IntWalk.i64_in _ (by omega)]; simp
   clear hD2 hyr2 hfl hfl2 hyt
   refine wG9 G 31 (by kernel_rfl) (b0 V13).drew (fun hH9 => ?_)
   refine tkG 0 (h := ?_)
   refine tkG 1 (h := ?_)
   refine tkG 2 (h := ?_)
   refine tkG 3 (h := ?_)
   refine tkO 4 (h := fun K hK => ?_)
   go_simp
   go_at_call 22
   have KN := none_yes ⟨⟨gc, gt, gs⟩, gx, gh, grows, gn⟩ HNO.out A14 grows.length c14 V13.drew (row_sh (ow9 (f := shC) (d := sh0) sl9 (oB9 HOG.out (b0 V13).drew) rfl (by have := HRG.out; omega) (by decide)))
   unfold efC at KN
   dsimp only at KN
   refine (KN).mono ?_
   rintro e V14 ⟨rfl, hb⟩
   have HB14 : Below V13.heap.size V13 V14 := bT (b0 V13).drew hb
   refine shG hK (G.out _ HB14) (h := fun hH9 => ?_)
   clear hK K
   refine tkG 5 (h := ?_)
   refine tkG 6 (h := ?_)
   refine tkG 7 (h := ?_)
   refine tkG 10 (h := ?_)
   refine tkO 8 (h := fun K hK => ?_)
   go_simp
   go_at_call 15
   have KX := pg_fixes (HQ13.out.below HB14)
   unfold FxR at KX
   rw [HHF2.out] at KX
   refine (KX).mono ?_
   rintro e V15 ⟨⟨A15, c15, rfl, _⟩, hb⟩
   have HB15 : Below V13.heap.size V13 V15 := bT HB14 hb
   refine shG hK (G.out _ HB15) (h := fun hH9 => ?_)
   clear hK K
   refine tkG 9 (h := ?_)
   refine tkO 11 (h := fun K hK => ?_)
   go_simp
   go_at_call 15
   have KX := pg_fixes (HP13.out.below HB15)
   unfold FxR at KX
   rw [← HHF.out] at KX
   refine (KX).mono ?_
   rintro e V16 ⟨⟨A16, c16, rfl, _⟩, hb⟩
   have HB16 : Below V13.heap.size V13 V16 := bT HB15 hb
   refine shG hK (G.out _ HB16) (h := fun hH9 => ?_)
   clear hK K
   refine tkG 12 (h := ?_)
   refine tkG 13 (h := ?_)
   refine tkG 14 (h := ?_)
   refine tkG 15 (h := ?_)
   refine tkG 16 (h := ?_)
   refine tkG 17 (h := ?_)
   refine tkG 18 (h := ?_)
   refine tkG 19 (h := ?_)
   refine tkG 20 (h := ?_)
   refine tkG 23 (h := ?_)
   refine tkG 24 (h := ?_)
   refine tkG 25 (h := ?_)
   refine tkG 26 (h := ?_)
   refine tkO 21 (h := fun K hK => ?_)
   go_simp
   go_at_call 11
   obtain ⟨o6, hpe⟩ := (HQ13.out.below HB16).pe
   have KX := pe_posted hpe
   unfold YCloneR at KX
   rw [HHY.out] at KX
   refine (KX).mono ?_
   rintro e V17 ⟨⟨q1, Ay, cy, By, dy, rfl, _, hya⟩, hb⟩
   have HB17 : Below V13.heap.size V13 V17 := bT HB16 hb
   have HYA := hid hya
   clear hya hpe KX
   refine shG hK (G.out _ HB17) (h := fun hH9 => ?_)
   clear hK K
   refine tkO 22 (h := fun K hK => ?_)
   go_simp
   go_at_call 26
   have KX := ytotals_c q1 _ _ Ay cy By dy V17 HYA.out HYT.out
   unfold ToR toC at KX
   refine (KX).mono ?_
   rintro e V18 ⟨⟨A18, c18, rfl, ho18⟩, hb⟩
   have HB18 : Below V13.heap.size V13 V18 := bT HB17 hb
   have HO18 := hid ho18
   clear ho18 KX HYA
   refine shG hK (G.out _ HB18) (h := fun hH9 => ?_)
   clear hK K
   refine tkO 27 (h := fun K hK => ?_)
   go_simp
   go_at_call 11
   obtain ⟨o7, hpe⟩ := (HP13.out.below HB18).pe
   have KX := pe_posted hpe
   unfold YCloneR at KX
   refine (KX).mono ?_
   rintro e V19 ⟨⟨q2, Ay2, cy2, By2, dy2, rfl, _, hya⟩, hb⟩
   have HB19 : Below V13.heap.size V13 V19 := bT HB18 hb
   have HYA := hid hya
   have HO19 := hid (oB9 HO18.out hb)
   clear hya hpe KX HO18
   refine shG hK (G.out _ HB19) (h := fun hH9 => ?_)
   clear hK K
   refine tkO 28 (h := fun K hK => ?_)
   go_simp
   go_at_call 26
   have KX := ytotals_c q2 _ _ Ay2 cy2 By2 dy2 V19 HYA.out HYT.out
   unfold ToR toC at KX
   refine (KX).mono ?_
   rintro e V20 ⟨⟨A20, c20, rfl, ho20⟩, hb⟩
   have HB20 : Below V13.heap.size V13 V20 := bT HB19 hb
   have HO20 := hid ho20
   have HO21 := hid (oB9 HO19.out hb)
   clear ho20 KX HYA HO19
   refine shG hK (G.out _ HB20) (h := fun hH9 => ?_)
   clear hK K
   refine tkO 29 (h := fun K hK => ?_)
   go_simp
   go_at_call 25
   have KX := yrsame_c D.e.yr.t.b.c D.e.yr.t.b.t D.e.yr.t.b.s D.e.yr.t.tx D.e.yr.t.sh D.e.yr.t.net D.e.yr.t.tk D.e.yr.t.py D.e.yr.t.rows A18 A20 D.e.yr.t.rows.length c18 c20 V20 (ow9 (f := shC) (d := sh0) sl9 HO21.out rfl (by have := HYT.out; omega) (by decide)) (ow9 (f := shC) (d := sh0) sl9 HO20.out rfl (by have := HYT.out; omega) (by decide))
   refine (KX).mono ?_
   rintro e V21 ⟨rfl, hb⟩
   have HB21 : Below V13.heap.size V13 V21 := bT HB20 hb
   refine shG hK (G.out _ HB21) (h := fun hH9 => ?_)
   clear hK K
   refine tkG 30 (h := ?_)
   refine wL9 (i := 31) (by kernel_rfl) rfl (by decide) (fun K hK => ?_)
   go_simp
   refine hK.out _ _ (wD9 (by kernel_rfl) ?_ _)
   clear hK K
   clear G hH9
   try simp only [Exit.then]
   have HBF := hid (bT HBW0.out (HP13.out.below HB21).bl)
   clear HB21 hb
   go_wp2_with fail
   refine bodyPost_ret (v := .bool true) (by simp [results, results5, go_sem]) rfl ⟨rfl, HBF.out⟩
end Go.Proofs.YtiaabmhjkoohmaaGreat
