/-
 Layer 23: posted is posted. Conditions as named.
-/
import Derived.Test.YtiaabmhjkoohmaaGreatBeg23
import Derived.Test.YtiaabmhjkoohmaaGreatDo23
import Derived.Test.YtiaabmhjkoohmaaGreatSmall23
namespace Go.Proofs.YtiaabmhjkoohmaaGreat
set_option maxRecDepth 100000
set_option maxHeartbeats 25600000
set_option linter.unusedVariables false
set_option linter.unusedSimpArgs false
open Go.RowKit Tryz
open Lib (hid)
theorem doV_yr {D : Dk} {nom : Int} {o : Op} (h : o.k ≠ 5) : (doV D nom o).e.yr = D.e.yr := by
 unfold doV
 by_cases h0 : o.k = 0
 ·
  rw [if_pos h0]; first | done | rfl
 rw [if_neg h0]
 by_cases h1 : o.k = 1
 ·
  rw [if_pos h1]; first | done | rfl
 rw [if_neg h1]
 by_cases h2 : o.k = 2
 ·
  rw [if_pos h2]; first | done | rfl
 rw [if_neg h2]
 by_cases h3 : o.k = 3
 ·
  rw [if_pos h3]; first | done | rfl
 rw [if_neg h3]
 by_cases h4 : o.k = 4
 ·
  rw [if_pos h4]; first | done | rfl
 rw [if_neg h4]
 rw [if_neg h]
 by_cases h6 : o.k = 6
 ·
  rw [if_pos h6]; first | done | rfl
 ·
  rw [if_neg h6]; first | done | rfl
theorem doV_run {D : Dk} {nom : Int} {o : Op} (h : o.k = 5) : (doV D nom o).e.yr.sl = D.e.yr.sl ++ [runS D.e nom] := by
 unfold doV
 rw [if_neg (by rw [h]; decide), if_neg (by rw [h]; decide), if_neg (by rw [h]; decide), if_neg (by rw [h]; decide), if_neg (by rw [h]; decide), if_pos h]
 rfl
abbrev S10 (X : World) (b o : Nat) (v0 v1 v2 v3 v4 v5 v6 v7 v8 v9 : Value) : Prop := X.cell? ⟨b, o, none⟩ = some v0 ∧ X.cell? ⟨b, o + 1, none⟩ = some v1 ∧ X.cell? ⟨b, o + 2, none⟩ = some v2 ∧ X.cell? ⟨b, o + 3, none⟩ = some v3 ∧ X.cell? ⟨b, o + 4, none⟩ = some v4 ∧ X.cell? ⟨b, o + 5, none⟩ = some v5 ∧ X.cell? ⟨b, o + 6, none⟩ = some v6 ∧ X.cell? ⟨b, o + 7, none⟩ = some v7 ∧ X.cell? ⟨b, o + 8, none⟩ = some v8 ∧ X.cell? ⟨b, o + 9, none⟩ = some v9
theorem s10_of {X : World} {b o : Nat} {v0 v1 v2 v3 v4 v5 v6 v7 v8 v9 : Value} (h : ∀ (i : Nat) (u : Value), [v0, v1, v2, v3, v4, v5, v6, v7, v8, v9][i]? = some u → X.cell? ⟨b, o + i, none⟩ = some u) : S10 X b o v0 v1 v2 v3 v4 v5 v6 v7 v8 v9 :=
 ⟨h 0 _ rfl, h 1 _ rfl, h 2 _ rfl, h 3 _ rfl, h 4 _ rfl, h 5 _ rfl, h 6 _ rfl, h 7 _ rfl, h 8 _ rfl, h 9 _ rfl⟩
theorem S10.t {w X : World} {b o : Nat} {v0 v1 v2 v3 v4 v5 v6 v7 v8 v9 : Value} (h : S10 w b o v0 v1 v2 v3 v4 v5 v6 v7 v8 v9) (hb : Below w.heap.size w X) (hl : b < w.heap.size) : S10 X b o v0 v1 v2 v3 v4 v5 v6 v7 v8 v9 := by
 have e : ∀ j, X.cell? ⟨b, j, none⟩ = w.cell? ⟨b, j, none⟩ := fun j => hb.cell (p := ⟨b, j, none⟩) hl
 unfold S10
 simp only [e]
 exact h
theorem SlipsOwn.app {w : World} {base : Nat} {A : Option Addr} {n c : Nat} {l : List Sp} (h : SlipsOwn w base A n c l) : ∃ xs, w.ownsRow base 45 10 (.slice A n c) n xs ∧ ∀ (W : World) (A' : Option Addr) (c' : Nat) (q : SpP), w.grownBy W (blkO A) → W.ownsRow base 45 10 (.slice A' (n + 1) c') (n + 1) (xs ++ spPC q) → SpOwn W base q → SlipsOwn W base A' (n + 1) c' (l ++ [q.z]) := by
 obtain ⟨L, h1, h2, h3, h4⟩ := h.ex
 refine ⟨_, h3, fun W A' c' q hg ho hq => ⟨L ++ [q], by rw [List.map_append, h1]; rfl, by rw [List.length_append, ← h2]; rfl, by rw [List.flatMap_append]; simpa using ho, fun r hr => ?_⟩⟩
 rcases List.mem_append.1 hr with hr | hr
 ·
  exact ⟨own_keptT (h4 r hr).rows h3 (by decide) hg, own_keptT (h4 r hr).tk h3 (by decide) hg⟩
 ·
  rw [List.mem_singleton] at hr; subst hr; exact hq
theorem grown_none {W W' : World} (h : W.grownBy W' none) : Below W.heap.size W W' := ⟨h.os, h.tape, h.output, h.size, fun i hi => h.block i hi (by simp)⟩
theorem PG.grow {w0 W W' : World} {fq days : Int} {gd gp gy : Nat} {D : Dk} (h : PG w0 fq days W gd gp gy D) {base n c : Nat} {A : Option Addr} {xs : List Value} (ho : W.ownsRow base 45 10 (.slice A n c) n xs) (hb : w0.heap.size ≤ base) (hs : ∀ g, blkO A = some g → SlAt W gy g) (hg : W.grownBy W' (blkO A)) : PG w0 fq days W' gd gp gy D ∧ W'.cell? ⟨gy, 1, none⟩ = W.cell? ⟨gy, 1, none⟩ := by
 rcases hA : blkO A with _ | g
 ·
  rw [hA] at hg
  have hbl := grown_none hg
  exact ⟨h.below hbl, hbl.cell (p := ⟨gy, 1, none⟩) h.ylt⟩
 ·
  obtain ⟨⟨cs, hk⟩, hge⟩ := own_typ ho hA
  rw [hA] at hg
  exact ⟨h.pt hk (Nat.le_trans hb hge) (hs g hA) hg, h.ycell hk hg⟩
--%
theorem retroPosted_walk (t : Tb) (As Ac Ak : Option Addr) (ns cs nc cc nk ck : Nat) (lim rnd : Int) (c : Cd) (w : World) (hs : ScSl w As ns t.sch) (hc : CtSl w Ac nc t.cts) (hcc : nc ≤ cc) (hkd : KdSl w Ak nk t.kds) (hck : nk ≤ ck) (hl : lim = t.lim) (hr : rnd = t.rnd) (hn : ns ≤ 9223372036854775807 ∧ nc ≤ 9223372036854775807 ∧ nk ≤ 9223372036854775807) (A : Option Addr) (n d : Nat) (ops : List OpP) (ho : OpSl w A n ops) :
  Calls prog 3 #[.agg #[.slice As ns cs, .slice Ac nc cc, .slice Ak nk ck, .int .i64 lim, .int .i64 rnd], .agg #[.int .i64 c.s, .int .i64 c.k, .int .i64 c.a, .int .i64 c.f, .bool c.al], .slice A n d] w fun e w' => e = .returned (.bool true) ∧ Below w.heap.size w w' := by
 have HF0 := hid (Fr.start w)
 have KB := hid (fun W (hW : Below w.heap.size w W) => begin23_c t As Ac Ak ns cs nc cc nk ck lim rnd c W (hs.below hW) (hc.below hW) hcc (hkd.below hW) hck hl hr hn)
 have HO := hid ho
 have hn9 := ho.1.2.1
 unfold BegR at KB
 clear hs hc hcc hkd hck hl hr hn ho
 have HF1 := al9 (((HF0.out.al 26 #[.slice As ns cs, .slice Ac nc cc, .slice Ak nk ck, .int .i64 lim, .int .i64 rnd]).al 28 #[.int .i64 c.s, .int .i64 c.k, .int .i64 c.a, .int .i64 c.f, .bool c.al]))
 clear HF0
 go_enter func3, ntmps3
 go_wp2_with fail
 refine (fixes_c _).mono ?_
 rintro e W1 ⟨rfl, hb⟩
 have HF2 := hid (HF1.out.ca hb)
 clear hb HF1
 obtain ⟨c0_0, c0_1, c0_2, c0_3, c0_4⟩ := (HF2.out.b 0 rfl).q5
 obtain ⟨c1_0, c1_1, c1_2, c1_3, c1_4⟩ := (HF2.out.b 1 rfl).q5
 go_wp2_with fail
 refine (KB.out _ HF2.out.bl).mono ?_
 rintro e W2 ⟨hbeg, hb⟩
 clear c0_0 c0_1 c0_2 c0_3 c0_4 c1_0 c1_1 c1_2 c1_3 c1_4
 have HBL : Hid (Below w.heap.size w W2) := (HF2.out.ca hb).bl
 have HW1 : Hid (w.heap.size ≤ W1.heap.size) := HF2.out.bl.size
 have HBW0 : Hid (Below w.heap.size w W1) := HF2.out.bl
 have HWB : Hid (Below w.heap.size w W1) := HF2.out.bl
 clear KB hb HF2
 obtain ⟨gd, gp, gq, rfl, hp⟩ | rfl := hbeg
 case inr =>
  go_wp2_with fail
  refine bodyPost_ret (v := .bool true) (by simp [results, results3, go_sem]) rfl ⟨rfl, HBL.out⟩
 have HP0 := hid hp
 clear hp
 go_wp2_with fail
 refine (small23_c A n d ops W2 (HO.out.below HBL.out)).mono ?_
 rintro e W3 ⟨⟨r, rfl, hsm⟩, hb⟩
 have HB3 := hid (bT HBL.out hb)
 have HP3 := hid (HP0.out.below hb)
 clear hb HP0
 cases r
 case false =>
  go_wp2_with fail
  refine bodyPost_ret (v := .bool true) (by simp [results, results3, go_sem]) rfl ⟨rfl, HB3.out⟩
 obtain ⟨hn60, hm40⟩ := hsm rfl
 have HM40 := hid hm40
 clear hsm hm40
 go_wp2_with fail
 go_loopw [8, 29] (fun o i wr => ∃ (k : Nat) (A' : Option Addr) (c' : Nat) (D : Dk), k ≤ n ∧ i = .int .i64 k ∧ o = .slice A' D.e.yr.sl.length c' ∧ Hid (SlipsOwn wr W1.heap.size A' D.e.yr.sl.length c' D.e.yr.sl) ∧ Hid (∀ g, blkO A' = some g → SlAt wr gq g) ∧ Hid (PG W1 4 365 wr gd gp gq D) ∧ Hid (Below w.heap.size w wr)) (fun _ i _ => n - (intOf i).toNat)
 case atStart => exact ⟨0, none, 0, dnewV (newV t c), Nat.zero_le _, rfl, rfl, hid ⟨[], rfl, rfl, World.ownsRow_nil _ _ _ _, fun q hq => by cases hq⟩, hid (fun g hg => by cases hg), HP3, HB3⟩
 case round =>
  obtain ⟨k, A', c', D, hk', rfl, rfl, HS, HSA, HP, HBW⟩ := hrel
  by_cases hk : k < n
  case neg =>
   go_wp2_with fail
   refine bodyPost_ret (v := .bool true) (by simp [results, results3, go_sem]) rfl ⟨rfl, HBW.out⟩
  have hO := HO.out.below HBW.out
  have hln := hO.1.1
  obtain ⟨b, off, rfl, hlt, hat⟩ := hO.1.2.2 (by omega)
  have hc := hat k hk
  have hel := HO.out.2 k (by omega)
  have h40 := HM40.out k hk
  generalize ops.getD k op0 = x at *
  obtain ⟨⟨zk, zl9, ⟨zs, zc, za, zf, zl⟩, zi, zp, zq, zr, zt, zn⟩, zA, zm, zd⟩ := x
  dsimp only at hel h40
  obtain ⟨x0, x1, x2, x3, x4, x5, x6, x7, x8, x9, x10, x11, x12⟩ : wr.cell? ⟨b, off + k * 13, none⟩ = some (.int .i64 zk) ∧ wr.cell? ⟨b, off + k * 13 + 1, none⟩ = some (.slice zA zm zd) ∧ wr.cell? ⟨b, off + k * 13 + 2, none⟩ = some (.int .i64 zs) ∧ wr.cell? ⟨b, off + k * 13 + 3, none⟩ = some (.int .i64 zc) ∧ wr.cell? ⟨b, off + k * 13 + 4, none⟩ = some (.int .i64 za) ∧ wr.cell? ⟨b, off + k * 13 + 5, none⟩ = some (.int .i64 zf) ∧ wr.cell? ⟨b, off + k * 13 + 6, none⟩ = some (.bool zl) ∧ wr.cell? ⟨b, off + k * 13 + 7, none⟩ = some (.int .i64 zi) ∧ wr.cell? ⟨b, off + k * 13 + 8, none⟩ = some (.int .i64 zp) ∧ wr.cell? ⟨b, off + k * 13 + 9, none⟩ = some (.int .i64 zq) ∧ wr.cell? ⟨b, off + k * 13 + 10, none⟩ = some (.int .i64 zr) ∧ wr.cell? ⟨b, off + k * 13 + 11, none⟩ = some (.int .i64 zt) ∧ wr.cell? ⟨b, off + k * 13 + 12, none⟩ = some (.int .i64 zn) := ⟨hc 0 _ rfl, hc 1 _ rfl, hc 2 _ rfl, hc 3 _ rfl, hc 4 _ rfl, hc 5 _ rfl, hc 6 _ rfl, hc 7 _ rfl, hc 8 _ rfl, hc 9 _ rfl, hc 10 _ rfl, hc 11 _ rfl, hc 12 _ rfl⟩
  have HEL : Hid (ElSl W1 zA zm zl9) := hel.below HWB.out
  have HZM : Hid (zm ≤ 40) := h40
  have HK1 : Hid (k + 1 ≤ n) := hk
  have HYR := hid HP.out.ok.e
  clear hc hat hel h40 hO hln hk hk'
  have kk0 : (0 : Int) ≤ (k : Int) := by omega
  have kk1 : (k : Int) < (n : Int) := by have := HK1.out; omega
  have kk2 : ((k : Int)).toNat = k := by omega
  go_upto_region 10 with fail
  clear x0 x1 x2 x3 x4 x5 x6 x7 x8 x9 x10 x11 x12
  have hb1 := below1 wr (.cells #[.int .i64 zk, .slice zA zm zd, .int .i64 zs, .int .i64 zc, .int .i64 za, .int .i64 zf, .bool zl, .int .i64 zi, .int .i64 zp, .int .i64 zq, .int .i64 zr, .int .i64 zt, .int .i64 zn] 39)
  have HOB := hid (Blk.mk wr 39 #[.int .i64 zk, .slice zA zm zd, .int .i64 zs, .int .i64 zc, .int .i64 za, .int .i64 zf, .bool zl, .int .i64 zi, .int .i64 zp, .int .i64 zq, .int .i64 zr, .int .i64 zt, .int .i64 zn])
  have HPa := hid (HP.out.below hb1)
  have HSa := hid (HS.out.below hb1)
  have HSAa : Hid (∀ g, blkO A' = some g → SlAt (wr.alloc (.cells #[.int .i64 zk, .slice zA zm zd, .int .i64 zs, .int .i64 zc, .int .i64 za, .int .i64 zf, .bool zl, .int .i64 zi, .int .i64 zp, .int .i64 zq, .int .i64 zr, .int .i64 zt, .int .i64 zn] 39)) gq g) := fun g hg => (HSA.out g hg).same (hb1.cell (p := ⟨gq, 1, none⟩) HP.out.ylt)
  have HBWa := hid (bT HBW.out hb1)
  clear hb1 HP HS HSA HBW
  generalize hwn : wr.alloc (.cells #[.int .i64 zk, .slice zA zm zd, .int .i64 zs, .int .i64 zc, .int .i64 za, .int .i64 zf, .bool zl, .int .i64 zi, .int .i64 zp, .int .i64 zq, .int .i64 zr, .int .i64 zt, .int .i64 zn] 39) = V1 at *
  clear hwn
  obtain ⟨re, hre⟩ : ∃ r, r = doE D (nomI 4) (cntI 4 365) ⟨zk, zl9, ⟨zs, zc, za, zf, zl⟩, zi, zp, zq, zr, zt, zn⟩ := ⟨_, rfl⟩
  obtain ⟨z, hz⟩ : ∃ z, z = runS D.e (nomI 4) := ⟨_, rfl⟩
  obtain ⟨D', hd1, hd2⟩ : ∃ D', (re = 0 → D' = doV D (nomI 4) ⟨zk, zl9, ⟨zs, zc, za, zf, zl⟩, zi, zp, zq, zr, zt, zn⟩) ∧ (re ≠ 0 → D' = D) := by
   by_cases h : re = 0
   ·
    exact ⟨_, fun _ => rfl, fun h2 => absurd h h2⟩
   ·
    exact ⟨_, fun h2 => absurd h2 h, fun _ => rfl⟩
  have HD1 := hid hd1
  have HD2 := hid hd2
  have HZ := hid hz
  have KD := hid (do23_c HPa.out ⟨⟨zk, zl9, ⟨zs, zc, za, zf, zl⟩, zi, zp, zq, zr, zt, zn⟩, zA, zm, zd⟩ HEL.out (by show zm ≤ 1000; have := HZM.out; omega) re z hre hz hd1 hd2)
  unfold DoR spC opC at KD
  dsimp only at KD
  clear hre hz hd1 hd2
  have qz := HOB.out
  have ob0 := qz.cv 0 (.int .i64 zk) rfl
  have ob1 := qz.cv 1 (.slice zA zm zd) rfl
  have ob2 := qz.cv 2 (.int .i64 zs) rfl
  have ob3 := qz.cv 3 (.int .i64 zc) rfl
  have ob4 := qz.cv 4 (.int .i64 za) rfl
  have ob5 := qz.cv 5 (.int .i64 zf) rfl
  have ob6 := qz.cv 6 (.bool zl) rfl
  have ob7 := qz.cv 7 (.int .i64 zi) rfl
  have ob8 := qz.cv 8 (.int .i64 zp) rfl
  have ob9 := qz.cv 9 (.int .i64 zq) rfl
  have ob10 := qz.cv 10 (.int .i64 zr) rfl
  have ob11 := qz.cv 11 (.int .i64 zt) rfl
  have ob12 := qz.cv 12 (.int .i64 zn) rfl
  clear qz
  go_wp2_with fail
  refine KD.out.mono ?_
  rintro e V2 ⟨⟨⟨sp, ⟨sc, st, ss⟩, stx, ssh, srows, snet, stk, spy⟩, A8, n8, c8, B8, m8, d8, rfl, hv⟩, hp, hkd⟩
  clear KD ob0 ob1 ob2 ob3 ob4 ob5 ob6 ob7 ob8 ob9 ob10 ob11 ob12
  have hb2 := below1 V2 (.cells #[.int .i64 sp, .int .i64 sc, .int .i64 st, .int .i64 ss, .int .i64 stx, .int .i64 ssh, .slice A8 n8 c8, .int .i64 snet, .slice B8 m8 d8, .int .i64 spy] 45)
  have HP2 := hid (hp.below hb2)
  have HOB2 := hid ((hkd.blk HOB.out (by decide)).t hb2)
  have HSB := hid (Blk.mk V2 45 #[.int .i64 sp, .int .i64 sc, .int .i64 st, .int .i64 ss, .int .i64 stx, .int .i64 ssh, .slice A8 n8 c8, .int .i64 snet, .slice B8 m8 d8, .int .i64 spy])
  have HV2 : Hid (zk = 5 → SlipV (V2.alloc (.cells #[.int .i64 sp, .int .i64 sc, .int .i64 st, .int .i64 ss, .int .i64 stx, .int .i64 ssh, .slice A8 n8 c8, .int .i64 snet, .slice B8 m8 d8, .int .i64 spy] 45)) V1.heap.size re z ⟨sp, ⟨sc, st, ss⟩, stx, ssh, srows, snet, stk, spy⟩ A8 n8 c8 B8 m8 d8) := fun h => (hv h).below hb2
  have hss : SlipsOwn V2 W1.heap.size A' D.e.yr.sl.length c' D.e.yr.sl := by obtain ⟨L, q1, q2, q3, q4⟩ := HSa.out.ex; exact ⟨L, q1, q2, hkd.own q3 (by decide), fun q hq => ⟨hkd.own (q4 q hq).rows (by decide), hkd.own (q4 q hq).tk (by decide)⟩⟩
  have HS2 := hid (hss.below hb2)
  have HSA2 : Hid (∀ g, blkO A' = some g → SlAt (V2.alloc (.cells #[.int .i64 sp, .int .i64 sc, .int .i64 st, .int .i64 ss, .int .i64 stx, .int .i64 ssh, .slice A8 n8 c8, .int .i64 snet, .slice B8 m8 d8, .int .i64 spy] 45)) gq g ∧ W1.heap.size ≤ g ∧ g < V2.heap.size) := fun g hg => by
   obtain ⟨L, _, _, q3, _⟩ := HSa.out.ex
   have hl := q3.lt g ((blkO_own _ _ _).trans hg)
   exact ⟨(hkd.sl g hl.2 (HSAa.out g hg)).same (hb2.cell (p := ⟨gq, 1, none⟩) hp.ylt), hl.1, Nat.lt_of_lt_of_le hl.2 hkd.size⟩
  have HB2 : Hid (Below w.heap.size w (V2.alloc (.cells #[.int .i64 sp, .int .i64 sc, .int .i64 st, .int .i64 ss, .int .i64 stx, .int .i64 ssh, .slice A8 n8 c8, .int .i64 snet, .slice B8 m8 d8, .int .i64 spy] 45))) := bT HBW0.out HP2.out.bl
  have HV1 : Hid (W1.heap.size ≤ V1.heap.size) := HPa.out.bl.size
  clear hb2 hv hp hkd hss HPa HOB HSa HSAa HBWa
  go_upto_region 11 with fail
  generalize hwn : V2.alloc (.cells #[.int .i64 sp, .int .i64 sc, .int .i64 st, .int .i64 ss, .int .i64 stx, .int .i64 ssh, .slice A8 n8 c8, .int .i64 snet, .slice B8 m8 d8, .int .i64 spy] 45) = V3 at *
  clear hwn
  obtain ⟨bb, hbb⟩ : ∃ b : Bool, (b = true ↔ zk = 5 ∧ re = 0) := ⟨decide (zk = 5 ∧ re = 0), by simp⟩
  have HBB := hid hbb
  clear hbb
  go_cut [45] (fun v wx => v = .bool bb ∧ V3 = wx)
  case first =>
   have ob0 := HOB2.out.cv 0 (.int .i64 zk) rfl
   by_cases h5 : zk = 5
   case neg =>
    have k5 : (zk == 5) = false := by simpa using h5
    have hbv : bb = false := by
     cases bb
     ·
      rfl
     ·
      exact absurd (HBB.out.1 rfl) (fun h => h5 h.1)
    subst hbv
    clear HBB HD1 HD2 HV2
    go_wp2_with fail
    go_meet
    exact ⟨rfl, rfl⟩
   by_cases h0 : re = 0
   case neg =>
    have r0 : (re == 0) = false := by simpa using h0
    have k9 : (zk == 5) = true := by simpa using h5
    have hbv : bb = false := by
     cases bb
     ·
      rfl
     ·
      exact absurd (HBB.out.1 rfl) (fun h => h0 h.2)
    subst hbv
    clear HBB HD1 HD2 HV2
    go_wp2_with fail
    go_meet
    exact ⟨rfl, rfl⟩
   have r0 : (re == 0) = true := by simpa using h0
   have k9 : (zk == 5) = true := by simpa using h5
   have hbv : bb = true := by
    exact HBB.out.2 ⟨h5, h0⟩
   subst hbv
   clear HBB HD1 HD2 HV2
   go_wp2_with fail
   go_meet
   exact ⟨rfl, rfl⟩
  case rest =>
   obtain ⟨rfl, rfl⟩ := hcut
   have HYS9 : Hid (bb = false → D'.e.yr = D.e.yr) := fun hb => by
    by_cases h0 : re = 0
    ·
     rw [HD1.out h0]; exact doV_yr (fun h5 => by have := HBB.out.2 ⟨h5, h0⟩; rw [hb] at this; cases this)
    ·
     rw [HD2.out h0]
   cases bb
   case false =>
    have hy9 := HYS9.out rfl
    have HS3 : Hid (SlipsOwn V3 W1.heap.size A' D'.e.yr.sl.length c' D'.e.yr.sl) := by unfold Hid; rw [hy9]; exact HS2.out
    have HSA3 : Hid (∀ g, blkO A' = some g → SlAt V3 gq g) := fun g hg => (HSA2.out g hg).1
    rw [← hy9]
    clear hy9 HYS9 HBB HD1 HD2 HV2 HS2 HSA2 HOB2 HSB HZ
    have d0 := HP2.out.desk
    obtain ⟨o3, hpe⟩ := HP2.out.pe
    have KPo := hid (pe_posted hpe)
    have HOKe := hid HP2.out.ok.e
    unfold YCloneR at KPo
    clear hpe
    obtain ⟨ys, hys⟩ : ∃ l, l = D'.e.yr.sl := ⟨_, rfl⟩
    have HYS := hid hys
    rw [← hys] at HS3 ⊢
    obtain ⟨ll, hll⟩ : ∃ k, k = ys.length := ⟨_, rfl⟩
    have HLL := hid hll
    rw [← hll] at HS3 ⊢
    clear hys hll
    go_wp2_with fail
    refine KPo.out.mono ?_
    rintro e W7 ⟨⟨q, Ay, cy, By, dy, rfl, _, hya⟩, hb7⟩
    clear d0 KPo
    have KSl := hid (yslips_c q _ _ Ay cy By dy W7 hya (by have := HOKe.out.sl; have := HOKe.out.ins53; omega) (fun z hz => by have := HOKe.out.each z hz; omega))
    unfold SlipsR at KSl
    rw [← HYS.out, ← HLL.out] at KSl
    clear hya
    go_wp2_with fail
    refine KSl.out.mono ?_
    rintro e W8 ⟨⟨A5, c5, rfl, ho5⟩, hb8⟩
    have hb78 := bT hb7 hb8
    have HO5 := hid ho5
    have HO6 := hid (HS3.out.below hb78)
    have HP8 := hid (HP2.out.below hb78)
    have HSA8 : Hid (∀ g, blkO A' = some g → SlAt W8 gq g) := fun g hg => (HSA3.out g hg).same (hb78.cell (p := ⟨gq, 1, none⟩) HP2.out.ylt)
    have HB8 := hid (bT HB2.out hb78)
    have hll9 : ll ≤ 53 := by have := HOKe.out.sl; have := HOKe.out.ins53; rw [HLL.out, HYS.out]; omega
    have HL9 := hid hll9
    clear KSl ho5 hb7 hb8 hb78 hll9 HS3 HSA3 HP2 HB2
    have q9 : ((ll : Int) != (ll : Int)) = false := by simp
    go_wp2_with fail
    clear q9
    obtain ⟨L5, a1, a2, a3, a4⟩ := HO5.out.ex
    obtain ⟨L6, b1, b2, b3, b4⟩ := HO6.out.ex
    have HR5 : Hid (RowSl spPC 10 spp0 W8 A5 ll L5) := own_row spPC_len a3 a2 (by have := HL9.out; omega) (by decide)
    have HR6 : Hid (RowSl spPC 10 spp0 W8 A' ll L6) := own_row spPC_len b3 b2 (by have := HL9.out; omega) (by decide)
    have HQ : Hid (∀ i, i < ll → (L5.getD i spp0).z = (L6.getD i spp0).z ∧ SpOwn W8 W7.heap.size (L5.getD i spp0) ∧ SpOwn W8 W1.heap.size (L6.getD i spp0) ∧ (L5.getD i spp0).z.rows.length ≤ 1000 ∧ (L5.getD i spp0).z.tk.length ≤ 1000) := fun i hi => by
     have hz5 := HOKe.out.each (L5.getD i spp0).z (by rw [← HYS.out, ← a1]; exact List.mem_map_of_mem (getD_mem' spp0 (by omega)))
     have e5 : (L5.getD i spp0).z = ys.getD i spp0.z := by rw [← a1]; exact (getD_map' SpP.z L5 i spp0 (by omega)).symm
     have e6 : (L6.getD i spp0).z = ys.getD i spp0.z := by rw [← b1]; exact (getD_map' SpP.z L6 i spp0 (by omega)).symm
     exact ⟨e5.trans e6.symm, a4 _ (getD_mem' spp0 (by omega)), b4 _ (getD_mem' spp0 (by omega)), by omega, by omega⟩
    clear a1 a2 a3 a4 b1 b2 b3 b4 HO5
    go_loopw [63] (fun i wr => ∃ j : Nat, j ≤ ll ∧ i = .int .i64 j ∧ Below W8.heap.size W8 wr) (fun i _ => ll - (intOf i).toNat)
    case atStart => exact ⟨0, Nat.zero_le _, rfl, b0 W8⟩
    case round =>
     obtain ⟨j, hj', rfl, hbl⟩ := hrel
     by_cases hj : j < ll
     case neg =>
      obtain rfl : j = ll := by omega
      have HBF := hid hbl
      clear hj hj' hbl HR5 HR6 HQ
      go_wp2_with fail
      go_roundw
      case rel =>
       refine ⟨k + 1, A', c', D', HK1.out, by go_num, ?_, ?_, ?_, hid (HP8.out.below HBF.out), hid (bT HB8.out HBF.out)⟩
       ·
        rw [← HYS.out, ← HLL.out]
       ·
        rw [← HYS.out, ← HLL.out]; exact hid (HO6.out.below HBF.out)
       ·
        exact hid (fun g hg => (HSA8.out g hg).same (HBF.out.cell (p := ⟨gq, 1, none⟩) HP8.out.ylt))
      case measure => have := HK1.out; simp [intOf]; omega
     obtain ⟨b5, o5, hA5, hl5, ht5⟩ := (HR5.out.below hbl).2.2 (by omega)
     obtain ⟨b6, o6, hA6, hl6, ht6⟩ := (HR6.out.below hbl).2.2 (by omega)
     rw [hA5, hA6]
     have hc5 := ht5 j hj
     have hc6 := ht6 j hj
     obtain ⟨z1, z2, z3, z4⟩ := HQ.out j hj
     have hs5 := z2.rows
     have hk5 := z2.tk
     have hs6 := z3.rows
     have hk6 := z3.tk
     clear ht5 ht6 z2 z3 hA5 hA6
     generalize L5.getD j spp0 = q5 at *
     generalize L6.getD j spp0 = q6 at *
     obtain ⟨⟨xp, ⟨xc, xt, xs⟩, xtx, xsh, xrows, xnet, xtk, xpy⟩, Ap, cAp, Bp, dBp⟩ := q5
     obtain ⟨z6, Aq, cAq, Bq, dBq⟩ := q6
     dsimp only at z1
     subst z1
     dsimp only at hs5 hk5 hs6 hk6 z4
     have hr1 := own_row (f := shC) (d := sh0) shC_len (own_below hs5 hbl) rfl (by have := z4.1; omega) (by decide)
     have hr2 := own_row (f := shC) (d := sh0) shC_len (own_below hs6 hbl) rfl (by have := z4.1; omega) (by decide)
     have hr3 := own_row (f := tkC) (d := tk0) tkC_len' (own_below hk5 hbl) rfl (by have := z4.2; omega) (by decide)
     have hr4 := own_row (f := tkC) (d := tk0) tkC_len' (own_below hk6 hbl) rfl (by have := z4.2; omega) (by decide)
     have hu : S10 wr b5 (o5 + j * 10) (.int .i64 xp) (.int .i64 xc) (.int .i64 xt) (.int .i64 xs) (.int .i64 xtx) (.int .i64 xsh) (.slice Ap xrows.length cAp) (.int .i64 xnet) (.slice Bp xtk.length dBp) (.int .i64 xpy) := s10_of hc5
     have hv : S10 wr b6 (o6 + j * 10) (.int .i64 xp) (.int .i64 xc) (.int .i64 xt) (.int .i64 xs) (.int .i64 xtx) (.int .i64 xsh) (.slice Aq xrows.length cAq) (.int .i64 xnet) (.slice Bq xtk.length dBq) (.int .i64 xpy) := s10_of hc6
     have G := hid (fun X (hX : Below wr.heap.size wr X) => And.intro (S10.t hu hX hl5) (S10.t hv hX hl6))
     have KS := hid (fun W (hW : Below wr.heap.size wr W) => slsame_c xp xc xt xs xtx xsh xnet xpy xrows xtk Ap Aq Bp Bq _ cAp cAq _ dBp dBq W (hr1.below hW) (hr2.below hW) (hr3.below hW) (hr4.below hW))
     have HBI := hid hbl
     have HJ : Hid (j + 1 ≤ ll) := hj
     have j0 : (0 : Int) ≤ (j : Int) := by omega
     have j1 : (j : Int) < (ll : Int) := by omega
     have j2 : ((j : Int)).toNat = j := by omega
     clear hc5 hc6 hs5 hs6 hk5 hk6 hr1 hr2 hr3 hr4 z4 hbl hj hj' hu hv
     go_upto_region 19 with fail
     refine wp_region_E (fun X => Below wr.heap.size wr X ∧ S10 X b5 (o5 + j * 10) (.int .i64 xp) (.int .i64 xc) (.int .i64 xt) (.int .i64 xs) (.int .i64 xtx) (.int .i64 xsh) (.slice Ap xrows.length cAp) (.int .i64 xnet) (.slice Bp xtk.length dBp) (.int .i64 xpy) ∧ S10 X b6 (o6 + j * 10) (.int .i64 xp) (.int .i64 xc) (.int .i64 xt) (.int .i64 xs) (.int .i64 xtx) (.int .i64 xsh) (.slice Aq xrows.length cAq) (.int .i64 xnet) (.slice Bq xtk.length dBq) (.int .i64 xpy)) 9 (by kernel_rfl) (⟨(b0 wr).drew, G.out _ (b0 wr).drew⟩) (fun hHeld => ?_)
     refine tkG 0 (h := ?_)
     refine tkG 1 (h := ?_)
     refine tkG 2 (h := ?_)
     refine tkG 3 (h := ?_)
     refine tkG 4 (h := ?_)
     refine tkG 5 (h := ?_)
     refine tkG 6 (h := ?_)
     refine tkG 7 (h := ?_)
     refine tkO 8 (h := fun K hK => ?_)
     go_simp
     go_at_call 13
     refine (KS.out _ (b0 wr).drew).mono ?_
     rintro e W10 ⟨rfl, hb⟩
     have HB10 : Below wr.heap.size wr W10 := bT (b0 wr).drew hb
     refine hK.out _ _ (⟨HB10, G.out _ HB10⟩) (fun hHeld => ?_)
     clear hK K
     try simp only [gA, gB, gC, pN, pU, pL, pZ, pS]
     refine wpAnyE_late (i := 9) (by kernel_rfl) rfl (by decide) (fun K hK => ?_)
     go_simp
     refine hK.out _ _ (wpAnyE_done (by kernel_rfl) ?_ _)
     clear hK K
     clear G hHeld KS
     try simp only [Exit.then]
     have HBN := hid (bT HBI.out HB10)
     clear HB10 hb
     have hl53 : ll ≤ 53 := HL9.out
     have hj1 : j + 1 ≤ ll := HJ.out
     go_wp2_with fail
     go_roundw
     case rel => exact ⟨j + 1, HJ.out, by go_num, HBN.out⟩
     case measure =>
      have h9 : j + 1 ≤ ll := HJ.out
      have e1 : (intOf (.int .i64 (j : Int))).toNat = j := by simp [intOf]
      have e2 : (intOf (.int .i64 ((j : Int) + 1))).toNat = j + 1 := by simp [intOf]
      rw [e1, e2]
      omega
   obtain ⟨h5, h0⟩ := HBB.out.1 rfl
   have hD5 := (congrArg (fun d => d.e.yr.sl) (HD1.out h0)).trans (doV_run h5)
   rw [← HZ.out] at hD5
   have HVR := hid (HV2.out h5)
   have hl53 : D.e.yr.sl.length ≤ 53 := by have := HYR.out.sl; have := HYR.out.ins53; omega
   clear HD1 HD2 HV2 HYS9 HBB HOB2 HZ
   obtain ⟨hZ, hn8, hm8, ho8, ht8⟩ := HVR.out.ok h0
   subst hZ
   dsimp only at hn8 hm8 ho8 ht8
   subst hn8
   subst hm8
   clear HVR h5 h0
   obtain ⟨xs, hxs, happ⟩ := HS2.out.app
   have HO8 := hid ho8
   have HT8 := hid ht8
   have HXS := hid hxs
   have HAPP := hid happ
   have HD5 := hid hD5
   have HL53 := hid hl53
   have HSZ3 : Hid (W1.heap.size ≤ V3.heap.size) := HP2.out.bl.size
   clear ho8 ht8 hxs happ hD5 hl53 HS2
   obtain ⟨s0, s1, s2, s3, s4, s5, s6, s7, s8, s9⟩ := (HSB.out).q10
   clear HSB
   have HGR : Hid (∀ W6, V3.grownBy W6 (Value.slice A' D.e.yr.sl.length c').ownBlock → PG W1 4 365 W6 gd gp gq D' ∧ W6.cell? ⟨gq, 1, none⟩ = V3.cell? ⟨gq, 1, none⟩) := fun W6 hg => HP2.out.grow HXS.out (Nat.le_refl _) (fun g h => (HSA2.out g h).1) (by rw [blkO_own] at hg; exact hg)
   go_wp2_with (at_builtin; refine wpList_app1W _ rfl _ _ 34 rfl 45 _ 10 112 underlying34 info_slip rfl (by decide) rfl HXS.out #[.int .i64 sp, .int .i64 sc, .int .i64 st, .int .i64 ss, .int .i64 stx, .int .i64 ssh, .slice A8 srows.length c8, .int .i64 snet, .slice B8 stk.length d8, .int .i64 spy] rfl (by first | rfl | simp) rfl (sp_one (⟨⟨sp, ⟨sc, st, ss⟩, stx, ssh, srows, snet, stk, spy⟩, A8, c8, B8, d8⟩ : SpP)) (by have := HL53.out; omega) (by have := HL53.out; omega) HSZ3.out ?_; intro v' w6 ho' hg hw; have hpd := (HGR.out _ hg).1.desk)
   clear s0 s1 s2 s3 s4 s5 s6 s7 s8 s9
   obtain ⟨A6, c6, rfl⟩ := own_slice ho'
   replace hw : blkO A6 = blkO A' ∨ ∃ g, blkO A6 = some g ∧ V3.heap.size ≤ g := by rw [← blkO_own A6 (D.e.yr.sl.length + 1) c6, ← blkO_own A' D.e.yr.sl.length c']; exact hw
   clear hpd
   obtain ⟨hPG, hce⟩ := HGR.out _ hg
   replace hg : V3.grownBy w6 (blkO A') := by rw [← blkO_own A' D.e.yr.sl.length c']; exact hg
   have HSA6 : Hid (∀ g, blkO A6 = some g → SlAt w6 gq g) := fun g hgA => by
    rcases hw with hw | ⟨g2, h2, h3⟩
    ·
     rw [hw] at hgA
     exact (HSA2.out g hgA).1.same hce
    ·
     rw [hgA] at h2
     injection h2 with h2
     subst h2
     exact (HP2.out.slAt h3).same hce
   have hs6 := HAPP.out w6 A6 c6 (⟨⟨sp, ⟨sc, st, ss⟩, stx, ssh, srows, snet, stk, spy⟩, A8, c8, B8, d8⟩ : SpP) hg ho' ⟨own_keptT (own_more HO8.out HV1.out) HXS.out (by decide) hg, own_keptT (own_more HT8.out HV1.out) HXS.out (by decide) hg⟩
   have hlen : D.e.yr.sl.length + 1 = D'.e.yr.sl.length := by rw [HD5.out, List.length_append]; rfl
   have HS6 : Hid (SlipsOwn w6 W1.heap.size A6 D'.e.yr.sl.length c6 D'.e.yr.sl) := by unfold Hid; rw [← hlen, HD5.out]; exact hs6
   rw [hlen]
   have HP6 := hid hPG
   have HB6 : Hid (Below w.heap.size w w6) := bT HBW0.out hPG.bl
   clear hs6 hlen hPG hce hw hg ho' HAPP HXS HO8 HT8 HSA2 HP2 HB2 HSZ3 HL53 HV1 HGR
   have d0 := HP6.out.desk
   obtain ⟨o3, hpe⟩ := HP6.out.pe
   have KPo := hid (pe_posted hpe)
   have HOKe := hid HP6.out.ok.e
   unfold YCloneR at KPo
   clear hpe
   obtain ⟨ys, hys⟩ : ∃ l, l = D'.e.yr.sl := ⟨_, rfl⟩
   have HYS := hid hys
   rw [← hys] at HS6 ⊢
   obtain ⟨ll, hll⟩ : ∃ k, k = ys.length := ⟨_, rfl⟩
   have HLL := hid hll
   rw [← hll] at HS6 ⊢
   clear hys hll
   refine KPo.out.mono ?_
   rintro e W7 ⟨⟨q, Ay, cy, By, dy, rfl, _, hya⟩, hb7⟩
   clear d0 KPo
   have KSl := hid (yslips_c q _ _ Ay cy By dy W7 hya (by have := HOKe.out.sl; have := HOKe.out.ins53; omega) (fun z hz => by have := HOKe.out.each z hz; omega))
   unfold SlipsR at KSl
   rw [← HYS.out, ← HLL.out] at KSl
   clear hya
   go_wp2_with fail
   refine KSl.out.mono ?_
   rintro e W8 ⟨⟨A5, c5, rfl, ho5⟩, hb8⟩
   have hb78 := bT hb7 hb8
   have HO5 := hid ho5
   have HO6 := hid (HS6.out.below hb78)
   have HP8 := hid (HP6.out.below hb78)
   have HSA8 : Hid (∀ g, blkO A6 = some g → SlAt W8 gq g) := fun g hg => (HSA6.out g hg).same (hb78.cell (p := ⟨gq, 1, none⟩) HP6.out.ylt)
   have HB8 := hid (bT HB6.out hb78)
   have hll9 : ll ≤ 53 := by have := HOKe.out.sl; have := HOKe.out.ins53; rw [HLL.out, HYS.out]; omega
   have HL9 := hid hll9
   clear KSl ho5 hb7 hb8 hb78 hll9 HS6 HSA6 HP6 HB6
   have q9 : ((ll : Int) != (ll : Int)) = false := by simp
   go_wp2_with fail
   clear q9
   obtain ⟨L5, a1, a2, a3, a4⟩ := HO5.out.ex
   obtain ⟨L6, b1, b2, b3, b4⟩ := HO6.out.ex
   have HR5 : Hid (RowSl spPC 10 spp0 W8 A5 ll L5) := own_row spPC_len a3 a2 (by have := HL9.out; omega) (by decide)
   have HR6 : Hid (RowSl spPC 10 spp0 W8 A6 ll L6) := own_row spPC_len b3 b2 (by have := HL9.out; omega) (by decide)
   have HQ : Hid (∀ i, i < ll → (L5.getD i spp0).z = (L6.getD i spp0).z ∧ SpOwn W8 W7.heap.size (L5.getD i spp0) ∧ SpOwn W8 W1.heap.size (L6.getD i spp0) ∧ (L5.getD i spp0).z.rows.length ≤ 1000 ∧ (L5.getD i spp0).z.tk.length ≤ 1000) := fun i hi => by
    have hz5 := HOKe.out.each (L5.getD i spp0).z (by rw [← HYS.out, ← a1]; exact List.mem_map_of_mem (getD_mem' spp0 (by omega)))
    have e5 : (L5.getD i spp0).z = ys.getD i spp0.z := by rw [← a1]; exact (getD_map' SpP.z L5 i spp0 (by omega)).symm
    have e6 : (L6.getD i spp0).z = ys.getD i spp0.z := by rw [← b1]; exact (getD_map' SpP.z L6 i spp0 (by omega)).symm
    exact ⟨e5.trans e6.symm, a4 _ (getD_mem' spp0 (by omega)), b4 _ (getD_mem' spp0 (by omega)), by omega, by omega⟩
   clear a1 a2 a3 a4 b1 b2 b3 b4 HO5
   go_loopw [63] (fun i wr => ∃ j : Nat, j ≤ ll ∧ i = .int .i64 j ∧ Below W8.heap.size W8 wr) (fun i _ => ll - (intOf i).toNat)
   case atStart => exact ⟨0, Nat.zero_le _, rfl, b0 W8⟩
   case round =>
    obtain ⟨j, hj', rfl, hbl⟩ := hrel
    by_cases hj : j < ll
    case neg =>
     obtain rfl : j = ll := by omega
     have HBF := hid hbl
     clear hj hj' hbl HR5 HR6 HQ
     go_wp2_with fail
     go_roundw
     case rel =>
      refine ⟨k + 1, A6, c6, D', HK1.out, by go_num, ?_, ?_, ?_, hid (HP8.out.below HBF.out), hid (bT HB8.out HBF.out)⟩
      ·
       rw [← HYS.out, ← HLL.out]
      ·
       rw [← HYS.out, ← HLL.out]; exact hid (HO6.out.below HBF.out)
      ·
       exact hid (fun g hg => (HSA8.out g hg).same (HBF.out.cell (p := ⟨gq, 1, none⟩) HP8.out.ylt))
     case measure => have := HK1.out; simp [intOf]; omega
    obtain ⟨b5, o5, hA5, hl5, ht5⟩ := (HR5.out.below hbl).2.2 (by omega)
    obtain ⟨b6, o6, hA6, hl6, ht6⟩ := (HR6.out.below hbl).2.2 (by omega)
    rw [hA5, hA6]
    have hc5 := ht5 j hj
    have hc6 := ht6 j hj
    obtain ⟨z1, z2, z3, z4⟩ := HQ.out j hj
    have hs5 := z2.rows
    have hk5 := z2.tk
    have hs6 := z3.rows
    have hk6 := z3.tk
    clear ht5 ht6 z2 z3 hA5 hA6
    generalize L5.getD j spp0 = q5 at *
    generalize L6.getD j spp0 = q6 at *
    obtain ⟨⟨xp, ⟨xc, xt, xs⟩, xtx, xsh, xrows, xnet, xtk, xpy⟩, Ap, cAp, Bp, dBp⟩ := q5
    obtain ⟨z6, Aq, cAq, Bq, dBq⟩ := q6
    dsimp only at z1
    subst z1
    dsimp only at hs5 hk5 hs6 hk6 z4
    have hr1 := own_row (f := shC) (d := sh0) shC_len (own_below hs5 hbl) rfl (by have := z4.1; omega) (by decide)
    have hr2 := own_row (f := shC) (d := sh0) shC_len (own_below hs6 hbl) rfl (by have := z4.1; omega) (by decide)
    have hr3 := own_row (f := tkC) (d := tk0) tkC_len' (own_below hk5 hbl) rfl (by have := z4.2; omega) (by decide)
    have hr4 := own_row (f := tkC) (d := tk0) tkC_len' (own_below hk6 hbl) rfl (by have := z4.2; omega) (by decide)
    have hu : S10 wr b5 (o5 + j * 10) (.int .i64 xp) (.int .i64 xc) (.int .i64 xt) (.int .i64 xs) (.int .i64 xtx) (.int .i64 xsh) (.slice Ap xrows.length cAp) (.int .i64 xnet) (.slice Bp xtk.length dBp) (.int .i64 xpy) := s10_of hc5
    have hv : S10 wr b6 (o6 + j * 10) (.int .i64 xp) (.int .i64 xc) (.int .i64 xt) (.int .i64 xs) (.int .i64 xtx) (.int .i64 xsh) (.slice Aq xrows.length cAq) (.int .i64 xnet) (.slice Bq xtk.length dBq) (.int .i64 xpy) := s10_of hc6
    have G := hid (fun X (hX : Below wr.heap.size wr X) => And.intro (S10.t hu hX hl5) (S10.t hv hX hl6))
    have KS := hid (fun W (hW : Below wr.heap.size wr W) => slsame_c xp xc xt xs xtx xsh xnet xpy xrows xtk Ap Aq Bp Bq _ cAp cAq _ dBp dBq W (hr1.below hW) (hr2.below hW) (hr3.below hW) (hr4.below hW))
    have HBI := hid hbl
    have HJ : Hid (j + 1 ≤ ll) := hj
    have j0 : (0 : Int) ≤ (j : Int) := by omega
    have j1 : (j : Int) < (ll : Int) := by omega
    have j2 : ((j : Int)).toNat = j := by omega
    clear hc5 hc6 hs5 hs6 hk5 hk6 hr1 hr2 hr3 hr4 z4 hbl hj hj' hu hv
    go_upto_region 19 with fail
    refine wp_region_E (fun X => Below wr.heap.size wr X ∧ S10 X b5 (o5 + j * 10) (.int .i64 xp) (.int .i64 xc) (.int .i64 xt) (.int .i64 xs) (.int .i64 xtx) (.int .i64 xsh) (.slice Ap xrows.length cAp) (.int .i64 xnet) (.slice Bp xtk.length dBp) (.int .i64 xpy) ∧ S10 X b6 (o6 + j * 10) (.int .i64 xp) (.int .i64 xc) (.int .i64 xt) (.int .i64 xs) (.int .i64 xtx) (.int .i64 xsh) (.slice Aq xrows.length cAq) (.int .i64 xnet) (.slice Bq xtk.length dBq) (.int .i64 xpy)) 9 (by kernel_rfl) (⟨(b0 wr).drew, G.out _ (b0 wr).drew⟩) (fun hHeld => ?_)
    refine tkG 0 (h := ?_)
    refine tkG 1 (h := ?_)
    refine tkG 2 (h := ?_)
    refine tkG 3 (h := ?_)
    refine tkG 4 (h := ?_)
    refine tkG 5 (h := ?_)
    refine tkG 6 (h := ?_)
    refine tkG 7 (h := ?_)
    refine tkO 8 (h := fun K hK => ?_)
    go_simp
    go_at_call 13
    refine (KS.out _ (b0 wr).drew).mono ?_
    rintro e W10 ⟨rfl, hb⟩
    have HB10 : Below wr.heap.size wr W10 := bT (b0 wr).drew hb
    refine hK.out _ _ (⟨HB10, G.out _ HB10⟩) (fun hHeld => ?_)
    clear hK K
    try simp only [gA, gB, gC, pN, pU, pL, pZ, pS]
    refine wpAnyE_late (i := 9) (by kernel_rfl) rfl (by decide) (fun K hK => ?_)
    go_simp
    refine hK.out _ _ (wpAnyE_done (by kernel_rfl) ?_ _)
    clear hK K
    clear G hHeld KS
    try simp only [Exit.then]
    have HBN := hid (bT HBI.out HB10)
    clear HB10 hb
    have hl53 : ll ≤ 53 := HL9.out
    have hj1 : j + 1 ≤ ll := HJ.out
    go_wp2_with fail
    go_roundw
    case rel => exact ⟨j + 1, HJ.out, by go_num, HBN.out⟩
    case measure =>
     have h9 : j + 1 ≤ ll := HJ.out
     have e1 : (intOf (.int .i64 (j : Int))).toNat = j := by simp [intOf]
     have e2 : (intOf (.int .i64 ((j : Int) + 1))).toNat = j + 1 := by simp [intOf]
     rw [e1, e2]
     omega
end Go.Proofs.YtiaabmhjkoohmaaGreat
