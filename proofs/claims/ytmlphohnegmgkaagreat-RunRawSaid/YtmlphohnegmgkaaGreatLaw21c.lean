/-
 Layer 21: refused is refused. Conditions as named.
-/
import Derived.Test.YtmlphohnegmgkaaGreatLaw21b
import Derived.Test.YtmlphohnegmgkaaGreatLike21
import Derived.Test.YtmlphohnegmgkaaGreatM2
import Derived.Test.YtmlphohnegmgkaaGreatM3
import Derived.Test.YtmlphohnegmgkaaGreatM1
import Derived.Lib.MinMax
import Derived.Deep.CutBlock
import Derived.Deep.DeepCutAuto
namespace Go.Proofs.YtmlphohnegmgkaaGreat
set_option maxRecDepth 100000
set_option maxHeartbeats 25600000
set_option linter.unusedVariables false
set_option linter.unusedSimpArgs false
open Go.RowKit
theorem run_tk {fq days : Int} {E : Em} (hk : EmOK fq days E) (h : runE E (nomI fq) (cntI fq days) = 0) : okTk (runS E (nomI fq)).tk (runS E (nomI fq)).tk.length = true ∧ ∀ k, k < (runS E (nomI fq)).tk.length → TkR ((runS E (nomI fq)).tk.getD k tk0) := by
 have r := runE_zero h
 obtain ⟨h1, h2⟩ := bookE_zero r.bk
 obtain ⟨h3, h4, h5⟩ := serveE_zero h1
 have hn := mr_iff.1 h3.1
 show okTk (runTk E (nomI fq)) (runTk E (nomI fq)).length = true ∧ ∀ k, k < (runTk E (nomI fq)).length → TkR ((runTk E (nomI fq)).getD k tk0)
 rw [runTk_len]
 refine ⟨ok_tk E.bk _ _ _ h4 (fun k hk' => (hk.bk.at hk').1) hn h5, fun k hk' => ?_⟩
 obtain ⟨hok, htot⟩ := hk.bk.at hk'
 have hd := oneD_bd hok hn (h5 k hk')
 have hv := ordV_bd hok hn (oneE_zero (h5 k hk')).1
 have har := hok.ar
 unfold runTk
 rw [tkL_get _ _ _ _ _ hk']
 have hta : 0 ≤ (tkA E.bk (tryV E (nomI fq) 0).net E.prot k).ta ∧ (tkA E.bk (tryV E (nomI fq) 0).net E.prot k).ta ≤ oneD (E.bk.getD k od0) (tryV E (nomI fq) 0).net := by
  show 0 ≤ oneT _ _ _ ∧ oneT _ _ _ ≤ _
  unfold oneT; omega
 have hca : (tkA E.bk (tryV E (nomI fq) 0).net E.prot k).ca = oneD (E.bk.getD k od0) (tryV E (nomI fq) 0).net - (tkA E.bk (tryV E (nomI fq) 0).net E.prot k).ta := rfl
 have hbr : (tkA E.bk (tryV E (nomI fq) 0).net E.prot k).br = (E.bk.getD k od0).ar := rfl
 have hor : (tkA E.bk (tryV E (nomI fq) 0).net E.prot k).or = ordV (E.bk.getD k od0) (tryV E (nomI fq) 0).net := rfl
 unfold TkR
 rw [hca, hbr, hor]
 omega
theorem pickE (re : Int) (X Y : Em) : ∃ Z, (re = 0 → Z = X) ∧ (re ≠ 0 → Z = Y) := by
 by_cases h : re = 0
 ·
  exact ⟨X, fun _ => rfl, fun h2 => absurd h h2⟩
 ·
  exact ⟨Y, fun h2 => absurd h2 h, fun _ => rfl⟩
theorem ord_same {E : Em} {z : Od} (h : addE E.bk z ≠ 0) : ordEV E z = E := by unfold ordEV addL; rw [if_neg h]
theorem can_same {E : Em} {id : Int} (h : canE E.bk id ≠ 0) : canEV E id = E := by unfold canEV; rw [if_neg h]
theorem PE.re {w0 w1 W : World} {fq days : Int} {p y o : Nat} {E : Em} (h : PE w1 fq days W p y o E) (hb : Below w0.heap.size w0 W) (hs : w0.heap.size ≤ w1.heap.size) : PE w0 fq days W p y o E := by
 obtain ⟨lo, li, h0, he⟩ := h.em
 exact ⟨hb, ⟨lo, li, Nat.le_trans hs h0, he⟩, h.ok⟩
theorem PE.slo {w0 W W' : World} {fq days : Int} {p y o : Nat} {E : Em} {X : Nat → Prop} (h : PE w0 fq days W p y o E) (hk : Kp W.heap.size X W W') (hx : ¬ X y) {g : Nat} (hs : SlAt W y g) : SlAt W' y g := by
 obtain ⟨lo, li, _, he⟩ := h.em
 obtain ⟨K, h1, h2⟩ := he.ex
 obtain ⟨A, c, B, d, h5⟩ := h2.yr
 have hb := h5.blk.kp hk h5.blk.lt hx
 exact hs.same ((hb.cell 1).trans (h5.blk.cell 1).symm)
theorem run_chk {E : Em} {nom cnt : Int} (h : runE E nom cnt = 0) : chkY (runS E nom) E.yr.n = 0 := (ytryE_zero (runE_zero h).po).1
theorem run_fin {fq days : Int} {E : Em} (hk : EmOK fq days E) (h : runE E (nomI fq) (cntI fq days) = 0) {W : World} {base : Nat} {z Z : Sp} {A : Option Addr} {n c : Nat} {B : Option Addr} {m d : Nat} (hz : z = runS E (nomI fq)) (hv : SlipV W base 0 z Z A n c B m d) :
  (ShareSl W A n Z.rows ∧ TkSl W B m Z.tk) ∧ chkY Z E.yr.n = 0 ∧ okTk Z.tk m = true ∧ ∀ k, k < m → TkR (Z.tk.getD k tk0) := by
 obtain ⟨hZ, hn, hm, ho, ht⟩ := hv.ok rfl
 rw [hZ]
 have hck := run_chk h
 have htk := run_tk hk h
 rw [← hz] at hck htk
 have l1 := chkY_len hck
 have l2 : z.tk.length = E.bk.length := by rw [hz]; exact runTk_len ..
 have h1 := hk.yn
 have h2 := hk.tc
 have h3 := hk.bk.len
 refine ⟨⟨row_sh (own_row shC_len ho hn (by omega) (by decide)), own_row (f := tkC) (K := 6) (d := tk0) tkC_len' ht hm (by omega) (by decide)⟩, hck, ?_, ?_⟩
 ·
  rw [hm]; exact htk.1
 ·
  intro k hk2; exact htk.2 k (by rw [← hm]; exact hk2)
theorem runRaw_walk (t : Tb) (As Ac Ak : Option Addr) (ns cs nc cc nk ck : Nat) (lim rnd : Int) (c : Cd) (w : World) (hs : ScSl w As ns t.sch) (hc : CtSl w Ac nc t.cts) (hcc : nc ≤ cc) (hkd : KdSl w Ak nk t.kds) (hck : nk ≤ ck) (hl : lim = t.lim) (hr : rnd = t.rnd) (hn : ns ≤ 9223372036854775807 ∧ nc ≤ 9223372036854775807 ∧ nk ≤ 9223372036854775807) (A : Option Addr) (n d : Nat) (ops : List OpP) (ho : OpSl w A n ops) :
  Calls Tryz.prog 9 #[.agg #[.slice As ns cs, .slice Ac nc cc, .slice Ak nk ck, .int .i64 lim, .int .i64 rnd], .agg #[.int .i64 c.s, .int .i64 c.k, .int .i64 c.a, .int .i64 c.f, .bool c.al], .slice A n d] w fun e w' => e = .returned (.bool true) ∧ Below w.heap.size w w' := by
 have HF0 := Lib.hid (Fr.start w)
 have KB := Lib.hid (fun W (hW : Below w.heap.size w W) => begin21_c t As Ac Ak ns cs nc cc nk ck lim rnd c W (hs.below hW) (hc.below hW) hcc (hkd.below hW) hck hl hr hn)
 have HO := Lib.hid ho
 have HNC : Hid (nc = t.cts.length) := hc.1
 have hn9 := ho.1.2.1
 unfold BeginR at KB
 clear hs hc hcc hkd hck hl hr hn ho
 have hx := ((HF0.out.al 26 #[.slice As ns cs, .slice Ac nc cc, .slice Ak nk ck, .int .i64 lim, .int .i64 rnd]).al 28 #[.int .i64 c.s, .int .i64 c.k, .int .i64 c.a, .int .i64 c.f, .bool c.al])
 try simp only [World.size_alloc, World.size_setCell] at hx
 have HF1 := Lib.hid hx
 clear hx HF0
 go_enter Tryz.func9, Tryz.ntmps9
 go_wp2_with fail
 refine (pays_c _).mono ?_
 rintro e W1 ⟨rfl, hb⟩
 have HF2 := Lib.hid (HF1.out.ca hb)
 clear hb HF1
 have qz := HF2.out.b 0 rfl
 have c0_0 := qz.cv 0 (.slice As ns cs) rfl
 have c0_1 := qz.cv 1 (.slice Ac nc cc) rfl
 have c0_2 := qz.cv 2 (.slice Ak nk ck) rfl
 have c0_3 := qz.cv 3 (.int .i64 lim) rfl
 have c0_4 := qz.cv 4 (.int .i64 rnd) rfl
 clear qz
 have qz := HF2.out.b 1 rfl
 have c1_0 := qz.cv 0 (.int .i64 c.s) rfl
 have c1_1 := qz.cv 1 (.int .i64 c.k) rfl
 have c1_2 := qz.cv 2 (.int .i64 c.a) rfl
 have c1_3 := qz.cv 3 (.int .i64 c.f) rfl
 have c1_4 := qz.cv 4 (.bool c.al) rfl
 clear qz
 go_wp2_with fail
 refine (KB.out _ HF2.out.bl).mono ?_
 rintro e W2 ⟨hbeg, hb⟩
 clear c0_0 c0_1 c0_2 c0_3 c0_4 c1_0 c1_1 c1_2 c1_3 c1_4
 have HW1 : Hid (w.heap.size ≤ W1.heap.size) := HF2.out.bl.size
 have HT0 : Hid (Blk W2 w.heap.size 26 #[.slice As ns cs, .slice Ac nc cc, .slice Ak nk ck, .int .i64 lim, .int .i64 rnd]) := (HF2.out.ca hb).b 0 rfl
 have HBL : Hid (Below w.heap.size w W2) := (HF2.out.ca hb).bl
 clear KB HF2
 obtain ⟨gw, p, y, o, rfl, ⟨ws, hws, hw0⟩, hp⟩ | rfl := hbeg
 case inr =>
  go_wp2_with fail
  refine bodyPost_ret (v := .bool true) (by simp [results, Tryz.results9, go_sem]) rfl ⟨rfl, HBL.out⟩
 have HP0 := Lib.hid hp
 have HWS := Lib.hid hws
 have HW0 := Lib.hid hw0
 have HB2 := Lib.hid hb
 clear hp hws hw0 hb
 by_cases zn : 40 < n
 case pos =>
  have q1 : decide (40 < (n : Int)) = true := decide_eq_true (by omega)
  have r1 : decide ((n : Int) > 40) = true := decide_eq_true (by omega)
  go_wp2_with fail
  refine bodyPost_ret (v := .bool true) (by simp [results, Tryz.results9, go_sem]) rfl ⟨rfl, HBL.out⟩
 have q1 : decide (40 < (n : Int)) = false := decide_eq_false (by omega)
 have r1 : decide ((n : Int) > 40) = false := decide_eq_false (by omega)
 go_wp2_with fail
 clear q1 r1
 have hT : p ≠ w.heap.size ∧ True := ⟨by have := HP0.out.ge; have := HT0.out.lt; intro he; have hd := HP0.out; obtain ⟨lo, li, h0, hE⟩ := hd.em; obtain ⟨K, hb, _⟩ := hE.ex; exact Blk.differ hb HT0.out (by decide) he, trivial⟩
 clear hT
 go_loopw [32] (fun i wr => ∃ k : Nat, k ≤ n ∧ i = .int .i64 k ∧ ∃ (o9 : Nat) (E : Em), Hid (PE W1 4 365 wr p y o9 E ∧ E.yr.n = t.cts.length) ∧ Hid (Blk wr gw 118 ws) ∧ Hid (Blk wr w.heap.size 26 #[.slice As ns cs, .slice Ac nc cc, .slice Ak nk ck, .int .i64 lim, .int .i64 rnd]) ∧ Hid (Below w.heap.size w wr)) (fun i _ => n - (intOf i).toNat)
 case atStart => exact ⟨0, Nat.zero_le _, rfl, o, newV t c, Lib.hid ⟨HP0.out, rfl⟩, HWS, HT0, HBL⟩
 case round =>
  obtain ⟨k, hk', rfl, o9, E, HPE, HWG, HTG, HBW⟩ := hrel
  by_cases hk : k < n
  case neg =>
   go_wp2_with fail
   refine bodyPost_ret (v := .bool true) (by simp [results, Tryz.results9, go_sem]) rfl ⟨rfl, HBW.out⟩
  have hO := HO.out.below HBW.out
  have hln := hO.1.1
  obtain ⟨b, off, rfl, hlt, hat⟩ := hO.1.2.2 (by omega)
  have hc := hat k hk
  have hel := hO.2 k (by omega)
  generalize ops.getD k op0 = x at *
  obtain ⟨⟨zk, zl9, ⟨zs, zc, za, zf, zl⟩, zi, zp, zq, zr, zt, zn⟩, zA, zm, zd⟩ := x
  dsimp only at hel
  obtain ⟨x0, x1, x2, x3, x4, x5, x6, x7, x8, x9, x10, x11, x12⟩ : wr.cell? ⟨b, off + k * 13, none⟩ = some (.int .i64 zk) ∧ wr.cell? ⟨b, off + k * 13 + 1, none⟩ = some (.slice zA zm zd) ∧ wr.cell? ⟨b, off + k * 13 + 2, none⟩ = some (.int .i64 zs) ∧ wr.cell? ⟨b, off + k * 13 + 3, none⟩ = some (.int .i64 zc) ∧ wr.cell? ⟨b, off + k * 13 + 4, none⟩ = some (.int .i64 za) ∧ wr.cell? ⟨b, off + k * 13 + 5, none⟩ = some (.int .i64 zf) ∧ wr.cell? ⟨b, off + k * 13 + 6, none⟩ = some (.bool zl) ∧ wr.cell? ⟨b, off + k * 13 + 7, none⟩ = some (.int .i64 zi) ∧ wr.cell? ⟨b, off + k * 13 + 8, none⟩ = some (.int .i64 zp) ∧ wr.cell? ⟨b, off + k * 13 + 9, none⟩ = some (.int .i64 zq) ∧ wr.cell? ⟨b, off + k * 13 + 10, none⟩ = some (.int .i64 zr) ∧ wr.cell? ⟨b, off + k * 13 + 11, none⟩ = some (.int .i64 zt) ∧ wr.cell? ⟨b, off + k * 13 + 12, none⟩ = some (.int .i64 zn) := ⟨hc 0 _ rfl, hc 1 _ rfl, hc 2 _ rfl, hc 3 _ rfl, hc 4 _ rfl, hc 5 _ rfl, hc 6 _ rfl, hc 7 _ rfl, hc 8 _ rfl, hc 9 _ rfl, hc 10 _ rfl, hc 11 _ rfl, hc 12 _ rfl⟩
  have HEL := Lib.hid hel
  have kk0 : (0 : Int) ≤ (k : Int) := by omega
  have kk1 : (k : Int) < (n : Int) := by omega
  have kk2 : ((k : Int)).toNat = k := by omega
  have HK1 : Hid (k + 1 ≤ n) := hk
  clear hc hat hel hO hln hk hk'
  go_upto_region 9 with fail
  clear x0 x1 x2 x3 x4 x5 x6 x7 x8 x9 x10 x11 x12
  have HOB := Lib.hid (Blk.mk wr 90 #[.int .i64 zk, .slice zA zm zd, .int .i64 zs, .int .i64 zc, .int .i64 za, .int .i64 zf, .bool zl, .int .i64 zi, .int .i64 zp, .int .i64 zq, .int .i64 zr, .int .i64 zt, .int .i64 zn])
  have hb1 := below1 wr (.cells #[.int .i64 zk, .slice zA zm zd, .int .i64 zs, .int .i64 zc, .int .i64 za, .int .i64 zf, .bool zl, .int .i64 zi, .int .i64 zp, .int .i64 zq, .int .i64 zr, .int .i64 zt, .int .i64 zn] 90)
  replace HPE := Lib.hid (⟨HPE.out.1.below hb1, HPE.out.2⟩ : _ ∧ _)
  replace HWG := Lib.hid (HWG.out.t hb1)
  replace HTG := Lib.hid (HTG.out.t hb1)
  replace HBW := Lib.hid (bT HBW.out hb1)
  replace HEL := Lib.hid (HEL.out.below hb1)
  clear hb1
  have HGO : Hid (wr.heap.size = wr.heap.size) := rfl
  generalize hwn : wr.alloc (.cells #[.int .i64 zk, .slice zA zm zd, .int .i64 zs, .int .i64 zc, .int .i64 za, .int .i64 zf, .bool zl, .int .i64 zi, .int .i64 zp, .int .i64 zq, .int .i64 zr, .int .i64 zt, .int .i64 zn] 90) = V1 at *
  clear HGO hwn
  have ob1 := HOB.out.cv 1 (.slice zA zm zd) rfl
  by_cases zmn : 40 < zm
  case pos =>
   have q1 : decide (40 < (zm : Int)) = true := decide_eq_true (by omega)
   have r1 : decide ((zm : Int) > 40) = true := decide_eq_true (by omega)
   go_wp2_with fail
   refine bodyPost_ret (v := .bool true) (by simp [results, Tryz.results9, go_sem]) rfl ⟨rfl, HBW.out⟩
  have q1 : decide (40 < (zm : Int)) = false := decide_eq_false (by omega)
  have r1 : decide ((zm : Int) > 40) = false := decide_eq_false (by omega)
  have HZM : Hid (zm ≤ 40) := by unfold Hid; omega
  have wg0 := HWG.out.cv 0 (.pointer (some ⟨p, 0, none⟩)) HW0.out
  go_wp2_with fail
  clear q1 r1 zmn
  refine (pe_clone HPE.out.1).mono ?_
  rintro e V2 ⟨⟨q, y2, o2, rfl, hq⟩, hb⟩
  clear wg0 ob1
  have HDF : Hid (¬ fx3 p y o9 q ∧ ¬ fx3 p y o9 y2 ∧ ¬ fx3 p y o9 o2) := by
   obtain ⟨a1, a2, a3⟩ := HPE.out.1.lt
   obtain ⟨b1, b2, b3⟩ := hq.ge
   refine ⟨?_, ?_, ?_⟩ <;> (rintro (he | he | he) <;> omega)
  have hb2 := bA hb (.cells #[.int .i64 0, .int .i64 0, .int .i64 0, .int .i64 0, .int .i64 0, .int .i64 0, .slice none 0 0, .int .i64 0, .slice none 0 0, .int .i64 0] 76)
  have HSL : Hid (SlAt (V2.alloc (.cells #[.int .i64 0, .int .i64 0, .int .i64 0, .int .i64 0, .int .i64 0, .int .i64 0, .slice none 0 0, .int .i64 0, .slice none 0 0, .int .i64 0] 76)) y V2.heap.size ∧ SlAt (V2.alloc (.cells #[.int .i64 0, .int .i64 0, .int .i64 0, .int .i64 0, .int .i64 0, .int .i64 0, .slice none 0 0, .int .i64 0, .slice none 0 0, .int .i64 0] 76)) y2 V2.heap.size) := ⟨SlAt.same ((HPE.out.1.below hb).slAt (Nat.le_refl _)) ((below1 V2 (.cells #[.int .i64 0, .int .i64 0, .int .i64 0, .int .i64 0, .int .i64 0, .int .i64 0, .slice none 0 0, .int .i64 0, .slice none 0 0, .int .i64 0] 76)).cell (p := ⟨y, 1, none⟩) (HPE.out.1.below hb).lt.2.1), SlAt.same (hq.slAt (Nat.le_refl _)) ((below1 V2 (.cells #[.int .i64 0, .int .i64 0, .int .i64 0, .int .i64 0, .int .i64 0, .int .i64 0, .slice none 0 0, .int .i64 0, .slice none 0 0, .int .i64 0] 76)).cell (p := ⟨y2, 1, none⟩) hq.lt.2.1)⟩
  have HGS : Hid (W1.heap.size ≤ V2.heap.size ∧ w.heap.size ≤ V2.heap.size) := ⟨(HPE.out.1.below hb).bl.size, Nat.le_trans HW1.out (HPE.out.1.below hb).bl.size⟩
  have hw3 := bT HBW.out hb2
  have HQE := Lib.hid ((hq.below (below1 V2 (.cells #[.int .i64 0, .int .i64 0, .int .i64 0, .int .i64 0, .int .i64 0, .int .i64 0, .slice none 0 0, .int .i64 0, .slice none 0 0, .int .i64 0] 76))).re hw3 HBW.out.size)
  clear hw3
  have HSB := Lib.hid (Blk.mk V2 76 #[.int .i64 0, .int .i64 0, .int .i64 0, .int .i64 0, .int .i64 0, .int .i64 0, .slice none 0 0, .int .i64 0, .slice none 0 0, .int .i64 0])
  replace HPE := Lib.hid (⟨HPE.out.1.below hb2, HPE.out.2⟩ : _ ∧ _)
  replace HWG := Lib.hid (HWG.out.t hb2)
  replace HTG := Lib.hid (HTG.out.t hb2)
  replace HBW := Lib.hid (bT HBW.out hb2)
  replace HEL := Lib.hid (HEL.out.below hb2)
  replace HOB := Lib.hid (HOB.out.t hb2)
  clear hq hb hb2
  go_upto_region 14 with fail
  generalize hwn : V2.alloc (.cells #[.int .i64 0, .int .i64 0, .int .i64 0, .int .i64 0, .int .i64 0, .int .i64 0, .slice none 0 0, .int .i64 0, .slice none 0 0, .int .i64 0] 76) = V3 at *
  clear hwn
  have ob0 := HOB.out.cv 0 (.int .i64 zk) rfl
  go_upto_block 2 with fail
  clear ob0
  go_cut [13] (fun ev wx => ∃ re : Int, ev = .int .i64 re ∧ ∃ (o' : Nat) (E' : Em), Hid (PE W1 4 365 wx p y o' E' ∧ E'.yr.n = t.cts.length) ∧ Hid (PE w 4 365 wx q y2 o2 E) ∧ Hid (re ≠ 0 → E' = E) ∧ Hid (Blk wx gw 118 ws) ∧ Hid (Blk wx w.heap.size 26 #[.slice As ns cs, .slice Ac nc cc, .slice Ak nk ck, .int .i64 lim, .int .i64 rnd]) ∧ Hid (Below w.heap.size w wx))
  case first =>
   have HDF8 : Hid (w.heap.size ≤ p ∧ w.heap.size ≤ y ∧ w.heap.size ≤ o9) := by have h1 := HPE.out.1.ge; have h2 := HW1.out; unfold Hid; omega
   have HCL : Hid (∀ (W' : World) (o' : Nat) (E' : Em), Kp V3.heap.size (fx3 p y o9) V3 W' → PE w 4 365 W' q y2 o2 E ∧ Blk W' gw 118 ws ∧ Blk W' w.heap.size 26 #[.slice As ns cs, .slice Ac nc cc, .slice Ak nk ck, .int .i64 lim, .int .i64 rnd] ∧ Below w.heap.size w W') := fun W' o' E' hk => by
    have hbw := below_kp HBW.out hk (by obtain ⟨a1, a2, a3⟩ := HDF8.out; rintro g (rfl | rfl | rfl) <;> assumption)
    exact ⟨HQE.out.other HPE.out.1 hk hbw HDF.out.1 HDF.out.2.1 HDF.out.2.2, HPE.out.1.blk hk HWG.out (by decide), HPE.out.1.blk hk HTG.out (by decide), hbw⟩
   have ob0 := HOB.out.cv 0 (.int .i64 zk) rfl
   by_cases hz0 : zk = 0
   case pos =>
    subst hz0
    obtain ⟨re, hre⟩ : ∃ r, r = payE E (cntI 4 365) zl9 := ⟨_, rfl⟩
    obtain ⟨En, hp1, hp2⟩ := pickE re (payV E zl9) E
    have HRE := Lib.hid hre
    have HP1 := Lib.hid hp1
    have HP2 := Lib.hid hp2
    clear hre hp1 hp2
    have HYN : Hid (En.yr.n = t.cts.length) := by
     by_cases hr : re = 0
     ·
      unfold Hid; rw [HP1.out hr]; exact HPE.out.2
     ·
      unfold Hid; rw [HP2.out hr]; exact HPE.out.2
    have ob1 := HOB.out.cv 1 (.slice zA zm zd) rfl
    go_wp2_with fail
    refine (pe_pay HPE.out.1 HEL.out (by have := HZM.out; omega) re En HRE HP1 HP2).mono ?_
    rintro e V4 ⟨rfl, hp, hk, hs4⟩
    obtain ⟨c1, c2, c3, c4⟩ := HCL.out _ o9 E hk
    go_wp2_with fail
    go_meet
    exact ⟨_, rfl, o9, En, Lib.hid ⟨hp, HYN.out⟩, Lib.hid c1, Lib.hid (HP2.out), Lib.hid c2, Lib.hid c3, Lib.hid c4⟩
   have kn0 : (zk == 0) = false := by simpa using hz0
   clear hz0
   by_cases hz1 : zk = 1
   case pos =>
    subst hz1
    obtain ⟨re, hre⟩ : ∃ r, r = codeE E (cntI 4 365) ⟨zs, zc, za, zf, zl⟩ := ⟨_, rfl⟩
    obtain ⟨En, hp1, hp2⟩ := pickE re (codeV E ⟨zs, zc, za, zf, zl⟩) E
    have HRE := Lib.hid hre
    have HP1 := Lib.hid hp1
    have HP2 := Lib.hid hp2
    clear hre hp1 hp2
    have HYN : Hid (En.yr.n = t.cts.length) := by
     by_cases hr : re = 0
     ·
      unfold Hid; rw [HP1.out hr]; exact HPE.out.2
     ·
      unfold Hid; rw [HP2.out hr]; exact HPE.out.2
    have ob2 := HOB.out.cv 2 (.int .i64 zs) rfl
    have ob3 := HOB.out.cv 3 (.int .i64 zc) rfl
    have ob4 := HOB.out.cv 4 (.int .i64 za) rfl
    have ob5 := HOB.out.cv 5 (.int .i64 zf) rfl
    have ob6 := HOB.out.cv 6 (.bool zl) rfl
    go_wp2_with fail
    refine (pe_code HPE.out.1 ⟨zs, zc, za, zf, zl⟩ re En HRE HP1 HP2).mono ?_
    rintro e V4 ⟨rfl, hp, hk, hs4⟩
    obtain ⟨c1, c2, c3, c4⟩ := HCL.out _ o9 E hk
    go_wp2_with fail
    go_meet
    exact ⟨_, rfl, o9, En, Lib.hid ⟨hp, HYN.out⟩, Lib.hid c1, Lib.hid (HP2.out), Lib.hid c2, Lib.hid c3, Lib.hid c4⟩
   have kn1 : (zk == 1) = false := by simpa using hz1
   clear hz1
   by_cases hz2 : zk = 2
   case pos =>
    subst hz2
    have ob7 := HOB.out.cv 7 (.int .i64 zi) rfl
    have ob8 := HOB.out.cv 8 (.int .i64 zp) rfl
    have ob9 := HOB.out.cv 9 (.int .i64 zq) rfl
    have ob10 := HOB.out.cv 10 (.int .i64 zr) rfl
    have ob11 := HOB.out.cv 11 (.int .i64 zt) rfl
    go_wp2_with fail
    refine (pe_order HPE.out.1 zi zp zq zr zt).mono ?_
    rintro e V4 ⟨rfl, hp, hk, hs4⟩
    obtain ⟨c1, c2, c3, c4⟩ := HCL.out _ o9 E hk
    go_wp2_with fail
    go_meet
    exact ⟨_, rfl, o9, _, Lib.hid ⟨hp, HPE.out.2⟩, Lib.hid c1, Lib.hid (fun h => ord_same h), Lib.hid c2, Lib.hid c3, Lib.hid c4⟩
   have kn2 : (zk == 2) = false := by simpa using hz2
   clear hz2
   by_cases hz3 : zk = 3
   case pos =>
    subst hz3
    have ob7 := HOB.out.cv 7 (.int .i64 zi) rfl
    go_wp2_with fail
    refine (pe_cancel HPE.out.1 zi).mono ?_
    rintro e V4 ⟨rfl, hp, hk, hs4⟩
    obtain ⟨c1, c2, c3, c4⟩ := HCL.out _ o9 E hk
    go_wp2_with fail
    go_meet
    exact ⟨_, rfl, o9, _, Lib.hid ⟨hp, HPE.out.2⟩, Lib.hid c1, Lib.hid (fun h => can_same h), Lib.hid c2, Lib.hid c3, Lib.hid c4⟩
   have kn3 : (zk == 3) = false := by simpa using hz3
   clear hz3
   by_cases hz4 : zk = 4
   case pos =>
    subst hz4
    obtain ⟨re, hre⟩ : ∃ r, r = protE zn := ⟨_, rfl⟩
    obtain ⟨En, hp1, hp2⟩ := pickE re (protV E zn) E
    have HRE := Lib.hid hre
    have HP1 := Lib.hid hp1
    have HP2 := Lib.hid hp2
    clear hre hp1 hp2
    have HYN : Hid (En.yr.n = t.cts.length) := by
     by_cases hr : re = 0
     ·
      unfold Hid; rw [HP1.out hr]; exact HPE.out.2
     ·
      unfold Hid; rw [HP2.out hr]; exact HPE.out.2
    have ob12 := HOB.out.cv 12 (.int .i64 zn) rfl
    go_wp2_with fail
    refine (pe_prot HPE.out.1 zn re En HRE HP1 HP2).mono ?_
    rintro e V4 ⟨rfl, hp, hk, hs4⟩
    obtain ⟨c1, c2, c3, c4⟩ := HCL.out _ o9 E hk
    go_wp2_with fail
    go_meet
    exact ⟨_, rfl, o9, En, Lib.hid ⟨hp, HYN.out⟩, Lib.hid c1, Lib.hid (HP2.out), Lib.hid c2, Lib.hid c3, Lib.hid c4⟩
   have kn4 : (zk == 4) = false := by simpa using hz4
   clear hz4
   by_cases hz5 : zk = 5
   case pos =>
    subst hz5
    obtain ⟨re, hre⟩ : ∃ r, r = runE E (nomI 4) (cntI 4 365) := ⟨_, rfl⟩
    obtain ⟨En, hp1, hp2⟩ := pickE re (runV E (nomI 4)) E
    have HRE := Lib.hid hre
    have HP1 := Lib.hid hp1
    have HP2 := Lib.hid hp2
    clear hre hp1 hp2
    have HYN : Hid (En.yr.n = t.cts.length) := by
     by_cases hr : re = 0
     ·
      unfold Hid; rw [HP1.out hr]; exact HPE.out.2
     ·
      unfold Hid; rw [HP2.out hr]; exact HPE.out.2
    obtain ⟨z, hz⟩ : ∃ z, z = runS E (nomI 4) := ⟨_, rfl⟩
    have HZ := Lib.hid hz
    clear hz
    go_wp2_with fail
    refine (pe_run HPE.out.1 re z En HRE HZ HP1 HP2).mono ?_
    rintro e V4 ⟨⟨⟨sp, ⟨sc, st, ss⟩, stx, ssh, srows, snet, stk, spy⟩, A8, n8, c8, B8, m8, d8, rfl, hv⟩, ⟨o5, hp, _⟩, hk, hs4⟩
    obtain ⟨c1, c2, c3, c4⟩ := HCL.out _ o9 E hk
    have HB4 := Lib.hid (HPE.out.1.blk hk HSB.out (by decide))
    have s1 := hs4 _ HSB.out.lt HSL.out.1
    have s2 := HQE.out.slo hk HDF.out.2.1 HSL.out.2
    have hgr := put10_gr V4 V2.heap.size (.int .i64 sp) (.int .i64 sc) (.int .i64 st) (.int .i64 ss) (.int .i64 stx) (.int .i64 ssh) (.slice A8 n8 c8) (.int .i64 snet) (.slice B8 m8 d8) (.int .i64 spy)
    have HP5 := Lib.hid (hp.pt HB4.out HGS.out.1 s1 hgr)
    have HQ5 := Lib.hid (c1.pt HB4.out HGS.out.2 s2 hgr)
    have HG5 := Lib.hid (c2.grown hgr (by simpa using Blk.differ c2 HB4.out (by decide)))
    have HT5 := Lib.hid (c3.grown hgr (by simpa using Blk.differ c3 HB4.out (by decide)))
    have HW5 := Lib.hid (c4.grown hgr c4.size (fun k hk => by injection hk with hk; have := HGS.out.2; omega))
    have HB5 := Lib.hid (HB4.out.put10 (.int .i64 sp) (.int .i64 sc) (.int .i64 st) (.int .i64 ss) (.int .i64 stx) (.int .i64 ssh) (.slice A8 n8 c8) (.int .i64 snet) (.slice B8 m8 d8) (.int .i64 spy))
    have HV5 := Lib.hid (hv.grown HB4.out (by decide) (by decide) hgr)
    have k0 := HB4.out.cv 0 (.int .i64 0) rfl
    have l0 := HB4.out.free 0
    have k1 := HB4.out.cv 1 (.int .i64 0) rfl
    have l1 := HB4.out.free 1
    have k2 := HB4.out.cv 2 (.int .i64 0) rfl
    have l2 := HB4.out.free 2
    have k3 := HB4.out.cv 3 (.int .i64 0) rfl
    have l3 := HB4.out.free 3
    have k4 := HB4.out.cv 4 (.int .i64 0) rfl
    have l4 := HB4.out.free 4
    have k5 := HB4.out.cv 5 (.int .i64 0) rfl
    have l5 := HB4.out.free 5
    have k6 := HB4.out.cv 6 (.slice none 0 0) rfl
    have l6 := HB4.out.free 6
    have k7 := HB4.out.cv 7 (.int .i64 0) rfl
    have l7 := HB4.out.free 7
    have k8 := HB4.out.cv 8 (.slice none 0 0) rfl
    have l8 := HB4.out.free 8
    have k9 := HB4.out.cv 9 (.int .i64 0) rfl
    have l9 := HB4.out.free 9
    have HOK := Lib.hid HPE.out.1.ok
    have HEN := Lib.hid HPE.out.2
    clear HPE HWG HTG HBW HCL HQE HSL HB4 s1 s2 c1 c2 c3 c4 hp hk hs4 hv hgr HEL HOB HSB
    unfold spC
    go_upto_region 30 with fail
    clear k0 l0 k1 l1 k2 l2 k3 l3 k4 l4 k5 l5 k6 l6 k7 l7 k8 l8 k9 l9
    generalize hwn : ((((((((((V4).setCell ⟨V2.heap.size, 0, none⟩ (.int .i64 sp)).setCell ⟨V2.heap.size, 1, none⟩ (.int .i64 sc)).setCell ⟨V2.heap.size, 2, none⟩ (.int .i64 st)).setCell ⟨V2.heap.size, 3, none⟩ (.int .i64 ss)).setCell ⟨V2.heap.size, 4, none⟩ (.int .i64 stx)).setCell ⟨V2.heap.size, 5, none⟩ (.int .i64 ssh)).setCell ⟨V2.heap.size, 6, none⟩ (.slice A8 n8 c8)).setCell ⟨V2.heap.size, 7, none⟩ (.int .i64 snet)).setCell ⟨V2.heap.size, 8, none⟩ (.slice B8 m8 d8)).setCell ⟨V2.heap.size, 9, none⟩ (.int .i64 spy) = V5 at *
    clear hwn
    by_cases h0 : re = 0
    case neg =>
     have tr : (re == 0) = false := by simpa using h0
     clear h0
     go_wp2_with fail
     go_meet
     exact ⟨_, rfl, o5, _, Lib.hid ⟨HP5.out, HYN.out⟩, HQ5, Lib.hid (HP2.out), HG5, HT5, HW5⟩
    subst h0
    obtain ⟨⟨hsh, htk⟩, hck, hok, htr⟩ := run_fin HOK.out HRE.out.symm HZ.out HV5.out
    have HSH := Lib.hid hsh
    have HTK := Lib.hid htk
    have HCK := Lib.hid hck
    have HOKT := Lib.hid hok
    have HTR := Lib.hid htr
    clear hsh htk hck hok htr HV5 HZ
    have k0 := HB5.out.cv 0 (.int .i64 sp) rfl
    have k1 := HB5.out.cv 1 (.int .i64 sc) rfl
    have k2 := HB5.out.cv 2 (.int .i64 st) rfl
    have k3 := HB5.out.cv 3 (.int .i64 ss) rfl
    have k4 := HB5.out.cv 4 (.int .i64 stx) rfl
    have k5 := HB5.out.cv 5 (.int .i64 ssh) rfl
    have k6 := HB5.out.cv 6 (.slice A8 n8 c8) rfl
    have k7 := HB5.out.cv 7 (.int .i64 snet) rfl
    have k8 := HB5.out.cv 8 (.slice B8 m8 d8) rfl
    have k9 := HB5.out.cv 9 (.int .i64 spy) rfl
    have kt := HT5.out.cv 1 (.slice Ac nc cc) rfl
    go_wp2_with fail
    refine (ychk_c ⟨sp, ⟨sc, st, ss⟩, stx, ssh, srows, snet, stk, spy⟩ A8 B8 n8 c8 m8 d8 nc V5 HSH.out HTK.out 0 (Lib.hid (by rw [HNC.out, ← HEN.out]; exact HCK.out.symm))).mono ?_
    rintro e V6 ⟨rfl, hb⟩
    clear kt k0 k1 k2 k3 k4 k5 k6 k7 k8 k9
    have k8 := (HB5.out.t hb).cv 8 (.slice B8 m8 d8) rfl
    go_wp2_with fail
    refine (aright_c B8 m8 d8 stk V6 (HTK.out.below hb) HTR.out true (Lib.hid HOKT.out.symm)).mono ?_
    rintro e V7 ⟨rfl, hb2⟩
    clear k8
    have hb3 := bT hb hb2
    go_wp2_with fail
    go_meet
    exact ⟨_, rfl, o5, _, Lib.hid ⟨HP5.out.below hb3, HYN.out⟩, Lib.hid (HQ5.out.below hb3), Lib.hid (HP2.out), Lib.hid (HG5.out.t hb3), Lib.hid (HT5.out.t hb3), Lib.hid (bT HW5.out hb3)⟩
   have kn5 : (zk == 5) = false := by simpa using hz5
   clear hz5
   by_cases hz6 : zk = 6
   case pos =>
    subst hz6
    obtain ⟨re, hre⟩ : ∃ r, r = replE E (nomI 4) (cntI 4 365) (max (-9) (min zn 99)) zl9 := ⟨_, rfl⟩
    obtain ⟨En, hp1, hp2⟩ := pickE re (replV E (max (-9) (min zn 99)) zl9) E
    have HRE := Lib.hid hre
    have HP1 := Lib.hid hp1
    have HP2 := Lib.hid hp2
    clear hre hp1 hp2
    have HYN : Hid (En.yr.n = t.cts.length) := by
     by_cases hr : re = 0
     ·
      unfold Hid; rw [HP1.out hr]; exact HPE.out.2
     ·
      unfold Hid; rw [HP2.out hr]; exact HPE.out.2
    have ob1 := HOB.out.cv 1 (.slice zA zm zd) rfl
    have ob12 := HOB.out.cv 12 (.int .i64 zn) rfl
    go_wp2_with fail
    refine (pe_repl HPE.out.1 (max (-9) (min zn 99)) HEL.out (by have := HZM.out; omega) re En HRE HP1 HP2).mono ?_
    rintro e V4 ⟨rfl, hp, hk, hs4⟩
    obtain ⟨c1, c2, c3, c4⟩ := HCL.out _ o9 E hk
    go_wp2_with fail
    go_meet
    exact ⟨_, rfl, o9, En, Lib.hid ⟨hp, HYN.out⟩, Lib.hid c1, Lib.hid (HP2.out), Lib.hid c2, Lib.hid c3, Lib.hid c4⟩
   have kn6 : (zk == 6) = false := by simpa using hz6
   clear hz6
   have ob12 := HOB.out.cv 12 (.int .i64 zn) rfl
   obtain ⟨re, hre⟩ : ∃ r, r = tryE E (nomI 4) (cntI 4 365) zn := ⟨_, rfl⟩
   obtain ⟨z, hz⟩ : ∃ z, z = tryV E (nomI 4) zn := ⟨_, rfl⟩
   have HRE := Lib.hid hre
   have HZ := Lib.hid hz
   clear hre hz
   go_wp2_with fail
   refine (pe_try HPE.out.1 zn re z HRE HZ).mono ?_
   rintro e V4 ⟨⟨Z, A7, n7, c7, B7, m7, d7, rfl, hv⟩, hb⟩
   clear hv
   have hk : Kp V3.heap.size (fx3 p y o9) V3 V4 := Kp.below hb (Nat.le_refl _)
   have hp := HPE.out.1.below hb
   by_cases h0 : re = 0
   case neg =>
    have tr : (re == 0) = false := by simpa using h0
    clear h0
    obtain ⟨c1, c2, c3, c4⟩ := HCL.out _ o9 E hk
    go_wp2_with fail
    go_meet
    exact ⟨_, rfl, o9, E, Lib.hid ⟨hp, HPE.out.2⟩, Lib.hid c1, Lib.hid (fun _ => rfl), Lib.hid c2, Lib.hid c3, Lib.hid c4⟩
   subst h0
   obtain ⟨c1, c2, c3, c4⟩ := HCL.out _ o9 E hk
   go_wp2_with fail
   go_meet
   exact ⟨_, rfl, o9, E, Lib.hid ⟨hp, HPE.out.2⟩, Lib.hid c1, Lib.hid (fun _ => rfl), Lib.hid c2, Lib.hid c3, Lib.hid c4⟩
  case rest =>
   obtain ⟨re, rfl, o', E', HPE', HQE', HRS, HWG', HTG', HBW'⟩ := hcut
   clear HPE HQE HWG HTG HBW HEL HOB HSB HSL HGS HDF
   by_cases h0 : re = 0
   case neg =>
    have tr : (re != 0) = true := by simpa using h0
    have hE := HRS.out h0
    subst hE
    clear HRS h0
    go_wp2_with fail
    refine (like_c HPE'.out.1 HQE'.out).mono ?_
    rintro e V7 ⟨rfl, hb⟩
    go_wp2_with fail
    go_roundw
    case rel => exact ⟨k + 1, HK1.out, by go_num, o', _, Lib.hid ⟨HPE'.out.1.below hb, HPE'.out.2⟩, Lib.hid (HWG'.out.t hb), Lib.hid (HTG'.out.t hb), Lib.hid (bT HBW'.out hb)⟩
    case measure => have := HK1.out; simp [intOf]; omega
   subst h0
   go_wp2_with fail
   go_roundw
   case rel => exact ⟨k + 1, HK1.out, by go_num, o', E', HPE', HWG', HTG', HBW'⟩
   case measure => have := HK1.out; simp [intOf]; omega
end Go.Proofs.YtmlphohnegmgkaaGreat
