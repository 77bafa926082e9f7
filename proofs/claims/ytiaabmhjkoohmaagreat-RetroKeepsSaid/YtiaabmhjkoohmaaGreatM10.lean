/-
  Contracts of functions that the claim reaches, and the plain laws behind them. Conditions as named in each.
-/
import Derived.Test.YtiaabmhjkoohmaaGreatFix23
import Derived.Test.YtiaabmhjkoohmaaGreatDo23
namespace Go.Proofs.YtiaabmhjkoohmaaGreat
set_option maxRecDepth 100000
set_option maxHeartbeats 25600000
set_option linter.unusedVariables false
set_option linter.unusedSimpArgs false
open Go.RowKit Tryz
open Lib (hid)
def BegR (t : Tb) (c : Cd) (w : World) (e : Ending) (w' : World) : Prop :=
 ((∃ gd gp gy, e = .returned (.pointer (some ⟨gd, 0, none⟩)) ∧ PG w 4 365 w' gd gp gy (dnewV (newV t c))) ∨ e = .returned (.pointer none)) ∧ Below w.heap.size w w'
theorem begin23_c (t : Tb) (As Ac Ak : Option Addr) (ns cs nc cc nk ck : Nat) (lim rnd : Int) (c : Cd) (w : World) (hs : ScSl w As ns t.sch) (hc : CtSl w Ac nc t.cts) (hcc : nc ≤ cc) (hkd : KdSl w Ak nk t.kds) (hck : nk ≤ ck) (hl : lim = t.lim) (hr : rnd = t.rnd) (hn : ns ≤ 9223372036854775807 ∧ nc ≤ 9223372036854775807 ∧ nk ≤ 9223372036854775807) :
  Calls prog 8 #[.agg #[.slice As ns cs, .slice Ac nc cc, .slice Ak nk ck, .int .i64 lim, .int .i64 rnd], .agg #[.int .i64 c.s, .int .i64 c.k, .int .i64 c.a, .int .i64 c.f, .bool c.al]] w (BegR t c w) := by
 have HF0 := hid (Fr.start w)
 obtain ⟨EN, hEN⟩ : ∃ E1, E1 = newE t c := ⟨_, rfl⟩
 have hl1 := hs.1
 have hl2 := hc.1
 have hl3 := hkd.1
 have KN := hid (fun (hsz : ns ≤ 20 ∧ nc ≤ 20 ∧ nk ≤ 30) (W : World) (gy : Nat) (hW : Below w.heap.size w W) (hy : YrAt W gy 4 365) => pe_new (w0 := w) hW t As Ac Ak ns cs nc cc nk ck lim rnd 4 365 (by decide) (by decide) gy c (hs.below hW) (hc.below hW) hcc (hkd.below hW) hck hl hr hsz hy EN hEN)
 have HLN := hid (⟨hl1, hl2, hl3⟩ : ns = t.sch.length ∧ nc = t.cts.length ∧ nk = t.kds.length)
 unfold BegR
 clear hs hc hcc hkd hck hl hr hEN hl1 hl2 hl3
 have HF1 := al9 (((HF0.out.al 26 #[.slice As ns cs, .slice Ac nc cc, .slice Ak nk ck, .int .i64 lim, .int .i64 rnd]).al 28 #[.int .i64 c.s, .int .i64 c.k, .int .i64 c.a, .int .i64 c.f, .bool c.al]))
 clear HF0
 go_enter func8, ntmps8
 by_cases zns : 20 < ns
 case pos =>
  have qns : decide (20 < (ns : Int)) = true := decide_eq_true (by omega)
  have rns : decide ((ns : Int) > 20) = true := decide_eq_true (by omega)
  obtain ⟨c0_0, c0_1, c0_2, c0_3, c0_4⟩ := (HF1.out.b 0 rfl).q5
  go_wp2_with fail
  refine bodyPost_ret (v := .pointer none) (by simp [results, results8, go_sem]) rfl ⟨Or.inr rfl, HF1.out.bl⟩
 have qns : decide (20 < (ns : Int)) = false := decide_eq_false (by omega)
 have rns : decide ((ns : Int) > 20) = false := decide_eq_false (by omega)
 by_cases znc : 20 < nc
 case pos =>
  have qnc : decide (20 < (nc : Int)) = true := decide_eq_true (by omega)
  have rnc : decide ((nc : Int) > 20) = true := decide_eq_true (by omega)
  obtain ⟨c0_0, c0_1, c0_2, c0_3, c0_4⟩ := (HF1.out.b 0 rfl).q5
  go_wp2_with fail
  refine bodyPost_ret (v := .pointer none) (by simp [results, results8, go_sem]) rfl ⟨Or.inr rfl, HF1.out.bl⟩
 have qnc : decide (20 < (nc : Int)) = false := decide_eq_false (by omega)
 have rnc : decide ((nc : Int) > 20) = false := decide_eq_false (by omega)
 by_cases znk : 30 < nk
 case pos =>
  have qnk : decide (30 < (nk : Int)) = true := decide_eq_true (by omega)
  have rnk : decide ((nk : Int) > 30) = true := decide_eq_true (by omega)
  obtain ⟨c0_0, c0_1, c0_2, c0_3, c0_4⟩ := (HF1.out.b 0 rfl).q5
  go_wp2_with fail
  refine bodyPost_ret (v := .pointer none) (by simp [results, results8, go_sem]) rfl ⟨Or.inr rfl, HF1.out.bl⟩
 have qnk : decide (30 < (nk : Int)) = false := decide_eq_false (by omega)
 have rnk : decide ((nk : Int) > 30) = false := decide_eq_false (by omega)
 have HSZ : Hid (ns ≤ 20 ∧ nc ≤ 20 ∧ nk ≤ 30) := by unfold Hid; omega
 clear hn zns znc znk
 obtain ⟨c0_0, c0_1, c0_2, c0_3, c0_4⟩ := (HF1.out.b 0 rfl).q5
 go_upto_region 3 with fail
 clear c0_0 c0_1 c0_2 c0_3 c0_4
 clear qns rns qnc rnc qnk rnk
 by_cases h0 : EN = 0
 case neg =>
  have HNZ : Hid (EN ≠ 0) := h0
  clear h0
  have KNx : Hid (∀ (W : World) (gy : Nat) (hW : Below w.heap.size w W) (hy : YrAt W gy 4 365), Calls prog 30 #[.agg #[.slice As ns cs, .slice Ac nc cc, .slice Ak nk ck, .int .i64 lim, .int .i64 rnd], .pointer (some ⟨gy, 0, none⟩), .agg #[.int .i64 c.s, .int .i64 c.k, .int .i64 c.a, .int .i64 c.f, .bool c.al]] W fun e w' => e = .returned (.tuple #[.pointer none, .int .i64 EN]) ∧ Below W.heap.size W w') := fun W gy hW hy => (KN.out HSZ.out W gy hW hy).mono fun e w' h => ⟨h.2.1 HNZ.out, h.2.2⟩
  clear KN
  go_wp2_with fail
  have G : Hid (∀ W, Fr w W [(w.heap.size, 26, #[.slice As ns cs, .slice Ac nc cc, .slice Ak nk ck, .int .i64 lim, .int .i64 rnd]), (w.heap.size + 1, 28, #[.int .i64 c.s, .int .i64 c.k, .int .i64 c.a, .int .i64 c.f, .bool c.al])] → Below w.heap.size w W ∧ (W.cell? ⟨w.heap.size, 0, none⟩ = some (.slice As ns cs) ∧ W.cell? ⟨w.heap.size, 1, none⟩ = some (.slice Ac nc cc) ∧ W.cell? ⟨w.heap.size, 2, none⟩ = some (.slice Ak nk ck) ∧ W.cell? ⟨w.heap.size, 3, none⟩ = some (.int .i64 lim) ∧ W.cell? ⟨w.heap.size, 4, none⟩ = some (.int .i64 rnd) ∧ W.cell? ⟨w.heap.size + 1, 0, none⟩ = some (.int .i64 c.s) ∧ W.cell? ⟨w.heap.size + 1, 1, none⟩ = some (.int .i64 c.k) ∧ W.cell? ⟨w.heap.size + 1, 2, none⟩ = some (.int .i64 c.a) ∧ W.cell? ⟨w.heap.size + 1, 3, none⟩ = some (.int .i64 c.f) ∧ W.cell? ⟨w.heap.size + 1, 4, none⟩ = some (.bool c.al))) := fun W hW => ⟨hW.bl, (hW.b 0 rfl).cv 0 _ rfl, (hW.b 0 rfl).cv 1 _ rfl, (hW.b 0 rfl).cv 2 _ rfl, (hW.b 0 rfl).cv 3 _ rfl, (hW.b 0 rfl).cv 4 _ rfl, (hW.b 1 rfl).cv 0 _ rfl, (hW.b 1 rfl).cv 1 _ rfl, (hW.b 1 rfl).cv 2 _ rfl, (hW.b 1 rfl).cv 3 _ rfl, (hW.b 1 rfl).cv 4 _ rfl⟩
  have HF2 := hid (HF1.out.dr)
  refine wG9 G 9 (by kernel_rfl) HF2.out (fun hH9 => ?_)
  refine tkG 0 (h := ?_)
  refine tkG 2 (h := ?_)
  refine tkO 1 (h := fun Kx hK => ?_)
  go_simp
  go_at_call 32
  refine (months23_c _).mono ?_
  rintro e W2 ⟨⟨gy, rfl, hy⟩, hb⟩
  have HF3 := hid (HF2.out.ca hb)
  have HYR := hid hy
  clear hy
  clear hb
  refine shG hK (G.out _ HF3.out) (h := fun hH9 => ?_)
  clear hK Kx
  refine tkO 3 (h := fun Kx hK => ?_)
  go_simp
  go_at_call 30
  refine (KNx.out _ gy HF3.out.bl (HYR.out.t (b0 _))).mono ?_
  rintro e W3 ⟨rfl, hb⟩
  have HF4 := hid (HF3.out.ca hb)
  clear HYR
  clear hb
  refine shG hK (G.out _ HF4.out) (h := fun hH9 => ?_)
  clear hK Kx
  refine tkG 4 (h := ?_)
  refine tkG 5 (h := ?_)
  refine tkG 6 (h := ?_)
  refine tkG 7 (h := ?_)
  refine tkG 8 (h := ?_)
  refine wD9 (by kernel_rfl) ?_ _
  clear G hH9
  try simp only [Exit.then]
  go_wp2_with fail
  refine (retro_nil _).mono ?_
  rintro e W9 ⟨rfl, rfl⟩
  go_wp2_with fail
  refine bodyPost_ret (v := .pointer none) (by simp [results, results8, go_sem]) rfl ⟨Or.inr rfl, HF4.out.bl⟩
 subst h0
 have KNx : Hid (∀ (W : World) (gy : Nat) (hW : Below w.heap.size w W) (hy : YrAt W gy 4 365), Calls prog 30 #[.agg #[.slice As ns cs, .slice Ac nc cc, .slice Ak nk ck, .int .i64 lim, .int .i64 rnd], .pointer (some ⟨gy, 0, none⟩), .agg #[.int .i64 c.s, .int .i64 c.k, .int .i64 c.a, .int .i64 c.f, .bool c.al]] W fun e w' => (∃ p y o, e = .returned (.tuple #[.pointer (some ⟨p, 0, none⟩), .int .i64 0]) ∧ PE w 4 365 w' p y o (newV t c)) ∧ Below W.heap.size W w') := fun W gy hW hy => (KN.out HSZ.out W gy hW hy).mono fun e w' h => ⟨by obtain ⟨p, y, o, h1, h2, _⟩ := h.1 rfl; exact ⟨p, y, o, h1, h2⟩, h.2.2⟩
 clear KN
 go_wp2_with fail
 have G : Hid (∀ W, Fr w W [(w.heap.size, 26, #[.slice As ns cs, .slice Ac nc cc, .slice Ak nk ck, .int .i64 lim, .int .i64 rnd]), (w.heap.size + 1, 28, #[.int .i64 c.s, .int .i64 c.k, .int .i64 c.a, .int .i64 c.f, .bool c.al])] → Below w.heap.size w W ∧ (W.cell? ⟨w.heap.size, 0, none⟩ = some (.slice As ns cs) ∧ W.cell? ⟨w.heap.size, 1, none⟩ = some (.slice Ac nc cc) ∧ W.cell? ⟨w.heap.size, 2, none⟩ = some (.slice Ak nk ck) ∧ W.cell? ⟨w.heap.size, 3, none⟩ = some (.int .i64 lim) ∧ W.cell? ⟨w.heap.size, 4, none⟩ = some (.int .i64 rnd) ∧ W.cell? ⟨w.heap.size + 1, 0, none⟩ = some (.int .i64 c.s) ∧ W.cell? ⟨w.heap.size + 1, 1, none⟩ = some (.int .i64 c.k) ∧ W.cell? ⟨w.heap.size + 1, 2, none⟩ = some (.int .i64 c.a) ∧ W.cell? ⟨w.heap.size + 1, 3, none⟩ = some (.int .i64 c.f) ∧ W.cell? ⟨w.heap.size + 1, 4, none⟩ = some (.bool c.al))) := fun W hW => ⟨hW.bl, (hW.b 0 rfl).cv 0 _ rfl, (hW.b 0 rfl).cv 1 _ rfl, (hW.b 0 rfl).cv 2 _ rfl, (hW.b 0 rfl).cv 3 _ rfl, (hW.b 0 rfl).cv 4 _ rfl, (hW.b 1 rfl).cv 0 _ rfl, (hW.b 1 rfl).cv 1 _ rfl, (hW.b 1 rfl).cv 2 _ rfl, (hW.b 1 rfl).cv 3 _ rfl, (hW.b 1 rfl).cv 4 _ rfl⟩
 have HF2 := hid (HF1.out.dr)
 refine wG9 G 9 (by kernel_rfl) HF2.out (fun hH9 => ?_)
 refine tkG 0 (h := ?_)
 refine tkG 2 (h := ?_)
 refine tkO 1 (h := fun Kx hK => ?_)
 go_simp
 go_at_call 32
 refine (months23_c _).mono ?_
 rintro e W2 ⟨⟨gy, rfl, hy⟩, hb⟩
 have HF3 := hid (HF2.out.ca hb)
 have HYR := hid hy
 clear hy
 clear hb
 refine shG hK (G.out _ HF3.out) (h := fun hH9 => ?_)
 clear hK Kx
 refine tkO 3 (h := fun Kx hK => ?_)
 go_simp
 go_at_call 30
 refine (KNx.out _ gy HF3.out.bl (HYR.out.t (b0 _))).mono ?_
 rintro e W3 ⟨⟨p, y, o, rfl, hp⟩, hb⟩
 have HF4 := hid (HF3.out.ca hb)
 have HPE := hid hp
 clear hp HYR
 clear hb
 refine shG hK (G.out _ HF4.out) (h := fun hH9 => ?_)
 clear hK Kx
 refine tkG 4 (h := ?_)
 refine tkG 5 (h := ?_)
 refine tkG 6 (h := ?_)
 refine tkG 7 (h := ?_)
 refine tkG 8 (h := ?_)
 refine wD9 (by kernel_rfl) ?_ _
 clear G hH9
 try simp only [Exit.then]
 go_wp2_with fail
 refine (pg_new HPE.out).mono ?_
 rintro e W9 ⟨⟨gd, gp, gq, rfl, hg⟩, hb⟩
 have HG := hid hg
 clear hg
 go_wp2_with fail
 exact bodyPost_ret (v := .pointer (some ⟨gd, 0, none⟩)) (by simp [results, results8, go_sem]) rfl ⟨Or.inl ⟨gd, gp, gq, rfl, HG.out⟩, HG.out.bl⟩
def nowS (now : List (List El)) (f : Fx) : List (List El) := now.set (f.k.toNat - 1) f.l
def nowL (fs : List In) (fx : List Fx) : List (List El) := fx.foldl nowS (fs.map In.l)
structure KeepOK (D : Dk) : Prop where
 now : D.e.ins.map In.l = nowL D.fs D.fx
theorem now_snoc (y : List El) : ∀ (fx : List Fx) (L : List (List El)), (∀ f ∈ fx, f.k.toNat - 1 < L.length) → fx.foldl nowS (L ++ [y]) = fx.foldl nowS L ++ [y] := by
 intro fx
 induction fx with
 | nil => intro L h; rfl
 | cons f fx ih =>
  intro L h
  rw [List.foldl_cons, List.foldl_cons]
  have h1 : nowS (L ++ [y]) f = nowS L f ++ [y] := by
   unfold nowS
   rw [List.set_append_left _ _ (h f (by simp))]
  rw [h1]
  exact ih _ (fun g hg => by
   unfold nowS
   rw [List.length_set]
   exact h g (by simp [hg]))
theorem KeepOK.new (t : Tb) (c : Cd) : KeepOK (dnewV (newV t c)) := ⟨rfl⟩
theorem doV_5 {D : Dk} {nom : Int} {o : Op} (h : o.k = 5) : doV D nom o = drunV D nom := by
 unfold doV
 rw [if_neg (by rw [h]; decide), if_neg (by rw [h]; decide), if_neg (by rw [h]; decide), if_neg (by rw [h]; decide), if_neg (by rw [h]; decide), if_pos h]
theorem doV_6 {D : Dk} {nom : Int} {o : Op} (h : o.k = 6) : doV D nom o = dfixV D (opK o) o.l := by
 unfold doV
 rw [if_neg (by rw [h]; decide), if_neg (by rw [h]; decide), if_neg (by rw [h]; decide), if_neg (by rw [h]; decide), if_neg (by rw [h]; decide), if_neg (by rw [h]; decide), if_pos h]
theorem doE_6 {D : Dk} {nom cnt : Int} {o : Op} (h : o.k = 6) : doE D nom cnt o = dfixE D nom cnt (opK o) o.l := by
 unfold doE
 rw [if_neg (by rw [h]; decide), if_neg (by rw [h]; decide), if_neg (by rw [h]; decide), if_neg (by rw [h]; decide), if_neg (by rw [h]; decide), if_neg (by rw [h]; decide), if_pos h]
theorem doV_oth {D : Dk} {nom : Int} {o : Op} (h5 : o.k ≠ 5) (h6 : o.k ≠ 6) : (doV D nom o).fx = D.fx ∧ (doV D nom o).fs = D.fs ∧ (doV D nom o).e.ins = D.e.ins := by
 unfold doV
 by_cases h0 : o.k = 0
 ·
  rw [if_pos h0]; exact ⟨rfl, rfl, rfl⟩
 rw [if_neg h0]
 by_cases h1 : o.k = 1
 ·
  rw [if_pos h1]; exact ⟨rfl, rfl, rfl⟩
 rw [if_neg h1]
 by_cases h2 : o.k = 2
 ·
  rw [if_pos h2]; exact ⟨rfl, rfl, rfl⟩
 rw [if_neg h2]
 by_cases h3 : o.k = 3
 ·
  rw [if_pos h3]; exact ⟨rfl, rfl, rfl⟩
 rw [if_neg h3]
 by_cases h4 : o.k = 4
 ·
  rw [if_pos h4]; exact ⟨rfl, rfl, rfl⟩
 rw [if_neg h4, if_neg h5, if_neg h6]
 exact ⟨rfl, rfl, rfl⟩
theorem KeepOK.act {fq days nom : Int} {D : Dk} (h : KeepOK D) (hk : DkOK fq days D) (o : Op) : KeepOK (doV D nom o) := by
 by_cases h5 : o.k = 5
 ·
  rw [doV_5 h5]
  refine ⟨?_⟩
  show (D.e.ins ++ [(⟨D.e.c, D.e.next⟩ : In)]).map In.l = nowL (D.fs ++ [(⟨D.e.c, D.e.next⟩ : In)]) D.fx
  unfold nowL
  rw [List.map_append, List.map_append, h.now]
  unfold nowL
  exact (now_snoc _ _ _ (fun f hf => by
   obtain ⟨⟨a, b⟩, c, _⟩ := hk.each f hf
   rw [List.length_map]
   omega)).symm
 by_cases h6 : o.k = 6
 ·
  rw [doV_6 h6]
  refine ⟨?_⟩
  show (D.e.ins.set _ _).map In.l = nowL D.fs (D.fx ++ [⟨opK o, o.l, D.fs.length⟩])
  unfold nowL
  rw [List.foldl_append, List.map_set, h.now]
  rfl
 ·
  obtain ⟨a, b, c⟩ := doV_oth (D := D) (nom := nom) h5 h6
  exact ⟨by rw [a, b, c]; exact h.now⟩
theorem info_els : (Tryz.prog.info? 35).map (fun i => (i.zero, i.size, i.bytes)) = some (some (.slice none 0 0), 1, 24) := by kernel_rfl
theorem Ea9.el {w w' : World} {lo li : Nat} {fq days : Int} {p y o : Nat} {E : Em} (h : Ea9 w lo li fq days p y o E) {g : Nat} {cs : Array Value} (hk : Blk w g 35 cs) (hg : w.grownBy w' (some g)) : Ea9 w' lo li fq days p y o E := by
 obtain ⟨K, h1, h2⟩ := h.ex
 obtain ⟨A, c, B, d, h5⟩ := h2.yr
 have ne : ∀ {q : Nat} {t : TypeId} {cs2 : Array Value}, Blk w q t cs2 → t ≠ 35 → some g ≠ some q ∧ some q ≠ some g := fun hb ht => by
  have := Blk.differ hb hk ht
  exact ⟨fun he => this (by injection he with he; exact he.symm), fun he => this (by injection he with he)⟩
 have kb : ∀ {q : Nat} {t : TypeId} {cs2 : Array Value}, Blk w q t cs2 → t ≠ 35 → Blk w' q t cs2 := fun hb ht => hb.grown hg (by first | exact (ne hb ht).1 | exact (ne hb ht).2)
 have ko : ∀ {base size n : Nat} {e : TypeId} {v : Value} {xs : List Value}, w.ownsRow base e size v n xs → e ≠ 35 → w'.ownsRow base e size v n xs := fun ho he => ho.kept hg (Or.inr (obz ho hk he).symm)
 obtain ⟨⟨ls, e1, o1, b1⟩, ⟨lc, e2, o2, b2⟩, o3, b3⟩ := h2.tb
 obtain ⟨L, i1, i2, i3, i4⟩ := h2.ins.ex
 obtain ⟨v, k1, k2, k3⟩ := h2.bk
 obtain ⟨a1, a2, a3, a4, a5, a6, a7, hgy⟩ := h2.gy
 obtain ⟨L9, s1, s2, s3, s4⟩ := h5.sl.ex
 refine ⟨⟨K, kb h1 (by decide), ⟨⟨⟨ls, e1, ko o1 (by decide), fun q hq => ⟨(b1 q hq).1, ko (b1 q hq).2 (by decide)⟩⟩, ⟨lc, e2, ko o2 (by decide), fun q hq => ⟨⟨(b2 q hq).1.1, ko (b2 q hq).1.2 (by decide)⟩, (b2 q hq).2⟩⟩, ko o3 (by decide), b3⟩, ⟨a1, a2, a3, a4, a5, a6, a7, kb hgy (by decide)⟩, ko h2.nx (by decide), ⟨L, i1, i2, ko i3 (by decide), fun q hq => ⟨(i4 q hq).1, ko (i4 q hq).2 (by decide)⟩⟩, ⟨A, c, B, d, ⟨kb h5.blk (by decide), ⟨L9, s1, s2, ko s3 (by decide), fun q hq => ⟨ko (s4 q hq).rows (by decide), ko (s4 q hq).tk (by decide)⟩⟩, ko h5.rows (by decide)⟩⟩, ⟨v, kb k1 (by decide), k2, ko k3 (by decide)⟩⟩⟩, h.lp, h.ly, h.lo', h.li'⟩
theorem DkAt.el {w W : World} {lo : Nat} {fq days : Int} {s : DkS} {D : Dk} (h : DkAt w lo fq days s D) {g : Nat} {cs : Array Value} (hk : Blk w g 35 cs) (hg : w.grownBy W (some g)) : DkAt W lo fq days s D := by
 obtain ⟨c1, c2, c3, h1, h2, h3, h4⟩ := h.ex
 obtain ⟨K, hK, _⟩ := h.em.ex
 refine ⟨⟨c1, c2, c3, h1.grown hg (by simpa using Blk.differ h1 hk (by decide)), ?_, ?_, h4.grown hk (by decide) (by decide) hg⟩, h.em.el hk hg, h.ld, h.sep⟩
 ·
  have h9 := hK.grown hg (by simpa using Blk.differ hK hk (by decide))
  exact ((h9.cell 13).trans (hK.cell 13).symm).trans h2
 ·
  obtain ⟨L, q1, q2, q3, q4⟩ := h3.ex
  exact ⟨L, q1, q2, q3.kept hg (Or.inr (obz q3 hk (by decide)).symm), fun q hq => ⟨(q4 q hq).1, (q4 q hq).2.kept hg (Or.inr (obz (q4 q hq).2 hk (by decide)).symm)⟩⟩
section
variable {w0 w W W' : World} {fq days : Int} {gd gp gy : Nat} {D D' : Dk}
theorem PG.el (h : PG w0 fq days W gd gp gy D) {g : Nat} {cs : Array Value} (hk : Blk W g 35 cs) (h0 : w0.heap.size ≤ g) (hg : W.grownBy W' (some g)) : PG w0 fq days W' gd gp gy D := by
 obtain ⟨s, e, hp⟩ := h
 obtain ⟨lo, hl, hD⟩ := hp.ex
 exact ⟨s, e, hp.bl.grown hg hp.bl.size (fun k hk => by injection hk with hk; omega), ⟨lo, hl, hD.el hk hg⟩, hp.ok⟩
theorem PG.fxAt (h : PG w0 fq days W gd gp gy D) {g : Nat} (hg : W.heap.size ≤ g) : FxAt W gd g := by
 obtain ⟨s, ⟨rfl, _, _⟩, hp⟩ := h
 obtain ⟨lo, hl, hD⟩ := hp.ex
 obtain ⟨c1, c2, c3, h1, h2, h3, h4⟩ := hD.ex
 intro A n c hc he
 have h5 := (h1.cv 1 _ rfl).symm.trans hc
 injection h5 with h5
 injection h5 with h5 _ _
 subst h5
 obtain ⟨L, _, _, h6, _⟩ := h3.ex
 obtain ⟨⟨cs, hb⟩, _⟩ := otz h6 he
 have := hb.lt
 omega
theorem PG.fxw (h : PG w0 fq days W gd gp gy D) {g : Nat} {cs : Array Value} (hk : Blk W g 62 cs) (h0 : w0.heap.size ≤ g) (hf : FxAt W gd g) (hg : W.grownBy W' (some g)) : PG w0 fq days W' gd gp gy D := by
 obtain ⟨s, ⟨rfl, e2, e3⟩, hp⟩ := h
 obtain ⟨lo, hl, hD⟩ := hp.ex
 have hn := hp.fx_not hk hf
 have hkp : Kp W.heap.size (fun q => q = g) W W' := Kp.grown hg (Nat.le_refl _) (fun k hk => Or.inr (by injection hk with hk; exact hk.symm))
 have ty : TyD (fun q => q = g) W := fun q hq _ => ⟨62, cs, by have h9 : q = g := hq; subst h9; exact hk, by decide⟩
 obtain ⟨c1, c2, c3, h1, h2, h3, h4⟩ := hD.ex
 refine ⟨s, ⟨rfl, e2, e3⟩, hp.bl.grown hg hp.bl.size (fun k hk => by injection hk with hk; omega), ⟨lo, hl, hD.fy ty hkp (fun q hq hx => ?_)⟩, hp.ok⟩
 subst hx
 rcases hq with hq | hq
 ·
  exact hn hq
 ·
  obtain ⟨K, h5, _, h6⟩ := hD.em.c13 h2
  obtain ⟨L, _, _, h7, _⟩ := h6.ins.ex
  rw [h5] at h7
  obtain ⟨⟨cs2, hb2⟩, _⟩ := otz h7 hq
  exact Blk.differ hk hb2 (by decide) rfl
end
theorem grown_noneK {W W' : World} (h : W.grownBy W' none) : Below W.heap.size W W' := ⟨h.os, h.tape, h.output, h.size, fun i hi => h.block i hi (by simp)⟩
section
variable {w0 W W' : World} {fq days : Int} {gd gp gy : Nat} {D : Dk} {base n c : Nat} {A : Option Addr} {xs : List Value}
theorem PG.elR (h : PG w0 fq days W gd gp gy D) (ho : W.ownsRow base 35 1 (.slice A n c) n xs) (hb : w0.heap.size ≤ base) (hg : W.grownBy W' (blkO A)) : PG w0 fq days W' gd gp gy D ∧ W'.cell? ⟨gd, 1, none⟩ = W.cell? ⟨gd, 1, none⟩ := by
 rcases hA : blkO A with _ | g
 ·
  rw [hA] at hg
  exact ⟨h.below (grown_noneK hg), (grown_noneK hg).cell (p := ⟨gd, 1, none⟩) h.dlt⟩
 ·
  obtain ⟨⟨cs, hk⟩, hge⟩ := otz ho hA
  rw [hA] at hg
  exact ⟨h.el hk (Nat.le_trans hb hge) hg, h.dcell hk (by decide) hg⟩
theorem PG.fxR (h : PG w0 fq days W gd gp gy D) (ho : W.ownsRow base 62 3 (.slice A n c) n xs) (hb : w0.heap.size ≤ base) (hf : ∀ g, blkO A = some g → FxAt W gd g) (hg : W.grownBy W' (blkO A)) : PG w0 fq days W' gd gp gy D ∧ W'.cell? ⟨gd, 1, none⟩ = W.cell? ⟨gd, 1, none⟩ := by
 rcases hA : blkO A with _ | g
 ·
  rw [hA] at hg
  exact ⟨h.below (grown_noneK hg), (grown_noneK hg).cell (p := ⟨gd, 1, none⟩) h.dlt⟩
 ·
  obtain ⟨⟨cs, hk⟩, hge⟩ := otz ho hA
  rw [hA] at hg
  exact ⟨h.fxw hk (Nat.le_trans hb hge) (hf g hA) hg, h.dcell hk (by decide) hg⟩
theorem FxAt.app {d : Nat} {A6 : Option Addr} (hf : ∀ g, blkO A = some g → FxAt W d g) (hn : ∀ g, W.heap.size ≤ g → FxAt W d g) (hc : W'.cell? ⟨d, 1, none⟩ = W.cell? ⟨d, 1, none⟩) (hw : blkO A6 = blkO A ∨ ∃ g, blkO A6 = some g ∧ W.heap.size ≤ g) : ∀ g, blkO A6 = some g → FxAt W' d g := by
 intro g hg
 rcases hw with hw | ⟨g2, h2, h3⟩
 ·
  rw [hw] at hg
  exact (hf g hg).same hc
 ·
  rw [hg] at h2
  injection h2 with h2
  subst h2
  exact (hn g h3).same hc
end
structure Woz (W1 w : World) (A : Option Addr) (n c : Nat) (l : List Fx) : Prop where
 ex : ∃ L : List FxP, L.map FxP.z = l ∧ n = L.length ∧ w.ownsRow W1.heap.size 62 3 (.slice A n c) n (L.flatMap fxPC) ∧ ∀ q ∈ L, ElSl W1 q.A q.n q.z.l
def esPC (q : InP) : List Value := [.slice q.A q.n q.k]
theorem esPC_len (q : InP) : (esPC q).length = 1 := rfl
structure Foz (base : Nat) (w : World) (A : Option Addr) (n c : Nat) (l : List In) : Prop where
 ex : ∃ L : List InP, L.map InP.z = l ∧ n = L.length ∧ w.ownsRow base 35 1 (.slice A n c) n (L.flatMap esPC) ∧ ∀ q ∈ L, q.n = q.z.l.length ∧ w.ownsRow base 98 3 (.slice q.A q.n q.k) q.n (q.z.l.flatMap elC)
section
variable {W1 w w' : World} {base n c : Nat} {A : Option Addr} {l : List Fx} {fs : List In}
theorem Woz.below (h : Woz W1 w A n c l) (hb : Below w.heap.size w w') : Woz W1 w' A n c l := by
 obtain ⟨L, h1, h2, h3, h4⟩ := h.ex
 exact ⟨L, h1, h2, oB9 h3 hb, h4⟩
theorem Woz.keep {gd gy : Nat} (h : Woz W1 w A n c l) (hf : ∀ g, blkO A = some g → FxAt w gd g) (hk : KeepD gd gy w w') : Woz W1 w' A n c l ∧ ∀ g, blkO A = some g → FxAt w' gd g := by
 obtain ⟨L, h1, h2, h3, h4⟩ := h.ex
 obtain ⟨o1, f1⟩ := hk.fxo h3 hf
 exact ⟨⟨L, h1, h2, o1, h4⟩, f1⟩
theorem Woz.kept (h : Woz W1 w A n c l) {b2 n2 c2 : Nat} {A2 : Option Addr} {ys : List Value} (ho : w.ownsRow b2 35 1 (.slice A2 n2 c2) n2 ys) (hg : w.grownBy w' (blkO A2)) : Woz W1 w' A n c l := by
 obtain ⟨L, h1, h2, h3, h4⟩ := h.ex
 exact ⟨L, h1, h2, oK9 h3 ho (by decide) hg, h4⟩
theorem Woz.app (h : Woz W1 w A n c l) : ∃ xs, w.ownsRow W1.heap.size 62 3 (.slice A n c) n xs ∧ ∀ (W : World) (A' : Option Addr) (c' : Nat) (q : FxP), W.ownsRow W1.heap.size 62 3 (.slice A' (n + 1) c') (n + 1) (xs ++ fxPC q) → ElSl W1 q.A q.n q.z.l → Woz W1 W A' (n + 1) c' (l ++ [q.z]) := by
 obtain ⟨L, h1, h2, h3, h4⟩ := h.ex
 refine ⟨_, h3, fun W A' c' q ho hq => ⟨L ++ [q], by rw [List.map_append, h1]; rfl, by rw [List.length_append, ← h2]; rfl, by rw [List.flatMap_append]; simpa using ho, fun r hr => ?_⟩⟩
 rcases List.mem_append.1 hr with hr | hr
 ·
  exact h4 r hr
 ·
  rw [List.mem_singleton] at hr; subst hr; exact hq
theorem Foz.below (h : Foz base w A n c fs) (hb : Below w.heap.size w w') : Foz base w' A n c fs := by
 obtain ⟨L, h1, h2, h3, h4⟩ := h.ex
 exact ⟨L, h1, h2, oB9 h3 hb, fun q hq => ⟨(h4 q hq).1, oB9 (h4 q hq).2 hb⟩⟩
theorem Foz.keep {gd gy : Nat} (h : Foz base w A n c fs) (hk : KeepD gd gy w w') : Foz base w' A n c fs := by
 obtain ⟨L, h1, h2, h3, h4⟩ := h.ex
 exact ⟨L, h1, h2, hk.own h3 (by decide), fun q hq => ⟨(h4 q hq).1, hk.own (h4 q hq).2 (by decide)⟩⟩
theorem Foz.kept (h : Foz base w A n c fs) {b2 n2 c2 : Nat} {A2 : Option Addr} {ys : List Value} (ho : w.ownsRow b2 62 3 (.slice A2 n2 c2) n2 ys) (hg : w.grownBy w' (blkO A2)) : Foz base w' A n c fs := by
 obtain ⟨L, h1, h2, h3, h4⟩ := h.ex
 exact ⟨L, h1, h2, oK9 h3 ho (by decide) hg, fun q hq => ⟨(h4 q hq).1, oK9 (h4 q hq).2 ho (by decide) hg⟩⟩
theorem Foz.app (h : Foz base w A n c fs) : ∃ xs, w.ownsRow base 35 1 (.slice A n c) n xs ∧ ∀ (W : World) (A' : Option Addr) (c' : Nat) (q : InP), w.grownBy W (blkO A) → W.ownsRow base 35 1 (.slice A' (n + 1) c') (n + 1) (xs ++ esPC q) → q.n = q.z.l.length → w.ownsRow base 98 3 (.slice q.A q.n q.k) q.n (q.z.l.flatMap elC) → Foz base W A' (n + 1) c' (fs ++ [q.z]) := by
 obtain ⟨L, h1, h2, h3, h4⟩ := h.ex
 refine ⟨_, h3, fun W A' c' q hg ho hn hq => ⟨L ++ [q], by rw [List.map_append, h1]; rfl, by rw [List.length_append, ← h2]; rfl, by rw [List.flatMap_append]; simpa using ho, fun r hr => ?_⟩⟩
 rcases List.mem_append.1 hr with hr | hr
 ·
  exact ⟨(h4 r hr).1, oK9 (h4 r hr).2 h3 (by decide) hg⟩
 ·
  rw [List.mem_singleton] at hr; subst hr; exact ⟨hn, oK9 hq h3 (by decide) hg⟩
end
theorem own_empty (w : World) (e : TypeId) (size : Nat) : (w.alloc (.cells #[] e)).ownsRow w.heap.size e size (.slice (some ⟨w.heap.size, 0, none⟩) 0 0) 0 [] :=
 ⟨by simp, Or.inr ⟨w.heap.size, 0, #[], rfl, Nat.le_refl _, heap_alloc_new w _, Nat.le_refl _, by decide, by simp, by simp⟩⟩
theorem es_one (L : List InP) : ∀ u ∈ L.flatMap esPC, u.oneCell' = true := by
 intro u hu
 rw [List.mem_flatMap] at hu
 obtain ⟨q, _, hq⟩ := hu
 simp [esPC] at hq
 subst hq
 rfl
theorem es_at {w : World} {base n c : Nat} {A : Option Addr} {L : List InP} (h : w.ownsRow base 35 1 (.slice A n c) n (L.flatMap esPC)) (hn : n = L.length) (j : Nat) (hj : j < n) : ∃ b, A = some ⟨b, 0, none⟩ ∧ base ≤ b ∧ b < w.heap.size ∧ w.cell? ⟨b, j, none⟩ = some (.slice (L.getD j inp0).A (L.getD j inp0).n (L.getD j inp0).k) ∧ w.frozen? ⟨b, j, none⟩ = false := by
 obtain ⟨g, rfl, hb, hc, hf, cs, hk⟩ := osz h (by omega)
 refine ⟨g, rfl, hb, hk.lt, ?_, hf j⟩
 have h1 := fkz esPC 1 inp0 esPC_len L j 0 (.slice (L.getD j inp0).A (L.getD j inp0).n (L.getD j inp0).k) (by omega) (by decide) rfl
 rw [Nat.mul_one, Nat.add_zero] at h1
 exact (hc j (by omega)).trans h1
theorem fx_at {w : World} {base n c : Nat} {A : Option Addr} {L : List FxP} (h3 : w.ownsRow base 62 3 (.slice A n c) n (L.flatMap fxPC)) (h2 : n = L.length) (j : Nat) (hj : j < n) : ∃ b, A = some ⟨b, 0, none⟩ ∧ b < w.heap.size ∧ w.cell? ⟨b, j * 3, none⟩ = some (.int .i64 (L.getD j fxp0).z.k) ∧ w.cell? ⟨b, j * 3 + 1, none⟩ = some (.slice (L.getD j fxp0).A (L.getD j fxp0).n (L.getD j fxp0).c) ∧ w.cell? ⟨b, j * 3 + 2, none⟩ = some (.int .i64 (L.getD j fxp0).z.a) := by
 obtain ⟨g, rfl, hb, hc, hf, cs, hk⟩ := osz h3 (by omega)
 have hl : j < L.length := by omega
 exact ⟨g, rfl, hk.lt, (hc _ (by omega)).trans (fkz fxPC 3 fxp0 fxPC_len L j 0 _ hl (by decide) rfl), (hc _ (by omega)).trans (fkz fxPC 3 fxp0 fxPC_len L j 1 _ hl (by decide) rfl), (hc _ (by omega)).trans (fkz fxPC 3 fxp0 fxPC_len L j 2 _ hl (by decide) rfl)⟩
def FxA (w w1 : World) (A : Option Addr) (j : Nat) (f : Fx) : Prop := ∃ b A2 n2 c2, A = some ⟨b, 0, none⟩ ∧ b < w.heap.size ∧ w.cell? ⟨b, j * 3, none⟩ = some (.int .i64 f.k) ∧ w.cell? ⟨b, j * 3 + 1, none⟩ = some (.slice A2 n2 c2) ∧ w.cell? ⟨b, j * 3 + 2, none⟩ = some (.int .i64 f.a) ∧ ElSl w1 A2 n2 f.l
theorem Woz.at {W1 w : World} {A : Option Addr} {n c : Nat} {l : List Fx} (h : Woz W1 w A n c l) (j : Nat) (hj : j < n) : FxA w W1 A j (l.getD j fx0) := by
 obtain ⟨L, h1, h2, h3, h4⟩ := h.ex
 obtain ⟨b, e, hb, x, y, z⟩ := fx_at h3 h2 j hj
 have hl : j < L.length := by omega
 have hz : l.getD j fx0 = (L.getD j fxp0).z := by rw [← h1]; exact gmz' FxP.z L j fxp0 hl
 rw [hz]
 exact ⟨b, _, _, _, e, hb, x, y, z, h4 _ (gez' fxp0 hl)⟩
theorem FxOwn.at {w : World} {lo base : Nat} {A : Option Addr} {n c : Nat} {l : List Fx} (h : FxOwn w lo base A n c l) (j : Nat) (hj : j < n) : FxA w w A j (l.getD j fx0) := by
 obtain ⟨L, h1, h2, h3, h4⟩ := h.ex
 obtain ⟨b, e, hb, x, y, z⟩ := fx_at h3 h2 j hj
 have hl : j < L.length := by omega
 have hz : l.getD j fx0 = (L.getD j fxp0).z := by rw [← h1]; exact gmz' FxP.z L j fxp0 hl
 rw [hz]
 obtain ⟨q1, q2⟩ := h4 _ (gez' fxp0 hl)
 exact ⟨b, _, _, _, e, hb, x, y, z, el_row q2 q1⟩
theorem Iw9.at {w : World} {lo base : Nat} {A : Option Addr} {n c : Nat} {l : List In} (h : Iw9 w lo base A n c l) (j : Nat) (hj : j < n) : ∃ b A2 n2 c2, A = some ⟨b, 0, none⟩ ∧ b < w.heap.size ∧ w.cell? ⟨b, j * 6, none⟩ = some (.int .i64 (l.getD j in0).c.s) ∧ w.cell? ⟨b, j * 6 + 1, none⟩ = some (.int .i64 (l.getD j in0).c.k) ∧ w.cell? ⟨b, j * 6 + 2, none⟩ = some (.int .i64 (l.getD j in0).c.a) ∧ w.cell? ⟨b, j * 6 + 3, none⟩ = some (.int .i64 (l.getD j in0).c.f) ∧ w.cell? ⟨b, j * 6 + 4, none⟩ = some (.bool (l.getD j in0).c.al) ∧ w.cell? ⟨b, j * 6 + 5, none⟩ = some (.slice A2 n2 c2) ∧ ElSl w A2 n2 (l.getD j in0).l := by
 obtain ⟨L, h1, h2, h3, h4⟩ := h.ex
 obtain ⟨g, rfl, hb, hc, hf, cs, hk⟩ := osz h3 (by omega)
 have hl : j < L.length := by omega
 have hz : l.getD j in0 = (L.getD j inp0).z := by rw [← h1]; exact gmz' InP.z L j inp0 hl
 rw [hz]
 obtain ⟨q1, q2⟩ := h4 _ (gez' inp0 hl)
 refine ⟨g, (L.getD j inp0).A, (L.getD j inp0).n, (L.getD j inp0).k, rfl, hk.lt, ?_, ?_, ?_, ?_, ?_, ?_, el_row q2 q1⟩
 ·
  exact (hc _ (by omega)).trans (fkz inPC 6 inp0 ilz L j 0 _ hl (by decide) rfl)
 ·
  exact (hc _ (by omega)).trans (fkz inPC 6 inp0 ilz L j 1 _ hl (by decide) rfl)
 ·
  exact (hc _ (by omega)).trans (fkz inPC 6 inp0 ilz L j 2 _ hl (by decide) rfl)
 ·
  exact (hc _ (by omega)).trans (fkz inPC 6 inp0 ilz L j 3 _ hl (by decide) rfl)
 ·
  exact (hc _ (by omega)).trans (fkz inPC 6 inp0 ilz L j 4 _ hl (by decide) rfl)
 ·
  exact (hc _ (by omega)).trans (fkz inPC 6 inp0 ilz L j 5 _ hl (by decide) rfl)
theorem now_put {NL : List InP} {fs : List In} {fx : List Fx} {j kn : Nat} {f : Fx} {q : InP} (hl : NL.length = fs.length) (hm : NL.map (fun q => q.z.l) = (fx.take j).foldl nowS (fs.map In.l)) (hj : j < fx.length) (hf : fx.getD j fx0 = f) (hk : f.k = (kn : Int) + 1) (hq : q.z.l = f.l) :
  (NL.set kn q).length = fs.length ∧ (NL.set kn q).map (fun q => q.z.l) = (fx.take (j + 1)).foldl nowS (fs.map In.l) := by
 refine ⟨by rw [List.length_set]; exact hl, ?_⟩
 rw [take_next fx j fx0 hj, List.foldl_append, ← hm, List.map_set, hf]
 show _ = nowS _ f
 unfold nowS
 rw [hk, hq, show ((kn : Int) + 1).toNat - 1 = kn by omega]
theorem es_put {w : World} {base n c b kn : Nat} {NL : List InP} (h : w.ownsRow base 35 1 (.slice (some ⟨b, 0, none⟩) n c) n (NL.flatMap esPC)) (hn : NL.length = n) (hk : kn < n) (q : InP) : (w.setCell ⟨b, kn, none⟩ (.slice q.A q.n q.k)).ownsRow base 35 1 (.slice (some ⟨b, 0, none⟩) n c) n ((NL.set kn q).flatMap esPC) := by
 have h1 := own_setR h kn (by omega) (.slice q.A q.n q.k)
 have h2 := flat_set esPC 1 esPC_len 0 (.slice q.A q.n q.k) (by decide) NL kn q inp0 (by omega) rfl
 rw [Nat.mul_one, Nat.add_zero] at h2
 rw [← h2]
 exact h1
theorem mem_set_or {NL : List InP} {kn : Nat} {q : InP} {w : World} (h : ∀ r ∈ NL, ElSl w r.A r.n r.z.l) (hq : ElSl w q.A q.n q.z.l) : ∀ r ∈ NL.set kn q, ElSl w r.A r.n r.z.l := by
 intro r hr
 rcases List.mem_or_eq_of_mem_set hr with hr | rfl
 ·
  exact h r hr
 ·
  exact hq
theorem map_at {α β γ : Type} {f : α → β} {g : γ → β} {L : List α} {M : List γ} {a : α} {b : γ} (h : L.map f = M.map g) (j : Nat) (hj : j < L.length) : f (L.getD j a) = g (M.getD j b) := by
 have hm : j < M.length := by have := congrArg List.length h; rw [List.length_map, List.length_map] at this; omega
 rw [← gmz' f L j a hj, ← gmz' g M j b hm, h]
 rw [List.getD_eq_getElem?_getD, List.getD_eq_getElem?_getD, List.getElem?_eq_getElem (by rw [List.length_map]; exact hm)]
 rfl
theorem wpAnyE_mono {P : Program} {md : Region.Mode} {ops : Array Oper} {Q : Exit → Act → World → Prop} {m : Nat} {S S' : World → Prop} (h : ∀ w, S' w → S w) : ∀ (fuel : Nat) (listed : Array Bool) (a : Act) (w : World), wEz P md ops Q S' m fuel listed a w → wEz P md ops Q S m fuel listed a w
 | 0, _, _, _, h9 => h9
 | fuel + 1, _, _, _, h9 => ⟨h9.1, fun i hi => wpOp_mono (fun a' w' h' => ⟨fun hm => h _ (h'.1 hm), wpAnyE_mono h fuel _ a' w' h'.2⟩) (h9.2 i hi)⟩
end Go.Proofs.YtiaabmhjkoohmaaGreat
