/-
 Contract of layer 23's do: an act at a desk. Conditions as named.
-/
import Derived.Test.YtiaabmhjkoohmaaGreatM9
import Derived.Lib.MinMax
namespace Go.Proofs.YtiaabmhjkoohmaaGreat
set_option maxRecDepth 100000
set_option maxHeartbeats 25600000
set_option linter.unusedVariables false
set_option linter.unusedSimpArgs false
open Go.RowKit Tryz
open Lib (hid)
section
variable {w0 W W0 W5 W6 W' : World} {fq days : Int} {gd gp gy : Nat} {D D' : Dk}
theorem PG.dcell (h : PG w0 fq days W gd gp gy D) {g : Nat} {T : TypeId} {cs : Array Value} (hk : Blk W g T cs) (hT : 55 ≠ T) (hg : W.grownBy W' (some g)) : W'.cell? ⟨gd, 1, none⟩ = W.cell? ⟨gd, 1, none⟩ := by
 obtain ⟨s, ⟨rfl, _, _⟩, hp⟩ := h
 obtain ⟨c1, c2, hB⟩ := hp.desk
 have h9 := hB.grown hg (by simpa using Blk.differ hB hk hT)
 exact (h9.cell 1).trans (hB.cell 1).symm
theorem PG.dlt (h : PG w0 fq days W gd gp gy D) : gd < W.heap.size := by
 obtain ⟨s, ⟨rfl, _, _⟩, hp⟩ := h
 obtain ⟨c1, c2, hB⟩ := hp.desk
 exact hB.lt
theorem PG.ycell (h : PG w0 fq days W gd gp gy D) {g : Nat} {cs : Array Value} (hk : Blk W g 45 cs) (hg : W.grownBy W' (some g)) : W'.cell? ⟨gy, 1, none⟩ = W.cell? ⟨gy, 1, none⟩ := by
 obtain ⟨o, hp⟩ := h.pe
 obtain ⟨lo, li, _, he⟩ := hp.em
 obtain ⟨K, _, hr⟩ := he.ex
 obtain ⟨A, c, B, d, hy⟩ := hr.yr
 have h9 := hy.blk.grown hg (by simpa using Blk.differ hy.blk hk (by decide))
 exact (h9.cell 1).trans (hy.blk.cell 1).symm
theorem KeepD.wrap (hb0 : Below W.heap.size W W0) (h : KeepD gd gy W0 W5) (hyl : gy < W.heap.size) {r0 : Nat} (hr0 : W.heap.size ≤ r0) (hg : W5.grownBy W6 (some r0)) (hy : W6.cell? ⟨gy, 1, none⟩ = W5.cell? ⟨gy, 1, none⟩) (hdl : gd < W.heap.size) (hdd : W6.cell? ⟨gd, 1, none⟩ = W5.cell? ⟨gd, 1, none⟩) : KeepD gd gy W W6 :=
  ⟨Nat.le_trans (Nat.le_trans hb0.size h.size) hg.size, fun hb hT => (h.blk (hb.t hb0) hT).grown hg (by have := hb.lt; intro he; injection he with he; omega),
   fun ho he => (h.own (oB9 ho hb0) he).kept hg (Or.inr (by intro hx; have := (ho.lt _ hx).2; omega)),
   fun g hg' hs => (h.sl g (Nat.lt_of_lt_of_le hg' hb0.size) (hs.same (hb0.cell (p := ⟨gy, 1, none⟩) hyl))).same hy,
   fun ho hA => by
    obtain ⟨o2, f2⟩ := h.fxo (oB9 ho hb0) (fun g hg => (hA g hg).same (hb0.cell (p := ⟨gd, 1, none⟩) hdl))
    exact ⟨o2.kept hg (Or.inr (by intro hx; have := (ho.lt _ hx).2; omega)), fun g hg => (f2 g hg).same hdd⟩⟩
theorem pg_code (h : PG w0 fq days W gd gp gy D) (c : Cd) (re : Int) (he : Hid (re = codeE D.e (cntI fq days) c)) (h1 : Hid (re = 0 → D' = { D with e := codeV D.e c })) (h2 : Hid (re ≠ 0 → D' = D)) :
  Calls prog 39 #[.pointer (some ⟨gp, 0, none⟩), .agg #[.int .i64 c.s, .int .i64 c.k, .int .i64 c.a, .int .i64 c.f, .bool c.al]] W fun e W' => e = .returned (.int .i64 re) ∧ PG w0 fq days W' gd gp gy D' ∧ KeepD gd gy W W' := by
 obtain ⟨s, ⟨rfl, rfl, rfl⟩, hp⟩ := h
 obtain ⟨E', e1, e2⟩ := pickD re (codeV D.e c) D.e
 refine (pd_code hp c re E' he e1 e2).mono ?_
 rintro e W' ⟨r1, r2⟩
 have e3 : D' = { D with e := E' } := by
  by_cases hr : re = 0
  ·
   rw [h1.out hr, e1 hr]
  ·
   rw [h2.out hr, e2 hr]
 rw [e3]
 exact ⟨r1, r2.pg hp⟩
theorem pg_prot (h : PG w0 fq days W gd gp gy D) (x : Int) (re : Int) (he : Hid (re = protE x)) (h1 : Hid (re = 0 → D' = { D with e := protV D.e x })) (h2 : Hid (re ≠ 0 → D' = D)) :
  Calls prog 42 #[.pointer (some ⟨gp, 0, none⟩), .int .i64 x] W fun e W' => e = .returned (.int .i64 re) ∧ PG w0 fq days W' gd gp gy D' ∧ KeepD gd gy W W' := by
 obtain ⟨s, ⟨rfl, rfl, rfl⟩, hp⟩ := h
 obtain ⟨E', e1, e2⟩ := pickD re (protV D.e x) D.e
 refine (pd_prot hp x re E' he e1 e2).mono ?_
 rintro e W' ⟨r1, r2⟩
 have e3 : D' = { D with e := E' } := by
  by_cases hr : re = 0
  ·
   rw [h1.out hr, e1 hr]
  ·
   rw [h2.out hr, e2 hr]
 rw [e3]
 exact ⟨r1, r2.pg hp⟩
theorem pg_order (h : PG w0 fq days W gd gp gy D) (id pr am ra tt : Int) (re : Int) (he : Hid (re = addE D.e.bk ⟨id, pr, am, ra, tt, 0, 0⟩)) (h1 : Hid (re = 0 → D' = { D with e := ordEV D.e ⟨id, pr, am, ra, tt, 0, 0⟩ })) (h2 : Hid (re ≠ 0 → D' = D)) :
  Calls prog 40 #[.pointer (some ⟨gp, 0, none⟩), .agg #[.int .i64 id, .int .i64 pr, .int .i64 am, .int .i64 ra, .int .i64 tt]] W fun e W' => e = .returned (.int .i64 re) ∧ PG w0 fq days W' gd gp gy D' ∧ KeepD gd gy W W' := by
 obtain ⟨s, ⟨rfl, rfl, rfl⟩, hp⟩ := h
 refine (pd_order hp id pr am ra tt).mono ?_
 rintro e W' ⟨r1, r2⟩
 have e3 : D' = { D with e := ordEV D.e ⟨id, pr, am, ra, tt, 0, 0⟩ } := by
  by_cases hr : re = 0
  ·
   exact h1.out hr
  ·
   have e9 : ordEV D.e ⟨id, pr, am, ra, tt, 0, 0⟩ = D.e := by unfold ordEV addL; rw [if_neg (he.out ▸ hr)]
   rw [h2.out hr, e9]
 rw [e3, he.out]
 exact ⟨r1, r2.pg hp⟩
theorem pg_cancel (h : PG w0 fq days W gd gp gy D) (id : Int) (re : Int) (he : Hid (re = canE D.e.bk id)) (h1 : Hid (re = 0 → D' = { D with e := canEV D.e id })) (h2 : Hid (re ≠ 0 → D' = D)) :
  Calls prog 41 #[.pointer (some ⟨gp, 0, none⟩), .int .i64 id] W fun e W' => e = .returned (.int .i64 re) ∧ PG w0 fq days W' gd gp gy D' ∧ KeepD gd gy W W' := by
 obtain ⟨s, ⟨rfl, rfl, rfl⟩, hp⟩ := h
 refine (pd_cancel hp id).mono ?_
 rintro e W' ⟨r1, r2⟩
 have e3 : D' = { D with e := canEV D.e id } := by
  by_cases hr : re = 0
  ·
   exact h1.out hr
  ·
   have e9 : canEV D.e id = D.e := by unfold canEV; rw [if_neg (he.out ▸ hr)]
   rw [h2.out hr, e9]
 rw [e3, he.out]
 exact ⟨r1, r2.pg hp⟩
end
def opOd (o : Op) : Od := ⟨o.id, o.pr, o.am, o.ra, o.tt, 0, 0⟩
def opK (o : Op) : Int := max (-9) (min o.n 99)
def doE (D : Dk) (nom cnt : Int) (o : Op) : Int :=
 if o.k = 0 then payE D.e cnt o.l else if o.k = 1 then codeE D.e cnt o.c else if o.k = 2 then addE D.e.bk (opOd o) else if o.k = 3 then canE D.e.bk o.id else if o.k = 4 then protE o.n else if o.k = 5 then runE D.e nom cnt else if o.k = 6 then dfixE D nom cnt (opK o) o.l else 290
def doV (D : Dk) (nom : Int) (o : Op) : Dk :=
 if o.k = 0 then { D with e := payV D.e o.l } else if o.k = 1 then { D with e := codeV D.e o.c } else if o.k = 2 then { D with e := ordEV D.e (opOd o) } else if o.k = 3 then { D with e := canEV D.e o.id } else if o.k = 4 then { D with e := protV D.e o.n } else if o.k = 5 then drunV D nom else if o.k = 6 then dfixV D (opK o) o.l else D
def DoR (w0 : World) (fq days : Int) (gd gp gy : Nat) (re : Int) (D' : Dk) (o : Op) (z : Sp) (W : World) (e : Ending) (W' : World) : Prop :=
 (∃ (Z : Sp) (A : Option Addr) (n c : Nat) (B : Option Addr) (m d : Nat), e = .returned (.tuple #[.agg (spC Z A n c B m d), .int .i64 re]) ∧ (o.k = 5 → Slz W' W.heap.size re z Z A n c B m d)) ∧ PG w0 fq days W' gd gp gy D' ∧ KeepD gd gy W W'
theorem do_frame {w0 W : World} {fq days : Int} {gd gp gy : Nat} {D : Dk} (h : PG w0 fq days W gd gp gy D) (cs1 cs2 : Array Value) :
  PG w0 fq days ((W.alloc (.cells cs1 39)).alloc (.cells cs2 45)) gd gp gy D ∧ SlAt ((W.alloc (.cells cs1 39)).alloc (.cells cs2 45)) gy (W.heap.size + 1) ∧ Blk ((W.alloc (.cells cs1 39)).alloc (.cells cs2 45)) W.heap.size 39 cs1 ∧
  Blk ((W.alloc (.cells cs1 39)).alloc (.cells cs2 45)) (W.heap.size + 1) 45 cs2 ∧ Below W.heap.size W ((W.alloc (.cells cs1 39)).alloc (.cells cs2 45)) := by
 have hba := bz1 W (.cells cs1 39)
 have hbb := bA hba (.cells cs2 45)
 refine ⟨h.below hbb, ?_, (Blk.mk W 39 cs1).t (bz1 _ (.cells cs2 45)), ?_, hbb⟩
 ·
  have h9 := (h.below hba).slAt (g := (W.alloc (.cells cs1 39)).heap.size) (Nat.le_refl _)
  rw [World.size_alloc] at h9
  exact h9.same ((bz1 (W.alloc (.cells cs1 39)) (.cells cs2 45)).cell (p := ⟨gy, 1, none⟩) (h.below hba).ylt)
 ·
  have h9 := Blk.mk (W.alloc (.cells cs1 39)) 45 cs2
  rw [World.size_alloc] at h9
  exact h9
--%
theorem do23_c {w0 W : World} {fq days : Int} {gd gp gy : Nat} {D D' : Dk} (h : PG w0 fq days W gd gp gy D) (o : OpP) (hl : ElSl w0 o.A o.m o.z.l) (hm : o.m ≤ 1000) (re : Int) (z : Sp) (he : Hid (re = doE D (nIz fq) (cntI fq days) o.z)) (hz : Hid (z = rSz D.e (nIz fq))) (h1 : Hid (re = 0 → D' = doV D (nIz fq) o.z)) (h2 : Hid (re ≠ 0 → D' = D)) :
  Calls prog 10 #[.pointer (some ⟨gd, 0, none⟩), .agg (opC o).toArray] W (DoR w0 fq days gd gp gy re D' o.z z W) := by
 obtain ⟨⟨zk, zl9, ⟨zs, zc, za, zf, zl⟩, zi, zp, zq, zr, zt, zn⟩, zA, zm, zd⟩ := o
 dsimp only at hl hm he h1 h2
 unfold doE at he
 unfold doV at h1
 unfold opOd opK at he h1
 dsimp only at he h1
 obtain ⟨hP, hSL, hOB, hRB, hbb⟩ := do_frame h #[.int .i64 zk, .slice zA zm zd, .int .i64 zs, .int .i64 zc, .int .i64 za, .int .i64 zf, .bool zl, .int .i64 zi, .int .i64 zp, .int .i64 zq, .int .i64 zr, .int .i64 zt, .int .i64 zn] #[.int .i64 0, .int .i64 0, .int .i64 0, .int .i64 0, .int .i64 0, .int .i64 0, .slice none 0 0, .int .i64 0, .slice none 0 0, .int .i64 0]
 have HP := hid hP
 have HSL := hid hSL
 have HYL := hid h.ylt
 have HDL := hid h.dlt
 have HW0 := hid h.bl
 have HB0 := hid hbb
 have HOB := hid hOB
 have HRB := hid hRB
 have HL := hid (hl.below hP.bl)
 have HLA := hid hl
 unfold DoR spC opC
 dsimp only
 clear hl hP hSL hOB hRB hbb
 have ob0 := HOB.out.cv 0 (.int .i64 zk) rfl
 go_enter func10, ntmps10
 go_upto_region 1 with fail
 have hr0 : W.heap.size ≤ W.heap.size + 1 := Nat.le_succ _
 have HR0 := hid hr0
 have hw0 : w0.heap.size ≤ W.heap.size + 1 := Nat.le_trans HW0.out.size (Nat.le_succ _)
 have HWR := hid hw0
 clear hr0 hw0 ob0
 generalize hwn : (W.alloc (.cells #[.int .i64 zk, .slice zA zm zd, .int .i64 zs, .int .i64 zc, .int .i64 za, .int .i64 zf, .bool zl, .int .i64 zi, .int .i64 zp, .int .i64 zq, .int .i64 zr, .int .i64 zt, .int .i64 zn] 39)).alloc (.cells #[.int .i64 0, .int .i64 0, .int .i64 0, .int .i64 0, .int .i64 0, .int .i64 0, .slice none 0 0, .int .i64 0, .slice none 0 0, .int .i64 0] 45) = V at *
 clear hwn
 have HYV : Hid (gy < V.heap.size) := HP.out.ylt
 have HDV : Hid (gd < V.heap.size) := HP.out.dlt
 by_cases z0 : zk = 0
 case pos =>
  subst z0
  have HE : Hid (re = payE D.e (cntI fq days) zl9) := he.out.trans (by rw [if_pos rfl])
  have HV1 : Hid (re = 0 → D' = { D with e := payV D.e zl9 }) := fun h => (h1.out h).trans (by rw [if_pos rfl])
  clear he h1
  have ob0 := HOB.out.cv 0 (.int .i64 0) rfl
  go_upto_region 3 with fail
  clear ob0
  have HPD := hid (HP.out.below (b0 V).drew)
  refine wRz (fun X => X.cell? ⟨gd, 0, none⟩ = some (.pointer (some ⟨gp, 0, none⟩)) ∧ X.cell? ⟨W.heap.size, 1, none⟩ = some (.slice zA zm zd)) 8 (by kernel_rfl) (⟨HPD.out.desk, (HOB.out.t (b0 V).drew).cv 1 (.slice zA zm zd) rfl⟩) (fun hH9 => ?_)
  refine tkG 0 (h := ?_)
  refine tkG 1 (h := ?_)
  refine tkG 2 (h := ?_)
  refine tkG 3 (h := ?_)
  refine tkG 4 (h := ?_)
  refine tkG 5 (h := ?_)
  refine tkG 6 (h := ?_)
  refine tkO 7 (h := fun K hK => ?_)
  go_simp
  go_at_call 34
  refine (pg_pay (c := zd) HPD.out (HL.out.below (b0 V).drew) hm re HE HV1 h2).mono ?_
  rintro e W5 ⟨rfl, hp, hkd⟩
  have HP5 := hid hp
  have HKD := hid (⟨hkd.size, fun a b => hkd.blk (a.t (b0 V).drew) b, fun a b => hkd.own (oB9 a (b0 V).drew) b, fun g hg hs => hkd.sl g hg (hs.same ((b0 V).drew.cell (p := ⟨gy, 1, none⟩) HYV.out)), fun ho hA => hkd.fxo (oB9 ho (b0 V).drew) (fun g hg => (hA g hg).same ((b0 V).drew.cell (p := ⟨gd, 1, none⟩) HDV.out))⟩ : KeepD gd gy V W5)
  have HR5 := hid (HKD.out.blk HRB.out (by decide))
  clear hp hkd
  obtain ⟨r0, r1, r2, r3, r4, r5, r6, r7, r8, r9⟩ := (HR5.out).q10
  obtain ⟨rf0, rf1, rf2, rf3, rf4, rf5, rf6, rf7, rf8, rf9⟩ := (HR5.out).r10
  refine shG hK (⟨HP5.out.desk, (HKD.out.blk HOB.out (by decide)).cv 1 (.slice zA zm zd) rfl⟩) (h := fun hH9 => ?_)
  clear hK K
  refine wL9 (i := 8) (by kernel_rfl) rfl (by decide) (fun K hK => ?_)
  go_simp
  refine hK.out _ _ ?_
  clear hK K
  try simp only [gA, gB, gC, pN, pU, pL, pZ, pS]
  refine wL9 (i := 9) (by kernel_rfl) rfl (by decide) (fun K hK => ?_)
  go_simp
  refine hK.out _ _ (wD9 (by kernel_rfl) ?_ _)
  clear hK K
  clear hH9
  try simp only [Exit.then]
  go_wp2_with fail
  skip
  have hgr := pgz W5 (W.heap.size + 1) (.int .i64 0) (.int .i64 0) (.int .i64 0) (.int .i64 0) (.int .i64 0) (.int .i64 0) (.slice none 0 0) (.int .i64 0) (.slice none 0 0) (.int .i64 0)
  refine bodyPost_ret (v := .tuple #[.agg #[.int .i64 0, .int .i64 0, .int .i64 0, .int .i64 0, .int .i64 0, .int .i64 0, .slice none 0 0, .int .i64 0, .slice none 0 0, .int .i64 0], .int .i64 re]) (by simp [results, results10, go_sem, r0, r1, r2, r3, r4, r5, r6, r7, r8, r9]) rfl ⟨⟨sp0, none, 0, 0, none, 0, 0, rfl, fun h => absurd h (by decide)⟩, ?_, ?_⟩
  ·
   exact HP5.out.pt HR5.out HWR.out (HKD.out.sl _ HRB.out.lt HSL.out) hgr
  ·
   exact HKD.out.wrap HB0.out HYL.out HR0.out hgr (HP5.out.ycell HR5.out hgr) HDL.out (HP5.out.dcell HR5.out (by decide) hgr)
 have k0 : (zk == 0) = false := by simpa using z0
 by_cases z1 : zk = 1
 case pos =>
  subst z1
  have HE : Hid (re = codeE D.e (cntI fq days) ⟨zs, zc, za, zf, zl⟩) := he.out.trans (by rw [if_neg (by decide), if_pos rfl])
  have HV1 : Hid (re = 0 → D' = { D with e := codeV D.e ⟨zs, zc, za, zf, zl⟩ }) := fun h => (h1.out h).trans (by rw [if_neg (by decide), if_pos rfl])
  clear he h1 k0
  have ob0 := HOB.out.cv 0 (.int .i64 1) rfl
  go_upto_region 5 with fail
  clear ob0
  have HPD := hid (HP.out.below (b0 V).drew)
  refine wRz (fun X => X.cell? ⟨gd, 0, none⟩ = some (.pointer (some ⟨gp, 0, none⟩)) ∧ X.cell? ⟨W.heap.size, 2, none⟩ = some (.int .i64 zs) ∧ X.cell? ⟨W.heap.size, 3, none⟩ = some (.int .i64 zc) ∧ X.cell? ⟨W.heap.size, 4, none⟩ = some (.int .i64 za) ∧ X.cell? ⟨W.heap.size, 5, none⟩ = some (.int .i64 zf) ∧ X.cell? ⟨W.heap.size, 6, none⟩ = some (.bool zl)) 8 (by kernel_rfl) (⟨HPD.out.desk, (HOB.out.t (b0 V).drew).cv 2 (.int .i64 zs) rfl, (HOB.out.t (b0 V).drew).cv 3 (.int .i64 zc) rfl, (HOB.out.t (b0 V).drew).cv 4 (.int .i64 za) rfl, (HOB.out.t (b0 V).drew).cv 5 (.int .i64 zf) rfl, (HOB.out.t (b0 V).drew).cv 6 (.bool zl) rfl⟩) (fun hH9 => ?_)
  refine tkG 0 (h := ?_)
  refine tkG 1 (h := ?_)
  refine tkG 2 (h := ?_)
  refine tkG 3 (h := ?_)
  refine tkG 4 (h := ?_)
  refine tkG 5 (h := ?_)
  refine tkG 6 (h := ?_)
  refine tkO 7 (h := fun K hK => ?_)
  go_simp
  go_at_call 39
  refine (pg_code HPD.out ⟨zs, zc, za, zf, zl⟩ re HE HV1 h2).mono ?_
  rintro e W5 ⟨rfl, hp, hkd⟩
  have HP5 := hid hp
  have HKD := hid (⟨hkd.size, fun a b => hkd.blk (a.t (b0 V).drew) b, fun a b => hkd.own (oB9 a (b0 V).drew) b, fun g hg hs => hkd.sl g hg (hs.same ((b0 V).drew.cell (p := ⟨gy, 1, none⟩) HYV.out)), fun ho hA => hkd.fxo (oB9 ho (b0 V).drew) (fun g hg => (hA g hg).same ((b0 V).drew.cell (p := ⟨gd, 1, none⟩) HDV.out))⟩ : KeepD gd gy V W5)
  have HR5 := hid (HKD.out.blk HRB.out (by decide))
  clear hp hkd
  obtain ⟨r0, r1, r2, r3, r4, r5, r6, r7, r8, r9⟩ := (HR5.out).q10
  obtain ⟨rf0, rf1, rf2, rf3, rf4, rf5, rf6, rf7, rf8, rf9⟩ := (HR5.out).r10
  refine shG hK (⟨HP5.out.desk, (HKD.out.blk HOB.out (by decide)).cv 2 (.int .i64 zs) rfl, (HKD.out.blk HOB.out (by decide)).cv 3 (.int .i64 zc) rfl, (HKD.out.blk HOB.out (by decide)).cv 4 (.int .i64 za) rfl, (HKD.out.blk HOB.out (by decide)).cv 5 (.int .i64 zf) rfl, (HKD.out.blk HOB.out (by decide)).cv 6 (.bool zl) rfl⟩) (h := fun hH9 => ?_)
  clear hK K
  refine wL9 (i := 8) (by kernel_rfl) rfl (by decide) (fun K hK => ?_)
  go_simp
  refine hK.out _ _ ?_
  clear hK K
  try simp only [gA, gB, gC, pN, pU, pL, pZ, pS]
  refine wL9 (i := 9) (by kernel_rfl) rfl (by decide) (fun K hK => ?_)
  go_simp
  refine hK.out _ _ (wD9 (by kernel_rfl) ?_ _)
  clear hK K
  clear hH9
  try simp only [Exit.then]
  go_wp2_with fail
  skip
  have hgr := pgz W5 (W.heap.size + 1) (.int .i64 0) (.int .i64 0) (.int .i64 0) (.int .i64 0) (.int .i64 0) (.int .i64 0) (.slice none 0 0) (.int .i64 0) (.slice none 0 0) (.int .i64 0)
  refine bodyPost_ret (v := .tuple #[.agg #[.int .i64 0, .int .i64 0, .int .i64 0, .int .i64 0, .int .i64 0, .int .i64 0, .slice none 0 0, .int .i64 0, .slice none 0 0, .int .i64 0], .int .i64 re]) (by simp [results, results10, go_sem, r0, r1, r2, r3, r4, r5, r6, r7, r8, r9]) rfl ⟨⟨sp0, none, 0, 0, none, 0, 0, rfl, fun h => absurd h (by decide)⟩, ?_, ?_⟩
  ·
   exact HP5.out.pt HR5.out HWR.out (HKD.out.sl _ HRB.out.lt HSL.out) hgr
  ·
   exact HKD.out.wrap HB0.out HYL.out HR0.out hgr (HP5.out.ycell HR5.out hgr) HDL.out (HP5.out.dcell HR5.out (by decide) hgr)
 have k1 : (zk == 1) = false := by simpa using z1
 by_cases z2 : zk = 2
 case pos =>
  subst z2
  have HE : Hid (re = addE D.e.bk ⟨zi, zp, zq, zr, zt, 0, 0⟩) := he.out.trans (by rw [if_neg (by decide), if_neg (by decide), if_pos rfl])
  have HV1 : Hid (re = 0 → D' = { D with e := ordEV D.e ⟨zi, zp, zq, zr, zt, 0, 0⟩ }) := fun h => (h1.out h).trans (by rw [if_neg (by decide), if_neg (by decide), if_pos rfl])
  clear he h1 k0 k1
  have ob0 := HOB.out.cv 0 (.int .i64 2) rfl
  go_upto_region 7 with fail
  clear ob0
  have HPD := hid (HP.out.below (b0 V).drew)
  refine wRz (fun X => X.cell? ⟨gd, 0, none⟩ = some (.pointer (some ⟨gp, 0, none⟩)) ∧ X.cell? ⟨W.heap.size, 7, none⟩ = some (.int .i64 zi) ∧ X.cell? ⟨W.heap.size, 8, none⟩ = some (.int .i64 zp) ∧ X.cell? ⟨W.heap.size, 9, none⟩ = some (.int .i64 zq) ∧ X.cell? ⟨W.heap.size, 10, none⟩ = some (.int .i64 zr) ∧ X.cell? ⟨W.heap.size, 11, none⟩ = some (.int .i64 zt)) 8 (by kernel_rfl) (⟨HPD.out.desk, (HOB.out.t (b0 V).drew).cv 7 (.int .i64 zi) rfl, (HOB.out.t (b0 V).drew).cv 8 (.int .i64 zp) rfl, (HOB.out.t (b0 V).drew).cv 9 (.int .i64 zq) rfl, (HOB.out.t (b0 V).drew).cv 10 (.int .i64 zr) rfl, (HOB.out.t (b0 V).drew).cv 11 (.int .i64 zt) rfl⟩) (fun hH9 => ?_)
  refine tkG 0 (h := ?_)
  refine tkG 1 (h := ?_)
  refine tkG 2 (h := ?_)
  refine tkG 3 (h := ?_)
  refine tkG 4 (h := ?_)
  refine tkG 5 (h := ?_)
  refine tkG 6 (h := ?_)
  refine tkO 7 (h := fun K hK => ?_)
  go_simp
  go_at_call 40
  refine (pg_order HPD.out zi zp zq zr zt re HE HV1 h2).mono ?_
  rintro e W5 ⟨rfl, hp, hkd⟩
  have HP5 := hid hp
  have HKD := hid (⟨hkd.size, fun a b => hkd.blk (a.t (b0 V).drew) b, fun a b => hkd.own (oB9 a (b0 V).drew) b, fun g hg hs => hkd.sl g hg (hs.same ((b0 V).drew.cell (p := ⟨gy, 1, none⟩) HYV.out)), fun ho hA => hkd.fxo (oB9 ho (b0 V).drew) (fun g hg => (hA g hg).same ((b0 V).drew.cell (p := ⟨gd, 1, none⟩) HDV.out))⟩ : KeepD gd gy V W5)
  have HR5 := hid (HKD.out.blk HRB.out (by decide))
  clear hp hkd
  obtain ⟨r0, r1, r2, r3, r4, r5, r6, r7, r8, r9⟩ := (HR5.out).q10
  obtain ⟨rf0, rf1, rf2, rf3, rf4, rf5, rf6, rf7, rf8, rf9⟩ := (HR5.out).r10
  refine shG hK (⟨HP5.out.desk, (HKD.out.blk HOB.out (by decide)).cv 7 (.int .i64 zi) rfl, (HKD.out.blk HOB.out (by decide)).cv 8 (.int .i64 zp) rfl, (HKD.out.blk HOB.out (by decide)).cv 9 (.int .i64 zq) rfl, (HKD.out.blk HOB.out (by decide)).cv 10 (.int .i64 zr) rfl, (HKD.out.blk HOB.out (by decide)).cv 11 (.int .i64 zt) rfl⟩) (h := fun hH9 => ?_)
  clear hK K
  refine wL9 (i := 8) (by kernel_rfl) rfl (by decide) (fun K hK => ?_)
  go_simp
  refine hK.out _ _ ?_
  clear hK K
  try simp only [gA, gB, gC, pN, pU, pL, pZ, pS]
  refine wL9 (i := 9) (by kernel_rfl) rfl (by decide) (fun K hK => ?_)
  go_simp
  refine hK.out _ _ (wD9 (by kernel_rfl) ?_ _)
  clear hK K
  clear hH9
  try simp only [Exit.then]
  go_wp2_with fail
  skip
  have hgr := pgz W5 (W.heap.size + 1) (.int .i64 0) (.int .i64 0) (.int .i64 0) (.int .i64 0) (.int .i64 0) (.int .i64 0) (.slice none 0 0) (.int .i64 0) (.slice none 0 0) (.int .i64 0)
  refine bodyPost_ret (v := .tuple #[.agg #[.int .i64 0, .int .i64 0, .int .i64 0, .int .i64 0, .int .i64 0, .int .i64 0, .slice none 0 0, .int .i64 0, .slice none 0 0, .int .i64 0], .int .i64 re]) (by simp [results, results10, go_sem, r0, r1, r2, r3, r4, r5, r6, r7, r8, r9]) rfl ⟨⟨sp0, none, 0, 0, none, 0, 0, rfl, fun h => absurd h (by decide)⟩, ?_, ?_⟩
  ·
   exact HP5.out.pt HR5.out HWR.out (HKD.out.sl _ HRB.out.lt HSL.out) hgr
  ·
   exact HKD.out.wrap HB0.out HYL.out HR0.out hgr (HP5.out.ycell HR5.out hgr) HDL.out (HP5.out.dcell HR5.out (by decide) hgr)
 have k2 : (zk == 2) = false := by simpa using z2
 by_cases z3 : zk = 3
 case pos =>
  subst z3
  have HE : Hid (re = canE D.e.bk zi) := he.out.trans (by rw [if_neg (by decide), if_neg (by decide), if_neg (by decide), if_pos rfl])
  have HV1 : Hid (re = 0 → D' = { D with e := canEV D.e zi }) := fun h => (h1.out h).trans (by rw [if_neg (by decide), if_neg (by decide), if_neg (by decide), if_pos rfl])
  clear he h1 k0 k1 k2
  have ob0 := HOB.out.cv 0 (.int .i64 3) rfl
  go_upto_region 9 with fail
  clear ob0
  have HPD := hid (HP.out.below (b0 V).drew)
  refine wRz (fun X => X.cell? ⟨gd, 0, none⟩ = some (.pointer (some ⟨gp, 0, none⟩)) ∧ X.cell? ⟨W.heap.size, 7, none⟩ = some (.int .i64 zi)) 9 (by kernel_rfl) (⟨HPD.out.desk, (HOB.out.t (b0 V).drew).cv 7 (.int .i64 zi) rfl⟩) (fun hH9 => ?_)
  refine tkG 0 (h := ?_)
  refine tkG 1 (h := ?_)
  refine tkG 2 (h := ?_)
  refine tkG 3 (h := ?_)
  refine tkG 4 (h := ?_)
  refine tkG 5 (h := ?_)
  refine tkG 6 (h := ?_)
  refine tkG 7 (h := ?_)
  refine tkO 8 (h := fun K hK => ?_)
  go_simp
  go_at_call 41
  refine (pg_cancel HPD.out zi re HE HV1 h2).mono ?_
  rintro e W5 ⟨rfl, hp, hkd⟩
  have HP5 := hid hp
  have HKD := hid (⟨hkd.size, fun a b => hkd.blk (a.t (b0 V).drew) b, fun a b => hkd.own (oB9 a (b0 V).drew) b, fun g hg hs => hkd.sl g hg (hs.same ((b0 V).drew.cell (p := ⟨gy, 1, none⟩) HYV.out)), fun ho hA => hkd.fxo (oB9 ho (b0 V).drew) (fun g hg => (hA g hg).same ((b0 V).drew.cell (p := ⟨gd, 1, none⟩) HDV.out))⟩ : KeepD gd gy V W5)
  have HR5 := hid (HKD.out.blk HRB.out (by decide))
  clear hp hkd
  obtain ⟨r0, r1, r2, r3, r4, r5, r6, r7, r8, r9⟩ := (HR5.out).q10
  obtain ⟨rf0, rf1, rf2, rf3, rf4, rf5, rf6, rf7, rf8, rf9⟩ := (HR5.out).r10
  refine shG hK (⟨HP5.out.desk, (HKD.out.blk HOB.out (by decide)).cv 7 (.int .i64 zi) rfl⟩) (h := fun hH9 => ?_)
  clear hK K
  refine wL9 (i := 9) (by kernel_rfl) rfl (by decide) (fun K hK => ?_)
  go_simp
  refine hK.out _ _ ?_
  clear hK K
  try simp only [gA, gB, gC, pN, pU, pL, pZ, pS]
  refine wL9 (i := 10) (by kernel_rfl) rfl (by decide) (fun K hK => ?_)
  go_simp
  refine hK.out _ _ (wD9 (by kernel_rfl) ?_ _)
  clear hK K
  clear hH9
  try simp only [Exit.then]
  go_wp2_with fail
  skip
  have hgr := pgz W5 (W.heap.size + 1) (.int .i64 0) (.int .i64 0) (.int .i64 0) (.int .i64 0) (.int .i64 0) (.int .i64 0) (.slice none 0 0) (.int .i64 0) (.slice none 0 0) (.int .i64 0)
  refine bodyPost_ret (v := .tuple #[.agg #[.int .i64 0, .int .i64 0, .int .i64 0, .int .i64 0, .int .i64 0, .int .i64 0, .slice none 0 0, .int .i64 0, .slice none 0 0, .int .i64 0], .int .i64 re]) (by simp [results, results10, go_sem, r0, r1, r2, r3, r4, r5, r6, r7, r8, r9]) rfl ⟨⟨sp0, none, 0, 0, none, 0, 0, rfl, fun h => absurd h (by decide)⟩, ?_, ?_⟩
  ·
   exact HP5.out.pt HR5.out HWR.out (HKD.out.sl _ HRB.out.lt HSL.out) hgr
  ·
   exact HKD.out.wrap HB0.out HYL.out HR0.out hgr (HP5.out.ycell HR5.out hgr) HDL.out (HP5.out.dcell HR5.out (by decide) hgr)
 have k3 : (zk == 3) = false := by simpa using z3
 by_cases z4 : zk = 4
 case pos =>
  subst z4
  have HE : Hid (re = protE zn) := he.out.trans (by rw [if_neg (by decide), if_neg (by decide), if_neg (by decide), if_neg (by decide), if_pos rfl])
  have HV1 : Hid (re = 0 → D' = { D with e := protV D.e zn }) := fun h => (h1.out h).trans (by rw [if_neg (by decide), if_neg (by decide), if_neg (by decide), if_neg (by decide), if_pos rfl])
  clear he h1 k0 k1 k2 k3
  have ob0 := HOB.out.cv 0 (.int .i64 4) rfl
  go_upto_region 11 with fail
  clear ob0
  have HPD := hid (HP.out.below (b0 V).drew)
  refine wRz (fun X => X.cell? ⟨gd, 0, none⟩ = some (.pointer (some ⟨gp, 0, none⟩)) ∧ X.cell? ⟨W.heap.size, 12, none⟩ = some (.int .i64 zn)) 8 (by kernel_rfl) (⟨HPD.out.desk, (HOB.out.t (b0 V).drew).cv 12 (.int .i64 zn) rfl⟩) (fun hH9 => ?_)
  refine tkG 0 (h := ?_)
  refine tkG 1 (h := ?_)
  refine tkG 2 (h := ?_)
  refine tkG 3 (h := ?_)
  refine tkG 4 (h := ?_)
  refine tkG 5 (h := ?_)
  refine tkG 6 (h := ?_)
  refine tkO 7 (h := fun K hK => ?_)
  go_simp
  go_at_call 42
  refine (pg_prot HPD.out zn re HE HV1 h2).mono ?_
  rintro e W5 ⟨rfl, hp, hkd⟩
  have HP5 := hid hp
  have HKD := hid (⟨hkd.size, fun a b => hkd.blk (a.t (b0 V).drew) b, fun a b => hkd.own (oB9 a (b0 V).drew) b, fun g hg hs => hkd.sl g hg (hs.same ((b0 V).drew.cell (p := ⟨gy, 1, none⟩) HYV.out)), fun ho hA => hkd.fxo (oB9 ho (b0 V).drew) (fun g hg => (hA g hg).same ((b0 V).drew.cell (p := ⟨gd, 1, none⟩) HDV.out))⟩ : KeepD gd gy V W5)
  have HR5 := hid (HKD.out.blk HRB.out (by decide))
  clear hp hkd
  obtain ⟨r0, r1, r2, r3, r4, r5, r6, r7, r8, r9⟩ := (HR5.out).q10
  obtain ⟨rf0, rf1, rf2, rf3, rf4, rf5, rf6, rf7, rf8, rf9⟩ := (HR5.out).r10
  refine shG hK (⟨HP5.out.desk, (HKD.out.blk HOB.out (by decide)).cv 12 (.int .i64 zn) rfl⟩) (h := fun hH9 => ?_)
  clear hK K
  refine wL9 (i := 8) (by kernel_rfl) rfl (by decide) (fun K hK => ?_)
  go_simp
  refine hK.out _ _ ?_
  clear hK K
  try simp only [gA, gB, gC, pN, pU, pL, pZ, pS]
  refine wL9 (i := 9) (by kernel_rfl) rfl (by decide) (fun K hK => ?_)
  go_simp
  refine hK.out _ _ (wD9 (by kernel_rfl) ?_ _)
  clear hK K
  clear hH9
  try simp only [Exit.then]
  go_wp2_with fail
  skip
  have hgr := pgz W5 (W.heap.size + 1) (.int .i64 0) (.int .i64 0) (.int .i64 0) (.int .i64 0) (.int .i64 0) (.int .i64 0) (.slice none 0 0) (.int .i64 0) (.slice none 0 0) (.int .i64 0)
  refine bodyPost_ret (v := .tuple #[.agg #[.int .i64 0, .int .i64 0, .int .i64 0, .int .i64 0, .int .i64 0, .int .i64 0, .slice none 0 0, .int .i64 0, .slice none 0 0, .int .i64 0], .int .i64 re]) (by simp [results, results10, go_sem, r0, r1, r2, r3, r4, r5, r6, r7, r8, r9]) rfl ⟨⟨sp0, none, 0, 0, none, 0, 0, rfl, fun h => absurd h (by decide)⟩, ?_, ?_⟩
  ·
   exact HP5.out.pt HR5.out HWR.out (HKD.out.sl _ HRB.out.lt HSL.out) hgr
  ·
   exact HKD.out.wrap HB0.out HYL.out HR0.out hgr (HP5.out.ycell HR5.out hgr) HDL.out (HP5.out.dcell HR5.out (by decide) hgr)
 have k4 : (zk == 4) = false := by simpa using z4
 by_cases z5 : zk = 5
 case pos =>
  subst z5
  have HE : Hid (re = runE D.e (nIz fq) (cntI fq days)) := he.out.trans (by rw [if_neg (by decide), if_neg (by decide), if_neg (by decide), if_neg (by decide), if_neg (by decide), if_pos rfl])
  have HV1 : Hid (re = 0 → D' = drunV D (nIz fq)) := fun h => (h1.out h).trans (by rw [if_neg (by decide), if_neg (by decide), if_neg (by decide), if_neg (by decide), if_neg (by decide), if_pos rfl])
  clear he h1 k0 k1 k2 k3 k4
  have ob0 := HOB.out.cv 0 (.int .i64 5) rfl
  go_wp2_with fail
  refine (pg_run HP.out re z HE hz HV1 h2).mono ?_
  rintro e W5 ⟨⟨⟨sp, ⟨sc, st, ss⟩, stx, ssh, srows, snet, stk, spy⟩, A8, n8, c8, B8, m8, d8, rfl, hv⟩, hp, hkd⟩
  unfold spC
  have HP5 := hid hp
  have HKD := hid hkd
  have HSV := hid hv
  have HR5 := hid (HKD.out.blk HRB.out (by decide))
  clear hp hkd hv ob0
  obtain ⟨r0, r1, r2, r3, r4, r5, r6, r7, r8, r9⟩ := (HR5.out).q10
  obtain ⟨rf0, rf1, rf2, rf3, rf4, rf5, rf6, rf7, rf8, rf9⟩ := (HR5.out).r10
  go_wp2_with fail
  skip
  have hgr := pgz W5 (W.heap.size + 1) (.int .i64 sp) (.int .i64 sc) (.int .i64 st) (.int .i64 ss) (.int .i64 stx) (.int .i64 ssh) (.slice A8 n8 c8) (.int .i64 snet) (.slice B8 m8 d8) (.int .i64 spy)
  refine bodyPost_ret (v := .tuple #[.agg #[.int .i64 sp, .int .i64 sc, .int .i64 st, .int .i64 ss, .int .i64 stx, .int .i64 ssh, .slice A8 n8 c8, .int .i64 snet, .slice B8 m8 d8, .int .i64 spy], .int .i64 re]) (by simp [results, results10, go_sem, r0, r1, r2, r3, r4, r5, r6, r7, r8, r9]) rfl ⟨⟨⟨sp, ⟨sc, st, ss⟩, stx, ssh, srows, snet, stk, spy⟩, A8, n8, c8, B8, m8, d8, rfl, (HSV.out.more HB0.out.size).grown HR5.out (by decide) (by decide) hgr⟩, ?_, ?_⟩
  ·
   exact HP5.out.pt HR5.out HWR.out (HKD.out.sl _ HRB.out.lt HSL.out) hgr
  ·
   exact HKD.out.wrap HB0.out HYL.out HR0.out hgr (HP5.out.ycell HR5.out hgr) HDL.out (HP5.out.dcell HR5.out (by decide) hgr)
 have k5 : (zk == 5) = false := by simpa using z5
 by_cases z6 : zk = 6
 case pos =>
  subst z6
  have HE : Hid (re = dfixE D (nIz fq) (cntI fq days) (max (-9) (min zn 99)) zl9) := he.out.trans (by rw [if_neg (by decide), if_neg (by decide), if_neg (by decide), if_neg (by decide), if_neg (by decide), if_neg (by decide), if_pos rfl])
  have HV1 : Hid (re = 0 → D' = dfixV D (max (-9) (min zn 99)) zl9) := fun h => (h1.out h).trans (by rw [if_neg (by decide), if_neg (by decide), if_neg (by decide), if_neg (by decide), if_neg (by decide), if_neg (by decide), if_pos rfl])
  clear he h1 k0 k1 k2 k3 k4 k5
  have qz := HOB.out
  have ob0 := qz.cv 0 (.int .i64 6) rfl
  have ob1 := qz.cv 1 (.slice zA zm zd) rfl
  have ob12 := qz.cv 12 (.int .i64 zn) rfl
  clear qz
  go_wp2_with fail
  refine (pg_fix (c := zd) HP.out (max (-9) (min zn 99)) HLA.out hm re HE HV1 h2).mono ?_
  rintro e W5 ⟨rfl, hp, hkd⟩
  have HP5 := hid hp
  have HKD := hid hkd
  have HR5 := hid (HKD.out.blk HRB.out (by decide))
  clear hp hkd ob0 ob1 ob12
  obtain ⟨r0, r1, r2, r3, r4, r5, r6, r7, r8, r9⟩ := (HR5.out).q10
  obtain ⟨rf0, rf1, rf2, rf3, rf4, rf5, rf6, rf7, rf8, rf9⟩ := (HR5.out).r10
  go_wp2_with fail
  skip
  have hgr := pgz W5 (W.heap.size + 1) (.int .i64 0) (.int .i64 0) (.int .i64 0) (.int .i64 0) (.int .i64 0) (.int .i64 0) (.slice none 0 0) (.int .i64 0) (.slice none 0 0) (.int .i64 0)
  refine bodyPost_ret (v := .tuple #[.agg #[.int .i64 0, .int .i64 0, .int .i64 0, .int .i64 0, .int .i64 0, .int .i64 0, .slice none 0 0, .int .i64 0, .slice none 0 0, .int .i64 0], .int .i64 re]) (by simp [results, results10, go_sem, r0, r1, r2, r3, r4, r5, r6, r7, r8, r9]) rfl ⟨⟨sp0, none, 0, 0, none, 0, 0, rfl, fun h => absurd h (by decide)⟩, ?_, ?_⟩
  ·
   exact HP5.out.pt HR5.out HWR.out (HKD.out.sl _ HRB.out.lt HSL.out) hgr
  ·
   exact HKD.out.wrap HB0.out HYL.out HR0.out hgr (HP5.out.ycell HR5.out hgr) HDL.out (HP5.out.dcell HR5.out (by decide) hgr)
 have k6 : (zk == 6) = false := by simpa using z6
 have HE : Hid (re = 290) := he.out.trans (by rw [if_neg z0, if_neg z1, if_neg z2, if_neg z3, if_neg z4, if_neg z5, if_neg z6])
 have hD : D' = D := h2.out (by rw [HE.out]; decide)
 subst hD
 have ob0 := HOB.out.cv 0 (.int .i64 zk) rfl
 have HR5 := HRB
 have HP5 := HP
 have HKD := hid (⟨Nat.le_refl _, fun a _ => a, fun a _ => a, fun _ _ h => h, fun a b => ⟨a, b⟩⟩ : KeepD gd gy V V)
 obtain ⟨r0, r1, r2, r3, r4, r5, r6, r7, r8, r9⟩ := (HR5.out).q10
 obtain ⟨rf0, rf1, rf2, rf3, rf4, rf5, rf6, rf7, rf8, rf9⟩ := (HR5.out).r10
 go_wp2_with fail
 skip
 have hgr := pgz V (W.heap.size + 1) (.int .i64 0) (.int .i64 0) (.int .i64 0) (.int .i64 0) (.int .i64 0) (.int .i64 0) (.slice none 0 0) (.int .i64 0) (.slice none 0 0) (.int .i64 0)
 refine bodyPost_ret (v := .tuple #[.agg #[.int .i64 0, .int .i64 0, .int .i64 0, .int .i64 0, .int .i64 0, .int .i64 0, .slice none 0 0, .int .i64 0, .slice none 0 0, .int .i64 0], .int .i64 290]) (by simp [results, results10, go_sem, r0, r1, r2, r3, r4, r5, r6, r7, r8, r9]) rfl ⟨⟨sp0, none, 0, 0, none, 0, 0, by rw [HE.out]; rfl⟩, ?_, ?_⟩
 ·
  exact HP5.out.pt HR5.out HWR.out (HKD.out.sl _ HRB.out.lt HSL.out) hgr
 ·
  exact HKD.out.wrap HB0.out HYL.out HR0.out hgr (HP5.out.ycell HR5.out hgr) HDL.out (HP5.out.dcell HR5.out (by decide) hgr)
end Go.Proofs.YtiaabmhjkoohmaaGreat
