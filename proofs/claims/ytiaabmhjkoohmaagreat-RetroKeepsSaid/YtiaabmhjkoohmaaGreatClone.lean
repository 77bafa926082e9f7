/-
 Contract of table.Clone. Conditions as named.
-/
import Derived.Test.YtiaabmhjkoohmaaGreatM1
import Derived.Deep.DeepCutAuto
import Derived.Deep.RegionWith
import Derived.Deep.RegionLaw
namespace Go.Proofs.YtiaabmhjkoohmaaGreat
set_option maxRecDepth 100000
set_option maxHeartbeats 25600000
set_option linter.unusedVariables false
set_option linter.unusedSimpArgs false
open Go.RowKit Tryz
open Lib (hid)
structure OwnT (w : World) (base : Nat) (sch : List (List Bd)) (cts : List Ct) (kds : List Kd) (As Ac Ak : Option Addr) (ns cs nc cc nk ck : Nat) : Prop where
 s : ∃ ls : List ScP, ls.map ScP.x = sch ∧ w.ownsRow base 146 1 (.slice As ns cs) ns (ls.flatMap scPC) ∧ ∀ p ∈ ls, OwnB w base (.slice p.A p.m p.c) p.m p.x
 c : ∃ lc : List CtP, lc.map CtP.x = cts ∧ w.ownsRow base 195 6 (.slice Ac nc cc) nc (lc.flatMap ctPC) ∧ ∀ p ∈ lc, OwnB w base (.slice p.A p.m p.c) p.m p.x.bands ∧ p.x.nm.size ≤ 9223372036854775807
 k : w.ownsRow base 148 4 (.slice Ak nk ck) nk (kds.flatMap kdC) ∧ ∀ p ∈ kds, p.nm.size ≤ 9223372036854775807
theorem OwnB.below {w w' : World} {base : Nat} {v : Value} {n : Nat} {l : List Bd} (h : OwnB w base v n l) (hb : Below w.heap.size w w') : OwnB w' base v n l := ⟨h.1, oB9 h.2 hb⟩
theorem OwnB.grown {w w' : World} {base : Nat} {v : Value} {n : Nat} {l : List Bd} (h : OwnB w base v n l) {base' size' n' : Nat} {e' : TypeId} {v' : Value} {xs' : List Value} (ho : w.ownsRow base' e' size' v' n' xs') (hne : 145 ≠ e') (hg : w.grownBy w' v'.ownBlock) : OwnB w' base v n l := ⟨h.1, h.2.kept hg (ooz h.2 ho hne)⟩
theorem OwnB.setO {w : World} {base : Nat} {v : Value} {n : Nat} {l : List Bd} (h : OwnB w base v n l) {g : Nat} {t : TypeId} {cs : Array Value} (hk : Blk w g t cs) (hne : 145 ≠ t) (j : Nat) (u : Value) : OwnB (w.setCell ⟨g, j, none⟩ u) base v n l := ⟨h.1, oS9 h.2 hk hne j u⟩
def CloneR (sch : List (List Bd)) (cts : List Ct) (kds : List Kd) (ns nc nk : Nat) (lim rnd : Int) (w : World) (e : Ending) (w' : World) : Prop :=
 (∃ As cs Ac cc Ak ck, e = .returned (.agg #[.slice As ns cs, .slice Ac nc cc, .slice Ak nk ck, .int .i64 lim, .int .i64 rnd]) ∧ OwnT w' w.heap.size sch cts kds As Ac Ak ns cs nc cc nk ck) ∧ Below w.heap.size w w'
structure CloneP (w : World) (lc : List CtP) (kds : List Kd) (As : Option Addr) (ns cs : Nat) (Ac Ak : Option Addr) (nc cc nk ck : Nat) (lim rnd : Int) (A0 : Option Addr) (c0 : Nat) (Ac0 Ak0 : Option Addr) (cc0 ck0 n0 : Nat) (wx : World) : Prop where
 p1 : Blk wx w.heap.size 26 #[.slice As ns cs, .slice Ac nc cc, .slice Ak nk ck, .int .i64 lim, .int .i64 rnd]
 p2 : Blk wx (w.heap.size + 1) 26 #[.slice none 0 0, .slice none 0 0, .slice none 0 0, .int .i64 0, .int .i64 0]
 p3 : Blk wx (w.heap.size + 1 + 1) 26 #[.slice A0 n0 c0, .slice Ac0 nc cc0, .slice Ak0 nk ck0, .int .i64 lim, .int .i64 rnd]
 oc : wx.ownsRow w.heap.size 195 6 (.slice Ac0 nc cc0) nc (lc.flatMap ctPC)
 ok : wx.ownsRow w.heap.size 148 4 (.slice Ak0 nk ck0) nk (kds.flatMap kdC)
 b : Below w.heap.size w wx
theorem clone_s1 {w wr wa : World} {lcp : List CtP} {kds : List Kd} {As Ac Ak A1 Ac0 Ak0 Aa : Option Addr} {ns cs nc cc nk ck c1 cc0 ck0 k pm ca : Nat} {lim rnd : Int} {ls : List ScP} {sch : List (List Bd)} {L : List Bd}
  (HQ : CloneP w lcp kds As ns cs Ac Ak nc cc nk ck lim rnd A1 c1 Ac0 Ak0 cc0 ck0 k wr) (h1 : ls.map ScP.x = sch.take k) (h2 : wr.ownsRow w.heap.size 146 1 (.slice A1 k c1) k (ls.flatMap scPC)) (h3 : ∀ p ∈ ls, OwnB wr w.heap.size (.slice p.A p.m p.c) p.m p.x)
  (hsn : sch.take (k + 1) = sch.take k ++ [L]) (hcb : Below wr.heap.size wr wa) (hoa : wa.ownsRow wr.heap.size 145 3 (.slice Aa pm ca) pm (L.flatMap bdC)) (hpm : pm = L.length) (hk : k < 100000) :
  ∃ A7 c7 w7, (Builtin.append_ #[22, 22] 22 #[.slice A1 k c1, .slice (some ⟨wa.heap.size, 0, none⟩) 1 1]).run prog (wa.alloc (.cells #[.slice Aa pm ca] 146)) = .ok (.slice A7 (k + 1) c7) w7 ∧
   (w7.cell? ⟨(w.heap.size + 1 + 1), 0, none⟩ = some (.slice A1 k c1) ∧ w7.frozen? ⟨(w.heap.size + 1 + 1), 0, none⟩ = false) ∧
   Hid ((ls ++ [(⟨L, Aa, pm, ca⟩ : ScP)]).map ScP.x = sch.take (k + 1) ∧ (w7.setCell ⟨(w.heap.size + 1 + 1), 0, none⟩ (.slice A7 (k + 1) c7)).ownsRow w.heap.size 146 1 (.slice A7 (k + 1) c7) (k + 1) ((ls ++ [(⟨L, Aa, pm, ca⟩ : ScP)]).flatMap scPC) ∧ ∀ p ∈ ls ++ [(⟨L, Aa, pm, ca⟩ : ScP)], OwnB (w7.setCell ⟨(w.heap.size + 1 + 1), 0, none⟩ (.slice A7 (k + 1) c7)) w.heap.size (.slice p.A p.m p.c) p.m p.x) ∧
   Hid (CloneP w lcp kds As ns cs Ac Ak nc cc nk ck lim rnd A7 c7 Ac0 Ak0 cc0 ck0 (k + 1) (w7.setCell ⟨(w.heap.size + 1 + 1), 0, none⟩ (.slice A7 (k + 1) c7))) := by
 have o1 := oB9 h2 hcb
 have hsz := HQ.b.size
 have hsz2 := hcb.size
 obtain ⟨v7, w7, hr7, ho7, hg7⟩ := run_app1 (P := prog) wa 22 22 146 _ 1 24 underlying22 info_bands rfl (by decide) o1 #[.slice Aa pm ca] rfl (by simp [Value.oneCell']) (by omega) (by omega) (by omega)
 obtain ⟨A7, c7, rfl⟩ := oL9 ho7
 have x1 := (HQ.p1.t hcb).grown hg7 (obz o1 (HQ.p1.t hcb) (by decide))
 have x2 := (HQ.p2.t hcb).grown hg7 (obz o1 (HQ.p2.t hcb) (by decide))
 have x3 := (HQ.p3.t hcb).grown hg7 (obz o1 (HQ.p3.t hcb) (by decide))
 refine ⟨A7, c7, w7, hr7, ⟨x3.cell 0, x3.free 0⟩, ⟨?_, ?_, fun p hp => ?_⟩, ⟨x1.setO (by omega) 0 _, x2.setO (by omega) 0 _, x3.setJ 0 _, ?_, ?_, ?_⟩⟩
 ·
  rw [List.map_append, h1, hsn]; rfl
 ·
  refine oS9 ?_ x3 (by decide) 0 _
  rw [List.flatMap_append]
  simpa [scPC] using ho7
 ·
  refine OwnB.setO ?_ x3 (by decide) 0 _
  rcases List.mem_append.1 hp with hp | hp
  ·
   exact ((h3 p hp).below hcb).grown o1 (by decide) hg7
  ·
   simp at hp; subst hp
   have : OwnB wa w.heap.size (.slice Aa pm ca) pm L := ⟨hpm, oM9 hoa hsz⟩
   exact this.grown o1 (by decide) hg7
 ·
  exact oS9 ((oB9 HQ.oc hcb).kept hg7 (ooz (oB9 HQ.oc hcb) o1 (by decide))) x3 (by decide) 0 _
 ·
  exact oS9 ((oB9 HQ.ok hcb).kept hg7 (ooz (oB9 HQ.ok hcb) o1 (by decide))) x3 (by decide) 0 _
 ·
  exact bS (bP (bT HQ.b hcb) o1 hg7 (Nat.le_refl _)) (show w.heap.size ≤ w.heap.size + 1 + 1 by omega) _
structure CloneC (w : World) (lcp lc : List CtP) (k nc : Nat) (wr : World) : Prop where
 mp : lc.map CtP.x = lcp.map CtP.x
 len : lc.length = nc
 old : ∀ j, k ≤ j → j < nc → lc.getD j ctp0 = lcp.getD j ctp0
 new : ∀ j, j < k → OwnB wr w.heap.size (.slice (lc.getD j ctp0).A (lc.getD j ctp0).m (lc.getD j ctp0).c) (lc.getD j ctp0).m (lc.getD j ctp0).x.bands
theorem clone_s2 {w wr wa : World} {lc : List CtP} {kds : List Kd} {As Ac Ak A1 Ak0 Aa : Option Addr} {ns cs nc cc nk ck c1 cc0 ck0 k pm ca n0 g : Nat} {lim rnd : Int} {ls : List ScP} {lcp : List CtP}
  (HQ : CloneP w lc kds As ns cs Ac Ak nc cc nk ck lim rnd A1 c1 (some ⟨g, 0, none⟩) Ak0 cc0 ck0 n0 wr) (HC : CloneC w lcp lc k nc wr) (h2 : wr.ownsRow w.heap.size 146 1 (.slice A1 n0 c1) n0 (ls.flatMap scPC)) (h3 : ∀ p ∈ ls, OwnB wr w.heap.size (.slice p.A p.m p.c) p.m p.x)
  (hk : k < nc) (hcb : Below wr.heap.size wr wa) (hoa : wa.ownsRow wr.heap.size 145 3 (.slice Aa pm ca) pm ((lc.getD k ctp0).x.bands.flatMap bdC)) (hpm : pm = (lc.getD k ctp0).x.bands.length) :
  (wa.cell? ⟨g, k * 6 + 2, none⟩ = some (.slice (lc.getD k ctp0).A (lc.getD k ctp0).m (lc.getD k ctp0).c) ∧ wa.frozen? ⟨g, k * 6 + 2, none⟩ = false) ∧ wa.cell? ⟨(w.heap.size + 1 + 1), 1, none⟩ = some (.slice (some ⟨g, 0, none⟩) nc cc0) ∧
   Hid (CloneP w (lc.set k ⟨(lc.getD k ctp0).x, Aa, pm, ca⟩) kds As ns cs Ac Ak nc cc nk ck lim rnd A1 c1 (some ⟨g, 0, none⟩) Ak0 cc0 ck0 n0 (wa.setCell ⟨g, k * 6 + 2, none⟩ (.slice Aa pm ca))) ∧
   Hid (CloneC w lcp (lc.set k ⟨(lc.getD k ctp0).x, Aa, pm, ca⟩) (k + 1) nc (wa.setCell ⟨g, k * 6 + 2, none⟩ (.slice Aa pm ca))) ∧
   Hid ((wa.setCell ⟨g, k * 6 + 2, none⟩ (.slice Aa pm ca)).ownsRow w.heap.size 146 1 (.slice A1 n0 c1) n0 (ls.flatMap scPC) ∧ ∀ p ∈ ls, OwnB (wa.setCell ⟨g, k * 6 + 2, none⟩ (.slice Aa pm ca)) w.heap.size (.slice p.A p.m p.c) p.m p.x) := by
 have oc := oB9 HQ.oc hcb
 have hsz := HQ.b.size
 have hgl := (oc.lt g rfl).1
 obtain ⟨g', cap', hv, _, _, _, _⟩ := own_form oc (by omega)
 have hkn : k < lc.length := by rw [HC.len]; exact hk
 have hat : (lc.flatMap ctPC)[k * 6 + 2]? = some (.slice (lc.getD k ctp0).A (lc.getD k ctp0).m (lc.getD k ctp0).c) := by
  have hr : ∀ (l : List CtP) (j : Nat), j < l.length → (l.flatMap ctPC)[j * 6 + 2]? = some (.slice (l.getD j ctp0).A (l.getD j ctp0).m (l.getD j ctp0).c) := by
   intro l
   induction l with
   | nil => intro j hj; simp at hj
   | cons x l ih =>
    intro j hj
    cases j with
    | zero => rfl
    | succ j =>
     rw [List.flatMap_cons, List.getElem?_append_right (by rw [ctPC_len]; omega), ctPC_len]
     have := ih j (by simpa using hj)
     rw [show (j + 1) * 6 + 2 - 6 = j * 6 + 2 by omega, this]
     rfl
  exact hr lc k hkn
 have hbk : ∀ {g0 : Nat} {cs0 : Array Value}, Blk wa g0 26 cs0 → g0 ≠ g := fun hk0 he => by
  have := obz oc hk0 (by decide)
  simp [Value.ownBlock, he] at this
 have hbg := (gJ9 wa g (k * 6 + 2) (.slice Aa pm ca))
 have hown : ∀ {base size n : Nat} {e : TypeId} {v : Value} {xs : List Value}, wa.ownsRow base e size v n xs → e ≠ 195 → (wa.setCell ⟨g, k * 6 + 2, none⟩ (.slice Aa pm ca)).ownsRow base e size v n xs := fun h hne => h.kept hbg (ooz h oc hne)
 have hset : ∀ j, j ≠ k → (lc.set k (⟨(lc.getD k ctp0).x, Aa, pm, ca⟩ : CtP)).getD j ctp0 = lc.getD j ctp0 := fun j hj => by
  simp [List.getD, Ne.symm hj]
 have hsetk : (lc.set k (⟨(lc.getD k ctp0).x, Aa, pm, ca⟩ : CtP)).getD k ctp0 = ⟨(lc.getD k ctp0).x, Aa, pm, ca⟩ := by
  generalize (⟨(lc.getD k ctp0).x, Aa, pm, ca⟩ : CtP) = y
  simp [List.getD, hkn]
 refine ⟨⟨?_, oc.frozenAt _⟩, (HQ.p3.t hcb).cell 1, ⟨(HQ.p1.t hcb).setO (hbk (HQ.p1.t hcb)) _ _, (HQ.p2.t hcb).setO (hbk (HQ.p2.t hcb)) _ _, (HQ.p3.t hcb).setO (hbk (HQ.p3.t hcb)) _ _, ?_, hown (oB9 HQ.ok hcb) (by decide), bS (bT HQ.b hcb) hgl _⟩, ⟨?_, by rw [List.length_set]; exact HC.len, fun j h1 h2 => ?_, fun j hj => ?_⟩, ⟨hown (oB9 h2 hcb) (by decide), fun p hp => ?_⟩⟩
 ·
  rw [oc.cellAt (k * 6 + 2) (by omega), hat]
 ·
  rw [← flat_set ctPC 6 ctPC_len 2 (.slice Aa pm ca) (by decide) lc k ⟨(lc.getD k ctp0).x, Aa, pm, ca⟩ ctp0 hkn rfl]
  exact own_setR oc (k * 6 + 2) (by omega) _
 ·
  rw [List.map_set]
  have : (⟨(lc.getD k ctp0).x, Aa, pm, ca⟩ : CtP).x = (lc.map CtP.x)[k]'(by simpa using hkn) := by
   rw [List.getElem_map]; simp [List.getD, List.getElem?_eq_getElem hkn]
  rw [this, List.set_getElem_self, HC.mp]
 ·
  rw [hset j (by omega)]; exact HC.old j (by omega) h2
 ·
  rcases (by omega : j = k ∨ j < k) with rfl | hj
  ·
   rw [hsetk]
   exact ⟨hpm, hown (oM9 hoa hsz) (by decide)⟩
  ·
   rw [hset j (by omega)]
   have := (HC.new j hj).below hcb
   exact ⟨this.1, hown this.2 (by decide)⟩
 ·
  have := (h3 p hp).below hcb
  exact ⟨this.1, hown this.2 (by decide)⟩
theorem tclone_c (sch : List (List Bd)) (cts : List Ct) (kds : List Kd) (As Ac Ak : Option Addr) (ns cs nc cc nk ck : Nat) (lim rnd : Int) (w : World) (hs : ScSl w As ns sch) (hc : CtSl w Ac nc cts) (hk : KdSl w Ak nk kds) (hn : ns ≤ 100000 ∧ nc ≤ 100000 ∧ nk ≤ 100000) (hb : (∀ k, k < ns → (sch.getD k []).length ≤ 100000) ∧ (∀ k, k < nc → (cts.getD k ct0).bands.length ≤ 100000)) :
    Calls prog 67 #[.agg #[.slice As ns cs, .slice Ac nc cc, .slice Ak nk ck, .int .i64 lim, .int .i64 rnd]] w (CloneR sch cts kds ns nc nk lim rnd w) := by
  obtain ⟨lcp, hlc, hrc, hbc⟩ := ct_rows hc
  obtain ⟨lsp, hls, hrs, hbs⟩ := sc_rows hs
  obtain ⟨hrk, hbk⟩ := kd_rows hk
  obtain ⟨n1, n2, n3⟩ := hn
  have KC : Hid (∀ W, Below w.heap.size w W → Calls prog 98 #[.slice Ac nc cc] W (GivesV 195 6 nc (lcp.flatMap ctPC) W)) := fun W hW => clone_ct Ac nc cc _ W ((hrc.src ctPC_len).below hW) ct_one (by omega)
  have KK : Hid (∀ W, Below w.heap.size w W → Calls prog 99 #[.slice Ak nk ck] W (GivesV 148 4 nk (kds.flatMap kdC) W)) := fun W hW => clone_kd Ak nk ck _ W ((hrk.src kdC_len).below hW) kd_one (by omega)
  have HBW := hid (bA (bA (bz1 w (.cells #[.slice As ns cs, .slice Ac nc cc, .slice Ak nk ck, .int .i64 lim, .int .i64 rnd] 26)) (.cells #[.slice none 0 0, .slice none 0 0, .slice none 0 0, .int .i64 0, .int .i64 0] 26)) (.cells #[.slice As ns cs, .slice Ac nc cc, .slice Ak nk ck, .int .i64 lim, .int .i64 rnd] 26))
  have x1 := ((Blk.mk w 26 #[.slice As ns cs, .slice Ac nc cc, .slice Ak nk ck, .int .i64 lim, .int .i64 rnd]).alloc (.cells #[.slice none 0 0, .slice none 0 0, .slice none 0 0, .int .i64 0, .int .i64 0] 26)).alloc (.cells #[.slice As ns cs, .slice Ac nc cc, .slice Ak nk ck, .int .i64 lim, .int .i64 rnd] 26)
  have x2 := (Blk.mk (w.alloc (.cells #[.slice As ns cs, .slice Ac nc cc, .slice Ak nk ck, .int .i64 lim, .int .i64 rnd] 26)) 26 #[.slice none 0 0, .slice none 0 0, .slice none 0 0, .int .i64 0, .int .i64 0]).alloc (.cells #[.slice As ns cs, .slice Ac nc cc, .slice Ak nk ck, .int .i64 lim, .int .i64 rnd] 26)
  have x3 := Blk.mk ((w.alloc (.cells #[.slice As ns cs, .slice Ac nc cc, .slice Ak nk ck, .int .i64 lim, .int .i64 rnd] 26)).alloc (.cells #[.slice none 0 0, .slice none 0 0, .slice none 0 0, .int .i64 0, .int .i64 0] 26)) 26 #[.slice As ns cs, .slice Ac nc cc, .slice Ak nk ck, .int .i64 lim, .int .i64 rnd]
  rw [World.size_alloc] at x2
  rw [World.size_alloc, World.size_alloc] at x3
  have HX1 := hid x1
  have HX2 := hid x2
  have HX3 := hid x3
  clear x1 x2 x3 hs hc hk
  have HRC := hid hrc
  have HRS := hid hrs
  have HBC := hid hbc
  have HBS := hid hbs
  have HBK := hid hbk
  have HLC := hid hlc
  have HLS := hid hls
  have HBB := hid hb
  clear hrc hrs hrk hbc hbs hbk hlc hls hb
  go_enter func67, ntmps67
  go_upto_region 3 with fail
  go_cut [] (fun wx => ∃ (Ac0 Ak0 : Option Addr) (cc0 ck0 : Nat), Hid (CloneP w lcp kds As ns cs Ac Ak nc cc nk ck lim rnd none 0 Ac0 Ak0 cc0 ck0 0 wx))
  case first =>
    have hcur := bD (b0 (((w.alloc (.cells #[.slice As ns cs, .slice Ac nc cc, .slice Ak nk ck, .int .i64 lim, .int .i64 rnd] 26)).alloc (.cells #[.slice none 0 0, .slice none 0 0, .slice none 0 0, .int .i64 0, .int .i64 0] 26)).alloc (.cells #[.slice As ns cs, .slice Ac nc cc, .slice Ak nk ck, .int .i64 lim, .int .i64 rnd] 26))) 1
    obtain ⟨z0, z1, z2, z3, z4⟩ := (HX1.out.t hcur).a5g.1
    go_wp2_with fail
    go_region_with (first
      | (go_at_call 98; refine (KC.out _ (bT HBW.out hcur)).mono ?_; rintro e wa ⟨⟨va, rfl, hoa⟩, hba⟩; obtain ⟨Aa, ca, rfl⟩ := oL9 hoa; have HOA := hid (oM9 hoa (Nat.le_trans HBW.out.size hcur.size)); have hcur := bT hcur hba; clear hoa; obtain ⟨z0, z1, z2, z3, z4⟩ := (HX1.out.t hcur).a5g.1; obtain ⟨⟨y0, y1, y2, y3, y4⟩, f0, f1, f2, f3, f4⟩ := (HX3.out.t hcur).a5g)
      | (go_at_call 99; refine (KK.out _ (bT HBW.out hcur)).mono ?_; rintro e wb ⟨⟨vb, rfl, hob⟩, hbb⟩; obtain ⟨Ab, cb, rfl⟩ := oL9 hob; have HOB := hid (oM9 hob (Nat.le_trans HBW.out.size hcur.size)); have hcur := bT hcur hbb; clear hob; obtain ⟨z0, z1, z2, z3, z4⟩ := (HX1.out.t hcur).a5g.1; obtain ⟨⟨y0, y1, y2, y3, y4⟩, f0, f1, f2, f3, f4⟩ := (HX3.out.t hcur).a5g))
    all_goals
      trace "G"
      go_wp2_with fail
      go_meet
      have hwc := bT HBW.out hcur
      refine ⟨Aa, Ab, ca, cb, ⟨(HX1.out.t hcur).set3O (by omega) 0 1 2 _ _ _, (HX2.out.t hcur).set3O (by omega) 0 1 2 _ _ _, (((HX3.out.t hcur).setJ 0 _).setJ 1 _).setJ 2 _, ?_, ?_, bS3 hwc (by omega) 0 1 2 _ _ _⟩⟩
      · exact own_set3 (by first | exact oB9 HOA.out hbb | exact HOA.out) (HX3.out.t hcur) (by decide) 0 1 2 _ _ _
      · exact own_set3 (by first | exact oB9 HOB.out hba | exact HOB.out) (HX3.out.t hcur) (by decide) 0 1 2 _ _ _
  case rest =>
    obtain ⟨Ac0, Ak0, cc0, ck0, HP⟩ := hcut
    obtain ⟨z0, z1, z2, z3, z4⟩ := HP.out.p1.a5g.1
    go_wp2_with fail
    go_loopw [20] (fun ci wr => ∃ (k : Nat) (A1 : Option Addr) (c1 : Nat) (ls : List ScP), k ≤ ns ∧ ci = .int .i64 k ∧ Hid (ls.map ScP.x = sch.take k ∧ wr.ownsRow w.heap.size 146 1 (.slice A1 k c1) k (ls.flatMap scPC) ∧ ∀ p ∈ ls, OwnB wr w.heap.size (.slice p.A p.m p.c) p.m p.x) ∧ Hid (CloneP w lcp kds As ns cs Ac Ak nc cc nk ck lim rnd A1 c1 Ac0 Ak0 cc0 ck0 k wr)) (fun ci _ => ns - (intOf ci).toNat)
    case atStart => exact ⟨0, none, 0, [], Nat.zero_le _, rfl, ⟨by simp, World.ownsRow_nil _ _ _ _, fun p hp => by simp at hp⟩, HP.out⟩
    case round =>
      obtain ⟨k, A1, c1, ls, hk', rfl, HL1, HQ⟩ := hrel
      by_cases hk : k < ns
      case pos =>
        obtain ⟨b, off, rfl, hlt, hat⟩ := (Rlz.below HRS.out HQ.out.b).2.2 (by omega)
        have c0 := hat k hk 0 _ rfl
        have hsl := HRS.out.1
        have hbk := HBS.out _ (gez (d := scp0) (show k < lsp.length by omega))
        have hll := HBB.out.1 k hk
        have hgx : (lsp.getD k scp0).x = sch.getD k [] := by
          rw [← HLS.out]
          simp [List.getD, List.getElem?_eq_getElem (show k < lsp.length by omega)]
        have hsn : sch.take (k + 1) = sch.take k ++ [sch.getD k []] := by
          have : k < sch.length := by rw [← HLS.out, List.length_map]; omega
          rw [List.take_add_one, List.getElem?_eq_getElem this]
          simp [List.getD, List.getElem?_eq_getElem this]
        rw [hgx] at hbk
        have HSN := hid hsn
        generalize sch.getD k [] = L at *
        generalize lsp.getD k scp0 = pp at *
        obtain ⟨px, pA, pm, pc⟩ := pp
        dsimp only at hbk hgx
        have hpm := hbk.1
        have KB : Hid (∀ W, Below w.heap.size w W → Calls prog 100 #[.slice pA pm pc] W (GivesV 145 3 pm (L.flatMap bdC) W)) := fun W hW => clone_bd pA pm pc _ W ((band_src hbk).below hW) bd_one (by omega)
        have hc0 : wr.cell? ⟨b, off + k, none⟩ = some (.slice pA pm pc) := by rw [Nat.mul_one] at c0; exact c0
        obtain ⟨⟨y0, y1, y2, y3, y4⟩, f0, f1, f2, f3, f4⟩ := HQ.out.p3.a5g
        have HPM := hid hpm
        clear hat c0 hbk hgx hsn hpm hsl
        go_wp2_with fail
        go_region_law? (first
          | (go_simp; go_at_call 100; refine (KB.out _ (bD HQ.out.b 1)).mono ?_; rintro e wa ⟨⟨va, rfl, hoa⟩, hba⟩; obtain ⟨Aa, ca, rfl⟩ := oL9 hoa; have hcb := bT (bD (b0 wr) 1) hba; obtain ⟨A7, c7, w7, hr7, ⟨q0, q1⟩, HR1, HR2⟩ := clone_s1 HQ.out HL1.out.1 HL1.out.2.1 HL1.out.2.2 HSN.out hcb hoa HPM.out (by omega); have HR7 := hid hr7; have u0 := (HQ.out.p3.t hcb).cell 0; have ua := ((HQ.out.p3.t hcb).alloc (.cells #[.slice Aa pm ca] 146)).cell 0; clear hr7 hoa)
          | (refine step_of_run rfl _ _ 22 rfl _ _ (by simp [Act.eval]) (by simp [Act.eval]) _ w7 HR7.out ?_))
        all_goals
          trace "H"
          go_wp2_with fail
          go_roundw
          case rel => exact ⟨k + 1, A7, c7, _, by omega, by go_num, HR1, HR2⟩
          case measure => simp [intOf]; omega
      obtain rfl : ns = k := by omega
      have HL2 : Hid (ls.map ScP.x = sch) := by
        have := HL1.out.1
        have e : sch.length = ns := by
          rw [← HLS.out, List.length_map]; exact HRS.out.1.symm
        rwa [← e, List.take_length] at this
      obtain ⟨⟨y0, y1, y2, y3, y4⟩, f0, f1, f2, f3, f4⟩ := HQ.out.p3.a5g
      clear hk hk'
      go_wp2_with fail
      go_loopw [35] (fun ci wr => ∃ (k : Nat) (lc : List CtP), k ≤ nc ∧ ci = .int .i64 k ∧ Hid (CloneP w lc kds As ns cs Ac Ak nc cc nk ck lim rnd A1 c1 Ac0 Ak0 cc0 ck0 ns wr) ∧ Hid (CloneC w lcp lc k nc wr) ∧ Hid (wr.ownsRow w.heap.size 146 1 (.slice A1 ns c1) ns (ls.flatMap scPC) ∧ ∀ p ∈ ls, OwnB wr w.heap.size (.slice p.A p.m p.c) p.m p.x)) (fun ci _ => nc - (intOf ci).toNat)
      case atStart => exact ⟨0, lcp, Nat.zero_le _, rfl, HQ.out, ⟨rfl, HRC.out.1.symm, fun j _ _ => rfl, fun j hj => absurd hj (by omega)⟩, HL1.out.2⟩
      case round =>
        obtain ⟨k, lc, hk', rfl, HQ2, HCC, HLL⟩ := hrel
        by_cases hk : k < nc
        case pos =>
          obtain ⟨g, cap, hvg, hg1, hg2, hg3, _⟩ := own_form HQ2.out.oc (by omega)
          injection hvg with e1 _ e2
          subst e1; subst e2
          have hll : lc.length = nc := HCC.out.len
          have hlcp : nc = lcp.length := HRC.out.1
          obtain ⟨A', c', he, _, hrs⟩ := own_sl ctPC 6 ctp0 ctPC_len HQ2.out.oc hll.symm (by decide)
          injection he with he1 _ he3
          subst he1; subst he3
          obtain ⟨b', off', hA, _, hat⟩ := hrs.2.2 (by omega)
          injection hA with hA
          injection hA with hA1 hA2 _
          subst hA1; subst hA2
          have q2 : wr.cell? ⟨g, k * 6 + 2, none⟩ = some (.slice (lc.getD k ctp0).A (lc.getD k ctp0).m (lc.getD k ctp0).c) := by
            have := hat k hk 2 _ rfl
            rwa [Nat.zero_add] at this
          have hold := HCC.out.old k (Nat.le_refl _) hk
          have hbk := (HBC.out _ (gez (d := ctp0) (show k < lcp.length by omega))).1
          rw [← hold] at hbk
          have hbl := HBB.out.2 k hk
          have hcx : (cts.getD k ct0) = (lc.getD k ctp0).x := by
            rw [hold, ← HLC.out]
            simp [List.getD, List.getElem?_eq_getElem (show k < lcp.length by omega)]
          rw [hcx] at hbl
          have CS2 : Hid (∀ (wa : World) (Aa : Option Addr) (ca : Nat), Below wr.heap.size wr wa → wa.ownsRow wr.heap.size 145 3 (.slice Aa (lc.getD k ctp0).m ca) (lc.getD k ctp0).m ((lc.getD k ctp0).x.bands.flatMap bdC) → _) := fun wa Aa ca h1 h2 => clone_s2 HQ2.out HCC.out HLL.out.1 HLL.out.2 hk h1 h2 hbk.1
          have KB : Hid (∀ W, Below w.heap.size w W → Calls prog 100 #[.slice (lc.getD k ctp0).A (lc.getD k ctp0).m (lc.getD k ctp0).c] W (GivesV 145 3 (lc.getD k ctp0).m ((lc.getD k ctp0).x.bands.flatMap bdC) W)) := fun W hW => clone_bd _ _ _ _ W ((band_src hbk).below hW) bd_one (by have := hbk.1; omega)
          have y1 := HQ2.out.p3.cell 1
          clear hat hrs hbk hold hbl hcx hlcp hll
          have HNX : Hid (∀ Aa pm ca W, CloneC w lcp (lc.set k ⟨(lc.getD k ctp0).x, Aa, pm, ca⟩) (k + 1) nc W → CloneC w lcp (lc.set k ⟨(lc.getD k ctp0).x, Aa, pm, ca⟩) (k + 1) nc W) := fun _ _ _ _ h => h
          generalize lc.getD k ctp0 = pp at *
          obtain ⟨px, pA, pm, pc⟩ := pp
          dsimp only at CS2 KB q2
          have kk0 : (0 : Int) ≤ (k : Int) := by omega
          have kk1 : (k : Int) < (nc : Int) := by omega
          have kk2 : ((k : Int)).toNat = k := by omega
          go_wp2_with fail
          go_region_law (first
            | (go_simp; go_at_call 100; refine (KB.out _ (bD HQ2.out.b 1)).mono ?_; rintro e wa ⟨⟨va, rfl, hoa⟩, hba⟩; obtain ⟨Aa, ca, rfl⟩ := oL9 hoa; have hcb := bT (bD (b0 wr) 1) hba; obtain ⟨⟨q3, q4⟩, q5, HR1, HR2, HR3⟩ := CS2.out wa Aa ca hcb hoa; clear hoa))
          all_goals
            trace "I"
            go_wp2_with fail
            go_roundw
            case rel => exact ⟨k + 1, _, by omega, by go_num, HR1, HR2, HR3⟩
            case measure => simp [intOf]; omega
        obtain rfl : nc = k := by omega
        obtain ⟨⟨y0, y1, y2, y3, y4⟩, _⟩ := HQ2.out.p3.a5g
        obtain ⟨⟨v0, v1, v2, v3, v4⟩, f0', f1', f2', f3', f4'⟩ := HQ2.out.p2.a5g
        have HF : Hid (OwnT (((((wr.setCell ⟨w.heap.size + 1, 0, none⟩ (.slice A1 ns c1)).setCell ⟨w.heap.size + 1, 1, none⟩ (.slice Ac0 nc cc0)).setCell ⟨w.heap.size + 1, 2, none⟩ (.slice Ak0 nk ck0)).setCell ⟨w.heap.size + 1, 3, none⟩ (.int .i64 lim)).setCell ⟨w.heap.size + 1, 4, none⟩ (.int .i64 rnd)) w.heap.size sch cts kds A1 Ac0 Ak0 ns c1 nc cc0 nk ck0) := by
          refine ⟨⟨ls, HL2.out, own_set5 HLL.out.1 HQ2.out.p2 (by decide) _ _ _ _ _, fun p hp => ?_⟩, ⟨lc, HCC.out.mp.trans HLC.out, own_set5 HQ2.out.oc HQ2.out.p2 (by decide) _ _ _ _ _, fun p hp => ?_⟩, own_set5 HQ2.out.ok HQ2.out.p2 (by decide) _ _ _ _ _, HBK.out⟩
          · have := HLL.out.2 p hp
            exact ⟨this.1, own_set5 this.2 HQ2.out.p2 (by decide) _ _ _ _ _⟩
          · obtain ⟨j, hj, rfl⟩ := List.getElem_of_mem hp
            have e : lc.getD j ctp0 = lc[j] := by simp [List.getD, List.getElem?_eq_getElem hj]
            have h1 := HCC.out.new j (by rw [← HCC.out.len]; exact hj)
            rw [e] at h1
            refine ⟨⟨h1.1, own_set5 h1.2 HQ2.out.p2 (by decide) _ _ _ _ _⟩, ?_⟩
            have hm : lc[j].x ∈ lcp.map CtP.x := by
              rw [← HCC.out.mp]
              exact List.mem_map.2 ⟨lc[j], hp, rfl⟩
            obtain ⟨q, hq, he⟩ := List.mem_map.1 hm
            rw [← he]
            exact (HBC.out q hq).2
        go_wp2_with fail
        refine bodyPost_ret (v := .agg #[.slice A1 ns c1, .slice Ac0 nc cc0, .slice Ak0 nk ck0, .int .i64 lim, .int .i64 rnd]) (by simp [results, results67, go_sem, v0, v1, v2, v3, v4]) rfl ⟨⟨A1, c1, Ac0, cc0, Ak0, ck0, rfl, HF.out⟩, bS5s HQ2.out.b (Nat.le_succ _) _ _ _ _ _⟩
end Go.Proofs.YtiaabmhjkoohmaaGreat
