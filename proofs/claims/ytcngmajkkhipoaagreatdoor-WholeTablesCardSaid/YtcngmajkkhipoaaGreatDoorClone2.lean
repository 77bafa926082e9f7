/-
  Contract of table.Clone, once more: schemes and contributions share no rows. Conditions as named.
-/
import Derived.Test.YtcngmajkkhipoaaGreatDoorClone
import Derived.Test.YtcngmajkkhipoaaGreatDoorM2
namespace Go.Proofs.YtcngmajkkhipoaaGreatDoor
set_option linter.unusedVariables false
open Go.RowKit
/-- rows of the schemes lie below a bound, those of the first k contributions beyond it -/
def SepL (X : Nat) (ls : List ScP) (lc : List CtP) (k : Nat) : Prop :=
  (∀ p ∈ ls, ∀ g, (Value.slice p.A p.m p.c).ownBlock = some g → g < X) ∧ ∀ j, j < k → ∀ g, (Value.slice (lc.getD j ctp0).A (lc.getD j ctp0).m (lc.getD j ctp0).c).ownBlock = some g → X ≤ g
theorem SepL.more {X : Nat} {ls : List ScP} {lc : List CtP} {k : Nat} (h : SepL X ls lc k) (hk : k < lc.length) {x : Ct} {A : Option Addr} {m c : Nat} (hx : ∀ g, (Value.slice A m c).ownBlock = some g → X ≤ g) : SepL X ls (lc.set k ⟨x, A, m, c⟩) (k + 1) := by
  refine ⟨h.1, fun j hj g hg => ?_⟩
  rcases (by omega : j = k ∨ j < k) with rfl | hj
  · have e : (lc.set j (⟨x, A, m, c⟩ : CtP)).getD j ctp0 = ⟨x, A, m, c⟩ := by simp [List.getD, hk]
    rw [e] at hg
    exact hx g hg
  · have e : (lc.set k (⟨x, A, m, c⟩ : CtP)).getD j ctp0 = lc.getD j ctp0 := by simp [List.getD, show k ≠ j by omega]
    rw [e] at hg
    exact h.2 j hj g hg
/-- as the cells tell it -/
def SepT (w : World) (As Ac : Option Addr) (ns nc : Nat) : Prop := ∃ X,
  (∀ gs i A m c g, As = some ⟨gs, 0, none⟩ → i < ns → w.cell? ⟨gs, i, none⟩ = some (.slice A m c) → (Value.slice A m c).ownBlock = some g → g < X) ∧
  (∀ gs j A m c g, Ac = some ⟨gs, 0, none⟩ → j < nc → w.cell? ⟨gs, j * 6 + 2, none⟩ = some (.slice A m c) → (Value.slice A m c).ownBlock = some g → X ≤ g)
theorem sc_at (l : List ScP) (j : Nat) (hj : j < l.length) : (l.flatMap scPC)[j]? = some (.slice (l.getD j scp0).A (l.getD j scp0).m (l.getD j scp0).c) := by
  induction l generalizing j with
  | nil => simp at hj
  | cons x l ih =>
    cases j with
    | zero => rfl
    | succ j => simpa [scPC] using ih j (by simpa using hj)
theorem ct_at2 (l : List CtP) (j : Nat) (hj : j < l.length) : (l.flatMap ctPC)[j * 6 + 2]? = some (.slice (l.getD j ctp0).A (l.getD j ctp0).m (l.getD j ctp0).c) := by
  induction l generalizing j with
  | nil => simp at hj
  | cons x l ih =>
    cases j with
    | zero => rfl
    | succ j =>
      have := ih j (by simpa using hj)
      rw [List.flatMap_cons, List.getElem?_append_right (by rw [ctPC_len]; omega), ctPC_len, show (j + 1) * 6 + 2 - 6 = j * 6 + 2 by omega]
      simpa using this
theorem sep_of {w : World} {base ns nc cs cc : Nat} {As Ac : Option Addr} {X : Nat} {ls : List ScP} {lc : List CtP} (h1 : w.ownsRow base 42 1 (.slice As ns cs) ns (ls.flatMap scPC)) (h2 : w.ownsRow base 46 6 (.slice Ac nc cc) nc (lc.flatMap ctPC)) (hs : SepL X ls lc lc.length) (hc : lc.length = nc) (hl : ls.length = ns) : SepT w As Ac ns nc := by
  refine ⟨X, fun gs i A m c g hA hi hcell hg => ?_, fun gs j A m c g hA hj hcell hg => ?_⟩
  · obtain ⟨g', cap, hv, _, _, _, ho⟩ := own_form h1 (by omega)
    injection hv with hv _ _
    rw [hA] at hv
    injection hv with hv; injection hv with hv
    subst hv
    have := ho.cellAt i (by omega)
    rw [hcell, sc_at ls i (by omega)] at this
    injection this with this
    injection this with e1 e2 e3
    subst e1 e2 e3
    exact hs.1 _ (getD_mem (by omega)) g hg
  · obtain ⟨g', cap, hv, _, _, _, ho⟩ := own_form h2 (by omega)
    injection hv with hv _ _
    rw [hA] at hv
    injection hv with hv; injection hv with hv
    subst hv
    have := ho.cellAt (j * 6 + 2) (by omega)
    rw [hcell, ct_at2 lc j (by omega)] at this
    injection this with this
    injection this with e1 e2 e3
    subst e1 e2 e3
    exact hs.2 j (by omega) g hg
/-- it hangs on the two rows' blocks alone -/
theorem SepT.kept {w w' : World} {As Ac : Option Addr} {ns nc : Nat} (h : SepT w As Ac ns nc) (h1 : ∀ gs i, As = some ⟨gs, 0, none⟩ → i < ns → w'.cell? ⟨gs, i, none⟩ = w.cell? ⟨gs, i, none⟩) (h2 : ∀ gs i, Ac = some ⟨gs, 0, none⟩ → i < nc → w'.cell? ⟨gs, i * 6 + 2, none⟩ = w.cell? ⟨gs, i * 6 + 2, none⟩) : SepT w' As Ac ns nc := by
  obtain ⟨X, a, b⟩ := h
  exact ⟨X, fun gs i A m c g hA hi hc hg => a gs i A m c g hA hi ((h1 gs i hA hi).symm.trans hc) hg, fun gs i A m c g hA hi hc hg => b gs i A m c g hA hi ((h2 gs i hA hi).symm.trans hc) hg⟩
def CloneS (sch : List (List Bd)) (cts : List Ct) (kds : List Kd) (ns nc nk : Nat) (lim rnd : Int) (w : World) (e : Ending) (w' : World) : Prop :=
  (∃ As cs Ac cc Ak ck, e = .returned (.agg #[.slice As ns cs, .slice Ac nc cc, .slice Ak nk ck, .int .i64 lim, .int .i64 rnd]) ∧ OwnT w' w.heap.size sch cts kds As Ac Ak ns cs nc cc nk ck ∧ SepT w' As Ac ns nc) ∧ Below w.heap.size w w'
set_option maxRecDepth 100000 in
set_option maxHeartbeats 12800000 in
theorem tclone_s (sch : List (List Bd)) (cts : List Ct) (kds : List Kd) (As Ac Ak : Option Addr) (ns cs nc cc nk ck : Nat) (lim rnd : Int) (w : World) (hs : ScSl w As ns sch) (hc : CtSl w Ac nc cts) (hk : KdSl w Ak nk kds) (hn : ns ≤ 100000 ∧ nc ≤ 100000 ∧ nk ≤ 100000) (hb : (∀ k, k < ns → (sch.getD k []).length ≤ 100000) ∧ (∀ k, k < nc → (cts.getD k ct0).bands.length ≤ 100000)) :
    Calls Tryz.prog 12 #[.agg #[.slice As ns cs, .slice Ac nc cc, .slice Ak nk ck, .int .i64 lim, .int .i64 rnd]] w (CloneS sch cts kds ns nc nk lim rnd w) := by
  obtain ⟨lcp, hlc, hrc, hbc⟩ := ct_rows hc
  obtain ⟨lsp, hls, hrs, hbs⟩ := sc_rows hs
  obtain ⟨hrk, hbk⟩ := kd_rows hk
  obtain ⟨n1, n2, n3⟩ := hn
  have KC : Hid (∀ W, Below w.heap.size w W → Calls Tryz.prog 32 #[.slice Ac nc cc] W (GivesV 46 6 nc (lcp.flatMap ctPC) W)) := fun W hW => clone_ct Ac nc cc _ W ((hrc.src ctPC_len).below hW) ct_one (by omega)
  have KK : Hid (∀ W, Below w.heap.size w W → Calls Tryz.prog 33 #[.slice Ak nk ck] W (GivesV 56 4 nk (kds.flatMap kdC) W)) := fun W hW => clone_kd Ak nk ck _ W ((hrk.src kdC_len).below hW) kd_one (by omega)
  have HBW := Lib.hid (bA (bA (below1 w (.cells #[.slice As ns cs, .slice Ac nc cc, .slice Ak nk ck, .int .i64 lim, .int .i64 rnd] 26)) (.cells #[.slice none 0 0, .slice none 0 0, .slice none 0 0, .int .i64 0, .int .i64 0] 26)) (.cells #[.slice As ns cs, .slice Ac nc cc, .slice Ak nk ck, .int .i64 lim, .int .i64 rnd] 26))
  have x1 := ((Blk.mk w 26 #[.slice As ns cs, .slice Ac nc cc, .slice Ak nk ck, .int .i64 lim, .int .i64 rnd]).alloc (.cells #[.slice none 0 0, .slice none 0 0, .slice none 0 0, .int .i64 0, .int .i64 0] 26)).alloc (.cells #[.slice As ns cs, .slice Ac nc cc, .slice Ak nk ck, .int .i64 lim, .int .i64 rnd] 26)
  have x2 := (Blk.mk (w.alloc (.cells #[.slice As ns cs, .slice Ac nc cc, .slice Ak nk ck, .int .i64 lim, .int .i64 rnd] 26)) 26 #[.slice none 0 0, .slice none 0 0, .slice none 0 0, .int .i64 0, .int .i64 0]).alloc (.cells #[.slice As ns cs, .slice Ac nc cc, .slice Ak nk ck, .int .i64 lim, .int .i64 rnd] 26)
  have x3 := Blk.mk ((w.alloc (.cells #[.slice As ns cs, .slice Ac nc cc, .slice Ak nk ck, .int .i64 lim, .int .i64 rnd] 26)).alloc (.cells #[.slice none 0 0, .slice none 0 0, .slice none 0 0, .int .i64 0, .int .i64 0] 26)) 26 #[.slice As ns cs, .slice Ac nc cc, .slice Ak nk ck, .int .i64 lim, .int .i64 rnd]
  rw [World.size_alloc] at x2
  rw [World.size_alloc, World.size_alloc] at x3
  have HX1 := Lib.hid x1
  have HX2 := Lib.hid x2
  have HX3 := Lib.hid x3
  clear x1 x2 x3 hs hc hk
  have HRC := Lib.hid hrc
  have HRS := Lib.hid hrs
  have HBC := Lib.hid hbc
  have HBS := Lib.hid hbs
  have HBK := Lib.hid hbk
  have HLC := Lib.hid hlc
  have HLS := Lib.hid hls
  have HBB := Lib.hid hb
  clear hrc hrs hrk hbc hbs hbk hlc hls hb
  go_enter Tryz.func12, Tryz.ntmps12
  go_upto_region 3 with fail
  go_cut [] (fun wx => ∃ (Ac0 Ak0 : Option Addr) (cc0 ck0 : Nat), Hid (CloneP w lcp kds As ns cs Ac Ak nc cc nk ck lim rnd none 0 Ac0 Ak0 cc0 ck0 0 wx))
  case first =>
    have hcur := bD (b0 (((w.alloc (.cells #[.slice As ns cs, .slice Ac nc cc, .slice Ak nk ck, .int .i64 lim, .int .i64 rnd] 26)).alloc (.cells #[.slice none 0 0, .slice none 0 0, .slice none 0 0, .int .i64 0, .int .i64 0] 26)).alloc (.cells #[.slice As ns cs, .slice Ac nc cc, .slice Ak nk ck, .int .i64 lim, .int .i64 rnd] 26))) 1
    obtain ⟨z0, z1, z2, z3, z4⟩ := (HX1.out.t hcur).a5g.1
    go_wp2_with fail
    go_region_with (first
      | (go_at_call 32; refine (KC.out _ (bT HBW.out hcur)).mono ?_; rintro e wa ⟨⟨va, rfl, hoa⟩, hba⟩; obtain ⟨Aa, ca, rfl⟩ := own_slice hoa; have HOA := Lib.hid (own_more hoa (Nat.le_trans HBW.out.size hcur.size)); have hcur := bT hcur hba; clear hoa; obtain ⟨z0, z1, z2, z3, z4⟩ := (HX1.out.t hcur).a5g.1; obtain ⟨⟨y0, y1, y2, y3, y4⟩, f0, f1, f2, f3, f4⟩ := (HX3.out.t hcur).a5g)
      | (go_at_call 33; refine (KK.out _ (bT HBW.out hcur)).mono ?_; rintro e wb ⟨⟨vb, rfl, hob⟩, hbb⟩; obtain ⟨Ab, cb, rfl⟩ := own_slice hob; have HOB := Lib.hid (own_more hob (Nat.le_trans HBW.out.size hcur.size)); have hcur := bT hcur hbb; clear hob; obtain ⟨z0, z1, z2, z3, z4⟩ := (HX1.out.t hcur).a5g.1; obtain ⟨⟨y0, y1, y2, y3, y4⟩, f0, f1, f2, f3, f4⟩ := (HX3.out.t hcur).a5g))
    all_goals
      trace "G"
      go_wp2_with fail
      go_meet
      have hwc := bT HBW.out hcur
      refine ⟨Aa, Ab, ca, cb, ⟨(HX1.out.t hcur).set3O (by omega) 0 1 2 _ _ _, (HX2.out.t hcur).set3O (by omega) 0 1 2 _ _ _, (((HX3.out.t hcur).setJ 0 _).setJ 1 _).setJ 2 _, ?_, ?_, bS3 hwc (by omega) 0 1 2 _ _ _⟩⟩
      · exact own_set3 (by first | exact own_below HOA.out hbb | exact HOA.out) (HX3.out.t hcur) (by decide) 0 1 2 _ _ _
      · exact own_set3 (by first | exact own_below HOB.out hba | exact HOB.out) (HX3.out.t hcur) (by decide) 0 1 2 _ _ _
  case rest =>
    obtain ⟨Ac0, Ak0, cc0, ck0, HP⟩ := hcut
    obtain ⟨z0, z1, z2, z3, z4⟩ := HP.out.p1.a5g.1
    go_wp2_with fail
    go_loopw [20] (fun ci wr => ∃ (k : Nat) (A1 : Option Addr) (c1 : Nat) (ls : List ScP), k ≤ ns ∧ ci = .int .i64 k ∧ Hid (ls.map ScP.x = sch.take k ∧ wr.ownsRow w.heap.size 42 1 (.slice A1 k c1) k (ls.flatMap scPC) ∧ ∀ p ∈ ls, OwnB wr w.heap.size (.slice p.A p.m p.c) p.m p.x) ∧ Hid (CloneP w lcp kds As ns cs Ac Ak nc cc nk ck lim rnd A1 c1 Ac0 Ak0 cc0 ck0 k wr)) (fun ci _ => ns - (intOf ci).toNat)
    case atStart => exact ⟨0, none, 0, [], Nat.zero_le _, rfl, ⟨by simp, World.ownsRow_nil _ _ _ _, fun p hp => by simp at hp⟩, HP.out⟩
    case round =>
      obtain ⟨k, A1, c1, ls, hk', rfl, HL1, HQ⟩ := hrel
      by_cases hk : k < ns
      case pos =>
        obtain ⟨b, off, rfl, hlt, hat⟩ := (RowSl.below HRS.out HQ.out.b).2.2 (by omega)
        have c0 := hat k hk 0 _ rfl
        have hsl := HRS.out.1
        have hbk := HBS.out _ (getD_mem (d := scp0) (show k < lsp.length by omega))
        have hll := HBB.out.1 k hk
        have hgx : (lsp.getD k scp0).x = sch.getD k [] := by
          rw [← HLS.out]
          simp [List.getD, List.getElem?_eq_getElem (show k < lsp.length by omega)]
        have hsn : sch.take (k + 1) = sch.take k ++ [sch.getD k []] := by
          have : k < sch.length := by rw [← HLS.out, List.length_map]; omega
          rw [List.take_add_one, List.getElem?_eq_getElem this]
          simp [List.getD, List.getElem?_eq_getElem this]
        rw [hgx] at hbk
        have HSN := Lib.hid hsn
        generalize sch.getD k [] = L at *
        generalize lsp.getD k scp0 = pp at *
        obtain ⟨px, pA, pm, pc⟩ := pp
        dsimp only at hbk hgx
        have hpm := hbk.1
        have KB : Hid (∀ W, Below w.heap.size w W → Calls Tryz.prog 34 #[.slice pA pm pc] W (GivesV 44 3 pm (L.flatMap bdC) W)) := fun W hW => clone_bd pA pm pc _ W ((band_src hbk).below hW) bd_one (by omega)
        have hc0 : wr.cell? ⟨b, off + k, none⟩ = some (.slice pA pm pc) := by rw [Nat.mul_one] at c0; exact c0
        obtain ⟨⟨y0, y1, y2, y3, y4⟩, f0, f1, f2, f3, f4⟩ := HQ.out.p3.a5g
        have HPM := Lib.hid hpm
        clear hat c0 hbk hgx hsn hpm hsl
        go_wp2_with fail
        go_region_law? (first
          | (go_simp; go_at_call 34; refine (KB.out _ (bD HQ.out.b 1)).mono ?_; rintro e wa ⟨⟨va, rfl, hoa⟩, hba⟩; obtain ⟨Aa, ca, rfl⟩ := own_slice hoa; have hcb := bT (bD (b0 wr) 1) hba; obtain ⟨A7, c7, w7, hr7, ⟨q0, q1⟩, HR1, HR2⟩ := clone_s1 HQ.out HL1.out.1 HL1.out.2.1 HL1.out.2.2 HSN.out hcb hoa HPM.out (by omega); have HR7 := Lib.hid hr7; have u0 := (HQ.out.p3.t hcb).cell 0; have ua := ((HQ.out.p3.t hcb).alloc (.cells #[.slice Aa pm ca] 42)).cell 0; clear hr7 hoa)
          | (refine step_of_run rfl _ _ 22 rfl _ _ (by simp [Act.eval]) (by simp [Act.eval]) _ w7 HR7.out ?_))
        all_goals
          trace "H"
          go_wp2_with fail
          go_roundw
          case rel => exact ⟨k + 1, A7, c7, _, by omega, by go_num, HR1, HR2⟩
          case measure => simp [intOf]; omega
      obtain rfl : ns = k := by omega
      have HLEN : Hid (sch.length = ns) := by unfold Hid; rw [← HLS.out, List.length_map]; exact HRS.out.1.symm
      have HL2 : Hid (ls.map ScP.x = sch) := by
        have := HL1.out.1
        have e : sch.length = ns := by
          rw [← HLS.out, List.length_map]; exact HRS.out.1.symm
        rwa [← e, List.take_length] at this
      obtain ⟨⟨y0, y1, y2, y3, y4⟩, f0, f1, f2, f3, f4⟩ := HQ.out.p3.a5g
      clear hk hk'
      go_wp2_with fail
      obtain ⟨X, hX⟩ : ∃ X, X = wr.heap.size := ⟨_, rfl⟩
      have HXE := Lib.hid hX
      have HSL : Hid (∀ p ∈ ls, ∀ g, (Value.slice p.A p.m p.c).ownBlock = some g → g < X) := fun p hp g hg => by
        have := ((HL1.out.2.2 p hp).2.lt g hg).2
        have := HXE.out
        omega
      clear hX
      go_loopw [35] (fun ci wr => ∃ (k : Nat) (lc : List CtP), Hid (SepL X ls lc k ∧ X ≤ wr.heap.size) ∧ k ≤ nc ∧ ci = .int .i64 k ∧ Hid (CloneP w lc kds As ns cs Ac Ak nc cc nk ck lim rnd A1 c1 Ac0 Ak0 cc0 ck0 ns wr) ∧ Hid (CloneC w lcp lc k nc wr) ∧ Hid (wr.ownsRow w.heap.size 42 1 (.slice A1 ns c1) ns (ls.flatMap scPC) ∧ ∀ p ∈ ls, OwnB wr w.heap.size (.slice p.A p.m p.c) p.m p.x)) (fun ci _ => nc - (intOf ci).toNat)
      case atStart => exact ⟨0, lcp, ⟨⟨HSL.out, fun j hj => absurd hj (by omega)⟩, by have := HXE.out; omega⟩, Nat.zero_le _, rfl, HQ.out, ⟨rfl, HRC.out.1.symm, fun j _ _ => rfl, fun j hj => absurd hj (by omega)⟩, HL1.out.2⟩
      case round =>
        obtain ⟨k, lc, HSP, hk', rfl, HQ2, HCC, HLL⟩ := hrel
        by_cases hk : k < nc
        case pos =>
          obtain ⟨g, cap, hvg, hg1, hg2, hg3, _⟩ := own_form HQ2.out.oc (by omega)
          injection hvg with e1 _ e2
          subst e1; subst e2
          have hll : lc.length = nc := HCC.out.len
          have hlcp : nc = lcp.length := HRC.out.1
          obtain ⟨A', c', he, _, hrs⟩ := own_sl ctPC 6 ctp0 ctPC_len HQ2.out.oc hll.symm (by decide)
          injection he with he1 _ he3
          subst he1; subst he3
          obtain ⟨b', off', hA, _, hat⟩ := hrs.2.2 (by omega)
          injection hA with hA
          injection hA with hA1 hA2 _
          subst hA1; subst hA2
          have q2 : wr.cell? ⟨g, k * 6 + 2, none⟩ = some (.slice (lc.getD k ctp0).A (lc.getD k ctp0).m (lc.getD k ctp0).c) := by
            have := hat k hk 2 _ rfl
            rwa [Nat.zero_add] at this
          have hold := HCC.out.old k (Nat.le_refl _) hk
          have hbk := (HBC.out _ (getD_mem (d := ctp0) (show k < lcp.length by omega))).1
          rw [← hold] at hbk
          have hbl := HBB.out.2 k hk
          have hcx : (cts.getD k ct0) = (lc.getD k ctp0).x := by
            rw [hold, ← HLC.out]
            simp [List.getD, List.getElem?_eq_getElem (show k < lcp.length by omega)]
          rw [hcx] at hbl
          have CS2 : Hid (∀ (wa : World) (Aa : Option Addr) (ca : Nat), Below wr.heap.size wr wa → wa.ownsRow wr.heap.size 44 3 (.slice Aa (lc.getD k ctp0).m ca) (lc.getD k ctp0).m ((lc.getD k ctp0).x.bands.flatMap bdC) → _) := fun wa Aa ca h1 h2 => clone_s2 HQ2.out HCC.out HLL.out.1 HLL.out.2 hk h1 h2 hbk.1
          have KB : Hid (∀ W, Below w.heap.size w W → Calls Tryz.prog 34 #[.slice (lc.getD k ctp0).A (lc.getD k ctp0).m (lc.getD k ctp0).c] W (GivesV 44 3 (lc.getD k ctp0).m ((lc.getD k ctp0).x.bands.flatMap bdC) W)) := fun W hW => clone_bd _ _ _ _ W ((band_src hbk).below hW) bd_one (by have := hbk.1; omega)
          have CS4 : Hid (∀ (wa W : World) (Aa : Option Addr) (ca : Nat), Below wr.heap.size wr wa → wa.ownsRow wr.heap.size 44 3 (.slice Aa (lc.getD k ctp0).m ca) (lc.getD k ctp0).m ((lc.getD k ctp0).x.bands.flatMap bdC) → wa.heap.size ≤ W.heap.size → SepL X ls (lc.set k ⟨(lc.getD k ctp0).x, Aa, (lc.getD k ctp0).m, ca⟩) (k + 1) ∧ X ≤ W.heap.size) := fun wa W Aa ca h1 h2 h3 => ⟨HSP.out.1.more (by rw [HCC.out.len]; exact hk) (fun g hg => by have := (h2.lt g hg).1; have := HSP.out.2; omega), by have := HSP.out.2; have := h1.size; omega⟩
          have y1 := HQ2.out.p3.cell 1
          clear hat hrs hbk hold hbl hcx hlcp hll
          have HNX : Hid (∀ Aa pm ca W, CloneC w lcp (lc.set k ⟨(lc.getD k ctp0).x, Aa, pm, ca⟩) (k + 1) nc W → CloneC w lcp (lc.set k ⟨(lc.getD k ctp0).x, Aa, pm, ca⟩) (k + 1) nc W) := fun _ _ _ _ h => h
          generalize lc.getD k ctp0 = pp at *
          obtain ⟨px, pA, pm, pc⟩ := pp
          dsimp only at CS2 CS4 KB q2
          have kk0 : (0 : Int) ≤ (k : Int) := by omega
          have kk1 : (k : Int) < (nc : Int) := by omega
          have kk2 : ((k : Int)).toNat = k := by omega
          go_wp2_with fail
          go_region_law (first
            | (go_simp; go_at_call 34; refine (KB.out _ (bD HQ2.out.b 1)).mono ?_; rintro e wa ⟨⟨va, rfl, hoa⟩, hba⟩; obtain ⟨Aa, ca, rfl⟩ := own_slice hoa; have hcb := bT (bD (b0 wr) 1) hba; obtain ⟨⟨q3, q4⟩, q5, HR1, HR2, HR3⟩ := CS2.out wa Aa ca hcb hoa; have HR4 := Lib.hid (CS4.out wa (wa.setCell ⟨g, k * 6 + 2, none⟩ (.slice Aa pm ca)) Aa ca hcb hoa (by simp)); clear hoa))
          all_goals
            trace "I"
            go_wp2_with fail
            go_roundw
            case rel => exact ⟨k + 1, _, HR4, by omega, by go_num, HR1, HR2, HR3⟩
            case measure => simp [intOf]; omega
        obtain rfl : nc = k := by omega
        obtain ⟨⟨y0, y1, y2, y3, y4⟩, _⟩ := HQ2.out.p3.a5g
        obtain ⟨⟨v0, v1, v2, v3, v4⟩, f0', f1', f2', f3', f4'⟩ := HQ2.out.p2.a5g
        have HF : Hid (OwnT (((((wr.setCell ⟨w.heap.size + 1, 0, none⟩ (.slice A1 ns c1)).setCell ⟨w.heap.size + 1, 1, none⟩ (.slice Ac0 nc cc0)).setCell ⟨w.heap.size + 1, 2, none⟩ (.slice Ak0 nk ck0)).setCell ⟨w.heap.size + 1, 3, none⟩ (.int .i64 lim)).setCell ⟨w.heap.size + 1, 4, none⟩ (.int .i64 rnd)) w.heap.size sch cts kds A1 Ac0 Ak0 ns c1 nc cc0 nk ck0) := by
          refine ⟨⟨ls, HL2.out, own_set5 HLL.out.1 HQ2.out.p2 (by decide) _ _ _ _ _, fun p hp => ?_⟩, ⟨lc, HCC.out.mp.trans HLC.out, own_set5 HQ2.out.oc HQ2.out.p2 (by decide) _ _ _ _ _, fun p hp => ?_⟩, own_set5 HQ2.out.ok HQ2.out.p2 (by decide) _ _ _ _ _, HBK.out⟩
          · have := HLL.out.2 p hp
            exact ⟨this.1, own_set5 this.2 HQ2.out.p2 (by decide) _ _ _ _ _⟩
          · obtain ⟨j, hj, rfl⟩ := List.getElem_of_mem hp
            have e : lc.getD j ctp0 = lc[j] := by simp [List.getD, List.getElem?_eq_getElem hj]
            have h1 := HCC.out.new j (by rw [← HCC.out.len]; exact hj)
            rw [e] at h1
            refine ⟨⟨h1.1, own_set5 h1.2 HQ2.out.p2 (by decide) _ _ _ _ _⟩, ?_⟩
            have hm : lc[j].x ∈ lcp.map CtP.x := by
              rw [← HCC.out.mp]
              exact List.mem_map.2 ⟨lc[j], hp, rfl⟩
            obtain ⟨q, hq, he⟩ := List.mem_map.1 hm
            rw [← he]
            exact (HBC.out q hq).2
        have HG : Hid (SepT (((((wr.setCell ⟨w.heap.size + 1, 0, none⟩ (.slice A1 ns c1)).setCell ⟨w.heap.size + 1, 1, none⟩ (.slice Ac0 nc cc0)).setCell ⟨w.heap.size + 1, 2, none⟩ (.slice Ak0 nk ck0)).setCell ⟨w.heap.size + 1, 3, none⟩ (.int .i64 lim)).setCell ⟨w.heap.size + 1, 4, none⟩ (.int .i64 rnd)) A1 Ac0 ns nc) := sep_of (own_set5 HLL.out.1 HQ2.out.p2 (by decide) _ _ _ _ _) (own_set5 HQ2.out.oc HQ2.out.p2 (by decide) _ _ _ _ _) (by rw [HCC.out.len]; exact HSP.out.1) HCC.out.len (by rw [← HL2.out, List.length_map] at HLEN; exact HLEN.out)
        go_wp2_with fail
        refine bodyPost_ret (v := .agg #[.slice A1 ns c1, .slice Ac0 nc cc0, .slice Ak0 nk ck0, .int .i64 lim, .int .i64 rnd]) (by simp [results, Tryz.results12, go_sem, v0, v1, v2, v3, v4]) rfl ⟨⟨A1, c1, Ac0, cc0, Ak0, ck0, rfl, HF.out, HG.out⟩, bS5s HQ2.out.b (Nat.le_succ _) _ _ _ _ _⟩
--%%
end Go.Proofs.YtcngmajkkhipoaaGreatDoor
