/-
  The walk of TableDiffs. Conditions as named.
-/
import Derived.Test.YtbliblhipecgfaaGreatDoorTDiffP
import Derived.Test.YtbliblhipecgfaaGreatDoorTSmall
import Derived.Test.YtbliblhipecgfaaGreatDoorTWrong
import Derived.Maps.RangeWalk
namespace Go.Proofs.YtbliblhipecgfaaGreatDoor
set_option linter.unusedVariables false
open Go.RowKit
open Go.WideMaps Go.Maps
theorem blk_map {w w' : World} {g : Nat} {t : TypeId} {cs : Array Value} (h : Blk w g t cs) {B n : Nat} {D : DataW Unit} (hm : MapIs w B n D) (hg : w.grownBy w' (some B)) : Blk w' g t cs := by
  refine h.grown hg (fun e => ?_)
  obtain ⟨es, clock, hb, _⟩ := hm
  have e' : g = B := by simpa using e
  subst e'
  rw [show w.heap[g]? = _ from h] at hb
  cases hb
theorem row_map {w w' : World} {base size n : Nat} {e : TypeId} {v : Value} {xs : List Value} (h : w.ownsRow base e size v n xs) {B m : Nat} {D : DataW Unit} (hm : MapIs w B m D) (hg : w.grownBy w' (some B)) : w'.ownsRow base e size v n xs := h.kept hg (Or.inr (fun e => own_map_ne h hm e.symm))
theorem map_look {w : World} {B n : Nat} {D : DataW Unit} (h : MapIs w B n D) {f : ByteArray → Int} (hr : Reads D f) {s : ByteArray} (hs : s.size ≤ maxLen) : (Instr.lookup 43 (.map (some B)) (.string s) false).run Tryz.prog w = .ok (.int .i64 (f s)) w := by
  obtain ⟨c, h1, h2, _⟩ := h.lookup_int mlaw Tryz.underlying43 Tryz.underlying3 (mzero w) (key_of hs)
  rw [hr.look h2] at h1
  exact h1
def LinesV (L : List ByteArray) (w : World) (e : Ending) (w' : World) : Prop := ∃ A c, (e = .returned (.slice A L.length c) ∧ OwnSt w' w.heap.size (.slice A L.length c) L.length L) ∧ Below w.heap.size w w'
theorem key_inv {key : Value} {kl : Lit} (h : keyOf Tryz.prog 9 key = some kl) : ∃ x, key = Value.string x := by
  cases key <;> simp [keyOf, Tryz.underlying9, mapKey] at h
  exact ⟨_, rfl⟩
theorem key_lit {s : ByteArray} {kl : Lit} (h : keyOf Tryz.prog 9 (.string s) = some kl) : kl = kOf s := by
  simp [keyOf, Tryz.underlying9, mapKey] at h
  exact h.2.symm
--%%
set_option maxRecDepth 100000 in
set_option maxHeartbeats 12800000 in
theorem tableDiffs_row (sch : List (List Bd)) (cts : List Ct) (kds : List Kd) (As Ac Ak : Option Addr) (ns cs nc cc nk ck : Nat) (lim rnd : Int) (sch2 : List (List Bd)) (cts2 : List Ct) (kds2 : List Kd) (Us Uc Uk : Option Addr) (us vs uc vc uk vk : Nat) (ul ur : Int) (w : World) (h : TbIn w sch cts kds As Ac Ak ns cs nc cc nk ck) (hu : TbIn w sch2 cts2 kds2 Us Uc Uk us vs uc vc uk vk) (htab : Tab w) (htab2 : TabS w) (hml : ML w) :
    Calls Tryz.prog 5 #[.agg #[.slice As ns cs, .slice Ac nc cc, .slice Ak nk ck, .int .i64 lim, .int .i64 rnd], .agg #[.slice Us us vs, .slice Uc uc vc, .slice Uk uk vk, .int .i64 ul, .int .i64 ur]] w fun e w' => e = .returned (.bool true) ∧ Below w.heap.size w w' := by
  obtain ⟨t, ht⟩ : ∃ t : Tb, t = ⟨sch, cts, kds, lim, rnd⟩ := ⟨_, rfl⟩
  obtain ⟨u, hu2⟩ : ∃ u : Tb, u = ⟨sch2, cts2, kds2, ul, ur⟩ := ⟨_, rfl⟩
  have hb0 := bA (below1 w (.cells #[.slice As ns cs, .slice Ac nc cc, .slice Ak nk ck, .int .i64 lim, .int .i64 rnd] 26)) (.cells #[.slice Us us vs, .slice Uc uc vc, .slice Uk uk vk, .int .i64 ul, .int .i64 ur] 26)
  have HB0 := Lib.hid hb0
  have z := (Blk.mk w 26 #[.slice As ns cs, .slice Ac nc cc, .slice Ak nk ck, .int .i64 lim, .int .i64 rnd]).alloc (.cells #[.slice Us us vs, .slice Uc uc vc, .slice Uk uk vk, .int .i64 ul, .int .i64 ur] 26)
  have y := Blk.mk (w.alloc (.cells #[.slice As ns cs, .slice Ac nc cc, .slice Ak nk ck, .int .i64 lim, .int .i64 rnd] 26)) 26 #[.slice Us us vs, .slice Uc uc vc, .slice Uk uk vk, .int .i64 ul, .int .i64 ur]
  rw [World.size_alloc] at y
  have HZ := Lib.hid z
  have HY := Lib.hid y
  have KB := Lib.hid (builds_c _ (hml.t hb0) (htab2.t hb0) (htab.t hb0))
  have hmm := @run_makeMap Tryz.prog
  have KS : Hid (∀ W, Below w.heap.size w W → Calls Tryz.prog 12 #[.agg #[.slice As ns cs, .slice Ac nc cc, .slice Ak nk ck, .int .i64 lim, .int .i64 rnd]] W (SmallR sch cts kds W)) := fun W hW => small_c sch cts kds As Ac Ak ns cs nc cc nk ck lim rnd W (h.s.below hW) (h.c.below hW) (h.k.below hW)
  have KS2 : Hid (∀ W, Below w.heap.size w W → Calls Tryz.prog 12 #[.agg #[.slice Us us vs, .slice Uc uc vc, .slice Uk uk vk, .int .i64 ul, .int .i64 ur]] W (SmallR sch2 cts2 kds2 W)) := fun W hW => small_c sch2 cts2 kds2 Us Uc Uk us vs uc vc uk vk ul ur W (hu.s.below hW) (hu.c.below hW) (hu.k.below hW)
  obtain ⟨r, hr⟩ : ∃ r, r = tbE t := ⟨_, rfl⟩
  obtain ⟨r2, hr2⟩ : ∃ r2, r2 = tbE u := ⟨_, rfl⟩
  have KW : Hid (∀ W, Below w.heap.size w W → Calls Tryz.prog 13 #[.agg #[.slice As ns cs, .slice Ac nc cc, .slice Ak nk ck, .int .i64 lim, .int .i64 rnd]] W fun e w' => e = .returned (.int .i64 r) ∧ Below W.heap.size W w') := fun W hW => wrong_c sch cts kds As Ac Ak ns cs nc cc nk ck lim rnd W (h.s.below hW) (h.c.below hW) (h.k.below hW) r (by unfold Hid; rw [hr, ht])
  have KW2 : Hid (∀ W, Below w.heap.size w W → Calls Tryz.prog 13 #[.agg #[.slice Us us vs, .slice Uc uc vc, .slice Uk uk vk, .int .i64 ul, .int .i64 ur]] W fun e w' => e = .returned (.int .i64 r2) ∧ Below W.heap.size W w') := fun W hW => wrong_c sch2 cts2 kds2 Us Uc Uk us vs uc vc uk vk ul ur W (hu.s.below hW) (hu.c.below hW) (hu.k.below hW) r2 (by unfold Hid; rw [hr2, hu2])
  have VT : ∀ W, Below w.heap.size w W → TbIn W t.sch t.cts t.kds As Ac Ak ns cs nc cc nk ck := fun W hW => by rw [ht]; exact ⟨h.s.below hW, h.c.below hW, h.k.below hW, h.cs, h.cc, h.ck⟩
  have VU : ∀ W, Below w.heap.size w W → TbIn W u.sch u.cts u.kds Us Uc Uk us vs uc vc uk vk := fun W hW => by rw [hu2]; exact ⟨hu.s.below hW, hu.c.below hW, hu.k.below hW, hu.cs, hu.cc, hu.ck⟩
  have elt : t.lim = lim ∧ t.rnd = rnd := by rw [ht]; exact ⟨rfl, rfl⟩
  have elu : u.lim = ul ∧ u.rnd = ur := by rw [hu2]; exact ⟨rfl, rfl⟩
  have KL : Hid (tbE t = 0 → ∀ W, Below w.heap.size w W → Calls Tryz.prog 15 #[.agg #[.slice As ns cs, .slice Ac nc cc, .slice Ak nk ck, .int .i64 lim, .int .i64 rnd]] W (LinesQ t W)) := fun he W hW => by
    have K := tlines_c t As Ac Ak ns cs nc cc nk ck W (VT W hW) (htab.t hW) (htab2.t hW)
    unfold tbV at K
    rw [elt.1, elt.2] at K
    refine K.mono ?_
    rintro e w' ⟨⟨_, v, rfl, hov⟩ | ⟨hne, _⟩, hb⟩
    · obtain ⟨A, c, rfl⟩ := own_slice hov.2
      exact ⟨A, c, ⟨rfl, hov⟩, hb⟩
    · exact absurd he hne
  have KL2 : Hid (tbE u = 0 → ∀ W, Below w.heap.size w W → Calls Tryz.prog 15 #[.agg #[.slice Us us vs, .slice Uc uc vc, .slice Uk uk vk, .int .i64 ul, .int .i64 ur]] W (LinesQ u W)) := fun he W hW => by
    have K := tlines_c u Us Uc Uk us vs uc vc uk vk W (VU W hW) (htab.t hW) (htab2.t hW)
    unfold tbV at K
    rw [elu.1, elu.2] at K
    refine K.mono ?_
    rintro e w' ⟨⟨_, v, rfl, hov⟩ | ⟨hne, _⟩, hb⟩
    · obtain ⟨A, c, rfl⟩ := own_slice hov.2
      exact ⟨A, c, ⟨rfl, hov⟩, hb⟩
    · exact absurd he hne
  have KD : Hid (tbE t = 0 → tbE u = 0 → ∀ W, Below w.heap.size w W → Calls Tryz.prog 19 #[.agg #[.slice As ns cs, .slice Ac nc cc, .slice Ak nk ck, .int .i64 lim, .int .i64 rnd], .agg #[.slice Us us vs, .slice Uc uc vc, .slice Uk uk vk, .int .i64 ul, .int .i64 ur]] W (DiffR (diffL t u) W)) := fun h1 h2 W hW => diff_c t u As Ac Ak Us Uc Uk ns cs nc cc nk ck us vs uc vc uk vk lim rnd ul ur W (VT W hW) (VU W hW) elt elu h1 h2 (htab.t hW) (htab2.t hW)
  have KD2 : Hid (tbE t = 0 → ∀ W, Below w.heap.size w W → Calls Tryz.prog 19 #[.agg #[.slice As ns cs, .slice Ac nc cc, .slice Ak nk ck, .int .i64 lim, .int .i64 rnd], .agg #[.slice As ns cs, .slice Ac nc cc, .slice Ak nk ck, .int .i64 lim, .int .i64 rnd]] W (DiffR [] W)) := fun h1 W hW => by
    have K := diff_c t t As Ac Ak As Ac Ak ns cs nc cc nk ck ns cs nc cc nk ck lim rnd lim rnd W (VT W hW) (VT W hW) elt elt h1 h1 (htab.t hW) (htab2.t hW)
    rwa [diff_self] at K
  have HR := Lib.hid hr
  have HR2 := Lib.hid hr2
  clear hb0 h hu htab htab2 hml hr hr2 ht hu2 VT VU elt elu z y
  go_enter Tryz.func5, Tryz.ntmps5
  go_wp2_with fail
  refine KB.out.mono ?_
  rintro e w1 ⟨⟨Bs, ds, Bc, dc, Bk, dk, rfl, _⟩, hb1⟩
  simp only [tbV]
  have HB1 := Lib.hid (bA (bT HB0.out hb1) (.cells #[.slice Bs 1 ds, .slice Bc 1 dc, .slice Bk 2 dk, .int .i64 5000, .int .i64 1] 26))
  have HZ1 := Lib.hid ((HZ.out.t hb1).alloc (.cells #[.slice Bs 1 ds, .slice Bc 1 dc, .slice Bk 2 dk, .int .i64 5000, .int .i64 1] 26))
  have HY1 := Lib.hid ((HY.out.t hb1).alloc (.cells #[.slice Bs 1 ds, .slice Bc 1 dc, .slice Bk 2 dk, .int .i64 5000, .int .i64 1] 26))
  obtain ⟨p0, p1, p2, p3, p4⟩ := HZ1.out.all5
  clear KB HZ HY hb1
  go_wp2_with fail
  refine (KS.out _ HB1.out).mono ?_
  rintro e w2 ⟨b, ⟨rfl, _⟩, hb2⟩
  have HB2 := Lib.hid (bT HB1.out hb2)
  have HZ2 := Lib.hid (HZ1.out.t hb2)
  have HY2 := Lib.hid (HY1.out.t hb2)
  clear hb2 p0 p1 p2 p3 p4 KS
  cases b
  · go_wp2_with fail
    go_ret
    exact ⟨rfl, HB2.out⟩
  obtain ⟨p0, p1, p2, p3, p4⟩ := HY2.out.all5
  go_wp2_with fail
  refine (KS2.out _ HB2.out).mono ?_
  rintro e w3 ⟨b, ⟨rfl, _⟩, hb3⟩
  have HB3 := Lib.hid (bT HB2.out hb3)
  have HZ3 := Lib.hid (HZ2.out.t hb3)
  have HY3 := Lib.hid (HY2.out.t hb3)
  clear hb3 p0 p1 p2 p3 p4 KS2
  cases b
  · go_wp2_with fail
    go_ret
    exact ⟨rfl, HB3.out⟩
  obtain ⟨p0, p1, p2, p3, p4⟩ := HZ3.out.all5
  go_wp2_with fail
  refine (KW.out _ HB3.out).mono ?_
  rintro e w4 ⟨rfl, hb4⟩
  have HB4 := Lib.hid (bT HB3.out hb4)
  have HZ4 := Lib.hid (HZ3.out.t hb4)
  have HY4 := Lib.hid (HY3.out.t hb4)
  clear hb4 p0 p1 p2 p3 p4 KW
  by_cases h0 : r = 0
  case neg =>
    have v0 : (r != 0) = true := by simpa using h0
    clear h0
    go_wp2_with fail
    go_ret
    exact ⟨rfl, HB4.out⟩
  subst h0
  have HE : Hid (tbE t = 0) := HR.out.symm
  clear HR
  obtain ⟨p0, p1, p2, p3, p4⟩ := HY4.out.all5
  go_wp2_with fail
  refine (KW2.out _ HB4.out).mono ?_
  rintro e w5 ⟨rfl, hb5⟩
  have HB5 := Lib.hid (bT HB4.out hb5)
  have HZ5 := Lib.hid (HZ4.out.t hb5)
  have HY5 := Lib.hid (HY4.out.t hb5)
  clear hb5 p0 p1 p2 p3 p4 KW2
  by_cases h0 : r2 = 0
  case neg =>
    have v0 : (r2 != 0) = true := by simpa using h0
    clear h0
    go_wp2_with fail
    go_ret
    exact ⟨rfl, HB5.out⟩
  subst h0
  have HE2 : Hid (tbE u = 0) := HR2.out.symm
  clear HR2
  have KL1 : Hid (∀ W, Below w.heap.size w W → Calls Tryz.prog 15 #[.agg #[.slice As ns cs, .slice Ac nc cc, .slice Ak nk ck, .int .i64 lim, .int .i64 rnd]] W (LinesV (tbL t) W)) := KL.out HE.out
  have KLB : Hid (∀ W, Below w.heap.size w W → Calls Tryz.prog 15 #[.agg #[.slice Us us vs, .slice Uc uc vc, .slice Uk uk vk, .int .i64 ul, .int .i64 ur]] W (LinesV (tbL u) W)) := KL2.out HE2.out
  have KDF := Lib.hid (KD.out HE.out HE2.out)
  have KDS := Lib.hid (KD2.out HE.out)
  have na := tb_few HE.out
  have nb := tb_few HE2.out
  have HSA := Lib.hid (tb_small HE.out)
  have HSB := Lib.hid (tb_small HE2.out)
  have HDO : Hid (DiffOK (tbL t) (tbL u) (diffL t u) (woL (tbL t) (tbL u)).length) := diff_ok (tbL t) (tbL u) na nb
  have HDS : Hid (∀ k, k < (diffL t u).length → ((diffL t u).getD k ch0).2.size ≤ 1000000) := diff_small HE.out HE2.out
  clear KL KL2 KD KD2
  have HB6 := Lib.hid (bA HB5.out (.map #[] 0))
  have HZ6 := Lib.hid (HZ5.out.alloc (.map #[] 0))
  have HY6 := Lib.hid (HY5.out.alloc (.map #[] 0))
  have HMP : Hid (MapIs (w5.alloc (.map #[] 0)) w5.heap.size 0 (.map [])) := World.ownsMap_made _ _ _ _
  have hlw := HB5.out.size
  obtain ⟨p0, p1, p2, p3, p4⟩ := HZ6.out.all5
  go_wp2_with fail
  refine (KL1.out _ HB6.out).mono ?_
  rintro e w7 ⟨AL, cL, ⟨rfl, ho7⟩, hb7⟩
  have HB7 := Lib.hid (bT HB6.out hb7)
  have HZ7 := Lib.hid (HZ6.out.t hb7)
  have HY7 := Lib.hid (HY6.out.t hb7)
  have HM7 := Lib.hid (MapIs.t HMP.out hb7)
  have HO7 := Lib.hid (show OwnSt w7 w.heap.size (.slice AL (tbL t).length cL) (tbL t).length (tbL t) from ⟨ho7.1, row_mono ho7.2 HB6.out.size⟩)
  clear hb7 ho7 p0 p1 p2 p3 p4 KL1 HMP
  generalize hLA : tbL t = LA at *
  generalize hLB : tbL u = LB at *
  generalize diffL t u = dd at *
  generalize (woL LA LB).length = pp at *
  clear hLA hLB
  go_wp2_with fail
  go_loopw [45] (fun i wr => ∃ (k : Nat) (D : DataW Unit), k ≤ LA.length ∧ i = .int .i64 k ∧ MapIs wr w5.heap.size k D ∧ Hid (Reads D (cntF LA k)) ∧ Hid (OwnSt wr w.heap.size (.slice AL LA.length cL) LA.length LA) ∧ Hid (Blk wr w.heap.size 26 #[.slice As ns cs, .slice Ac nc cc, .slice Ak nk ck, .int .i64 lim, .int .i64 rnd]) ∧ Hid (Blk wr (w.heap.size + 1) 26 #[.slice Us us vs, .slice Uc uc vc, .slice Uk uk vk, .int .i64 ul, .int .i64 ur]) ∧ Below w.heap.size w wr) (fun i _ => LA.length - (intOf i).toNat)
  case atStart => exact ⟨0, .map [], Nat.zero_le _, rfl, HM7.out, Reads.nil, HO7.out, HZ7.out, HY7.out, HB7.out⟩
  clear HM7 HO7 HZ7 HY7 HB7
  case round =>
    obtain ⟨k, D, hk', rfl, hown, HRD, HO, HZR, HYR, hbl⟩ := hrel
    by_cases hk : k < LA.length
    case pos =>
      obtain ⟨A9, c9, he9, hn9, hst⟩ := own_sl stC 1 st0 stC_len HO.out.2 HO.out.1 (by decide)
      injection he9 with y1 _ y2
      subst y1; subst y2
      obtain ⟨b, off, rfl, hlt, hat⟩ := hst.2.2 (by omega)
      have q := hat k hk 0 _ rfl
      have hz := HSA.out k hk
      have HST : Hid (cntF LA (k + 1) = updF (cntF LA k) (LA.getD k st0) (cntF LA k (LA.getD k st0) + 1)) := rfl
      have hbd := cntF_bd LA k (LA.getD k st0)
      generalize LA.getD k st0 = s at *
      simp only [Nat.mul_one, Nat.add_zero] at q
      have HKEY := Lib.hid (key_of (s := s) (by unfold maxLen; omega))
      have hlk := map_look hown HRD.out (s := s) (by unfold maxLen; omega)
      obtain ⟨cv, hcv⟩ : ∃ cv, cv = cntF LA k s := ⟨_, rfl⟩
      rw [← hcv] at hlk hbd
      have HCV := Lib.hid hcv
      clear hat hst hn9 hcv
      go_wp2_with (first
        | (at_mapUpdate; refine wpList_mapUpdate_own _ rfl _ _ _ 43 rfl 9 3 mlaw Tryz.underlying43 _ w5.heap.size k D rfl hown (by unfold maxLen; omega) _ _ _ rfl rfl HKEY.out _ [] (plainElem_int Tryz.underlying3 (WalkArith.wf_i64 (by omega))) ?_; intro w8 hown1 hgrow1)
        | fail)
      have HR2 : Hid (Reads (D.put (kOf s) (.lit (.int .i64 (cv + 1)))) (cntF LA (k + 1))) := by rw [HST.out, ← HCV.out]; exact HRD.out.put s _
      have HO2 : Hid (OwnSt w8 w.heap.size (.slice (some ⟨b, off, none⟩) LA.length cL) LA.length LA) := ⟨HO.out.1, row_map HO.out.2 hown hgrow1⟩
      have HZ2 := Lib.hid (blk_map HZR.out hown hgrow1)
      have HY2 := Lib.hid (blk_map HYR.out hown hgrow1)
      have HB2' := Lib.hid (below_map hbl hgrow1 hlw)
      go_roundw
      case rel => exact ⟨k + 1, _, by omega, by go_num, hown1, HR2.out, HO2.out, HZ2.out, HY2.out, HB2'.out⟩
      case measure => simp [intOf]; omega
    obtain rfl : LA.length = k := by omega
    have HOW := Lib.hid hown
    have HBX := Lib.hid hbl
    obtain ⟨p0, p1, p2, p3, p4⟩ := HZR.out.all5
    obtain ⟨q0, q1, q2, q3, q4⟩ := HYR.out.all5
    clear hk hk' HO hown hbl
    go_wp2_with fail
    refine (KDF.out _ HBX.out).mono ?_
    rintro e w9 ⟨AD, cD, ⟨rfl, hoD⟩, hb9⟩
    have HOD := Lib.hid (show OwnCh w9 w.heap.size (.slice AD dd.length cD) dd.length dd from ⟨hoD.1, row_mono hoD.2 HBX.out.size⟩)
    have HM9 := Lib.hid (MapIs.t HOW.out hb9)
    have HZ9 := Lib.hid (HZR.out.t hb9)
    have HY9 := Lib.hid (HYR.out.t hb9)
    have HB9 := Lib.hid (bT HBX.out hb9)
    have dlen := HDO.out.few
    clear hoD hb9 p0 p1 p2 p3 p4 q0 q1 q2 q3 q4 KDF HOW HZR HYR HBX
    go_wp2_with fail
    go_loopw [10, 58] (fun cm i wr => ∃ (k : Nat) (D : DataW Unit) (cb : Bool), k ≤ dd.length ∧ i = .int .i64 k ∧ cm = .bool cb ∧ Hid (cb = decide (pp < k)) ∧ MapIs wr w5.heap.size (LA.length + k) D ∧ Hid (Reads D (gF (cntF LA LA.length) dd k)) ∧ Hid (OwnCh wr w.heap.size (.slice AD dd.length cD) dd.length dd) ∧ Hid (Blk wr w.heap.size 26 #[.slice As ns cs, .slice Ac nc cc, .slice Ak nk ck, .int .i64 lim, .int .i64 rnd]) ∧ Hid (Blk wr (w.heap.size + 1) 26 #[.slice Us us vs, .slice Uc uc vc, .slice Uk uk vk, .int .i64 ul, .int .i64 ur]) ∧ Below w.heap.size w wr) (fun _ i _ => dd.length - (intOf i).toNat)
    case atStart => exact ⟨0, D, false, Nat.zero_le _, rfl, rfl, (by unfold Hid; simp), HM9.out, HRD.out, HOD.out, HZ9.out, HY9.out, HB9.out⟩
    clear HRD HM9 HOD HZ9 HY9 HB9
    case round =>
      obtain ⟨k, D, cb, hk', rfl, rfl, HCB, hown, HRD, HO, HZR, HYR, hbl⟩ := hrel
      by_cases hk : k < dd.length
      case pos =>
        obtain ⟨A9, c9, he9, hn9, hst⟩ := own_sl chC 2 ch0 chC_len HO.out.2 HO.out.1 (by decide)
        injection he9 with y1 _ y2
        subst y1; subst y2
        obtain ⟨b, off, rfl, hlt, hat⟩ := hst.2.2 (by omega)
        have q := hat k hk 0 _ rfl
        have q1 := hat k hk 1 _ rfl
        have hz := HDS.out k hk
        have HST : Hid (gF (cntF LA LA.length) dd (k + 1) = updF (gF (cntF LA LA.length) dd k) (dd.getD k ch0).2 (if (dd.getD k ch0).1 = true then gF (cntF LA LA.length) dd k (dd.getD k ch0).2 + 1 else gF (cntF LA LA.length) dd k (dd.getD k ch0).2 - 1)) := rfl
        have hbd := HDO.out.bd k hk' (dd.getD k ch0).2
        have hold := HDO.out.old k
        have hnew := fun h => HDO.out.new k h hk
        generalize dd.getD k ch0 = x at *
        obtain ⟨isNew, s⟩ := x
        dsimp only at q q1 hz HST hbd hold hnew
        simp only [Nat.add_zero] at q
        have HKEY := Lib.hid (key_of (s := s) (by unfold maxLen; omega))
        have hown0 := hown.alloc (.cells #[.bool isNew, .string s] 47)
        have hlk := map_look hown0 HRD.out (s := s) (by unfold maxLen; omega)
        obtain ⟨cv, hcv⟩ : ∃ cv, cv = gF (cntF LA LA.length) dd k s := ⟨_, rfl⟩
        rw [← hcv] at hlk hbd hold HST
        have HCV := Lib.hid hcv
        have HO0 := Lib.hid (HO.out.2.alloc (.cells #[.bool isNew, .string s] 47))
        have HO1 := Lib.hid HO.out.1
        have HZ0 := Lib.hid (HZR.out.alloc (.cells #[.bool isNew, .string s] 47))
        have HY0 := Lib.hid (HYR.out.alloc (.cells #[.bool isNew, .string s] 47))
        have HB0' := Lib.hid (bA hbl (.cells #[.bool isNew, .string s] 47))
        clear hat hst hn9 hcv
        cases isNew
        case true =>
          have hpk : pp ≤ k := Nat.le_of_not_lt fun h => by have := (hold h).1; cases this
          have HST2 : Hid (gF (cntF LA LA.length) dd (k + 1) = updF (gF (cntF LA LA.length) dd k) s (cv + 1)) := HST.out
          have HCB2 : Hid (true = decide (pp < k + 1)) := by unfold Hid; simp; omega
          clear hold hnew HST
          go_wp2_with (first
            | (at_mapUpdate; refine wpList_mapUpdate_own _ rfl _ _ _ 43 rfl 9 3 mlaw Tryz.underlying43 _ w5.heap.size (LA.length + k) D rfl hown0 (by unfold maxLen; omega) _ _ _ rfl rfl HKEY.out _ [] (plainElem_int Tryz.underlying3 (WalkArith.wf_i64 (by omega))) ?_; intro w8 hown1 hgrow1)
            | fail)
          have HR2 : Hid (Reads (D.put (kOf s) (.lit (.int .i64 (cv + 1)))) (gF (cntF LA LA.length) dd (k + 1))) := by rw [HST2.out]; exact HRD.out.put s _
          have HO2 : Hid (OwnCh w8 w.heap.size (.slice (some ⟨b, off, none⟩) dd.length cD) dd.length dd) := ⟨HO1.out, row_map HO0.out hown0 hgrow1⟩
          have HZ2 := Lib.hid (blk_map HZ0.out hown0 hgrow1)
          have HY2 := Lib.hid (blk_map HY0.out hown0 hgrow1)
          have HB2' := Lib.hid (below_map HB0'.out hgrow1 hlw)
          go_roundw
          case rel => exact ⟨k + 1, _, true, by omega, by go_num, rfl, HCB2.out, hown1, HR2.out, HO2.out, HZ2.out, HY2.out, HB2'.out⟩
          case measure => simp [intOf]; omega
        case false =>
          have hpk : k < pp := Nat.lt_of_not_le fun h => by have := hnew h; cases this
          have hpos := (hold hpk).2
          obtain rfl : cb = false := HCB.out.trans (by simp; omega)
          have v0 : (cv == 0) = false := by simp; omega
          have HST2 : Hid (gF (cntF LA LA.length) dd (k + 1) = updF (gF (cntF LA LA.length) dd k) s (cv - 1)) := HST.out
          have HCB2 : Hid (false = decide (pp < k + 1)) := by unfold Hid; simp; omega
          clear hold hnew HST
          go_wp2_with (first
            | (at_mapUpdate; refine wpList_mapUpdate_own _ rfl _ _ _ 43 rfl 9 3 mlaw Tryz.underlying43 _ w5.heap.size (LA.length + k) D rfl hown0 (by unfold maxLen; omega) _ _ _ rfl rfl HKEY.out _ [] (plainElem_int Tryz.underlying3 (WalkArith.wf_i64 (by omega))) ?_; intro w8 hown1 hgrow1)
            | fail)
          have HR2 : Hid (Reads (D.put (kOf s) (.lit (.int .i64 (cv - 1)))) (gF (cntF LA LA.length) dd (k + 1))) := by rw [HST2.out]; exact HRD.out.put s _
          have HO2 : Hid (OwnCh w8 w.heap.size (.slice (some ⟨b, off, none⟩) dd.length cD) dd.length dd) := ⟨HO1.out, row_map HO0.out hown0 hgrow1⟩
          have HZ2 := Lib.hid (blk_map HZ0.out hown0 hgrow1)
          have HY2 := Lib.hid (blk_map HY0.out hown0 hgrow1)
          have HB2' := Lib.hid (below_map HB0'.out hgrow1 hlw)
          go_roundw
          case rel => exact ⟨k + 1, _, false, by omega, by go_num, rfl, HCB2.out, hown1, HR2.out, HO2.out, HZ2.out, HY2.out, HB2'.out⟩
          case measure => simp [intOf]; omega
      obtain rfl : dd.length = k := by omega
      have HOW := Lib.hid hown
      have HBX := Lib.hid hbl
      have HGE : Hid (∀ s, gF (cntF LA LA.length) dd dd.length s = occ s LB) := HDO.out.fin
      generalize gF (cntF LA LA.length) dd dd.length = ge at *
      obtain ⟨q0, q1, q2, q3, q4⟩ := HYR.out.all5
      clear hk hk' HO hown hbl
      go_wp2_with fail
      refine (KLB.out _ HBX.out).mono ?_
      rintro e wa ⟨AB, cB, ⟨rfl, hoB⟩, hba⟩
      have HOB := Lib.hid (show OwnSt wa w.heap.size (.slice AB LB.length cB) LB.length LB from ⟨hoB.1, row_mono hoB.2 HBX.out.size⟩)
      have HMa := Lib.hid (MapIs.t HOW.out hba)
      have HZa := Lib.hid (HZR.out.t hba)
      have HBa := Lib.hid (bT HBX.out hba)
      clear hoB hba q0 q1 q2 q3 q4 KLB HOW HZR HYR HBX
      go_wp2_with fail
      go_loopw [86] (fun i wr => ∃ (k : Nat) (D : DataW Unit), k ≤ LB.length ∧ i = .int .i64 k ∧ MapIs wr w5.heap.size (LA.length + dd.length + k) D ∧ Hid (Reads D (offF ge LB k)) ∧ Hid (OwnSt wr w.heap.size (.slice AB LB.length cB) LB.length LB) ∧ Hid (Blk wr w.heap.size 26 #[.slice As ns cs, .slice Ac nc cc, .slice Ak nk ck, .int .i64 lim, .int .i64 rnd]) ∧ Below w.heap.size w wr) (fun i _ => LB.length - (intOf i).toNat)
      case atStart => exact ⟨0, D, Nat.zero_le _, rfl, HMa.out, HRD.out, HOB.out, HZa.out, HBa.out⟩
      clear HMa HRD HOB HZa HBa
      case round =>
        obtain ⟨k, D, hk', rfl, hown, HRD, HO, HZR, hbl⟩ := hrel
        by_cases hk : k < LB.length
        case pos =>
          obtain ⟨A9, c9, he9, hn9, hst⟩ := own_sl stC 1 st0 stC_len HO.out.2 HO.out.1 (by decide)
          injection he9 with y1 _ y2
          subst y1; subst y2
          obtain ⟨b, off, rfl, hlt, hat⟩ := hst.2.2 (by omega)
          have q := hat k hk 0 _ rfl
          have hz := HSB.out k hk
          have HST : Hid (offF ge LB (k + 1) = updF (offF ge LB k) (LB.getD k st0) (offF ge LB k (LB.getD k st0) - 1)) := rfl
          have hbd : -200 ≤ offF ge LB k (LB.getD k st0) ∧ offF ge LB k (LB.getD k st0) ≤ 200 := by
            rw [offF_occ ge LB k hk', HGE.out]
            have a1 := occ_bd (LB.getD k st0) LB
            have a2 := occ_bd (LB.getD k st0) (LB.take k)
            rw [List.length_take] at a2
            omega
          generalize LB.getD k st0 = s at *
          simp only [Nat.mul_one, Nat.add_zero] at q
          have HKEY := Lib.hid (key_of (s := s) (by unfold maxLen; omega))
          have hlk := map_look hown HRD.out (s := s) (by unfold maxLen; omega)
          obtain ⟨cv, hcv⟩ : ∃ cv, cv = offF ge LB k s := ⟨_, rfl⟩
          rw [← hcv] at hlk hbd
          have HCV := Lib.hid hcv
          clear hat hst hn9 hcv
          go_wp2_with (first
            | (at_mapUpdate; refine wpList_mapUpdate_own _ rfl _ _ _ 43 rfl 9 3 mlaw Tryz.underlying43 _ w5.heap.size (LA.length + dd.length + k) D rfl hown (by unfold maxLen; omega) _ _ _ rfl rfl HKEY.out _ [] (plainElem_int Tryz.underlying3 (WalkArith.wf_i64 (by omega))) ?_; intro w8 hown1 hgrow1)
            | fail)
          have HR2 : Hid (Reads (D.put (kOf s) (.lit (.int .i64 (cv - 1)))) (offF ge LB (k + 1))) := by rw [HST.out, ← HCV.out]; exact HRD.out.put s _
          have HO2 : Hid (OwnSt w8 w.heap.size (.slice (some ⟨b, off, none⟩) LB.length cB) LB.length LB) := ⟨HO.out.1, row_map HO.out.2 hown hgrow1⟩
          have HZ2 := Lib.hid (blk_map HZR.out hown hgrow1)
          have HB2' := Lib.hid (below_map hbl hgrow1 hlw)
          go_roundw
          case rel => exact ⟨k + 1, _, by omega, by go_num, hown1, HR2.out, HO2.out, HZ2.out, HB2'.out⟩
          case measure => simp [intOf]; omega
        obtain rfl : LB.length = k := by omega
        have HZERO : Hid (∀ s : ByteArray, ∀ v : Int, D.atKey (kOf s) (.lit (.int .i64 0)) = .lit (.int .i64 v) → v = 0) := fun s v h => by
          have := HRD.out.look h
          rw [this, offF_occ ge LB LB.length (Nat.le_refl _), HGE.out, List.take_length]
          omega
        obtain ⟨wo, hwo⟩ : ∃ wo : World, wo = wr := ⟨_, rfl⟩
        subst hwo
        have hszo := hbl.size
        have hlto := hown.lt
        have hlt1 := HZR.out.lt
        clear hk hk' HO HRD
        go_wp2_with (first
          | (at_range; refine wpList_range_own _ rfl _ 43 rfl 9 3 mlaw Tryz.underlying43 _ w5.heap.size _ _ rfl hown ?_; intro w0 hrg0 hg0 hs0)
          | fail)
        go_frame
        go_loopw [16] (fun _ wx => ∃ (left : Lit → Bool) (cnt : Nat), wx.ranges Tryz.prog 9 (plainElem Tryz.prog 3) w5.heap.size wo.heap.size (LA.length + dd.length + LB.length) D left cnt ∧ Hid (Blk wx w.heap.size 26 #[.slice As ns cs, .slice Ac nc cc, .slice Ak nk ck, .int .i64 lim, .int .i64 rnd]) ∧ Below w.heap.size w wx) (fun _ wx => wx.rangeLeft w5.heap.size wo.heap.size)
        case atStart => exact ⟨_, _, hrg0, HZR.out.grown hg0 (by simp), hbl.grown hg0 hszo (fun j hj => by cases hj)⟩
        case round =>
          obtain ⟨left, cnt, hrg, HZX, hblx⟩ := hrel
          go_wp2_with (first
            | (at_next; refine wpList_next_ranges _ rfl _ rfl 9 mlaw (plainElem Tryz.prog 3) Value.string (Value.int .i64) (fun key kl h => key_inv h) (fun v y hv => by obtain ⟨c, rfl, _⟩ := plainElem_int_inv Tryz.underlying3 hv; exact ⟨c, rfl⟩) w5.heap.size wo.heap.size (LA.length + dd.length + LB.length) D left cnt rfl hrg ?_ ?_)
            | fail)
          · intro hc0 hl0
            obtain ⟨p0, p1, p2, p3, p4⟩ := HZX.out.all5
            have HBX := Lib.hid hblx
            clear hrg hc0 hl0 hblx
            go_wp2_with fail
            refine (KDS.out _ HBX.out).mono ?_
            rintro e wz ⟨AZ, cZ, ⟨rfl, _⟩, hbz⟩
            have HBZ := Lib.hid (bT HBX.out hbz)
            clear hbz
            go_wp2_with fail
            go_ret
            exact ⟨rfl, HBZ.out⟩
          · intro x c kl yd yp w1x cnt1 hkey hlk hv hat hrg1 hlt hg1 hs1 hen
            obtain rfl := key_lit hkey
            obtain ⟨c', ec, ez, _⟩ := plainElem_int_inv Tryz.underlying3 hv
            injection ec with _ ec
            subst ec
            injection ez with e1 e2
            subst e1
            obtain rfl : c = 0 := HZERO.out x c (hat _)
            have HZ2 := Lib.hid (HZX.out.grown hg1 (by simp; omega))
            have HB2' := Lib.hid (hblx.grown hg1 hblx.size (fun j hj => by cases hj; exact hszo))
            clear hkey hlk hv hat
            go_wp2_with fail
            go_roundw
            case rel => exact ⟨_, cnt1, hrg1, HZ2.out, HB2'.out⟩
            case measure => rw [hrg1.left_eq, hrg.left_eq]; exact hlt
--%%
end Go.Proofs.YtbliblhipecgfaaGreatDoor
