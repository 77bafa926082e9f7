/-
 Contracts of band.Top, keep.tax, keep.Worst, keep.Check, keep.Components. Conditions as named.
-/
import Derived.Test.YtiaabmhjkoohmaaGreatM2
import Derived.Deep.RegionHeld3
import Derived.Deep.QuietTactic
import Derived.BigQuiet
import Derived.IntWalk
import Derived.Lib.MinMax
import Derived.Deep.RegionLaw
namespace Go.Proofs.YtiaabmhjkoohmaaGreat
set_option maxRecDepth 100000
set_option maxHeartbeats 25600000
set_option linter.unusedVariables false
set_option linter.unusedSimpArgs false
open Go.RowKit Tryz
open Lib (hid)
theorem btop_c (l : List Bd) (A : Option Addr) (n c : Nat) (w : World) (h : Blz w A n l) (r : Int) (hr : Hid (r = maxTo 0 l n)) :
  Calls prog 140 #[.slice A n c] w fun e w' => e = .returned (.int .i64 r) ∧ Below w.heap.size w w' := by
 have HL := hid h
 have hn9 := h.2.1
 clear h
 go_enter func140, ntmps140
 go_wp2_with fail
 go_loopw [3, 8] (fun v i wr => ∃ (k : Nat) (m : Int), k ≤ n ∧ i = .int .i64 k ∧ v = .int .i64 m ∧ Hid (m = maxTo 0 l k) ∧ Below w.heap.size w wr) (fun _ i _ => n - (intOf i).toNat)
 case atStart => exact ⟨0, 0, Nat.zero_le _, rfl, rfl, rfl, b0 _⟩
 case round =>
  obtain ⟨k, m, hk', rfl, rfl, hm, hbl⟩ := hrel
  by_cases hk : k < n
  case neg =>
   obtain rfl : n = k := by omega
   have HE : Hid (r = m) := hr.out.trans hm.out.symm
   go_wp2_with fail
   go_ret
   exact ⟨by rw [HE.out] <;> rfl, hbl⟩
  obtain ⟨b, off, rfl, hlt, hat⟩ := (HL.out.below hbl).2.2 (by omega)
  have hn2 : Hid (n = l.length) := HL.out.1
  obtain ⟨c0, c1, c2⟩ := hat k (by have := hn2.out; omega)
  have HN : Hid (max m (l.getD k bd0).r = maxTo 0 l (k + 1)) := by unfold Hid; rw [maxTo, ← hm.out]
  clear hat hm hn2
  generalize (l.getD k bd0).f = xf at *
  generalize (l.getD k bd0).r = xr at *
  generalize (l.getD k bd0).e = xe at *
  have HB := hid (bA hbl (.cells #[.int .i64 xf, .int .i64 xr, .int .i64 xe] 145))
  go_wp2_with fail
  go_roundw
  case rel => exact ⟨k + 1, _, by omega, by go_num, rfl, HN, HB.out⟩
  case measure => simp [intOf]; omega
def KtaxR (r : Int) (w : World) (e : Ending) (w' : World) : Prop := (∃ s a : Int, e = .returned (.tuple #[.int .i64 r, .int .i64 s, .int .i64 a])) ∧ Below w.heap.size w w'
theorem ktax_c (sch : List (List Bd)) (As Ac Ak : Option Addr) (ns cs nc cc nk ck : Nat) (lim rnd : Int) (w : World) (hs : ScSl w As ns sch) (r : Int) (hr : Hid (r = maxS lim sch ns)) :
  Calls prog 139 #[.agg #[.slice As ns cs, .slice Ac nc cc, .slice Ak nk ck, .int .i64 lim, .int .i64 rnd]] w (KtaxR r w) := by
 have HS := hid hs
 have hn9 := hs.2.1
 have hb0 := bz1 w (.cells #[.slice As ns cs, .slice Ac nc cc, .slice Ak nk ck, .int .i64 lim, .int .i64 rnd] 26)
 obtain ⟨z0, z1, z2, z3, z4⟩ := (Blk.mk w 26 #[.slice As ns cs, .slice Ac nc cc, .slice Ak nk ck, .int .i64 lim, .int .i64 rnd]).all5
 clear hs
 go_enter func139, ntmps139
 go_wp2_with fail
 clear z0 z1 z2 z3 z4
 go_loopw [5, 6, 7, 17, 24, 11, 8, 9, 10] (fun v x y i _ _ _ _ _ wr => ∃ (k : Nat) (m s a : Int), k ≤ ns ∧ i = .int .i64 k ∧ v = .int .i64 m ∧ x = .int .i64 s ∧ y = .int .i64 a ∧ Hid (m = maxS lim sch k) ∧ Below w.heap.size w wr) (fun _ _ _ i _ _ _ _ _ _ => ns - (intOf i).toNat)
 case atStart => exact ⟨0, lim, -1, -1, Nat.zero_le _, rfl, rfl, rfl, rfl, rfl, hb0⟩
 case round =>
  obtain ⟨k, m, s, a, hk', rfl, rfl, rfl, rfl, hm, hbl⟩ := hrel
  obtain ⟨wo, rfl⟩ : ∃ wo : World, wo = wr := ⟨_, rfl⟩
  by_cases hk : k < ns
  case neg =>
   obtain rfl : ns = k := by omega
   have HE : Hid (r = m) := hr.out.trans hm.out.symm
   clear hk hk'
   go_wp2_with fail
   go_ret3
   exact ⟨⟨s, a, by rw [HE.out] <;> rfl⟩, hbl⟩
  obtain ⟨b, off, rfl, hlt, hat⟩ := (HS.out.below hbl).2.2 (by omega)
  obtain ⟨A1, m1, c1, hc1, hl1⟩ := hat k hk
  have HLL := hid hl1
  have hm2 := hl1.2.1
  rw [Nat.mul_one] at hc1
  have HN : Hid (maxTo m (sch.getD k []) (sch.getD k []).length = maxS lim sch (k + 1)) := by unfold Hid; rw [maxS, ← hm.out]
  clear hat hl1 hm
  generalize sch.getD k [] = x at *
  go_wp2_with fail
  go_loopw [5, 6, 7, 24] (fun v x' y i wr => ∃ (j : Nat) (mj s a : Int), j ≤ m1 ∧ i = .int .i64 j ∧ v = .int .i64 mj ∧ x' = .int .i64 s ∧ y = .int .i64 a ∧ Hid (mj = maxTo m x j) ∧ Below wo.heap.size wo wr) (fun _ _ _ i _ => m1 - (intOf i).toNat)
  case atStart => exact ⟨0, m, s, a, Nat.zero_le _, rfl, rfl, rfl, rfl, rfl, b0 _⟩
  case round =>
   obtain ⟨j, mj, s', a', hj', rfl, rfl, rfl, rfl, hmj, hbj⟩ := hrel
   by_cases hj : j < m1
   case neg =>
    obtain rfl : m1 = j := by omega
    have HE : Hid (mj = maxS lim sch (k + 1)) := by unfold Hid; rw [← HN.out, hmj.out, ← HLL.out.1]
    clear hj hj'
    go_wp2_with fail
    go_roundw
    case rel => exact ⟨k + 1, mj, s', a', by omega, by go_num, rfl, rfl, rfl, HE, bT hbl hbj⟩
    case measure => simp [intOf]; omega
   have hlb := hid (HLL.out.below hbj)
   obtain ⟨b', off', rfl, hlt', hat'⟩ := hlb.out.2.2 (by omega)
   have hn2 : Hid (m1 = x.length) := HLL.out.1
   obtain ⟨d0, d1, d2⟩ := hat' j (by have := hn2.out; omega)
   have HNX : Hid (max mj (x.getD j bd0).r = maxTo m x (j + 1)) := by unfold Hid; rw [maxTo, ← hmj.out]
   clear hat' hn2 hlb hmj
   generalize (x.getD j bd0).f = xf at *
   generalize (x.getD j bd0).r = xr at *
   generalize (x.getD j bd0).e = xe at *
   have HB := hid (bA hbj (.cells #[.int .i64 xf, .int .i64 xr, .int .i64 xe] 145))
   by_cases hgt : mj < xr
   ·
    have HM : Hid (xr = maxTo m x (j + 1)) := by unfold Hid; rw [← HNX.out]; omega
    go_wp2_with fail
    go_roundw
    case rel => exact ⟨j + 1, xr, _, _, by omega, by go_num, rfl, rfl, rfl, HM, HB.out⟩
    case measure => simp [intOf]; omega
   ·
    have HM : Hid (mj = maxTo m x (j + 1)) := by unfold Hid; rw [← HNX.out]; omega
    go_wp2_with fail
    go_roundw
    case rel => exact ⟨j + 1, mj, s', a', by omega, by go_num, rfl, rfl, rfl, HM, HB.out⟩
    case measure => simp [intOf]; omega
theorem info_intK : (prog.info? 3).map (fun i => (i.zero, i.size, i.bytes)) = some (some (.int .i64 0), 1, 8) := by kernel_rfl
def KwR (t : Tb) (w : World) (e : Ending) (w' : World) : Prop :=
  ((tbE t = 0 ∧ ∃ (s a : Int) (V : Option Addr) (n c : Nat), e = .returned (.tuple #[.agg #[.int .i64 s, .int .i64 a, .slice V n c, .int .i64 (keptI t)], .int .i64 0])) ∨
   (tbE t ≠ 0 ∧ e = .returned (.tuple #[.agg #[.int .i64 0, .int .i64 0, .slice none 0 0, .int .i64 0], .int .i64 (tbE t)]))) ∧ Below w.heap.size w w'
theorem kworst_c (t : Tb) (As Ac Ak : Option Addr) (ns cs nc cc nk ck : Nat) (lim rnd : Int) (w : World) (hs : ScSl w As ns t.sch) (hc : CtSl w Ac nc t.cts) (hcc : nc ≤ cc) (hk : KdSl w Ak nk t.kds) (hck : nk ≤ ck) (hl : lim = t.lim) (hr : rnd = t.rnd) :
  Calls prog 95 #[.agg #[.slice As ns cs, .slice Ac nc cc, .slice Ak nk ck, .int .i64 lim, .int .i64 rnd]] w (KwR t w) := by
 have hb0 := bA (bz1 w (.cells #[.slice As ns cs, .slice Ac nc cc, .slice Ak nk ck, .int .i64 lim, .int .i64 rnd] 26)) (.cells #[.int .i64 0, .int .i64 0, .slice none 0 0, .int .i64 0] 189)
 have z1 := (Blk.mk w 26 #[.slice As ns cs, .slice Ac nc cc, .slice Ak nk ck, .int .i64 lim, .int .i64 rnd]).alloc (.cells #[.int .i64 0, .int .i64 0, .slice none 0 0, .int .i64 0] 189)
 have z2 := Blk.mk (w.alloc (.cells #[.slice As ns cs, .slice Ac nc cc, .slice Ak nk ck, .int .i64 lim, .int .i64 rnd] 26)) 189 #[.int .i64 0, .int .i64 0, .slice none 0 0, .int .i64 0]
 rw [World.size_alloc] at z2
 obtain ⟨r, hr0⟩ : ∃ r, r = tbE t := ⟨_, rfl⟩
 have KC := hid (xcheck_c t.sch t.cts t.kds As Ac Ak ns cs nc cc nk ck lim rnd _ (hs.below hb0) (hc.below hb0) hcc (hk.below hb0) hck r (by unfold Hid; rw [hr0, hl, hr]))
 obtain ⟨p0, p1, p2, p3, p4⟩ := z1.all5
 have HR0 := hid hr0
 have HZ1 := hid z1
 have HZ2 := hid z2
 have HB0 := hid hb0
 by_cases h0 : r = 0
 case neg =>
  have tr : (r != 0) = true := by simpa using h0
  have HNE : Hid (tbE t ≠ 0) := by unfold Hid; rw [← HR0.out]; exact h0
  clear hr0 h0 z1 z2 hs hc hk hl hr
  go_enter func95, ntmps95
  go_wp2_with fail
  refine KC.out.mono ?_
  rintro e w1 ⟨rfl, hb1⟩
  have z3 := HZ2.out.t hb1
  have c0 := z3.cell 0
  have c1 := z3.cell 1
  have c2 := z3.cell 2
  have c3 := z3.cell 3
  have qz := z3
  have f0 := qz.free 0
  have f1 := qz.free 1
  have f2 := qz.free 2
  have f3 := qz.free 3
  clear qz
  have HB1 := hid (bT HB0.out hb1)
  clear p0 p1 p2 p3 p4 z3 hb1
  go_wp2_with fail
  refine bodyPost_ret (v := .tuple #[.agg #[.int .i64 0, .int .i64 0, .slice none 0 0, .int .i64 0], .int .i64 r]) (by simp [results, results95, go_sem, c0, c1, c2, c3]) rfl ⟨Or.inr ⟨HNE.out, by rw [HR0.out] <;> rfl⟩, ?_⟩
  exact bS (bS (bS (bS HB1.out (Nat.le_succ _) _) (Nat.le_succ _) _) (Nat.le_succ _) _) (Nat.le_succ _) _
 subst h0
 have HOK := hid (tb_of HR0.out.symm)
 have hnc := hc.2.1
 have HT0 : Hid (tbE t = 0) := HR0.out.symm
 have HNS : Hid (ns = t.sch.length) := hs.1
 have HNC : Hid (nc = t.cts.length) := hc.1
 have HS := hid hs
 have HC := hid hc
 obtain ⟨m, hm⟩ : ∃ m, m = maxS t.lim t.sch t.sch.length := ⟨_, rfl⟩
 have hlb := riz.1 HOK.out.1.lim
 have hmb := maxS_bd (sch := t.sch) hlb t.sch.length (fun i hi => (HOK.out.1.sch i hi).bands)
 rw [← hm] at hmb
 have KT := hid (fun W hW => ktax_c t.sch As Ac Ak ns cs nc cc nk ck lim rnd W (HS.out.below hW) m (by unfold Hid; rw [hm, hl, HNS.out]))
 have hnc6 : nc ≤ 6 := by have := HOK.out.2.2.1; have := HNC.out; omega
 have HM := hid hm
 clear hs hc hk hl hr hm z1 z2 hr0
 go_enter func95, ntmps95
 go_wp2_with fail
 refine KC.out.mono ?_
 rintro e w1 ⟨rfl, hb1⟩
 have HB1 := hid (bT HB0.out hb1)
 have HX1 := hid (HZ1.out.t hb1)
 have HX2 := hid (HZ2.out.t hb1)
 obtain ⟨q0, q1, q2, q3, q4⟩ := HX1.out.all5
 clear p0 p1 p2 p3 p4 hb1 KC
 go_wp2_with fail
 refine (KT.out _ HB1.out).mono ?_
 rintro e w2 ⟨⟨s, a, rfl⟩, hb2⟩
 have HB2 := hid (bA (bT HB1.out hb2) (.cells #[.int .i64 s, .int .i64 a, .slice none 0 0, .int .i64 (10000 - m)] 189))
 have HY1 := hid ((HX1.out.t hb2).alloc (.cells #[.int .i64 s, .int .i64 a, .slice none 0 0, .int .i64 (10000 - m)] 189))
 have HY2 := hid ((HX2.out.t hb2).alloc (.cells #[.int .i64 s, .int .i64 a, .slice none 0 0, .int .i64 (10000 - m)] 189))
 have HY3 := hid (Blk.mk w2 189 #[.int .i64 s, .int .i64 a, .slice none 0 0, .int .i64 (10000 - m)])
 have h2s := HB2.out.size
 have h1s := (bT HB1.out hb2).size
 have h2lt := (HX2.out.t hb2).lt
 obtain ⟨y0, y1, y2, y3, y4⟩ := HY1.out.all5
 clear q0 q1 q2 q3 q4 hb2 KT
 go_wp2_with fail
 clear y0 y1 y2 y3 y4
 go_loopw [34, 10, 11, 12, 13, 41] (fun i _ _ _ _ _ wr => ∃ (k : Nat) (A : Option Addr) (c : Nat) (z : Int) (xs : List Value), k ≤ nc ∧ i = .int .i64 k ∧ Hid (z = 10000 - m - cutC t.cts k) ∧ Hid (Blk wr w2.heap.size 189 #[.int .i64 s, .int .i64 a, .slice A k c, .int .i64 z]) ∧ Hid (wr.ownsRow w.heap.size 3 1 (.slice A k c) k xs) ∧ Hid (Below w.heap.size w wr) ∧ Hid (Blk wr (w.heap.size + 1) 189 #[.int .i64 0, .int .i64 0, .slice none 0 0, .int .i64 0])) (fun i _ _ _ _ _ _ => nc - (intOf i).toNat)
 case atStart => exact ⟨0, none, 0, 10000 - m, [], Nat.zero_le _, rfl, hid (by simp [cutC]), HY3, hid ⟨by simp, Or.inl ⟨rfl, rfl⟩⟩, HB2, HY2⟩
 case round =>
  obtain ⟨k, A, c, z, xs, hk', rfl, HZ, HH, HO, HBr, HW2⟩ := hrel
  obtain ⟨wo, rfl⟩ : ∃ wo : World, wo = wr := ⟨_, rfl⟩
  by_cases hk : k < nc
  case neg =>
   obtain rfl : nc = k := by omega
   have HE : Hid (z = keptI t) := by unfold Hid keptI; rw [HZ.out, HM.out, HNC.out]
   obtain ⟨⟨c0, c1, c2, c3⟩, _⟩ := HH.out.a4f
   have qz := HW2.out
   have f0 := qz.free 0
   have f1 := qz.free 1
   have f2 := qz.free 2
   have f3 := qz.free 3
   clear qz
   obtain ⟨⟨e0, e1, e2, e3⟩, _⟩ := HW2.out.a4f
   have hwl := HW2.out.lt
   have n1 : (w.heap.size + 1 = w2.heap.size) = False := by simp only [eq_iff_iff, iff_false]; omega
   clear hk hk' HZ
   go_wp2_with fail
   refine bodyPost_ret (v := .tuple #[.agg #[.int .i64 s, .int .i64 a, .slice A nc c, .int .i64 z], .int .i64 0]) (by simp [results, results95, go_sem, e0, e1, e2, e3]) rfl ⟨Or.inl ⟨HT0.out, s, a, A, nc, c, by rw [HE.out]⟩, ?_⟩
   exact bS (bS (bS (bS HBr.out (Nat.le_succ _) _) (Nat.le_succ _) _) (Nat.le_succ _) _) (Nat.le_succ _) _
  obtain ⟨b, off, rfl, hlt0, hat⟩ := HC.out.2.2 (by omega)
  obtain ⟨d0, hsz, d1, ⟨A1, m1, c1, d2, hbs⟩, d3, d4, d5⟩ := hat k hk
  have hcb : ∀ o, wo.cell? ⟨b, o, none⟩ = w.cell? ⟨b, o, none⟩ := fun o => HBr.out.cell (p := ⟨b, o, none⟩) hlt0
  rw [← hcb] at d0 d1 d2 d3 d4 d5
  have hlt := Nat.lt_of_lt_of_le hlt0 HBr.out.size
  clear hcb
  have HCB := cutC_bd (cts := t.cts) k (fun i hi => (HOK.out.1.cts i (by have := HNC.out; omega)).bands)
  have HBE : Hid (bE9 (t.cts.getD k ct0).bands = 0) := (HOK.out.1.cts k (by have := HNC.out; omega)).bands
  have HCN : Hid (cutC t.cts (k + 1) = cutC t.cts k + maxTo 0 (t.cts.getD k ct0).bands (t.cts.getD k ct0).bands.length) := rfl
  have hzb : -60000 ≤ z ∧ z ≤ 10000 := by have := HZ.out; omega
  have HBS := hid hbs
  have hm1 := hbs.2.1
  have HM1 : Hid (m1 = (t.cts.getD k ct0).bands.length) := hbs.1
  clear hat hbs HCB
  generalize (t.cts.getD k ct0).nm = xn at *
  generalize (t.cts.getD k ct0).base = xb at *
  generalize (t.cts.getD k ct0).pc = xp at *
  generalize (t.cts.getD k ct0).yc = xy at *
  generalize (t.cts.getD k ct0).rd = xr at *
  generalize (t.cts.getD k ct0).bands = bl at *
  have HV1 := hid (Blk.mk wo 195 #[.string xn, .int .i64 xb, .slice A1 m1 c1, .int .i64 xp, .int .i64 xy, .int .i64 xr])
  have HB3 := hid (bA HBr.out (.cells #[.string xn, .int .i64 xb, .slice A1 m1 c1, .int .i64 xp, .int .i64 xy, .int .i64 xr] 195))
  have HH3 := hid (HH.out.alloc (.cells #[.string xn, .int .i64 xb, .slice A1 m1 c1, .int .i64 xp, .int .i64 xy, .int .i64 xr] 195))
  have v2 := HV1.out.cell 2
  go_wp2_with fail
  clear v2
  go_loopw [11, 12, 13, 41] (fun f _ _ i wr => ∃ (j f' : Nat), j ≤ m1 ∧ i = .int .i64 j ∧ f = .int .i64 f' ∧ f' ≤ j ∧ Hid (Below (wo.alloc (.cells #[.string xn, .int .i64 xb, .slice A1 m1 c1, .int .i64 xp, .int .i64 xy, .int .i64 xr] 195)).heap.size (wo.alloc (.cells #[.string xn, .int .i64 xb, .slice A1 m1 c1, .int .i64 xp, .int .i64 xy, .int .i64 xr] 195)) wr)) (fun _ _ _ i _ => m1 - (intOf i).toNat)
  case atStart => exact ⟨0, 0, Nat.zero_le _, rfl, rfl, Nat.zero_le _, hid (b0 _)⟩
  case round =>
   obtain ⟨j, f', hj', rfl, rfl, hfj, HBj⟩ := hrel
   have hBS := HBS.out.below (bT HB3.out HBj.out)
   by_cases hj : j < m1
   case pos =>
    obtain ⟨b', off', rfl, hlt', hat'⟩ := hBS.2.2 (by omega)
    obtain ⟨e0, e1, e2⟩ := hat' j (by have := HM1.out; omega)
    obtain ⟨_, g1, _⟩ := hat' f' (by have := HM1.out; omega)
    have v2 := (HV1.out.t HBj.out).cell 2
    clear hat' hBS
    generalize (bl.getD j bd0).f = xf at *
    generalize (bl.getD j bd0).r = xq at *
    generalize (bl.getD j bd0).e = xe at *
    generalize (bl.getD f' bd0).r = yq at *
    have g2 : (wr.alloc (.cells #[.int .i64 xf, .int .i64 xq, .int .i64 xe] 145)).cell? ⟨b', off' + f' * 3 + 1, none⟩ = some (.int .i64 yq) := (World.cell?_alloc_lt _ _ _ hlt').trans g1
    have v3 := ((HV1.out.t HBj.out).alloc (.cells #[.int .i64 xf, .int .i64 xq, .int .i64 xe] 145)).cell 2
    have x1 := (Blk.mk wr 145 #[.int .i64 xf, .int .i64 xq, .int .i64 xe]).cell 1
    have i1 : (0 : Int) ≤ (f' : Int) := by omega
    have i2 : (f' : Int) < (m1 : Int) := by omega
    have HB4 := hid (bA HBj.out (.cells #[.int .i64 xf, .int .i64 xq, .int .i64 xe] 145))
    clear g1
    by_cases hgt : yq < xq
    ·
     go_wp2_with fail
     go_quiet (fail)
     go_wp2_with fail
     go_roundw
     case rel => exact ⟨j + 1, j, by omega, by go_num, rfl, by omega, hid (bD HB4.out _)⟩
     case measure => simp [intOf]; omega
    ·
     go_wp2_with fail
     go_quiet (fail)
     go_wp2_with fail
     go_roundw
     case rel => exact ⟨j + 1, f', by omega, by go_num, rfl, by omega, hid (bD HB4.out _)⟩
     case measure => simp [intOf]; omega
   obtain rfl : m1 = j := by omega
   obtain ⟨r, hr⟩ : ∃ r, r = maxTo 0 bl m1 := ⟨_, rfl⟩
   have hrb : 0 ≤ r ∧ r ≤ 10000 := by
    rw [hr]
    exact maxTo_bd (by decide) _ (fun q hq => (goodB bl HBE.out).r q (by have := HM1.out; omega))
   have HZN : Hid (z - r = 10000 - m - cutC t.cts (k + 1)) := by
    unfold Hid
    rw [HCN.out, ← HM1.out, ← hr, HZ.out]
    omega
   have HRT := hid hr
   have HHJ := HH3.out.t HBj.out
   have HOJ := hid (oB9 (HO.out.alloc (.cells #[.string xn, .int .i64 xb, .slice A1 m1 c1, .int .i64 xp, .int .i64 xy, .int .i64 xr] 195)) HBj.out)
   have HWJ := hid ((HW2.out.alloc (.cells #[.string xn, .int .i64 xb, .slice A1 m1 c1, .int .i64 xp, .int .i64 xy, .int .i64 xr] 195)).t HBj.out)
   have HVJ := hid (HV1.out.t HBj.out)
   have HBJ := hid (bT HB3.out HBj.out)
   have hsz5 := HBJ.out.size
   have u2 := HHJ.cell 2
   have fu2 := HHJ.free 2
   have HHK := hid HHJ
   clear hBS hr HHJ hj hj' hfj
   go_wp2_with (at_builtin; refine wa9 _ rfl _ _ 85 rfl 3 _ 1 8 underlying85 info_intK rfl (by decide) rfl HOJ.out _ rfl (by first | rfl | simp) rfl (by simp [Value.oneCell']) (by omega) (by omega) (by first | omega | (simp; omega)) ?_; intro v' w4 ho' hg; obtain ⟨A4, c4, rfl⟩ := oL9 ho'; have y4 := HHK.out.grown hg (obz HOJ.out HHK.out (by decide)); have u4 := y4.cell 2; have fu4 := y4.free 2)
   have HY5 := hid (y4.setJ 2 (.slice A4 (k + 1) c4))
   have HO5 := hid (oS9 ho' y4 (by decide) 2 (.slice A4 (k + 1) c4))
   have HW5 := hid ((HWJ.out.grown hg (obz HOJ.out HWJ.out (by decide))).setO (show w.heap.size + 1 ≠ w2.heap.size by omega) 2 (.slice A4 (k + 1) c4))
   have HV5 := hid ((HVJ.out.grown hg (obz HOJ.out HVJ.out (by decide))).setO (HVJ.out.differ HHK.out (by decide)) 2 (.slice A4 (k + 1) c4))
   have HB5 := hid (bS (bP HBJ.out HOJ.out hg (Nat.le_refl _)) (p := ⟨w2.heap.size, 2, none⟩) h1s (.slice A4 (k + 1) c4))
   clear y4 u4 fu4 ho' hg u2 fu2
   generalize w4.setCell ⟨w2.heap.size, 2, none⟩ (.slice A4 (k + 1) c4) = w5 at *
   have HS5 : Hid (∀ W, Below w5.heap.size w5 W → Blz W A1 m1 bl) := fun W hW => HBS.out.below (bT HB5.out hW)
   have hwr : IntKind.i64.wrap (z - r) = z - r := IntWalk.i64_in _ (by omega)
   have KTP : Hid (∀ W, Below w5.heap.size w5 W → Calls prog 140 #[.slice A1 m1 c1] W fun e w' => e = .returned (.int .i64 r) ∧ Below W.heap.size W w') := fun W hW => btop_c bl A1 m1 c1 W (HS5.out W hW) r HRT
   have c3 := HY5.out.cell 3
   have f3 := HY5.out.free 3
   have c2 := HV5.out.cell 2
   go_region_law (go_simp; go_at_call 140; (with_reducible refine (KTP.out _ (b0 _).drew).mono ?_); rintro e w6 ⟨rfl, hb6⟩; have hB6 : Below w5.heap.size w5 w6 := bT (b0 _).drew hb6; have c3' := (HY5.out.t hB6).cell 3; have f3' := (HY5.out.t hB6).free 3; have c2' := (HV5.out.t hB6).cell 2)
   all_goals
    have HY6 := hid ((HY5.out.t hB6).setJ 3 (.int .i64 (z - r)))
    have HO6 := hid (oS9 (oB9 HO5.out hB6) (HY5.out.t hB6) (by decide) 3 (.int .i64 (z - r)))
    have HW6 := hid ((HW5.out.t hB6).setO (show w.heap.size + 1 ≠ w2.heap.size by omega) 3 (.int .i64 (z - r)))
    have HB6 := hid (bS (bT HB5.out hB6) (p := ⟨w2.heap.size, 3, none⟩) h1s (.int .i64 (z - r)))
    clear hwr hB6
    simp only [Exit.inBlock, Exit.then]
    go_wp2_with fail
    go_roundw
    case rel => exact ⟨k + 1, A4, c4, z - r, _, by omega, by go_num, HZN, HY6, HO6, HB6, HW6⟩
    case measure => simp [intOf]; omega
theorem kcheck_c (t : Tb) (As Ac Ak : Option Addr) (ns cs nc cc nk ck : Nat) (lim rnd : Int) (w : World) (hs : ScSl w As ns t.sch) (hc : CtSl w Ac nc t.cts) (hcc : nc ≤ cc) (hk : KdSl w Ak nk t.kds) (hck : nk ≤ ck) (hl : lim = t.lim) (hr : rnd = t.rnd) (re : Int) (he : Hid (re = keepE t)) :
  Calls prog 64 #[.agg #[.slice As ns cs, .slice Ac nc cc, .slice Ak nk ck, .int .i64 lim, .int .i64 rnd]] w fun e w' => e = .returned (.int .i64 re) ∧ Below w.heap.size w w' := by
 have hb0 := bz1 w (.cells #[.slice As ns cs, .slice Ac nc cc, .slice Ak nk ck, .int .i64 lim, .int .i64 rnd] 26)
 obtain ⟨p0, p1, p2, p3, p4⟩ := (Blk.mk w 26 #[.slice As ns cs, .slice Ac nc cc, .slice Ak nk ck, .int .i64 lim, .int .i64 rnd]).all5
 have KW := hid (kworst_c t As Ac Ak ns cs nc cc nk ck lim rnd _ (hs.below hb0) (hc.below hb0) hcc (hk.below hb0) hck hl hr)
 have HB0 := hid hb0
 have HKB : Hid (tbE t = 0 → -60000 ≤ keptI t ∧ keptI t ≤ 10000) := fun h => by
  have o := tb_of h
  have h1 := maxS_bd (sch := t.sch) (riz.1 o.1.lim) t.sch.length (fun i hi => (o.1.sch i hi).bands)
  have h2 := cutC_bd (cts := t.cts) t.cts.length (fun i hi => (o.1.cts i hi).bands)
  have h3 := o.2.2.1
  unfold keptI
  omega
 clear hs hc hk hl hr hb0
 go_enter func64, ntmps64
 go_wp2_with fail
 refine KW.out.mono ?_
 rintro e w1 ⟨⟨h0, s, a, V, vn, vc, rfl⟩ | ⟨h0, rfl⟩, hb1⟩
 case inr =>
  have tr : (tbE t != 0) = true := by simpa using h0
  have HE : Hid (re = tbE t) := he.out.trans (by unfold keepE; rw [if_pos h0])
  have HB1 := hid (bA (bT HB0.out hb1) (.cells #[.int .i64 0, .int .i64 0, .slice none 0 0, .int .i64 0] 189))
  clear h0 he hb1 p0 p1 p2 p3 p4
  generalize tbE t = r at *
  go_wp2_with fail
  go_ret
  exact ⟨by rw [HE.out] <;> rfl, HB1.out⟩
 have hkb := HKB.out h0
 have HE0 : Hid (re = if keptI t * 20 < 10000 then 100 else 0) := he.out.trans (by unfold keepE; rw [if_neg (fun h => h h0)])
 clear he HKB h0
 generalize keptI t = z at *
 have HB1 := hid (bA (bT HB0.out hb1) (.cells #[.int .i64 s, .int .i64 a, .slice V vn vc, .int .i64 z] 189))
 clear hb1 p0 p1 p2 p3 p4
 by_cases hz : z * 20 < 10000
 ·
  have HE : Hid (re = 100) := HE0.out.trans (if_pos hz)
  go_wp2_with fail
  go_ret
  exact ⟨by rw [HE.out] <;> rfl, HB1.out⟩
 ·
  have HE : Hid (re = 0) := HE0.out.trans (if_neg hz)
  go_wp2_with fail
  go_ret
  exact ⟨by rw [HE.out] <;> rfl, HB1.out⟩
end Go.Proofs.YtiaabmhjkoohmaaGreat
