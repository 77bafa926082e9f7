/-
  Contract of table.Read. Conditions as named.
-/
import Derived.Test.YtbliblhipecgfaaGreatDoorTStep
namespace Go.Proofs.YtbliblhipecgfaaGreatDoor
set_option linter.unusedVariables false
open Go.RowKit
/-- one line: its error at a table, and the table behind it -/
def lnErr (u : Tb) (s : ByteArray) : Int :=
  if (cutR s.data.toList).1 ≠ 0 then (cutR s.data.toList).1 else if (cutR s.data.toList).2 = [] then 0
  else if putE (cutR s.data.toList).2.length (wsB (cutR s.data.toList).2) ≠ 0 then putE (cutR s.data.toList).2.length (wsB (cutR s.data.toList).2)
  else if 8 < (putV u (wsB (cutR s.data.toList).2)).sch.length ∨ 6 < (putV u (wsB (cutR s.data.toList).2)).cts.length ∨ 12 < (putV u (wsB (cutR s.data.toList).2)).kds.length then 2 else 0
def lnNext (u : Tb) (s : ByteArray) : Tb := if (cutR s.data.toList).2 = [] then u else putV u (wsB (cutR s.data.toList).2)
def rdS (L : List ByteArray) : Nat → Tb
  | 0 => tb0
  | k + 1 => lnNext (rdS L k) (L.getD k st0)
def rdX (L : List ByteArray) (k : Nat) : Int := lnErr (rdS L k) (L.getD k st0)
theorem ws_few (s : ByteArray) : (wsB (cutR s.data.toList).2).length ≤ 1000 := by
  have := (cutR_size s.data.toList).2
  unfold wsB
  rw [List.length_map]; omega
theorem ws_size (s : ByteArray) : ∀ j, j < (cutR s.data.toList).2.length → ((wsB (cutR s.data.toList).2).getD j st0).size ≤ 1000000 := fun j hj => by
  have h := (cutR_size s.data.toList).1 _ (List.getElem_mem hj)
  unfold wsB
  rw [getD_get (by simpa using hj)]
  simp only [List.getElem_map, mkB_size]
  omega
theorem rdS_sz (L : List ByteArray) : ∀ k, SzT (rdS L k) k := by
  intro k
  induction k with
  | zero => exact SzT.nil
  | succ k ih =>
    show SzT (lnNext (rdS L k) (L.getD k st0)) (k + 1)
    unfold lnNext
    split
    · exact ⟨by have := ih.s; omega, by have := ih.c; omega, by have := ih.k; omega, ih.sl, ih.cl⟩
    · exact ih.put _ (ws_few _)
def ReadL (L : List ByteArray) (n : Nat) (w : World) (e : Ending) (w' : World) : Prop :=
  ((∃ k, k < n ∧ (∀ j, j < k → rdX L j = 0) ∧ rdX L k ≠ 0 ∧ e = .returned (.tuple #[.agg #[.slice none 0 0, .slice none 0 0, .slice none 0 0, .int .i64 0, .int .i64 0], .int .i64 ((k : Int) + 1), .int .i64 (rdX L k)])) ∨
   ((∀ j, j < n → rdX L j = 0) ∧ tbE (rdS L n) ≠ 0 ∧ e = .returned (.tuple #[.agg #[.slice none 0 0, .slice none 0 0, .slice none 0 0, .int .i64 0, .int .i64 0], .int .i64 0, .int .i64 (tbE (rdS L n))])) ∨
   ((∀ j, j < n → rdX L j = 0) ∧ tbE (rdS L n) = 0 ∧ ∃ (Us Uc Uk : Option Addr) (us vs uc vc uk vk : Nat) (ul ur : Int), e = .returned (.tuple #[.agg #[.slice Us us vs, .slice Uc uc vc, .slice Uk uk vk, .int .i64 ul, .int .i64 ur], .int .i64 0, .int .i64 0]) ∧ (ul = (rdS L n).lim ∧ ur = (rdS L n).rnd) ∧ OwnT w' w.heap.size (rdS L n).sch (rdS L n).cts (rdS L n).kds Us Uc Uk us vs uc vc uk vk)) ∧ Below w.heap.size w w'
--%%
theorem cut_any (s : ByteArray) (w : World) (hs : s.size ≤ 9223372036854775807) (R : Int × List (List UInt8)) (hR : Hid (R = cutR s.data.toList)) : Calls Tryz.prog 22 #[.string s] w (CutQ R w) := by
  by_cases h : s.size ≤ 1000000
  · exact cut_c s w h R hR
  have hl : s.data.toList.length = s.size := by simp
  have e : R = (2, []) := hR.out.trans (by unfold cutR; rw [if_pos (by omega)])
  subst e
  have v : decide ((512 : Int) < (s.size : Int)) = true := by simp; omega
  clear hR hl
  go_enter Tryz.func22, Tryz.ntmps22
  go_wp2_with fail
  go_step3
  go_wp2_with fail
  simp only [Exit.noGoto_ret]
  go_ret2
  exact ⟨Or.inr ⟨by decide, rfl⟩, b0 _⟩
--%%
set_option maxRecDepth 100000 in
set_option maxHeartbeats 12800000 in
theorem tread_c2 (L : List ByteArray) (A : Option Addr) (n c : Nat) (w : World) (hl : StSl w A n L) (hs : ∀ k, k < n → (L.getD k st0).size ≤ 9223372036854775807) (hn : n ≤ 990) (hm : ML w) (ht : TabS w) :
    Calls Tryz.prog 28 #[.slice A n c] w (ReadL L n w) := by
  have b1 := Blk.mk w 26 #[.slice none 0 0, .slice none 0 0, .slice none 0 0, .int .i64 0, .int .i64 0]
  have b2 := Blk.mk (w.alloc (.cells #[.slice none 0 0, .slice none 0 0, .slice none 0 0, .int .i64 0, .int .i64 0] 26)) 26 #[.slice none 0 0, .slice none 0 0, .slice none 0 0, .int .i64 0, .int .i64 0]
  have hb0 := bA (below1 w (.cells #[.slice none 0 0, .slice none 0 0, .slice none 0 0, .int .i64 0, .int .i64 0] 26)) (.cells #[.slice none 0 0, .slice none 0 0, .slice none 0 0, .int .i64 0, .int .i64 0] 26)
  have HL := Lib.hid hl
  have HS := Lib.hid hs
  have HM := Lib.hid hm
  have HT := Lib.hid ht
  have HB0 := Lib.hid hb0
  have HZ0 := Lib.hid (b1.alloc (.cells #[.slice none 0 0, .slice none 0 0, .slice none 0 0, .int .i64 0, .int .i64 0] 26))
  rw [World.size_alloc] at b2
  have HU0 := Lib.hid b2
  clear hl hs hm ht hb0 b1 b2
  go_enter Tryz.func28, Tryz.ntmps28
  go_wp2_with fail
  go_loopw [13] (fun i wr => ∃ (k : Nat) (Us Uc Uk : Option Addr) (us vs uc vc uk vk : Nat) (ul ur : Int), k ≤ n ∧ i = .int .i64 k ∧ Hid (ul = (rdS L k).lim ∧ ur = (rdS L k).rnd) ∧ Hid (OwnT wr w.heap.size (rdS L k).sch (rdS L k).cts (rdS L k).kds Us Uc Uk us vs uc vc uk vk) ∧ Below w.heap.size w wr ∧ Hid (Blk wr w.heap.size 26 #[.slice none 0 0, .slice none 0 0, .slice none 0 0, .int .i64 0, .int .i64 0]) ∧ Blk wr (w.heap.size + 1) 26 #[.slice Us us vs, .slice Uc uc vc, .slice Uk uk vk, .int .i64 ul, .int .i64 ur] ∧ Hid (∀ j, j < k → rdX L j = 0)) (fun i _ => n - (intOf i).toNat)
  case atStart => exact ⟨0, none, none, none, 0, 0, 0, 0, 0, 0, 0, 0, Nat.zero_le _, rfl, ⟨rfl, rfl⟩, OwnT.nil _ _, HB0.out, HZ0.out, HU0.out, fun j hj => absurd hj (Nat.not_lt_zero _)⟩
  clear HB0 HZ0 HU0
  case round =>
    obtain ⟨k, Us, Uc, Uk, us, vs, uc, vc, uk, vk, ul, ur, hk', rfl, HLR, HO, hbl, HZ, z2, HX⟩ := hrel
    by_cases hk : k < n
    case pos =>
      obtain ⟨b, off, rfl, hlt, hat⟩ := (HL.out.below hbl).2.2 (by omega)
      have q := hat k hk 0 _ rfl
      have hz := HS.out k hk
      have HSTOP : Hid (∀ v, rdX L k = v → v ≠ 0 → ∀ W, Below w.heap.size w W → ReadL L n w (.returned (.tuple #[.agg #[.slice none 0 0, .slice none 0 0, .slice none 0 0, .int .i64 0, .int .i64 0], .int .i64 ((k : Int) + 1), .int .i64 v])) W) := fun v h h0 W hW => by
        subst h
        exact ⟨Or.inl ⟨k, hk, HX.out, h0, rfl⟩, hW⟩
      have HGO : Hid (rdX L k = 0 → ∀ j, j < k + 1 → rdX L j = 0) := fun h j hj => by
        rcases (by omega : j = k ∨ j < k) with rfl | hj
        · exact h
        · exact HX.out j hj
      have HXU : Hid (rdX L k = lnErr (rdS L k) (L.getD k st0)) := rfl
      have HSU : Hid (rdS L (k + 1) = lnNext (rdS L k) (L.getD k st0)) := rfl
      have HSZ := Lib.hid (rdS_sz L k)
      generalize L.getD k st0 = sk at *
      generalize rdS L k = u at *
      simp only [Nat.mul_one, Nat.add_zero] at q
      have HWF := Lib.hid (ws_few sk)
      have HWS := Lib.hid (ws_size sk)
      obtain ⟨R, hR⟩ : ∃ R, R = cutR sk.data.toList := ⟨_, rfl⟩
      have KC := Lib.hid (fun W => cut_any sk W hz R hR)
      unfold lnErr at HXU
      unfold lnNext at HSU
      rw [← hR] at HXU HSU HWF HWS
      obtain ⟨re, ws⟩ := R
      dsimp only at HXU HSU HWF HWS
      clear hat hR HX
      go_wp2_with fail
      refine (KC.out _).mono ?_
      rintro e w5 ⟨hcut | hcut, hb5⟩
      case inr =>
        obtain ⟨h0, rfl⟩ := hcut
        dsimp only at h0
        have v0 : (re != 0) = true := by simpa using h0
        have HE := Lib.hid (HSTOP.out re (HXU.out.trans (if_pos h0)) h0)
        have hB5 := bT hbl hb5
        have z1 := HZ.out.t hb5
        obtain ⟨⟨r0, r1, r2, r3, r4⟩, g0, g1, g2, g3, g4⟩ := z1.a5g
        have HB9 := Lib.hid (bS5s hB5 (Nat.le_refl w.heap.size) (.slice none 0 0) (.slice none 0 0) (.slice none 0 0) (.int .i64 0) (.int .i64 0))
        have HZ9 := Lib.hid (z1.set5 (.slice none 0 0) (.slice none 0 0) (.slice none 0 0) (.int .i64 0) (.int .i64 0))
        clear z1 hB5
        go_wp2_with fail
        obtain ⟨s0, s1, s2, s3, s4⟩ := HZ9.out.all5
        refine bodyPost_ret (v := .tuple #[.agg #[.slice none 0 0, .slice none 0 0, .slice none 0 0, .int .i64 0, .int .i64 0], .int .i64 ((k : Int) + 1), .int .i64 re]) (by simp [results, Tryz.results28, go_sem, s0, s1, s2, s3, s4]) rfl ?_
        exact HE.out _ HB9.out
      obtain ⟨h0, v, rfl, hov⟩ := hcut
      dsimp only at h0
      subst h0
      obtain ⟨A2, c2, rfl, hnc, hst⟩ := own_sl stC 1 st0 stC_len hov.2 hov.1 (by decide)
      have HXU2 := Lib.hid (HXU.out.trans (if_neg (by decide)))
      have HST := Lib.hid hst
      have hB5 := bT hbl hb5
      have HZ5 := Lib.hid (HZ.out.t hb5)
      have z5 := z2.t hb5
      have HO5 := Lib.hid (HO.out.below hb5)
      have hsz5 := hB5.size
      by_cases hw0 : ws = []
      case pos =>
        subst hw0
        have HG := Lib.hid (HGO.out (HXU2.out.trans (if_pos rfl)))
        have HSN : Hid (rdS L (k + 1) = u) := HSU.out.trans (if_pos rfl)
        have HLR2 : Hid (ul = (rdS L (k + 1)).lim ∧ ur = (rdS L (k + 1)).rnd) := by rw [HSN.out]; exact HLR.out
        have HO2 : Hid (OwnT w5 w.heap.size (rdS L (k + 1)).sch (rdS L (k + 1)).cts (rdS L (k + 1)).kds Us Uc Uk us vs uc vc uk vk) := by rw [HSN.out]; exact HO5.out
        clear HSTOP HGO HXU HSU HXU2 HSN hov hnc hst HST
        go_wp2_with fail
        go_roundw
        case rel => exact ⟨k + 1, Us, Uc, Uk, us, vs, uc, vc, uk, vk, ul, ur, by omega, by go_num, HLR2.out, HO2.out, hB5, HZ5.out, z5, HG.out⟩
        case measure => simp [intOf]; omega
      have HXU3 := Lib.hid (HXU2.out.trans (if_neg hw0))
      have HSN : Hid (rdS L (k + 1) = putV u (wsB ws)) := HSU.out.trans (if_neg hw0)
      have hpos : 0 < ws.length := List.length_pos_iff.2 hw0
      have KP := Lib.hid (tstep_c u k HSZ.out (by omega) Us Uc Uk us vs uc vc uk vk ul ur HLR.out A2 ws.length c2 (wsB ws) w5 (HO5.out.view) hst hnc (by have := HWF.out; unfold wsB at this; rw [List.length_map] at this; exact this) HWS.out (HM.out.t hB5) (HT.out.t hB5))
      have HB5 := Lib.hid hB5
      have vl : ((ws.length : Int) == 0) = false := by simp; omega
      obtain ⟨p0, p1, p2, p3, p4⟩ := z5.all5
      have hws5 : ws.length ≤ 1000 := by have := HWF.out; unfold wsB at this; rw [List.length_map] at this; exact this
      clear KC hov hnc hst hB5 hbl HZ HO z2 q hb5 HXU HSU HXU2 hw0 HST HO5
      generalize hnw : ws.length = nw at *
      clear hnw
      go_wp2_with fail
      refine KP.out.mono ?_
      rintro e w6 ⟨hp | hp, hb6⟩
      case inr =>
        obtain ⟨h0, rfl⟩ := hp
        have HE := Lib.hid (HSTOP.out (putE nw (wsB ws)) (HXU3.out.trans (if_pos h0)) h0)
        generalize putE nw (wsB ws) = pe at *
        have v0 : (pe != 0) = true := by simpa using h0
        have z6 := z5.t hb6
        obtain ⟨⟨p0, p1, p2, p3, p4⟩, f0, f1, f2, f3, f4⟩ := z6.a5g
        have hB6 := bT HB5.out hb6
        have z1 := (HZ5.out.t hb6).set5O (by omega : w.heap.size ≠ w.heap.size + 1) (.slice Us us vs) (.slice Uc uc vc) (.slice Uk uk vk) (.int .i64 ul) (.int .i64 ur)
        have hB5 := bS5s hB6 (Nat.le_succ w.heap.size) (.slice Us us vs) (.slice Uc uc vc) (.slice Uk uk vk) (.int .i64 ul) (.int .i64 ur)
        obtain ⟨⟨r0, r1, r2, r3, r4⟩, g0, g1, g2, g3, g4⟩ := z1.a5g
        have HB9 := Lib.hid (bS5s hB5 (Nat.le_refl w.heap.size) (.slice none 0 0) (.slice none 0 0) (.slice none 0 0) (.int .i64 0) (.int .i64 0))
        have HZ9 := Lib.hid (z1.set5 (.slice none 0 0) (.slice none 0 0) (.slice none 0 0) (.int .i64 0) (.int .i64 0))
        clear z1 hB5
        go_wp2_with fail
        obtain ⟨s0, s1, s2, s3, s4⟩ := HZ9.out.all5
        refine bodyPost_ret (v := .tuple #[.agg #[.slice none 0 0, .slice none 0 0, .slice none 0 0, .int .i64 0, .int .i64 0], .int .i64 ((k : Int) + 1), .int .i64 pe]) (by simp [results, Tryz.results28, go_sem, s0, s1, s2, s3, s4]) rfl ?_
        exact HE.out _ HB9.out
      obtain ⟨h0, Us2, Uc2, Uk2, us2, vs2, uc2, vc2, uk2, vk2, ul2, ur2, rfl, hlr2, ho2⟩ := hp
      have hln := ho2.len
      have HXU4 := Lib.hid (HXU3.out.trans (if_neg (fun h => h h0)))
      rw [← hln.1, ← hln.2.1, ← hln.2.2] at HXU4
      have HLR2 : Hid (ul2 = (rdS L (k + 1)).lim ∧ ur2 = (rdS L (k + 1)).rnd) := by rw [HSN.out]; exact hlr2
      have HO2 : Hid (OwnT w6 w.heap.size (rdS L (k + 1)).sch (rdS L (k + 1)).cts (rdS L (k + 1)).kds Us2 Uc2 Uk2 us2 vs2 uc2 vc2 uk2 vk2) := by rw [HSN.out]; exact ho2.mono HB5.out.size
      have z6 := z5.t hb6
      obtain ⟨⟨p0, p1, p2, p3, p4⟩, f0, f1, f2, f3, f4⟩ := z6.a5g
      have HO9 := Lib.hid (HO2.out.set5 z6 (.slice Us2 us2 vs2) (.slice Uc2 uc2 vc2) (.slice Uk2 uk2 vk2) (.int .i64 ul2) (.int .i64 ur2))
      have hB9 := bS5s (bT HB5.out hb6) (Nat.le_succ w.heap.size) (.slice Us2 us2 vs2) (.slice Uc2 uc2 vc2) (.slice Uk2 uk2 vk2) (.int .i64 ul2) (.int .i64 ur2)
      have HU9 := Lib.hid (z6.set5 (.slice Us2 us2 vs2) (.slice Uc2 uc2 vc2) (.slice Uk2 uk2 vk2) (.int .i64 ul2) (.int .i64 ur2))
      have HZ9 := Lib.hid ((HZ5.out.t hb6).set5O (by omega : w.heap.size ≠ w.heap.size + 1) (.slice Us2 us2 vs2) (.slice Uc2 uc2 vc2) (.slice Uk2 uk2 vk2) (.int .i64 ul2) (.int .i64 ur2))
      have HB9 := Lib.hid hB9
      have hs9 : us2 ≤ 1000 ∧ uc2 ≤ 1000 ∧ uk2 ≤ 1000 := by
        have := (HSZ.out.put (wsB ws) HWF.out)
        obtain ⟨a1, a2, a3, _, _⟩ := this
        omega
      clear hlr2 ho2 hb6 z6 z5 KP HB5 HZ5 HO2 hln hB9 HXU3 h0
      obtain ⟨hs1, hs2, hs3⟩ := hs9
      by_cases y0 : 8 < us2
      · have w0 : decide ((8 : Int) < (us2 : Int)) = true := by simp; omega
        have HE := Lib.hid (HSTOP.out 2 (HXU4.out.trans (if_pos (by omega))) (by decide))
        have z1 := HZ9.out
        have hB5 := HB9.out
        obtain ⟨p0, p1, p2, p3, p4⟩ := HU9.out.all5
        obtain ⟨⟨r0, r1, r2, r3, r4⟩, g0, g1, g2, g3, g4⟩ := z1.a5g
        have HB9 := Lib.hid (bS5s hB5 (Nat.le_refl w.heap.size) (.slice none 0 0) (.slice none 0 0) (.slice none 0 0) (.int .i64 0) (.int .i64 0))
        have HZ9 := Lib.hid (z1.set5 (.slice none 0 0) (.slice none 0 0) (.slice none 0 0) (.int .i64 0) (.int .i64 0))
        clear z1 hB5
        go_wp2_with fail
        obtain ⟨s0, s1, s2, s3, s4⟩ := HZ9.out.all5
        refine bodyPost_ret (v := .tuple #[.agg #[.slice none 0 0, .slice none 0 0, .slice none 0 0, .int .i64 0, .int .i64 0], .int .i64 ((k : Int) + 1), .int .i64 2]) (by simp [results, Tryz.results28, go_sem, s0, s1, s2, s3, s4]) rfl ?_
        exact HE.out _ HB9.out
      have w0 : decide ((8 : Int) < (us2 : Int)) = false := by simp; omega
      by_cases y1 : 6 < uc2
      · have w1 : decide ((6 : Int) < (uc2 : Int)) = true := by simp; omega
        have HE := Lib.hid (HSTOP.out 2 (HXU4.out.trans (if_pos (by omega))) (by decide))
        have z1 := HZ9.out
        have hB5 := HB9.out
        obtain ⟨p0, p1, p2, p3, p4⟩ := HU9.out.all5
        obtain ⟨⟨r0, r1, r2, r3, r4⟩, g0, g1, g2, g3, g4⟩ := z1.a5g
        have HB9 := Lib.hid (bS5s hB5 (Nat.le_refl w.heap.size) (.slice none 0 0) (.slice none 0 0) (.slice none 0 0) (.int .i64 0) (.int .i64 0))
        have HZ9 := Lib.hid (z1.set5 (.slice none 0 0) (.slice none 0 0) (.slice none 0 0) (.int .i64 0) (.int .i64 0))
        clear z1 hB5
        go_wp2_with fail
        obtain ⟨s0, s1, s2, s3, s4⟩ := HZ9.out.all5
        refine bodyPost_ret (v := .tuple #[.agg #[.slice none 0 0, .slice none 0 0, .slice none 0 0, .int .i64 0, .int .i64 0], .int .i64 ((k : Int) + 1), .int .i64 2]) (by simp [results, Tryz.results28, go_sem, s0, s1, s2, s3, s4]) rfl ?_
        exact HE.out _ HB9.out
      have w1 : decide ((6 : Int) < (uc2 : Int)) = false := by simp; omega
      by_cases y2 : 12 < uk2
      · have w2 : decide ((12 : Int) < (uk2 : Int)) = true := by simp; omega
        have HE := Lib.hid (HSTOP.out 2 (HXU4.out.trans (if_pos (by omega))) (by decide))
        have z1 := HZ9.out
        have hB5 := HB9.out
        obtain ⟨p0, p1, p2, p3, p4⟩ := HU9.out.all5
        obtain ⟨⟨r0, r1, r2, r3, r4⟩, g0, g1, g2, g3, g4⟩ := z1.a5g
        have HB9 := Lib.hid (bS5s hB5 (Nat.le_refl w.heap.size) (.slice none 0 0) (.slice none 0 0) (.slice none 0 0) (.int .i64 0) (.int .i64 0))
        have HZ9 := Lib.hid (z1.set5 (.slice none 0 0) (.slice none 0 0) (.slice none 0 0) (.int .i64 0) (.int .i64 0))
        clear z1 hB5
        go_wp2_with fail
        obtain ⟨s0, s1, s2, s3, s4⟩ := HZ9.out.all5
        refine bodyPost_ret (v := .tuple #[.agg #[.slice none 0 0, .slice none 0 0, .slice none 0 0, .int .i64 0, .int .i64 0], .int .i64 ((k : Int) + 1), .int .i64 2]) (by simp [results, Tryz.results28, go_sem, s0, s1, s2, s3, s4]) rfl ?_
        exact HE.out _ HB9.out
      have w2 : decide ((12 : Int) < (uk2 : Int)) = false := by simp; omega
      have HG := Lib.hid (HGO.out (HXU4.out.trans (if_neg (by omega))))
      clear HSTOP HGO HXU4 HSN
      go_wp2_with fail
      go_roundw
      case rel => exact ⟨k + 1, Us2, Uc2, Uk2, us2, vs2, uc2, vc2, uk2, vk2, ul2, ur2, by omega, by go_num, HLR2.out, HO9.out, HB9.out, HZ9.out, HU9.out, HG.out⟩
      case measure => simp [intOf]; omega
    obtain rfl : k = n := by omega
    obtain ⟨r, hr⟩ : ∃ r, r = tbE (rdS L k) := ⟨_, rfl⟩
    have HR := Lib.hid hr
    have v := HO.out.view
    have KCh := Lib.hid (xcheck_c _ _ _ Us Uc Uk us vs uc vc uk vk ul ur wr v.s v.c v.cc v.k v.ck r (by
      unfold Hid
      rw [hr, HLR.out.1, HLR.out.2]))
    obtain ⟨p0, p1, p2, p3, p4⟩ := z2.all5
    have HBR := Lib.hid hbl
    have HU := Lib.hid z2
    clear hr v hk hk' hbl z2
    go_wp2_with fail
    refine KCh.out.mono ?_
    rintro e w6 ⟨rfl, hb6⟩
    have hB5 := bT HBR.out hb6
    have z1 := HZ.out.t hb6
    have z2 := HU.out.t hb6
    have HO6 := Lib.hid (HO.out.below hb6)
    clear hb6 KCh p0 p1 p2 p3 p4
    by_cases h0 : r = 0
    case neg =>
      have v0 : (r != 0) = true := by simpa using h0
      have HE : Hid (∀ W, Below w.heap.size w W → ReadL L k w (.returned (.tuple #[.agg #[.slice none 0 0, .slice none 0 0, .slice none 0 0, .int .i64 0, .int .i64 0], .int .i64 0, .int .i64 r])) W) := fun W hW => by
        have e := HR.out
        subst e
        exact ⟨Or.inr (Or.inl ⟨HX.out, h0, rfl⟩), hW⟩
      obtain ⟨⟨r0, r1, r2, r3, r4⟩, g0, g1, g2, g3, g4⟩ := z1.a5g
      have HB9 := Lib.hid (bS5s hB5 (Nat.le_refl w.heap.size) (.slice none 0 0) (.slice none 0 0) (.slice none 0 0) (.int .i64 0) (.int .i64 0))
      have HZ9 := Lib.hid (z1.set5 (.slice none 0 0) (.slice none 0 0) (.slice none 0 0) (.int .i64 0) (.int .i64 0))
      clear z1 hB5
      go_wp2_with fail
      obtain ⟨s0, s1, s2, s3, s4⟩ := HZ9.out.all5
      refine bodyPost_ret (v := .tuple #[.agg #[.slice none 0 0, .slice none 0 0, .slice none 0 0, .int .i64 0, .int .i64 0], .int .i64 0, .int .i64 r]) (by simp [results, Tryz.results28, go_sem, s0, s1, s2, s3, s4]) rfl ?_
      exact HE.out _ HB9.out
    subst h0
    obtain ⟨p0, p1, p2, p3, p4⟩ := z2.all5
    obtain ⟨⟨r0, r1, r2, r3, r4⟩, f0, f1, f2, f3, f4⟩ := z1.a5g
    have HO9 := Lib.hid (HO6.out.set5 z1 (.slice Us us vs) (.slice Uc uc vc) (.slice Uk uk vk) (.int .i64 ul) (.int .i64 ur))
    have HB9 := Lib.hid (bS5s hB5 (Nat.le_refl w.heap.size) (.slice Us us vs) (.slice Uc uc vc) (.slice Uk uk vk) (.int .i64 ul) (.int .i64 ur))
    have HZ9 := Lib.hid (z1.set5 (.slice Us us vs) (.slice Uc uc vc) (.slice Uk uk vk) (.int .i64 ul) (.int .i64 ur))
    clear z1 z2 hB5
    go_wp2_with fail
    obtain ⟨s0, s1, s2, s3, s4⟩ := HZ9.out.all5
    refine bodyPost_ret (v := .tuple #[.agg #[.slice Us us vs, .slice Uc uc vc, .slice Uk uk vk, .int .i64 ul, .int .i64 ur], .int .i64 0, .int .i64 0]) (by simp [results, Tryz.results28, go_sem, s0, s1, s2, s3, s4]) rfl ?_
    exact ⟨Or.inr (Or.inr ⟨HX.out, HR.out.symm, Us, Uc, Uk, us, vs, uc, vc, uk, vk, ul, ur, rfl, HLR.out, HO9.out⟩), HB9.out⟩
--%%
end Go.Proofs.YtbliblhipecgfaaGreatDoor
