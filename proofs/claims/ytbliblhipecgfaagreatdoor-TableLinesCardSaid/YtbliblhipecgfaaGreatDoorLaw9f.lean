/-
  The walk of TableLines. Conditions as named.
-/
import Derived.Test.YtbliblhipecgfaaGreatDoorTStep
import Derived.Test.YtbliblhipecgfaaGreatDoorTSmall
import Derived.Test.YtbliblhipecgfaaGreatDoorTWrong
namespace Go.Proofs.YtbliblhipecgfaaGreatDoor
set_option linter.unusedVariables false
open Go.RowKit
theorem wsB_get {ws : List (List UInt8)} {j : Nat} (hj : j < ws.length) : (wsB ws).getD j st0 = mkB ws[j] := by
  unfold wsB
  rw [getD_get (by simpa using hj)]
  simp
--%%
set_option maxRecDepth 100000 in
set_option maxHeartbeats 6400000 in
theorem tableLines_row (sch : List (List Bd)) (cts : List Ct) (kds : List Kd) (As Ac Ak : Option Addr) (ns cs nc cc nk ck : Nat) (lim rnd : Int) (w : World) (h : TbIn w sch cts kds As Ac Ak ns cs nc cc nk ck) (htab : Tab w) (htab2 : TabS w) (hml : ML w) :
    Calls Tryz.prog 7 #[.agg #[.slice As ns cs, .slice Ac nc cc, .slice Ak nk ck, .int .i64 lim, .int .i64 rnd]] w fun e w' => e = .returned (.bool true) ∧ Below w.heap.size w w' := by
  obtain ⟨t, ht⟩ : ∃ t : Tb, t = ⟨sch, cts, kds, lim, rnd⟩ := ⟨_, rfl⟩
  have hb0 := below1 w (.cells #[.slice As ns cs, .slice Ac nc cc, .slice Ak nk ck, .int .i64 lim, .int .i64 rnd] 26)
  have HB0 := Lib.hid hb0
  have HZ := Lib.hid (Blk.mk w 26 #[.slice As ns cs, .slice Ac nc cc, .slice Ak nk ck, .int .i64 lim, .int .i64 rnd])
  have HH := Lib.hid h
  have HT := Lib.hid htab
  have HT2 := Lib.hid htab2
  have HM := Lib.hid hml
  have KB := Lib.hid (builds_c _ (hml.t hb0) (htab2.t hb0) (htab.t hb0))
  have KS : Hid (∀ W, Below w.heap.size w W → Calls Tryz.prog 12 #[.agg #[.slice As ns cs, .slice Ac nc cc, .slice Ak nk ck, .int .i64 lim, .int .i64 rnd]] W (SmallR sch cts kds W)) := fun W hW => small_c sch cts kds As Ac Ak ns cs nc cc nk ck lim rnd W (h.s.below hW) (h.c.below hW) (h.k.below hW)
  obtain ⟨r, hr⟩ : ∃ r, r = tbE t := ⟨_, rfl⟩
  have KW : Hid (∀ W, Below w.heap.size w W → Calls Tryz.prog 13 #[.agg #[.slice As ns cs, .slice Ac nc cc, .slice Ak nk ck, .int .i64 lim, .int .i64 rnd]] W fun e w' => e = .returned (.int .i64 r) ∧ Below W.heap.size W w') := fun W hW => wrong_c sch cts kds As Ac Ak ns cs nc cc nk ck lim rnd W (h.s.below hW) (h.c.below hW) (h.k.below hW) r (by unfold Hid; rw [hr, ht])
  have KL : Hid (∀ W, Below w.heap.size w W → Calls Tryz.prog 15 #[.agg #[.slice As ns cs, .slice Ac nc cc, .slice Ak nk ck, .int .i64 lim, .int .i64 rnd]] W (LinesR t W)) := fun W hW => by
    have := tlines_c t As Ac Ak ns cs nc cc nk ck W (by rw [ht]; exact ⟨h.s.below hW, h.c.below hW, h.k.below hW, h.cs, h.cc, h.ck⟩) (htab.t hW) (htab2.t hW)
    rw [ht] at this ⊢
    exact this
  have HR := Lib.hid hr
  have HTT := Lib.hid ht
  clear hb0 h htab htab2 hml hr ht
  go_enter Tryz.func7, Tryz.ntmps7
  go_wp2_with fail
  refine KB.out.mono ?_
  rintro e w1 ⟨⟨Bs, ds, Bc, dc, Bk, dk, rfl, _⟩, hb1⟩
  simp only [tbV]
  have HB1 := Lib.hid (bA (bT HB0.out hb1) (.cells #[.slice Bs 1 ds, .slice Bc 1 dc, .slice Bk 2 dk, .int .i64 5000, .int .i64 1] 26))
  have HZ1 := Lib.hid ((HZ.out.t hb1).alloc (.cells #[.slice Bs 1 ds, .slice Bc 1 dc, .slice Bk 2 dk, .int .i64 5000, .int .i64 1] 26))
  obtain ⟨p0, p1, p2, p3, p4⟩ := HZ1.out.all5
  clear KB HZ hb1
  go_wp2_with fail
  refine (KS.out _ HB1.out).mono ?_
  rintro e w2 ⟨b, ⟨rfl, hsm⟩, hb2⟩
  have HSM := Lib.hid hsm
  have HB2 := Lib.hid (bT HB1.out hb2)
  have HZ2 := Lib.hid (HZ1.out.t hb2)
  clear hb2 p0 p1 p2 p3 p4 KS hsm
  cases b
  · go_wp2_with fail
    go_ret
    exact ⟨rfl, HB2.out⟩
  obtain ⟨p0, p1, p2, p3, p4⟩ := HZ2.out.all5
  go_wp2_with fail
  refine (KW.out _ HB2.out).mono ?_
  rintro e w3 ⟨rfl, hb3⟩
  have HB3 := Lib.hid (bT HB2.out hb3)
  have HZ3 := Lib.hid (HZ2.out.t hb3)
  clear hb3 p0 p1 p2 p3 p4 KW
  by_cases h0 : r = 0
  case neg =>
    have v0 : (r != 0) = true := by simpa using h0
    clear h0
    go_wp2_with fail
    go_ret
    exact ⟨rfl, HB3.out⟩
  subst h0
  have HE : Hid (tbE t = 0) := HR.out.symm
  have HB3a := Lib.hid (bA HB3.out (.cells #[.slice none 0 0, .slice none 0 0, .slice none 0 0, .int .i64 0, .int .i64 0] 26))
  have HZ3a := Lib.hid (HZ3.out.alloc (.cells #[.slice none 0 0, .slice none 0 0, .slice none 0 0, .int .i64 0, .int .i64 0] 26))
  have HU3 := Lib.hid (Blk.mk w3 26 #[.slice none 0 0, .slice none 0 0, .slice none 0 0, .int .i64 0, .int .i64 0])
  obtain ⟨p0, p1, p2, p3, p4⟩ := HZ3a.out.all5
  have hne : w.heap.size < w3.heap.size := HZ3.out.lt
  have hlw : w.heap.size ≤ (w3.alloc (.cells #[.slice none 0 0, .slice none 0 0, .slice none 0 0, .int .i64 0, .int .i64 0] 26)).heap.size := HB3a.out.size
  clear HR
  go_wp2_with fail
  refine (KL.out _ HB3a.out).mono ?_
  rintro e w4 ⟨hl, hb4⟩
  rcases hl with ⟨_, v, rfl, hov⟩ | ⟨hl, _⟩
  case inr => exact absurd HE.out hl
  obtain ⟨AL, cL, rfl⟩ := own_slice hov.2
  have HOL := Lib.hid (row_mono hov.2 hlw)
  have HNL : Hid ((tbL t).length = (tbW t).length) := tbL_n t
  have HB4 := Lib.hid (bT HB3a.out hb4)
  have HZ4 := Lib.hid (HZ3a.out.t hb4)
  have HU4 := Lib.hid (HU3.out.t hb4)
  clear hov hb4 p0 p1 p2 p3 p4 KL HZ3 HZ3a HU3 HB3a hlw
  have hN : Hid ((tbL t).length ≤ 100) := by
    obtain ⟨_, s8, c6, k12, _⟩ := tbE_ok HE.out
    have := tbL_len t
    unfold Hid
    omega
  generalize hNN : (tbL t).length = N at *
  have hN9 := hN.out
  have HLL : Hid ((tbL t).length = N) := hNN
  clear hNN
  go_wp2_with fail
  go_loopw [27] (fun i wr => ∃ (k : Nat) (Us Uc Uk : Option Addr) (us vs uc vc uk vk : Nat) (ul ur : Int), k ≤ N ∧ i = .int .i64 k ∧ Hid (ul = (stT t k).lim ∧ ur = (stT t k).rnd) ∧ Hid (OwnT wr w.heap.size (stT t k).sch (stT t k).cts (stT t k).kds Us Uc Uk us vs uc vc uk vk) ∧ Below w.heap.size w wr ∧ Hid (Blk wr w.heap.size 26 #[.slice As ns cs, .slice Ac nc cc, .slice Ak nk ck, .int .i64 lim, .int .i64 rnd]) ∧ Blk wr w3.heap.size 26 #[.slice Us us vs, .slice Uc uc vc, .slice Uk uk vk, .int .i64 ul, .int .i64 ur] ∧ Hid (wr.ownsRow w.heap.size 9 1 (.slice AL N cL) N ((tbL t).flatMap stC))) (fun i _ => N - (intOf i).toNat)
  case atStart => exact ⟨0, none, none, none, 0, 0, 0, 0, 0, 0, 0, 0, Nat.zero_le _, rfl, ⟨rfl, rfl⟩, OwnT.nil _ _, HB4.out, HZ4.out, HU4.out, HOL.out⟩
  clear HOL HB4 HZ4 HU4
  case round =>
    obtain ⟨k, Us, Uc, Uk, us, vs, uc, vc, uk, vk, ul, ur, hk', rfl, HLR, HO, hbl, HZR, z2, HOL⟩ := hrel
    by_cases hk : k < N
    case pos =>
      obtain ⟨A0, c0', he0, hnc0, hst0⟩ := own_sl stC 1 st0 stC_len HOL.out HLL.out.symm (by decide)
      injection he0 with y1 _ y2
      subst y1; subst y2
      obtain ⟨b, off, rfl, hlt, hat⟩ := hst0.2.2 (by omega)
      have q := hat k hk 0 _ rfl
      have hkW : k < (tbW t).length := by rw [← HNL.out]; exact hk
      have HCUT := Lib.hid (line_cut HE.out k hkW)
      have HSML := Lib.hid (line_small HE.out k hkW)
      have HWS := Lib.hid (words_small HE.out k hkW)
      have HST := Lib.hid (stT_step t k hkW)
      have HSZ := Lib.hid (stT_sz HE.out k (by omega))
      have HLN := Lib.hid (tb_lines HE.out _ (getD_mem (d := []) hkW))
      have HMX : Hid (∀ j, j < ((tbW t).getD k []).length → ((wsB ((tbW t).getD k [])).getD j st0).size ≤ 1000000) := fun j hj => by
        rw [wsB_get hj, mkB_size]
        have h1 := (cutR_size ((tbL t).getD k st0).data.toList).1
        rw [HCUT.out] at h1
        have := h1 _ (List.getElem_mem hj)
        omega
      generalize (tbL t).getD k st0 = ln at *
      generalize (tbW t).getD k [] = ws at *
      have KC := Lib.hid (fun W => cut_c ln W (by have := HSML.out; omega) (0, ws) (by unfold Hid; exact HCUT.out.symm))
      simp only [Nat.mul_one, Nat.add_zero] at q
      clear hat hst0 hnc0
      go_wp2_with fail
      refine (KC.out _).mono ?_
      rintro e w5 ⟨hcut | hcut, hb5⟩
      case inr => exact absurd rfl hcut.1
      obtain ⟨_, v, rfl, hov⟩ := hcut
      obtain ⟨A, c, rfl, hnc, hst⟩ := own_sl stC 1 st0 stC_len hov.2 hov.1 (by decide)
      have z5 := z2.t hb5
      have hB5 := bT hbl hb5
      have KP := Lib.hid (tstep_c (stT t k) k HSZ.out (by omega) Us Uc Uk us vs uc vc uk vk ul ur HLR.out A ws.length c (wsB ws) w5 (HO.out.below hb5).view hst hnc (by have := HWS.out; omega) HMX.out (HM.out.t hB5) (HT2.out.t hB5))
      have HB5 := Lib.hid hB5
      have HZ5 := Lib.hid (HZR.out.t hb5)
      have HO5 := Lib.hid (own_below HOL.out hb5)
      obtain ⟨p0, p1, p2, p3, p4⟩ := z5.all5
      have hpe := HLN.out.put
      clear KC hov hnc hst hB5 hbl HZR HOL HO HLR z2 q hb5
      go_wp2_with fail
      refine KP.out.mono ?_
      rintro e w6 ⟨hp | hp, hb6⟩
      case inr => exact absurd hpe hp.1
      obtain ⟨_, Us2, Uc2, Uk2, us2, vs2, uc2, vc2, uk2, vk2, ul2, ur2, rfl, hlr2, ho2⟩ := hp
      have HLR2 : Hid (ul2 = (stT t (k + 1)).lim ∧ ur2 = (stT t (k + 1)).rnd) := by rw [HST.out]; exact hlr2
      have HO2 : Hid (OwnT w6 w.heap.size (stT t (k + 1)).sch (stT t (k + 1)).cts (stT t (k + 1)).kds Us2 Uc2 Uk2 us2 vs2 uc2 vc2 uk2 vk2) := by rw [HST.out]; exact ho2.mono HB5.out.size
      have z6 := z5.t hb6
      obtain ⟨⟨p0, p1, p2, p3, p4⟩, f0, f1, f2, f3, f4⟩ := z6.a5g
      have HO9 := Lib.hid (HO2.out.set5 z6 (.slice Us2 us2 vs2) (.slice Uc2 uc2 vc2) (.slice Uk2 uk2 vk2) (.int .i64 ul2) (.int .i64 ur2))
      have HB9 := Lib.hid (bS5s (bT HB5.out hb6) (Nat.le_of_lt hne) (.slice Us2 us2 vs2) (.slice Uc2 uc2 vc2) (.slice Uk2 uk2 vk2) (.int .i64 ul2) (.int .i64 ur2))
      have HU9 := Lib.hid (z6.set5 (.slice Us2 us2 vs2) (.slice Uc2 uc2 vc2) (.slice Uk2 uk2 vk2) (.int .i64 ul2) (.int .i64 ur2))
      have HZ9 := Lib.hid ((HZ5.out.t hb6).set5O (by omega : w.heap.size ≠ w3.heap.size) (.slice Us2 us2 vs2) (.slice Uc2 uc2 vc2) (.slice Uk2 uk2 vk2) (.int .i64 ul2) (.int .i64 ur2))
      have HL9 := Lib.hid (own_set5 (own_below HO5.out hb6) z6 (by decide) (.slice Us2 us2 vs2) (.slice Uc2 uc2 vc2) (.slice Uk2 uk2 vk2) (.int .i64 ul2) (.int .i64 ur2))
      clear hlr2 ho2 hb6 z6 z5 KP HB5 HZ5 HO5 hpe HO2
      go_wp2_with fail
      go_roundw
      case rel => exact ⟨k + 1, Us2, Uc2, Uk2, us2, vs2, uc2, vc2, uk2, vk2, ul2, ur2, by omega, by go_num, HLR2.out, HO9.out, HB9.out, HZ9.out, HU9.out, HL9.out⟩
      case measure => simp [intOf]; omega
    obtain rfl : k = N := by omega
    have HEND : Hid (stT t k = ⟨sch, cts, kds, lim, rnd⟩) := by unfold Hid; rw [HNL.out, stT_end HE.out]; exact HTT.out
    have ho := HO.out
    rw [HEND.out] at ho
    obtain rfl : ul = lim := HLR.out.1.trans (by rw [HEND.out])
    obtain rfl : ur = rnd := HLR.out.2.trans (by rw [HEND.out])
    have HV := Lib.hid ho
    have HZ2' := Lib.hid z2
    have HBL := Lib.hid hbl
    have HE2 : Hid (tbE ⟨sch, cts, kds, ul, ur⟩ = 0) := by rw [← HTT.out]; exact HE.out
    have KSame : Hid (∀ W, Below wr.heap.size wr W → Calls Tryz.prog 24 #[.agg #[.slice As ns cs, .slice Ac nc cc, .slice Ak nk ck, .int .i64 ul, .int .i64 ur], .agg #[.slice Us us vs, .slice Uc uc vc, .slice Uk uk vk, .int .i64 ul, .int .i64 ur]] W fun e w' => e = .returned (.bool true) ∧ Below W.heap.size W w') := fun W hW => by
      have v := (HV.out.below hW).view
      have h := HH.out
      have hb := bT HBL.out hW
      refine (tsame_p sch sch cts cts kds kds ul ur ul ur As Ac Ak Us Uc Uk ns cs nc cc nk ck us vs uc vc uk vk W (h.s.below hb) (h.c.below hb) (h.k.below hb) v.s v.c v.k).mono ?_
      rintro e w' ⟨r, ⟨rfl, hr⟩, hb⟩
      exact ⟨by rw [hr.2 rfl], hb⟩
    have KCheck : Hid (∀ W, Below wr.heap.size wr W → Calls Tryz.prog 14 #[.agg #[.slice Us us vs, .slice Uc uc vc, .slice Uk uk vk, .int .i64 ul, .int .i64 ur]] W fun e w' => e = .returned (.int .i64 0) ∧ Below W.heap.size W w') := fun W hW => by
      have v := (HV.out.below hW).view
      exact xcheck_c sch cts kds Us Uc Uk us vs uc vc uk vk ul ur W v.s v.c v.cc v.k v.ck 0 (by unfold Hid; exact HE2.out.symm)
    have hsm := HSM.out (by first | trivial | rfl)
    have KClone : Hid (∀ W, Below wr.heap.size wr W → Calls Tryz.prog 25 #[.agg #[.slice As ns cs, .slice Ac nc cc, .slice Ak nk ck, .int .i64 ul, .int .i64 ur]] W (CloneR sch cts kds ns nc nk ul ur W)) := fun W hW => by
      have h := HH.out
      have hb := bT HBL.out hW
      have e1 := h.s.1
      have e2 := h.c.1
      have e3 := h.k.1
      have g1 := hsm.s
      have g2 := hsm.c
      have g3 := hsm.k
      exact tclone_c sch cts kds As Ac Ak ns cs nc cc nk ck ul ur W (h.s.below hb) (h.c.below hb) (h.k.below hb) ⟨by omega, by omega, by omega⟩ ⟨fun j hj => by have := hsm.sl j (by omega); omega, fun j hj => by have := (hsm.cl j (by omega)).1; omega⟩
    have KSame2 : Hid (∀ (W W0 : World) (Ds Dc Dk : Option Addr) (es ec ek base : Nat), Below wr.heap.size wr W → OwnT W0 base sch cts kds Ds Dc Dk ns es nc ec nk ek → Below W0.heap.size W0 W → Calls Tryz.prog 24 #[.agg #[.slice Us us vs, .slice Uc uc vc, .slice Uk uk vk, .int .i64 ul, .int .i64 ur], .agg #[.slice Ds ns es, .slice Dc nc ec, .slice Dk nk ek, .int .i64 ul, .int .i64 ur]] W fun e w' => e = .returned (.bool true) ∧ Below W.heap.size W w') := fun W W0 Ds Dc Dk es ec ek base hW ho hb => by
      have v := (HV.out.below hW).view
      have u := (ho.below hb).view
      refine (tsame_p sch sch cts cts kds kds ul ur ul ur Us Uc Uk Ds Dc Dk us vs uc vc uk vk ns es nc ec nk ek W v.s v.c v.k u.s u.c u.k).mono ?_
      rintro e w' ⟨r, ⟨rfl, hr⟩, hb⟩
      exact ⟨by rw [hr.2 rfl], hb⟩
    have G : Hid (∀ W, Below wr.heap.size wr W → Below wr.heap.size wr W ∧ (W.cell? ⟨w.heap.size, 0, none⟩ = some (.slice As ns cs) ∧ W.cell? ⟨w.heap.size, 1, none⟩ = some (.slice Ac nc cc) ∧ W.cell? ⟨w.heap.size, 2, none⟩ = some (.slice Ak nk ck) ∧ W.cell? ⟨w.heap.size, 3, none⟩ = some (.int .i64 ul) ∧ W.cell? ⟨w.heap.size, 4, none⟩ = some (.int .i64 ur)) ∧ (W.cell? ⟨w3.heap.size, 0, none⟩ = some (.slice Us us vs) ∧ W.cell? ⟨w3.heap.size, 1, none⟩ = some (.slice Uc uc vc) ∧ W.cell? ⟨w3.heap.size, 2, none⟩ = some (.slice Uk uk vk) ∧ W.cell? ⟨w3.heap.size, 3, none⟩ = some (.int .i64 ul) ∧ W.cell? ⟨w3.heap.size, 4, none⟩ = some (.int .i64 ur))) := fun W hW => ⟨hW, (HZR.out.t hW).all5, (HZ2'.out.t hW).all5⟩
    clear ho HO HLR z2 hbl HOL hk hk' HEND hsm
    go_wp2_with fail
    go_region_held3 (fun W => Below wr.heap.size wr W ∧ (W.cell? ⟨w.heap.size, 0, none⟩ = some (.slice As ns cs) ∧ W.cell? ⟨w.heap.size, 1, none⟩ = some (.slice Ac nc cc) ∧ W.cell? ⟨w.heap.size, 2, none⟩ = some (.slice Ak nk ck) ∧ W.cell? ⟨w.heap.size, 3, none⟩ = some (.int .i64 ul) ∧ W.cell? ⟨w.heap.size, 4, none⟩ = some (.int .i64 ur)) ∧ (W.cell? ⟨w3.heap.size, 0, none⟩ = some (.slice Us us vs) ∧ W.cell? ⟨w3.heap.size, 1, none⟩ = some (.slice Uc uc vc) ∧ W.cell? ⟨w3.heap.size, 2, none⟩ = some (.slice Uk uk vk) ∧ W.cell? ⟨w3.heap.size, 3, none⟩ = some (.int .i64 ul) ∧ W.cell? ⟨w3.heap.size, 4, none⟩ = some (.int .i64 ur)))
      (first | assumption | exact G.out _ (b0 _).drew | (exact sK G.out (by assumption) (by assumption)))
      (first
        | (go_at_call 14; (with_reducible refine (KCheck.out _ (show Below wr.heap.size wr _ ∧ _ ∧ _ from by assumption).1).mono ?_); rintro e w8 ⟨rfl, hb1⟩)
        | (go_at_call 25; (with_reducible refine (KClone.out _ (show Below wr.heap.size wr _ ∧ _ ∧ _ from by assumption).1).mono ?_); rintro e w9 ⟨⟨Ds, es, Dc, ec, Dk, ek, rfl, ho9⟩, hb1⟩)
        | (go_at_call 24; (with_reducible refine (KSame.out _ (show Below wr.heap.size wr _ ∧ _ ∧ _ from by assumption).1).mono ?_); rintro e w8 ⟨rfl, hb1⟩)
        | (go_at_call 24; (with_reducible refine (KSame2.out _ w9 _ _ _ _ _ _ _ (show Below wr.heap.size wr _ ∧ _ ∧ _ from by assumption).1 ho9 (by first | exact b0 _ | exact (b0 _).drew | exact (b0 _).drew.drew)).mono ?_); rintro e w8 ⟨rfl, hb1⟩))
    all_goals
      have hS := (show Below wr.heap.size wr _ ∧ _ ∧ _ from by assumption).1
      have HBF := Lib.hid (bT HBL.out hS)
      clear hS
      go_wp2_with fail
      go_ret
      exact ⟨rfl, HBF.out⟩
--%%
end Go.Proofs.YtbliblhipecgfaaGreatDoor
