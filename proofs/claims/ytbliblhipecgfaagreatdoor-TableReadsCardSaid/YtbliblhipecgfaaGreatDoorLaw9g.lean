/-
  The walk of TableReads. Conditions as named.
-/
import Derived.Test.YtbliblhipecgfaaGreatDoorTRead
import Derived.Test.YtbliblhipecgfaaGreatDoorTSmall
import Derived.Test.YtbliblhipecgfaaGreatDoorTWrong
import Derived.Test.YtbliblhipecgfaaGreatDoorSame2
namespace Go.Proofs.YtbliblhipecgfaaGreatDoor
set_option linter.unusedVariables false
open Go.RowKit
/-- what Read answers, in letters -/
def ReadQ (L : List ByteArray) (n : Nat) (U : Tb) (at' er : Int) : Prop :=
  (∃ k, k < n ∧ (∀ j, j < k → rdX L j = 0) ∧ rdX L k ≠ 0 ∧ at' = (k : Int) + 1 ∧ er = rdX L k ∧ U = tb0) ∨
  ((∀ j, j < n → rdX L j = 0) ∧ tbE (rdS L n) ≠ 0 ∧ at' = 0 ∧ er = tbE (rdS L n) ∧ U = tb0) ∨
  ((∀ j, j < n → rdX L j = 0) ∧ tbE (rdS L n) = 0 ∧ at' = 0 ∧ er = 0 ∧ U = rdS L n)
def ReadU (L : List ByteArray) (n : Nat) (w : World) (e : Ending) (w' : World) : Prop :=
  (∃ (U : Tb) (at' er : Int) (Us Uc Uk : Option Addr) (us vs uc vc uk vk : Nat) (ul ur : Int), e = .returned (.tuple #[.agg #[.slice Us us vs, .slice Uc uc vc, .slice Uk uk vk, .int .i64 ul, .int .i64 ur], .int .i64 at', .int .i64 er]) ∧ (ul = U.lim ∧ ur = U.rnd) ∧ OwnT w' w.heap.size U.sch U.cts U.kds Us Uc Uk us vs uc vc uk vk ∧ ReadQ L n U at' er) ∧ Below w.heap.size w w'
theorem readU {L : List ByteArray} {n : Nat} {w w' : World} {e : Ending} (h : ReadL L n w e w') : ReadU L n w e w' := by
  obtain ⟨⟨k, hk, h1, h2, rfl⟩ | ⟨h1, h2, rfl⟩ | ⟨h1, h2, Us, Uc, Uk, us, vs, uc, vc, uk, vk, ul, ur, rfl, h3, h4⟩, hb⟩ := h
  · exact ⟨⟨tb0, _, _, none, none, none, 0, 0, 0, 0, 0, 0, 0, 0, rfl, ⟨rfl, rfl⟩, OwnT.nil _ _, Or.inl ⟨k, hk, h1, h2, rfl, rfl, rfl⟩⟩, hb⟩
  · exact ⟨⟨tb0, _, _, none, none, none, 0, 0, 0, 0, 0, 0, 0, 0, rfl, ⟨rfl, rfl⟩, OwnT.nil _ _, Or.inr (Or.inl ⟨h1, h2, rfl, rfl, rfl⟩)⟩, hb⟩
  · exact ⟨⟨rdS L n, _, _, Us, Uc, Uk, us, vs, uc, vc, uk, vk, ul, ur, rfl, h3, h4, Or.inr (Or.inr ⟨h1, h2, rfl, rfl, rfl⟩)⟩, hb⟩
theorem read_first {L : List ByteArray} {n : Nat} {U : Tb} {at' er : Int} (h : ReadQ L n U at' er) {k : Nat} (hk : k < n) (h0 : ∀ j, j < k → rdX L j = 0) (h1 : rdX L k ≠ 0) : at' = (k : Int) + 1 ∧ er = rdX L k ∧ U = tb0 := by
  rcases h with ⟨k2, hk2, g0, g1, e1, e2, e3⟩ | ⟨g0, _⟩ | ⟨g0, _⟩
  · have : k2 = k := by
      rcases Nat.lt_trichotomy k2 k with h | h | h
      · exact absurd (h0 k2 h) g1
      · exact h
      · exact absurd (g0 k h) h1
    subst this
    exact ⟨e1, e2, e3⟩
  · exact absurd (g0 k hk) h1
  · exact absurd (g0 k hk) h1
theorem read_end {L : List ByteArray} {n : Nat} {U : Tb} {at' er : Int} (h : ReadQ L n U at' er) (h0 : ∀ j, j < n → rdX L j = 0) : at' = 0 ∧ er = tbE (rdS L n) ∧ (tbE (rdS L n) ≠ 0 → U = tb0) ∧ (tbE (rdS L n) = 0 → U = rdS L n) := by
  rcases h with ⟨k2, hk2, g0, g1, _⟩ | ⟨_, g1, e1, e2, e3⟩ | ⟨_, g1, e1, e2, e3⟩
  · exact absurd (h0 k2 hk2) g1
  · exact ⟨e1, e2, fun _ => e3, fun h => absurd h g1⟩
  · exact ⟨e1, e2.trans g1.symm, fun h => absurd g1 h, fun _ => e3⟩
/-! ### a table's own lines, read -/
theorem put_more (u : Tb) (L : List ByteArray) : u.sch.length ≤ (putV u L).sch.length ∧ u.cts.length ≤ (putV u L).cts.length ∧ u.kds.length ≤ (putV u L).kds.length := by
  unfold putV
  split
  · exact ⟨Nat.le_refl _, Nat.le_refl _, Nat.le_refl _⟩
  split
  · exact ⟨Nat.le_refl _, Nat.le_refl _, Nat.le_refl _⟩
  split
  · exact ⟨by simp, Nat.le_refl _, Nat.le_refl _⟩
  split
  · exact ⟨Nat.le_refl _, by simp, Nat.le_refl _⟩
  · exact ⟨Nat.le_refl _, Nat.le_refl _, by simp⟩
theorem stT_le {t : Tb} (h : tbE t = 0) : ∀ d k, k + d = (tbW t).length → (stT t k).sch.length ≤ t.sch.length ∧ (stT t k).cts.length ≤ t.cts.length ∧ (stT t k).kds.length ≤ t.kds.length := by
  intro d
  induction d with
  | zero =>
    intro k hk
    rw [show k = (tbW t).length by omega, stT_end h]
    exact ⟨Nat.le_refl _, Nat.le_refl _, Nat.le_refl _⟩
  | succ d ih =>
    intro k hk
    have h1 := ih (k + 1) (by omega)
    rw [stT_step t k (by omega)] at h1
    have h2 := put_more (stT t k) (wsB ((tbW t).getD k []))
    omega
theorem rd_own {t : Tb} (h : tbE t = 0) : ∀ k, k ≤ (tbW t).length → rdS (tbL t) k = stT t k ∧ ∀ j, j < k → rdX (tbL t) j = 0 := by
  intro k
  induction k with
  | zero => intro _; exact ⟨rfl, fun j hj => absurd hj (Nat.not_lt_zero _)⟩
  | succ k ih =>
    intro hk
    obtain ⟨i1, i2⟩ := ih (by omega)
    have hc := line_cut h k (by omega)
    have ln := tb_lines h _ (getD_mem (d := []) (by omega : k < (tbW t).length))
    have hne : (tbW t).getD k [] ≠ [] := fun e => by have := ln.two; rw [e] at this; simp at this
    have e1 : rdS (tbL t) (k + 1) = stT t (k + 1) := by
      show lnNext (rdS (tbL t) k) ((tbL t).getD k st0) = _
      unfold lnNext
      rw [hc, if_neg hne, i1, stT_step t k (by omega)]
    refine ⟨e1, fun j hj => ?_⟩
    rcases (by omega : j = k ∨ j < k) with rfl | hj
    · unfold rdX lnErr
      obtain ⟨_, s8, c6, k12, _⟩ := tbE_ok h
      have hle := stT_le h ((tbW t).length - (j + 1)) (j + 1) (by omega)
      rw [stT_step t j (by omega)] at hle
      rw [hc, if_neg (fun h => h rfl), if_neg hne, if_neg (by rw [ln.put]; decide), i1, if_neg (by dsimp only; omega)]
    · exact i2 j hj
--%%
set_option maxRecDepth 100000 in
set_option maxHeartbeats 12800000 in
theorem tableReads_row (sch : List (List Bd)) (cts : List Ct) (kds : List Kd) (As Ac Ak : Option Addr) (ns cs nc cc nk ck : Nat) (lim rnd : Int) (A : Option Addr) (n c : Nat) (L : List ByteArray) (w : World) (h : TbIn w sch cts kds As Ac Ak ns cs nc cc nk ck) (hl : StSl w A n L ∧ ∀ k, k < n → (L.getD k st0).size ≤ 9223372036854775807) (htab : Tab w) (htab2 : TabS w) (hml : ML w) :
    Calls Tryz.prog 10 #[.agg #[.slice As ns cs, .slice Ac nc cc, .slice Ak nk ck, .int .i64 lim, .int .i64 rnd], .slice A n c] w fun e w' => e = .returned (.bool true) ∧ Below w.heap.size w w' := by
  obtain ⟨t, ht⟩ : ∃ t : Tb, t = ⟨sch, cts, kds, lim, rnd⟩ := ⟨_, rfl⟩
  have hb0 := below1 w (.cells #[.slice As ns cs, .slice Ac nc cc, .slice Ak nk ck, .int .i64 lim, .int .i64 rnd] 26)
  have HB0 := Lib.hid hb0
  have HZ := Lib.hid (Blk.mk w 26 #[.slice As ns cs, .slice Ac nc cc, .slice Ak nk ck, .int .i64 lim, .int .i64 rnd])
  have HH := Lib.hid h
  have HT := Lib.hid htab
  have HT2 := Lib.hid htab2
  have HM := Lib.hid hml
  have HL := Lib.hid hl.1
  have HNL := Lib.hid hl.1.1
  have HSZ := Lib.hid hl.2
  have hn9 := hl.1.2.1
  have KB := Lib.hid (builds_c _ (hml.t hb0) (htab2.t hb0) (htab.t hb0))
  have KS : Hid (∀ W, Below w.heap.size w W → Calls Tryz.prog 12 #[.agg #[.slice As ns cs, .slice Ac nc cc, .slice Ak nk ck, .int .i64 lim, .int .i64 rnd]] W (SmallR sch cts kds W)) := fun W hW => small_c sch cts kds As Ac Ak ns cs nc cc nk ck lim rnd W (h.s.below hW) (h.c.below hW) (h.k.below hW)
  obtain ⟨r, hr⟩ : ∃ r, r = tbE t := ⟨_, rfl⟩
  have KW : Hid (∀ W, Below w.heap.size w W → Calls Tryz.prog 13 #[.agg #[.slice As ns cs, .slice Ac nc cc, .slice Ak nk ck, .int .i64 lim, .int .i64 rnd]] W fun e w' => e = .returned (.int .i64 r) ∧ Below W.heap.size W w') := fun W hW => wrong_c sch cts kds As Ac Ak ns cs nc cc nk ck lim rnd W (h.s.below hW) (h.c.below hW) (h.k.below hW) r (by unfold Hid; rw [hr, ht])
  have KL : Hid (∀ W, Below w.heap.size w W → Calls Tryz.prog 15 #[.agg #[.slice As ns cs, .slice Ac nc cc, .slice Ak nk ck, .int .i64 lim, .int .i64 rnd]] W (LinesR t W)) := fun W hW => by
    have := tlines_c t As Ac Ak ns cs nc cc nk ck W (by rw [ht]; exact ⟨h.s.below hW, h.c.below hW, h.k.below hW, h.cs, h.cc, h.ck⟩) (htab.t hW) (htab2.t hW)
    rw [ht] at this ⊢
    exact this
  have HR := Lib.hid hr
  have HTT := Lib.hid ht
  clear hb0 h htab htab2 hml hl hr ht
  go_enter Tryz.func10, Tryz.ntmps10
  go_wp2_with fail
  refine KB.out.mono ?_
  rintro e w1 ⟨⟨Bs, ds, Bc, dc, Bk, dk, rfl, _⟩, hb1⟩
  simp only [tbV]
  have HB1 := Lib.hid (bA (bT HB0.out hb1) (.cells #[.slice Bs 1 ds, .slice Bc 1 dc, .slice Bk 2 dk, .int .i64 5000, .int .i64 1] 26))
  have HZ1 := Lib.hid ((HZ.out.t hb1).alloc (.cells #[.slice Bs 1 ds, .slice Bc 1 dc, .slice Bk 2 dk, .int .i64 5000, .int .i64 1] 26))
  obtain ⟨p0, p1, p2, p3, p4⟩ := HZ1.out.all5
  clear KB HZ hb1
  go_wp2_with fail
  refine (KS.out _ HB1.out).mono ?_
  rintro e w2 ⟨b, ⟨rfl, hsm⟩, hb2⟩
  have HB2 := Lib.hid (bT HB1.out hb2)
  have HZ2 := Lib.hid (HZ1.out.t hb2)
  clear hb2 p0 p1 p2 p3 p4 KS hsm
  cases b
  · go_wp2_with fail
    go_ret
    exact ⟨rfl, HB2.out⟩
  by_cases h40 : 60 < n
  · have v : decide ((60 : Int) < (n : Int)) = true := by simp; omega
    clear h40
    go_wp2_with fail
    go_ret
    exact ⟨rfl, HB2.out⟩
  have v : decide ((60 : Int) < (n : Int)) = false := by simp; omega
  obtain ⟨p0, p1, p2, p3, p4⟩ := HZ2.out.all5
  go_wp2_with fail
  refine (KW.out _ HB2.out).mono ?_
  rintro e w3 ⟨rfl, hb3⟩
  have HB3 := Lib.hid (bT HB2.out hb3)
  have HZ3 := Lib.hid (HZ2.out.t hb3)
  clear hb3 p0 p1 p2 p3 p4 KW
  have KRead : Hid (∀ W, Below w.heap.size w W → Calls Tryz.prog 28 #[.slice A n c] W (ReadU L n W)) := fun W hW => (tread_c2 L A n c W (RowSl.below HL.out hW) HSZ.out (by omega) (HM.out.t hW) (HT2.out.t hW)).mono fun e w' h => readU h
  by_cases h0 : r = 0
  case neg =>
    have v0 : (r == 0) = false := by simpa using h0
    have HB4 := HB3
    obtain ⟨wS, hwS⟩ : ∃ wS : World, wS = w3 := ⟨_, rfl⟩
    subst hwS
    clear h0 HR
    have HBW := Lib.hid (bA HB4.out (.cells #[.slice none 0 0, .slice none 0 0, .slice none 0 0, .int .i64 0, .int .i64 0] 26))
    have HW := Lib.hid (Blk.mk wS 26 #[.slice none 0 0, .slice none 0 0, .slice none 0 0, .int .i64 0, .int .i64 0])
    have KRX := Lib.hid (KRead.out _ HBW.out)
    clear KRead
    go_wp2_with fail
    refine KRX.out.mono ?_
    rintro e w6 ⟨⟨U, at', er, Us, Uc, Uk, us, vs, uc, vc, uk, vk, ul, ur, rfl, hlr, ho, hq⟩, hb6⟩
    have hlt1 : wS.heap.size < w6.heap.size := by
      have := hb6.size
      rw [World.size_alloc] at this
      omega
    have hlw : w.heap.size ≤ wS.heap.size := HB4.out.size
    have HQ := Lib.hid hq
    have HULR := Lib.hid hlr
    have HOU := Lib.hid ((ho.mono (by rw [World.size_alloc]; omega : w.heap.size ≤ (wS.alloc (.cells #[.slice none 0 0, .slice none 0 0, .slice none 0 0, .int .i64 0, .int .i64 0] 26)).heap.size)).below (below1 w6 (.cells #[.slice Us us vs, .slice Uc uc vc, .slice Uk uk vk, .int .i64 ul, .int .i64 ur] 26)))
    have HB6 := Lib.hid (bA (bT HBW.out hb6) (.cells #[.slice Us us vs, .slice Uc uc vc, .slice Uk uk vk, .int .i64 ul, .int .i64 ur] 26))
    have HW6 := Lib.hid ((HW.out.t hb6).alloc (.cells #[.slice Us us vs, .slice Uc uc vc, .slice Uk uk vk, .int .i64 ul, .int .i64 ur] 26))
    have HU6 := Lib.hid (Blk.mk w6 26 #[.slice Us us vs, .slice Uc uc vc, .slice Uk uk vk, .int .i64 ul, .int .i64 ur])
    clear KRX hlr ho hq hb6 HBW HW
    go_wp2_with fail
    go_loopw [63] (fun i wr => ∃ (k : Nat) (Ws Wc Wk : Option Addr) (ws1 xs wc1 xc wk1 xk : Nat) (wl wn : Int), k ≤ n ∧ i = .int .i64 k ∧ Hid (wl = (rdS L k).lim ∧ wn = (rdS L k).rnd) ∧ Hid (OwnT wr w.heap.size (rdS L k).sch (rdS L k).cts (rdS L k).kds Ws Wc Wk ws1 xs wc1 xc wk1 xk) ∧ Below w.heap.size w wr ∧ Blk wr wS.heap.size 26 #[.slice Ws ws1 xs, .slice Wc wc1 xc, .slice Wk wk1 xk, .int .i64 wl, .int .i64 wn] ∧ Hid (Blk wr w6.heap.size 26 #[.slice Us us vs, .slice Uc uc vc, .slice Uk uk vk, .int .i64 ul, .int .i64 ur]) ∧ Hid (OwnT wr w.heap.size U.sch U.cts U.kds Us Uc Uk us vs uc vc uk vk) ∧ Hid (∀ j, j < k → rdX L j = 0)) (fun i _ => n - (intOf i).toNat)
    case atStart => exact ⟨0, none, none, none, 0, 0, 0, 0, 0, 0, 0, 0, Nat.zero_le _, rfl, ⟨rfl, rfl⟩, OwnT.nil _ _, HB6.out, HW6.out, HU6.out, HOU.out, fun j hj => absurd hj (Nat.not_lt_zero _)⟩
    clear HB6 HW6 HU6 HOU
    case round =>
      obtain ⟨k, Ws, Wc, Wk, ws1, xs, wc1, xc, wk1, xk, wl, wn, hk', rfl, HLR, HO, hbl, z2, HU, HOU, HX⟩ := hrel
      have KZ : Hid (U = tb0 → ∀ (W0 W : World), OwnT W0 w.heap.size U.sch U.cts U.kds Us Uc Uk us vs uc vc uk vk → Below W0.heap.size W0 W → Calls Tryz.prog 24 #[.agg #[.slice Us us vs, .slice Uc uc vc, .slice Uk uk vk, .int .i64 ul, .int .i64 ur], .agg #[.slice none 0 0, .slice none 0 0, .slice none 0 0, .int .i64 0, .int .i64 0]] W fun e w' => e = .returned (.bool true) ∧ Below W.heap.size W w') := fun hU W0 W ho hW => by
        have v := (ho.below hW).view
        have u := (OwnT.nil W 0).view
        refine (tsame_p U.sch [] U.cts [] U.kds [] ul ur 0 0 Us Uc Uk none none none us vs uc vc uk vk 0 0 0 0 0 0 W v.s v.c v.k u.s u.c u.k).mono ?_
        rintro e w' ⟨r, ⟨rfl, hr⟩, hb⟩
        refine ⟨by rw [hr.2 (by rw [HULR.out.1, HULR.out.2, hU]; rfl)], hb⟩
      by_cases hk : k < n
      case pos =>
        obtain ⟨b, off, rfl, hlt, hat⟩ := (HL.out.below hbl).2.2 (by omega)
        have q := hat k hk 0 _ rfl
        have hz := HSZ.out k hk
        have HSTOP : Hid (∀ v, rdX L k = v → v ≠ 0 → at' = (k : Int) + 1 ∧ er = v ∧ U = tb0) := fun v h h0 => by
          subst h
          exact read_first HQ.out hk HX.out h0
        have HGO : Hid (rdX L k = 0 → ∀ j, j < k + 1 → rdX L j = 0) := fun h j hj => by
          rcases (by omega : j = k ∨ j < k) with rfl | hj
          · exact h
          · exact HX.out j hj
        have HXU : Hid (rdX L k = lnErr (rdS L k) (L.getD k st0)) := rfl
        have HSU : Hid (rdS L (k + 1) = lnNext (rdS L k) (L.getD k st0)) := rfl
        have HSZT := Lib.hid (rdS_sz L k)
        generalize L.getD k st0 = sk at *
        generalize rdS L k = u at *
        simp only [Nat.mul_one, Nat.add_zero] at q
        clear hat
        by_cases h600 : 600 < sk.size
        · have v6 : decide ((600 : Int) < (sk.size : Int)) = true := by simp; omega
          clear h600
          go_wp2_with fail
          go_ret
          exact ⟨rfl, hbl⟩
        have v6 : decide ((600 : Int) < (sk.size : Int)) = false := by simp; omega
        have HWF := Lib.hid (ws_few sk)
        have HWS := Lib.hid (ws_size sk)
        obtain ⟨R, hR⟩ : ∃ R, R = cutR sk.data.toList := ⟨_, rfl⟩
        have KC := Lib.hid (fun W => cut_any sk W hz R hR)
        unfold lnErr at HXU
        unfold lnNext at HSU
        rw [← hR] at HXU HSU HWF HWS
        obtain ⟨re, ws⟩ := R
        dsimp only at HXU HSU HWF HWS
        clear hR HX h600
        go_wp2_with fail
        refine (KC.out _).mono ?_
        rintro e w7 ⟨hcut | hcut, hb7⟩
        case inr =>
          obtain ⟨h0, rfl⟩ := hcut
          dsimp only at h0
          have v0 : (re != 0) = true := by simpa using h0
          have v1 : (re == 0) = false := by simpa using h0
          obtain ⟨ea, eb, ec⟩ := HSTOP.out re (HXU.out.trans (if_pos h0)) h0
          have hB7 := bT hbl hb7
          have hU7 := HU.out.t hb7
          have KZ1 := Lib.hid (KZ.out ec wr w7 HOU.out hb7)
          have HB7 := Lib.hid hB7
          obtain ⟨u0, u1, u2, u3, u4⟩ := hU7.all5
          have v7 : (er == re) = true := by simpa using eb
          have HEA := Lib.hid ea
          subst ea
          clear eb ec hU7 hB7
          go_wp2_with fail
          refine KZ1.out.mono ?_
          rintro e w9 ⟨rfl, hb9⟩
          have HB9 := Lib.hid (bT HB7.out hb9)
          clear hb9
          go_wp2_with fail
          go_ret
          exact ⟨rfl, HB9.out⟩
        obtain ⟨h0, v, rfl, hov⟩ := hcut
        dsimp only at h0
        subst h0
        obtain ⟨A2, c2, rfl, hnc, hst⟩ := own_sl stC 1 st0 stC_len hov.2 hov.1 (by decide)
        have HXU2 := Lib.hid (HXU.out.trans (if_neg (by decide)))
        have hB5 := bT hbl hb7
        have HU5 := Lib.hid (HU.out.t hb7)
        have z5 := z2.t hb7
        have HO5 := Lib.hid (HO.out.below hb7)
        have HOU5 := Lib.hid (HOU.out.below hb7)
        by_cases hw0 : ws = []
        case pos =>
          subst hw0
          have HG := Lib.hid (HGO.out (HXU2.out.trans (if_pos rfl)))
          have HSN : Hid (rdS L (k + 1) = u) := HSU.out.trans (if_pos rfl)
          have HLR2 : Hid (wl = (rdS L (k + 1)).lim ∧ wn = (rdS L (k + 1)).rnd) := by rw [HSN.out]; exact HLR.out
          have HO2 : Hid (OwnT w7 w.heap.size (rdS L (k + 1)).sch (rdS L (k + 1)).cts (rdS L (k + 1)).kds Ws Wc Wk ws1 xs wc1 xc wk1 xk) := by rw [HSN.out]; exact HO5.out
          clear HSTOP HGO HXU HSU HXU2 HSN hov hnc hst
          go_wp2_with fail
          go_roundw
          case rel => exact ⟨k + 1, Ws, Wc, Wk, ws1, xs, wc1, xc, wk1, xk, wl, wn, by omega, by go_num, HLR2.out, HO2.out, hB5, z5, HU5.out, HOU5.out, HG.out⟩
          case measure => simp [intOf]; omega
        have HXU3 := Lib.hid (HXU2.out.trans (if_neg hw0))
        have HSN : Hid (rdS L (k + 1) = putV u (wsB ws)) := HSU.out.trans (if_neg hw0)
        have hpos : 0 < ws.length := List.length_pos_iff.2 hw0
        have KP := Lib.hid (tstep_c u k HSZT.out (by omega) Ws Wc Wk ws1 xs wc1 xc wk1 xk wl wn HLR.out A2 ws.length c2 (wsB ws) w7 (HO5.out.view) hst hnc (by have := HWF.out; unfold wsB at this; rw [List.length_map] at this; exact this) HWS.out (HM.out.t hB5) (HT2.out.t hB5))
        have HB5 := Lib.hid hB5
        have vl : ((ws.length : Int) == 0) = false := by simp; omega
        obtain ⟨p0, p1, p2, p3, p4⟩ := z5.all5
        have hws5 : ws.length ≤ 1000 := by have := HWF.out; unfold wsB at this; rw [List.length_map] at this; exact this
        clear KC hov hnc hst hB5 hbl HU HO HOU z2 q hb7 HXU HSU HXU2 hw0 HO5
        generalize hnw : ws.length = nw at *
        clear hnw
        go_wp2_with fail
        refine KP.out.mono ?_
        rintro e w8 ⟨hp | hp, hb8⟩
        case inr =>
          obtain ⟨h0, rfl⟩ := hp
          obtain ⟨ea, eb, ec⟩ := HSTOP.out (putE nw (wsB ws)) (HXU3.out.trans (if_pos h0)) h0
          generalize putE nw (wsB ws) = re at *
          have v0 : (re != 0) = true := by simpa using h0
          have v1 : (re == 0) = false := by simpa using h0
          have z6 := z5.t hb8
          obtain ⟨⟨p0, p1, p2, p3, p4⟩, f0, f1, f2, f3, f4⟩ := z6.a5g
          have hB7 := bS5s (bT HB5.out hb8) hlw (.slice Ws ws1 xs) (.slice Wc wc1 xc) (.slice Wk wk1 xk) (.int .i64 wl) (.int .i64 wn)
          have hU7 := (HU5.out.t hb8).set5O (by omega : w6.heap.size ≠ wS.heap.size) (.slice Ws ws1 xs) (.slice Wc wc1 xc) (.slice Wk wk1 xk) (.int .i64 wl) (.int .i64 wn)
          have hO7 := (HOU5.out.below hb8).set5 z6 (.slice Ws ws1 xs) (.slice Wc wc1 xc) (.slice Wk wk1 xk) (.int .i64 wl) (.int .i64 wn)
          have KZ1 := Lib.hid (KZ.out ec _ _ hO7 (b0 _))
          clear hO7
          have HB7 := Lib.hid hB7
          obtain ⟨u0, u1, u2, u3, u4⟩ := hU7.all5
          have v7 : (er == re) = true := by simpa using eb
          have HEA := Lib.hid ea
          subst ea
          clear eb ec hU7 hB7
          go_wp2_with fail
          refine KZ1.out.mono ?_
          rintro e w9 ⟨rfl, hb9⟩
          have HB9 := Lib.hid (bT HB7.out hb9)
          clear hb9
          go_wp2_with fail
          go_ret
          exact ⟨rfl, HB9.out⟩
        obtain ⟨h0, Ws2, Wc2, Wk2, ws2, xs2, wc2, xc2, wk2, xk2, wl2, wn2, rfl, hlr2, ho2⟩ := hp
        have hln := ho2.len
        have HXU4 := Lib.hid (HXU3.out.trans (if_neg (fun h => h h0)))
        rw [← hln.1, ← hln.2.1, ← hln.2.2] at HXU4
        have HLR2 : Hid (wl2 = (rdS L (k + 1)).lim ∧ wn2 = (rdS L (k + 1)).rnd) := by rw [HSN.out]; exact hlr2
        have HO2 : Hid (OwnT w8 w.heap.size (rdS L (k + 1)).sch (rdS L (k + 1)).cts (rdS L (k + 1)).kds Ws2 Wc2 Wk2 ws2 xs2 wc2 xc2 wk2 xk2) := by rw [HSN.out]; exact ho2.mono HB5.out.size
        have z6 := z5.t hb8
        obtain ⟨⟨p0, p1, p2, p3, p4⟩, f0, f1, f2, f3, f4⟩ := z6.a5g
        have HO9 := Lib.hid (HO2.out.set5 z6 (.slice Ws2 ws2 xs2) (.slice Wc2 wc2 xc2) (.slice Wk2 wk2 xk2) (.int .i64 wl2) (.int .i64 wn2))
        have HB9 := Lib.hid (bS5s (bT HB5.out hb8) hlw (.slice Ws2 ws2 xs2) (.slice Wc2 wc2 xc2) (.slice Wk2 wk2 xk2) (.int .i64 wl2) (.int .i64 wn2))
        have HW9 := Lib.hid (z6.set5 (.slice Ws2 ws2 xs2) (.slice Wc2 wc2 xc2) (.slice Wk2 wk2 xk2) (.int .i64 wl2) (.int .i64 wn2))
        have HU9 := Lib.hid ((HU5.out.t hb8).set5O (by omega : w6.heap.size ≠ wS.heap.size) (.slice Ws2 ws2 xs2) (.slice Wc2 wc2 xc2) (.slice Wk2 wk2 xk2) (.int .i64 wl2) (.int .i64 wn2))
        have HOU9 := Lib.hid ((HOU5.out.below hb8).set5 z6 (.slice Ws2 ws2 xs2) (.slice Wc2 wc2 xc2) (.slice Wk2 wk2 xk2) (.int .i64 wl2) (.int .i64 wn2))
        have hs9 : ws2 ≤ 1000 ∧ wc2 ≤ 1000 ∧ wk2 ≤ 1000 := by
          have := (HSZT.out.put (wsB ws) HWF.out)
          obtain ⟨a1, a2, a3, _, _⟩ := this
          omega
        clear hlr2 ho2 hb8 z6 z5 KP HB5 HU5 HO2 hln HXU3 h0 HOU5
        obtain ⟨hs1, hs2, hs3⟩ := hs9
        by_cases y0 : 8 < ws2
        · have w0 : decide ((8 : Int) < (ws2 : Int)) = true := by simp; omega
          obtain ⟨ea, eb, ec⟩ := HSTOP.out 2 (HXU4.out.trans (if_pos (by omega))) (by decide)
          have hU7 := HU9.out
          have hB7 := HB9.out
          obtain ⟨p0, p1, p2, p3, p4⟩ := HW9.out.all5
          have KZ1 := Lib.hid (KZ.out ec _ _ HOU9.out (b0 _))
          have HB7 := Lib.hid hB7
          obtain ⟨u0, u1, u2, u3, u4⟩ := hU7.all5
          have v7 : (er == 2) = true := by simpa using eb
          have HEA := Lib.hid ea
          subst ea
          clear eb ec hU7 hB7
          go_wp2_with fail
          refine KZ1.out.mono ?_
          rintro e w9 ⟨rfl, hb9⟩
          have HB9 := Lib.hid (bT HB7.out hb9)
          clear hb9
          go_wp2_with fail
          go_ret
          exact ⟨rfl, HB9.out⟩
        have w0 : decide ((8 : Int) < (ws2 : Int)) = false := by simp; omega
        by_cases y1 : 6 < wc2
        · have w1 : decide ((6 : Int) < (wc2 : Int)) = true := by simp; omega
          obtain ⟨ea, eb, ec⟩ := HSTOP.out 2 (HXU4.out.trans (if_pos (by omega))) (by decide)
          have hU7 := HU9.out
          have hB7 := HB9.out
          obtain ⟨p0, p1, p2, p3, p4⟩ := HW9.out.all5
          have KZ1 := Lib.hid (KZ.out ec _ _ HOU9.out (b0 _))
          have HB7 := Lib.hid hB7
          obtain ⟨u0, u1, u2, u3, u4⟩ := hU7.all5
          have v7 : (er == 2) = true := by simpa using eb
          have HEA := Lib.hid ea
          subst ea
          clear eb ec hU7 hB7
          go_wp2_with fail
          refine KZ1.out.mono ?_
          rintro e w9 ⟨rfl, hb9⟩
          have HB9 := Lib.hid (bT HB7.out hb9)
          clear hb9
          go_wp2_with fail
          go_ret
          exact ⟨rfl, HB9.out⟩
        have w1 : decide ((6 : Int) < (wc2 : Int)) = false := by simp; omega
        by_cases y2 : 12 < wk2
        · have w2 : decide ((12 : Int) < (wk2 : Int)) = true := by simp; omega
          obtain ⟨ea, eb, ec⟩ := HSTOP.out 2 (HXU4.out.trans (if_pos (by omega))) (by decide)
          have hU7 := HU9.out
          have hB7 := HB9.out
          obtain ⟨p0, p1, p2, p3, p4⟩ := HW9.out.all5
          have KZ1 := Lib.hid (KZ.out ec _ _ HOU9.out (b0 _))
          have HB7 := Lib.hid hB7
          obtain ⟨u0, u1, u2, u3, u4⟩ := hU7.all5
          have v7 : (er == 2) = true := by simpa using eb
          have HEA := Lib.hid ea
          subst ea
          clear eb ec hU7 hB7
          go_wp2_with fail
          refine KZ1.out.mono ?_
          rintro e w9 ⟨rfl, hb9⟩
          have HB9 := Lib.hid (bT HB7.out hb9)
          clear hb9
          go_wp2_with fail
          go_ret
          exact ⟨rfl, HB9.out⟩
        have w2 : decide ((12 : Int) < (wk2 : Int)) = false := by simp; omega
        have HG := Lib.hid (HGO.out (HXU4.out.trans (if_neg (by omega))))
        clear HSTOP HGO HXU4 HSN
        go_wp2_with fail
        go_roundw
        case rel => exact ⟨k + 1, Ws2, Wc2, Wk2, ws2, xs2, wc2, xc2, wk2, xk2, wl2, wn2, by omega, by go_num, HLR2.out, HO9.out, HB9.out, HW9.out, HU9.out, HOU9.out, HG.out⟩
        case measure => simp [intOf]; omega
      obtain rfl : k = n := by omega
      obtain ⟨r2, hr2⟩ : ∃ r2, r2 = tbE (rdS L k) := ⟨_, rfl⟩
      have hv := HO.out.view
      have KW2 := Lib.hid (wrong_c _ _ _ Ws Wc Wk ws1 xs wc1 xc wk1 xk wl wn wr hv.s hv.c hv.k r2 (by
        unfold Hid
        rw [hr2, HLR.out.1, HLR.out.2]))
      obtain ⟨ea, eb, ec, ed⟩ := read_end HQ.out HX.out
      rw [← hr2] at eb ec ed
      obtain ⟨p0, p1, p2, p3, p4⟩ := z2.all5
      have HBL := Lib.hid hbl
      have HZW := Lib.hid z2
      have HEC := Lib.hid ec
      have HED := Lib.hid ed
      have HEE := Lib.hid (And.intro ea eb)
      clear hr2 hv hk hk' hbl z2 ea eb ec ed
      go_wp2_with fail
      refine KW2.out.mono ?_
      rintro e w7 ⟨rfl, hb7⟩
      have HB7 := Lib.hid (bT HBL.out hb7)
      have HU7 := Lib.hid (HU.out.t hb7)
      have HW7 := Lib.hid (HZW.out.t hb7)
      have hB7' := hb7
      have HBB := Lib.hid hb7
      clear KW2 p0 p1 p2 p3 p4 hb7 hB7'
      obtain ⟨ea, eb⟩ := HEE.out
      subst ea; subst eb
      by_cases h2 : er = 0
      case neg =>
        have v0 : (er != 0) = true := by simpa using h2
        have KZ1 := Lib.hid (KZ.out (HEC.out h2) wr w7 HOU.out HBB.out)
        obtain ⟨u0, u1, u2, u3, u4⟩ := HU7.out.all5
        clear h2
        go_wp2_with fail
        refine KZ1.out.mono ?_
        rintro e w9 ⟨rfl, hb9⟩
        have HB9 := Lib.hid (bT HB7.out hb9)
        clear hb9
        go_wp2_with fail
        go_ret
        exact ⟨rfl, HB9.out⟩
      subst h2
      have hU := HED.out rfl
      have KSW : Hid (Calls Tryz.prog 24 #[.agg #[.slice Us us vs, .slice Uc uc vc, .slice Uk uk vk, .int .i64 ul, .int .i64 ur], .agg #[.slice Ws ws1 xs, .slice Wc wc1 xc, .slice Wk wk1 xk, .int .i64 wl, .int .i64 wn]] w7 fun e w' => e = .returned (.bool true) ∧ Below w7.heap.size w7 w') := by
        have v := (HOU.out.below HBB.out).view
        have u := (HO.out.below HBB.out).view
        refine (tsame_p U.sch _ U.cts _ U.kds _ ul ur wl wn Us Uc Uk Ws Wc Wk us vs uc vc uk vk ws1 xs wc1 xc wk1 xk w7 v.s v.c v.k u.s u.c u.k).mono ?_
        rintro e w' ⟨r, ⟨rfl, hr⟩, hb⟩
        refine ⟨by rw [hr.2 (by rw [HULR.out.1, HULR.out.2, HLR.out.1, HLR.out.2, hU])], hb⟩
      obtain ⟨u0, u1, u2, u3, u4⟩ := HU7.out.all5
      obtain ⟨p0, p1, p2, p3, p4⟩ := HW7.out.all5
      clear hU
      go_wp2_with fail
      refine KSW.out.mono ?_
      rintro e w9 ⟨rfl, hb9⟩
      have HB9 := Lib.hid (bT HB7.out hb9)
      clear hb9
      go_wp2_with fail
      go_ret
      exact ⟨rfl, HB9.out⟩
  subst h0
  have HE : Hid (tbE t = 0) := HR.out.symm
  obtain ⟨p0, p1, p2, p3, p4⟩ := HZ3.out.all5
  clear HR
  go_wp2_with fail
  refine (KL.out _ HB3.out).mono ?_
  rintro e w4 ⟨hl4, hb4⟩
  rcases hl4 with ⟨_, v4, rfl, hov⟩ | ⟨hl4, _⟩
  case inr => exact absurd HE.out hl4
  obtain ⟨AL, cL, rfl, hncL, hstL⟩ := own_sl stC 1 st0 stC_len hov.2 hov.1 (by decide)
  have HN2 : Hid ((tbL t).length = (tbW t).length ∧ (tbL t).length ≤ 100) := by
    obtain ⟨_, s8, c6, k12, _⟩ := tbE_ok HE.out
    have := tbL_len t
    exact ⟨tbL_n t, by omega⟩
  have hB4 := bT HB3.out hb4
  have KR1 := Lib.hid ((tread_c2 (tbL t) AL (tbL t).length cL w4 hstL (fun k hk => by have := line_small HE.out k (by rw [← HN2.out.1]; exact hk); omega) (by have := HN2.out.2; omega) (HM.out.t hB4) (HT2.out.t hB4)).mono fun e w' h => readU h)
  have HBX := Lib.hid hB4
  have HZ4 := Lib.hid (HZ3.out.t hb4)
  clear hov hncL hstL hb4 hB4 p0 p1 p2 p3 p4 KL
  generalize hNN : (tbL t).length = NN at *
  have HNN := Lib.hid hNN
  clear hNN
  go_wp2_with fail
  refine KR1.out.mono ?_
  rintro e w5 ⟨⟨U1, at1, er1, Us, Uc, Uk, us, vs, uc, vc, uk, vk, ul, ur, rfl, hlr, ho, hq⟩, hb5⟩
  have hrd := rd_own HE.out NN (by rw [HN2.out.1]; exact Nat.le_refl _)
  obtain ⟨q1, q2, _, q4⟩ := read_end hq hrd.2
  have hst : rdS (tbL t) NN = t := by rw [hrd.1, HN2.out.1, stT_end HE.out]
  rw [hst] at q2 q4
  obtain rfl : U1 = ⟨sch, cts, kds, lim, rnd⟩ := (q4 HE.out).trans HTT.out
  obtain rfl : at1 = 0 := q1
  obtain rfl : er1 = 0 := q2.trans HE.out
  obtain ⟨hl1, hl2⟩ := hlr
  replace hl1 : lim = ul := hl1.symm
  replace hl2 : rnd = ur := hl2.symm
  subst hl1; subst hl2
  dsimp only at ho
  have HO5 := Lib.hid (ho.below (below1 w5 (.cells #[.slice Us us vs, .slice Uc uc vc, .slice Uk uk vk, .int .i64 lim, .int .i64 rnd] 26)))
  have HB5 := Lib.hid (bA (bT HBX.out hb5) (.cells #[.slice Us us vs, .slice Uc uc vc, .slice Uk uk vk, .int .i64 lim, .int .i64 rnd] 26))
  have HZ5 := Lib.hid ((HZ4.out.t hb5).alloc (.cells #[.slice Us us vs, .slice Uc uc vc, .slice Uk uk vk, .int .i64 lim, .int .i64 rnd] 26))
  obtain ⟨p0, p1, p2, p3, p4⟩ := HZ5.out.all5
  have KSame : Hid (Calls Tryz.prog 24 #[.agg #[.slice As ns cs, .slice Ac nc cc, .slice Ak nk ck, .int .i64 lim, .int .i64 rnd], .agg #[.slice Us us vs, .slice Uc uc vc, .slice Uk uk vk, .int .i64 lim, .int .i64 rnd]] (w5.alloc (.cells #[.slice Us us vs, .slice Uc uc vc, .slice Uk uk vk, .int .i64 lim, .int .i64 rnd] 26)) fun e w' => e = .returned (.bool true) ∧ Below (w5.alloc (.cells #[.slice Us us vs, .slice Uc uc vc, .slice Uk uk vk, .int .i64 lim, .int .i64 rnd] 26)).heap.size (w5.alloc (.cells #[.slice Us us vs, .slice Uc uc vc, .slice Uk uk vk, .int .i64 lim, .int .i64 rnd] 26)) w') := by
    have v := HO5.out.view
    have h := HH.out
    have hb := HB5.out
    refine (tsame_p sch sch cts cts kds kds lim rnd lim rnd As Ac Ak Us Uc Uk ns cs nc cc nk ck us vs uc vc uk vk _ (h.s.below hb) (h.c.below hb) (h.k.below hb) v.s v.c v.k).mono ?_
    rintro e w' ⟨r, ⟨rfl, hr⟩, hb⟩
    exact ⟨by rw [hr.2 rfl], hb⟩
  clear KR1 hq hrd q2 q4 hst ho hb5 HO5 HZ4
  go_wp2_with fail
  refine KSame.out.mono ?_
  rintro e wS ⟨rfl, hbS⟩
  have HB4 := Lib.hid (bT HB5.out hbS)
  clear KSame hbS p0 p1 p2 p3 p4 HZ5 HB5 HBX HNN HN2
  have HBW := Lib.hid (bA HB4.out (.cells #[.slice none 0 0, .slice none 0 0, .slice none 0 0, .int .i64 0, .int .i64 0] 26))
  have HW := Lib.hid (Blk.mk wS 26 #[.slice none 0 0, .slice none 0 0, .slice none 0 0, .int .i64 0, .int .i64 0])
  have KRX := Lib.hid (KRead.out _ HBW.out)
  clear KRead
  go_wp2_with fail
  refine KRX.out.mono ?_
  rintro e w6 ⟨⟨U, at', er, Us, Uc, Uk, us, vs, uc, vc, uk, vk, ul, ur, rfl, hlr, ho, hq⟩, hb6⟩
  have hlt1 : wS.heap.size < w6.heap.size := by
    have := hb6.size
    rw [World.size_alloc] at this
    omega
  have hlw : w.heap.size ≤ wS.heap.size := HB4.out.size
  have HQ := Lib.hid hq
  have HULR := Lib.hid hlr
  have HOU := Lib.hid ((ho.mono (by rw [World.size_alloc]; omega : w.heap.size ≤ (wS.alloc (.cells #[.slice none 0 0, .slice none 0 0, .slice none 0 0, .int .i64 0, .int .i64 0] 26)).heap.size)).below (below1 w6 (.cells #[.slice Us us vs, .slice Uc uc vc, .slice Uk uk vk, .int .i64 ul, .int .i64 ur] 26)))
  have HB6 := Lib.hid (bA (bT HBW.out hb6) (.cells #[.slice Us us vs, .slice Uc uc vc, .slice Uk uk vk, .int .i64 ul, .int .i64 ur] 26))
  have HW6 := Lib.hid ((HW.out.t hb6).alloc (.cells #[.slice Us us vs, .slice Uc uc vc, .slice Uk uk vk, .int .i64 ul, .int .i64 ur] 26))
  have HU6 := Lib.hid (Blk.mk w6 26 #[.slice Us us vs, .slice Uc uc vc, .slice Uk uk vk, .int .i64 ul, .int .i64 ur])
  clear KRX hlr ho hq hb6 HBW HW
  go_wp2_with fail
  go_loopw [63] (fun i wr => ∃ (k : Nat) (Ws Wc Wk : Option Addr) (ws1 xs wc1 xc wk1 xk : Nat) (wl wn : Int), k ≤ n ∧ i = .int .i64 k ∧ Hid (wl = (rdS L k).lim ∧ wn = (rdS L k).rnd) ∧ Hid (OwnT wr w.heap.size (rdS L k).sch (rdS L k).cts (rdS L k).kds Ws Wc Wk ws1 xs wc1 xc wk1 xk) ∧ Below w.heap.size w wr ∧ Blk wr wS.heap.size 26 #[.slice Ws ws1 xs, .slice Wc wc1 xc, .slice Wk wk1 xk, .int .i64 wl, .int .i64 wn] ∧ Hid (Blk wr w6.heap.size 26 #[.slice Us us vs, .slice Uc uc vc, .slice Uk uk vk, .int .i64 ul, .int .i64 ur]) ∧ Hid (OwnT wr w.heap.size U.sch U.cts U.kds Us Uc Uk us vs uc vc uk vk) ∧ Hid (∀ j, j < k → rdX L j = 0)) (fun i _ => n - (intOf i).toNat)
  case atStart => exact ⟨0, none, none, none, 0, 0, 0, 0, 0, 0, 0, 0, Nat.zero_le _, rfl, ⟨rfl, rfl⟩, OwnT.nil _ _, HB6.out, HW6.out, HU6.out, HOU.out, fun j hj => absurd hj (Nat.not_lt_zero _)⟩
  clear HB6 HW6 HU6 HOU
  case round =>
    obtain ⟨k, Ws, Wc, Wk, ws1, xs, wc1, xc, wk1, xk, wl, wn, hk', rfl, HLR, HO, hbl, z2, HU, HOU, HX⟩ := hrel
    have KZ : Hid (U = tb0 → ∀ (W0 W : World), OwnT W0 w.heap.size U.sch U.cts U.kds Us Uc Uk us vs uc vc uk vk → Below W0.heap.size W0 W → Calls Tryz.prog 24 #[.agg #[.slice Us us vs, .slice Uc uc vc, .slice Uk uk vk, .int .i64 ul, .int .i64 ur], .agg #[.slice none 0 0, .slice none 0 0, .slice none 0 0, .int .i64 0, .int .i64 0]] W fun e w' => e = .returned (.bool true) ∧ Below W.heap.size W w') := fun hU W0 W ho hW => by
      have v := (ho.below hW).view
      have u := (OwnT.nil W 0).view
      refine (tsame_p U.sch [] U.cts [] U.kds [] ul ur 0 0 Us Uc Uk none none none us vs uc vc uk vk 0 0 0 0 0 0 W v.s v.c v.k u.s u.c u.k).mono ?_
      rintro e w' ⟨r, ⟨rfl, hr⟩, hb⟩
      refine ⟨by rw [hr.2 (by rw [HULR.out.1, HULR.out.2, hU]; rfl)], hb⟩
    by_cases hk : k < n
    case pos =>
      obtain ⟨b, off, rfl, hlt, hat⟩ := (HL.out.below hbl).2.2 (by omega)
      have q := hat k hk 0 _ rfl
      have hz := HSZ.out k hk
      have HSTOP : Hid (∀ v, rdX L k = v → v ≠ 0 → at' = (k : Int) + 1 ∧ er = v ∧ U = tb0) := fun v h h0 => by
        subst h
        exact read_first HQ.out hk HX.out h0
      have HGO : Hid (rdX L k = 0 → ∀ j, j < k + 1 → rdX L j = 0) := fun h j hj => by
        rcases (by omega : j = k ∨ j < k) with rfl | hj
        · exact h
        · exact HX.out j hj
      have HXU : Hid (rdX L k = lnErr (rdS L k) (L.getD k st0)) := rfl
      have HSU : Hid (rdS L (k + 1) = lnNext (rdS L k) (L.getD k st0)) := rfl
      have HSZT := Lib.hid (rdS_sz L k)
      generalize L.getD k st0 = sk at *
      generalize rdS L k = u at *
      simp only [Nat.mul_one, Nat.add_zero] at q
      clear hat
      by_cases h600 : 600 < sk.size
      · have v6 : decide ((600 : Int) < (sk.size : Int)) = true := by simp; omega
        clear h600
        go_wp2_with fail
        go_ret
        exact ⟨rfl, hbl⟩
      have v6 : decide ((600 : Int) < (sk.size : Int)) = false := by simp; omega
      have HWF := Lib.hid (ws_few sk)
      have HWS := Lib.hid (ws_size sk)
      obtain ⟨R, hR⟩ : ∃ R, R = cutR sk.data.toList := ⟨_, rfl⟩
      have KC := Lib.hid (fun W => cut_any sk W hz R hR)
      unfold lnErr at HXU
      unfold lnNext at HSU
      rw [← hR] at HXU HSU HWF HWS
      obtain ⟨re, ws⟩ := R
      dsimp only at HXU HSU HWF HWS
      clear hR HX h600
      go_wp2_with fail
      refine (KC.out _).mono ?_
      rintro e w7 ⟨hcut | hcut, hb7⟩
      case inr =>
        obtain ⟨h0, rfl⟩ := hcut
        dsimp only at h0
        have v0 : (re != 0) = true := by simpa using h0
        have v1 : (re == 0) = false := by simpa using h0
        obtain ⟨ea, eb, ec⟩ := HSTOP.out re (HXU.out.trans (if_pos h0)) h0
        have hB7 := bT hbl hb7
        have hU7 := HU.out.t hb7
        have KZ1 := Lib.hid (KZ.out ec wr w7 HOU.out hb7)
        have HB7 := Lib.hid hB7
        obtain ⟨u0, u1, u2, u3, u4⟩ := hU7.all5
        have v7 : (er == re) = true := by simpa using eb
        have HEA := Lib.hid ea
        subst ea
        clear eb ec hU7 hB7
        go_wp2_with fail
        refine KZ1.out.mono ?_
        rintro e w9 ⟨rfl, hb9⟩
        have HB9 := Lib.hid (bT HB7.out hb9)
        clear hb9
        go_wp2_with fail
        go_ret
        exact ⟨rfl, HB9.out⟩
      obtain ⟨h0, v, rfl, hov⟩ := hcut
      dsimp only at h0
      subst h0
      obtain ⟨A2, c2, rfl, hnc, hst⟩ := own_sl stC 1 st0 stC_len hov.2 hov.1 (by decide)
      have HXU2 := Lib.hid (HXU.out.trans (if_neg (by decide)))
      have hB5 := bT hbl hb7
      have HU5 := Lib.hid (HU.out.t hb7)
      have z5 := z2.t hb7
      have HO5 := Lib.hid (HO.out.below hb7)
      have HOU5 := Lib.hid (HOU.out.below hb7)
      by_cases hw0 : ws = []
      case pos =>
        subst hw0
        have HG := Lib.hid (HGO.out (HXU2.out.trans (if_pos rfl)))
        have HSN : Hid (rdS L (k + 1) = u) := HSU.out.trans (if_pos rfl)
        have HLR2 : Hid (wl = (rdS L (k + 1)).lim ∧ wn = (rdS L (k + 1)).rnd) := by rw [HSN.out]; exact HLR.out
        have HO2 : Hid (OwnT w7 w.heap.size (rdS L (k + 1)).sch (rdS L (k + 1)).cts (rdS L (k + 1)).kds Ws Wc Wk ws1 xs wc1 xc wk1 xk) := by rw [HSN.out]; exact HO5.out
        clear HSTOP HGO HXU HSU HXU2 HSN hov hnc hst
        go_wp2_with fail
        go_roundw
        case rel => exact ⟨k + 1, Ws, Wc, Wk, ws1, xs, wc1, xc, wk1, xk, wl, wn, by omega, by go_num, HLR2.out, HO2.out, hB5, z5, HU5.out, HOU5.out, HG.out⟩
        case measure => simp [intOf]; omega
      have HXU3 := Lib.hid (HXU2.out.trans (if_neg hw0))
      have HSN : Hid (rdS L (k + 1) = putV u (wsB ws)) := HSU.out.trans (if_neg hw0)
      have hpos : 0 < ws.length := List.length_pos_iff.2 hw0
      have KP := Lib.hid (tstep_c u k HSZT.out (by omega) Ws Wc Wk ws1 xs wc1 xc wk1 xk wl wn HLR.out A2 ws.length c2 (wsB ws) w7 (HO5.out.view) hst hnc (by have := HWF.out; unfold wsB at this; rw [List.length_map] at this; exact this) HWS.out (HM.out.t hB5) (HT2.out.t hB5))
      have HB5 := Lib.hid hB5
      have vl : ((ws.length : Int) == 0) = false := by simp; omega
      obtain ⟨p0, p1, p2, p3, p4⟩ := z5.all5
      have hws5 : ws.length ≤ 1000 := by have := HWF.out; unfold wsB at this; rw [List.length_map] at this; exact this
      clear KC hov hnc hst hB5 hbl HU HO HOU z2 q hb7 HXU HSU HXU2 hw0 HO5
      generalize hnw : ws.length = nw at *
      clear hnw
      go_wp2_with fail
      refine KP.out.mono ?_
      rintro e w8 ⟨hp | hp, hb8⟩
      case inr =>
        obtain ⟨h0, rfl⟩ := hp
        obtain ⟨ea, eb, ec⟩ := HSTOP.out (putE nw (wsB ws)) (HXU3.out.trans (if_pos h0)) h0
        generalize putE nw (wsB ws) = re at *
        have v0 : (re != 0) = true := by simpa using h0
        have v1 : (re == 0) = false := by simpa using h0
        have z6 := z5.t hb8
        obtain ⟨⟨p0, p1, p2, p3, p4⟩, f0, f1, f2, f3, f4⟩ := z6.a5g
        have hB7 := bS5s (bT HB5.out hb8) hlw (.slice Ws ws1 xs) (.slice Wc wc1 xc) (.slice Wk wk1 xk) (.int .i64 wl) (.int .i64 wn)
        have hU7 := (HU5.out.t hb8).set5O (by omega : w6.heap.size ≠ wS.heap.size) (.slice Ws ws1 xs) (.slice Wc wc1 xc) (.slice Wk wk1 xk) (.int .i64 wl) (.int .i64 wn)
        have hO7 := (HOU5.out.below hb8).set5 z6 (.slice Ws ws1 xs) (.slice Wc wc1 xc) (.slice Wk wk1 xk) (.int .i64 wl) (.int .i64 wn)
        have KZ1 := Lib.hid (KZ.out ec _ _ hO7 (b0 _))
        clear hO7
        have HB7 := Lib.hid hB7
        obtain ⟨u0, u1, u2, u3, u4⟩ := hU7.all5
        have v7 : (er == re) = true := by simpa using eb
        have HEA := Lib.hid ea
        subst ea
        clear eb ec hU7 hB7
        go_wp2_with fail
        refine KZ1.out.mono ?_
        rintro e w9 ⟨rfl, hb9⟩
        have HB9 := Lib.hid (bT HB7.out hb9)
        clear hb9
        go_wp2_with fail
        go_ret
        exact ⟨rfl, HB9.out⟩
      obtain ⟨h0, Ws2, Wc2, Wk2, ws2, xs2, wc2, xc2, wk2, xk2, wl2, wn2, rfl, hlr2, ho2⟩ := hp
      have hln := ho2.len
      have HXU4 := Lib.hid (HXU3.out.trans (if_neg (fun h => h h0)))
      rw [← hln.1, ← hln.2.1, ← hln.2.2] at HXU4
      have HLR2 : Hid (wl2 = (rdS L (k + 1)).lim ∧ wn2 = (rdS L (k + 1)).rnd) := by rw [HSN.out]; exact hlr2
      have HO2 : Hid (OwnT w8 w.heap.size (rdS L (k + 1)).sch (rdS L (k + 1)).cts (rdS L (k + 1)).kds Ws2 Wc2 Wk2 ws2 xs2 wc2 xc2 wk2 xk2) := by rw [HSN.out]; exact ho2.mono HB5.out.size
      have z6 := z5.t hb8
      obtain ⟨⟨p0, p1, p2, p3, p4⟩, f0, f1, f2, f3, f4⟩ := z6.a5g
      have HO9 := Lib.hid (HO2.out.set5 z6 (.slice Ws2 ws2 xs2) (.slice Wc2 wc2 xc2) (.slice Wk2 wk2 xk2) (.int .i64 wl2) (.int .i64 wn2))
      have HB9 := Lib.hid (bS5s (bT HB5.out hb8) hlw (.slice Ws2 ws2 xs2) (.slice Wc2 wc2 xc2) (.slice Wk2 wk2 xk2) (.int .i64 wl2) (.int .i64 wn2))
      have HW9 := Lib.hid (z6.set5 (.slice Ws2 ws2 xs2) (.slice Wc2 wc2 xc2) (.slice Wk2 wk2 xk2) (.int .i64 wl2) (.int .i64 wn2))
      have HU9 := Lib.hid ((HU5.out.t hb8).set5O (by omega : w6.heap.size ≠ wS.heap.size) (.slice Ws2 ws2 xs2) (.slice Wc2 wc2 xc2) (.slice Wk2 wk2 xk2) (.int .i64 wl2) (.int .i64 wn2))
      have HOU9 := Lib.hid ((HOU5.out.below hb8).set5 z6 (.slice Ws2 ws2 xs2) (.slice Wc2 wc2 xc2) (.slice Wk2 wk2 xk2) (.int .i64 wl2) (.int .i64 wn2))
      have hs9 : ws2 ≤ 1000 ∧ wc2 ≤ 1000 ∧ wk2 ≤ 1000 := by
        have := (HSZT.out.put (wsB ws) HWF.out)
        obtain ⟨a1, a2, a3, _, _⟩ := this
        omega
      clear hlr2 ho2 hb8 z6 z5 KP HB5 HU5 HO2 hln HXU3 h0 HOU5
      obtain ⟨hs1, hs2, hs3⟩ := hs9
      by_cases y0 : 8 < ws2
      · have w0 : decide ((8 : Int) < (ws2 : Int)) = true := by simp; omega
        obtain ⟨ea, eb, ec⟩ := HSTOP.out 2 (HXU4.out.trans (if_pos (by omega))) (by decide)
        have hU7 := HU9.out
        have hB7 := HB9.out
        obtain ⟨p0, p1, p2, p3, p4⟩ := HW9.out.all5
        have KZ1 := Lib.hid (KZ.out ec _ _ HOU9.out (b0 _))
        have HB7 := Lib.hid hB7
        obtain ⟨u0, u1, u2, u3, u4⟩ := hU7.all5
        have v7 : (er == 2) = true := by simpa using eb
        have HEA := Lib.hid ea
        subst ea
        clear eb ec hU7 hB7
        go_wp2_with fail
        refine KZ1.out.mono ?_
        rintro e w9 ⟨rfl, hb9⟩
        have HB9 := Lib.hid (bT HB7.out hb9)
        clear hb9
        go_wp2_with fail
        go_ret
        exact ⟨rfl, HB9.out⟩
      have w0 : decide ((8 : Int) < (ws2 : Int)) = false := by simp; omega
      by_cases y1 : 6 < wc2
      · have w1 : decide ((6 : Int) < (wc2 : Int)) = true := by simp; omega
        obtain ⟨ea, eb, ec⟩ := HSTOP.out 2 (HXU4.out.trans (if_pos (by omega))) (by decide)
        have hU7 := HU9.out
        have hB7 := HB9.out
        obtain ⟨p0, p1, p2, p3, p4⟩ := HW9.out.all5
        have KZ1 := Lib.hid (KZ.out ec _ _ HOU9.out (b0 _))
        have HB7 := Lib.hid hB7
        obtain ⟨u0, u1, u2, u3, u4⟩ := hU7.all5
        have v7 : (er == 2) = true := by simpa using eb
        have HEA := Lib.hid ea
        subst ea
        clear eb ec hU7 hB7
        go_wp2_with fail
        refine KZ1.out.mono ?_
        rintro e w9 ⟨rfl, hb9⟩
        have HB9 := Lib.hid (bT HB7.out hb9)
        clear hb9
        go_wp2_with fail
        go_ret
        exact ⟨rfl, HB9.out⟩
      have w1 : decide ((6 : Int) < (wc2 : Int)) = false := by simp; omega
      by_cases y2 : 12 < wk2
      · have w2 : decide ((12 : Int) < (wk2 : Int)) = true := by simp; omega
        obtain ⟨ea, eb, ec⟩ := HSTOP.out 2 (HXU4.out.trans (if_pos (by omega))) (by decide)
        have hU7 := HU9.out
        have hB7 := HB9.out
        obtain ⟨p0, p1, p2, p3, p4⟩ := HW9.out.all5
        have KZ1 := Lib.hid (KZ.out ec _ _ HOU9.out (b0 _))
        have HB7 := Lib.hid hB7
        obtain ⟨u0, u1, u2, u3, u4⟩ := hU7.all5
        have v7 : (er == 2) = true := by simpa using eb
        have HEA := Lib.hid ea
        subst ea
        clear eb ec hU7 hB7
        go_wp2_with fail
        refine KZ1.out.mono ?_
        rintro e w9 ⟨rfl, hb9⟩
        have HB9 := Lib.hid (bT HB7.out hb9)
        clear hb9
        go_wp2_with fail
        go_ret
        exact ⟨rfl, HB9.out⟩
      have w2 : decide ((12 : Int) < (wk2 : Int)) = false := by simp; omega
      have HG := Lib.hid (HGO.out (HXU4.out.trans (if_neg (by omega))))
      clear HSTOP HGO HXU4 HSN
      go_wp2_with fail
      go_roundw
      case rel => exact ⟨k + 1, Ws2, Wc2, Wk2, ws2, xs2, wc2, xc2, wk2, xk2, wl2, wn2, by omega, by go_num, HLR2.out, HO9.out, HB9.out, HW9.out, HU9.out, HOU9.out, HG.out⟩
      case measure => simp [intOf]; omega
    obtain rfl : k = n := by omega
    obtain ⟨r2, hr2⟩ : ∃ r2, r2 = tbE (rdS L k) := ⟨_, rfl⟩
    have hv := HO.out.view
    have KW2 := Lib.hid (wrong_c _ _ _ Ws Wc Wk ws1 xs wc1 xc wk1 xk wl wn wr hv.s hv.c hv.k r2 (by
      unfold Hid
      rw [hr2, HLR.out.1, HLR.out.2]))
    obtain ⟨ea, eb, ec, ed⟩ := read_end HQ.out HX.out
    rw [← hr2] at eb ec ed
    obtain ⟨p0, p1, p2, p3, p4⟩ := z2.all5
    have HBL := Lib.hid hbl
    have HZW := Lib.hid z2
    have HEC := Lib.hid ec
    have HED := Lib.hid ed
    have HEE := Lib.hid (And.intro ea eb)
    clear hr2 hv hk hk' hbl z2 ea eb ec ed
    go_wp2_with fail
    refine KW2.out.mono ?_
    rintro e w7 ⟨rfl, hb7⟩
    have HB7 := Lib.hid (bT HBL.out hb7)
    have HU7 := Lib.hid (HU.out.t hb7)
    have HW7 := Lib.hid (HZW.out.t hb7)
    have hB7' := hb7
    have HBB := Lib.hid hb7
    clear KW2 p0 p1 p2 p3 p4 hb7 hB7'
    obtain ⟨ea, eb⟩ := HEE.out
    subst ea; subst eb
    by_cases h2 : er = 0
    case neg =>
      have v0 : (er != 0) = true := by simpa using h2
      have KZ1 := Lib.hid (KZ.out (HEC.out h2) wr w7 HOU.out HBB.out)
      obtain ⟨u0, u1, u2, u3, u4⟩ := HU7.out.all5
      clear h2
      go_wp2_with fail
      refine KZ1.out.mono ?_
      rintro e w9 ⟨rfl, hb9⟩
      have HB9 := Lib.hid (bT HB7.out hb9)
      clear hb9
      go_wp2_with fail
      go_ret
      exact ⟨rfl, HB9.out⟩
    subst h2
    have hU := HED.out rfl
    have KSW : Hid (Calls Tryz.prog 24 #[.agg #[.slice Us us vs, .slice Uc uc vc, .slice Uk uk vk, .int .i64 ul, .int .i64 ur], .agg #[.slice Ws ws1 xs, .slice Wc wc1 xc, .slice Wk wk1 xk, .int .i64 wl, .int .i64 wn]] w7 fun e w' => e = .returned (.bool true) ∧ Below w7.heap.size w7 w') := by
      have v := (HOU.out.below HBB.out).view
      have u := (HO.out.below HBB.out).view
      refine (tsame_p U.sch _ U.cts _ U.kds _ ul ur wl wn Us Uc Uk Ws Wc Wk us vs uc vc uk vk ws1 xs wc1 xc wk1 xk w7 v.s v.c v.k u.s u.c u.k).mono ?_
      rintro e w' ⟨r, ⟨rfl, hr⟩, hb⟩
      refine ⟨by rw [hr.2 (by rw [HULR.out.1, HULR.out.2, HLR.out.1, HLR.out.2, hU])], hb⟩
    obtain ⟨u0, u1, u2, u3, u4⟩ := HU7.out.all5
    obtain ⟨p0, p1, p2, p3, p4⟩ := HW7.out.all5
    clear hU
    go_wp2_with fail
    refine KSW.out.mono ?_
    rintro e w9 ⟨rfl, hb9⟩
    have HB9 := Lib.hid (bT HB7.out hb9)
    clear hb9
    go_wp2_with fail
    go_ret
    exact ⟨rfl, HB9.out⟩
--%%
end Go.Proofs.YtbliblhipecgfaaGreatDoor
