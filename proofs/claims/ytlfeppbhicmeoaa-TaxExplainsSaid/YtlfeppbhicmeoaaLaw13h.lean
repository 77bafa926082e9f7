/-
  Layer 13's law TaxExplains: its walk. No conditions.
-/
import Derived.Test.YtlfeppbhicmeoaaLaw13d
import Derived.Test.YtlfeppbhicmeoaaExpl
namespace Go.Proofs.Ytlfeppbhicmeoaa
set_option linter.unusedVariables false
open Go.RowKit
theorem exE_fit' {sch : List (List Bd)} {c : Cd} (h : fitE sch c = 0) (tx n d : Int) : exE sch c tx n d = chargeE c tx n d := by
  unfold exE
  rw [if_neg (by simpa using h)]
theorem charge_le {sch : List (List Bd)} {c : Cd} (hfit : fitE sch c = 0) (tx n d : Int) (hp : partB n d = true) (h2 : c.k ≠ 2) (ht : 0 < tx) : chargeV c tx n d ≤ tx := by
  have ha := code_a _ _ _ _ (fit_ok hfit).1
  have hp' := partB_iff.1 hp
  have hb := part_bd c.a n d ha.1 (by omega) (by omega)
  unfold chargeV freeI
  rw [if_neg h2]
  split <;> omega
--%%
set_option maxRecDepth 100000 in
set_option maxHeartbeats 3200000 in
theorem taxExplains_walk (sch : List (List Bd)) (cts : List Ct) (kds : List Kd) (As Ac Ak : Option Addr) (ns cs nc cc nk ck : Nat) (lim rnd : Int) (s k a f : Int) (al : Bool) (tx n d : Int) (w : World) (hs : ScSl w As ns sch) (hc : CtSl w Ac nc cts) (hcc : nc ≤ cc) (hk : KdSl w Ak nk kds) (hck : nk ≤ ck) (htx9 : -9223372036854775808 ≤ tx ∧ tx ≤ 9223372036854775807) :
    Calls Try.prog 9 #[.agg #[.slice As ns cs, .slice Ac nc cc, .slice Ak nk ck, .int .i64 lim, .int .i64 rnd], .agg #[.int .i64 s, .int .i64 k, .int .i64 a, .int .i64 f, .bool al], .agg #[.int .i64 tx, .int .i64 n, .int .i64 d]] w fun e w' => e = .returned (.bool true) ∧ Below w.heap.size w w' := by
  have hb0 := bA (bA (below1 w (.cells #[.slice As ns cs, .slice Ac nc cc, .slice Ak nk ck, .int .i64 lim, .int .i64 rnd] 26)) (.cells #[.int .i64 s, .int .i64 k, .int .i64 a, .int .i64 f, .bool al] 40)) (.cells #[.int .i64 tx, .int .i64 n, .int .i64 d] 56)
  have z := ((Blk.mk w 26 #[.slice As ns cs, .slice Ac nc cc, .slice Ak nk ck, .int .i64 lim, .int .i64 rnd]).alloc (.cells #[.int .i64 s, .int .i64 k, .int .i64 a, .int .i64 f, .bool al] 40)).alloc (.cells #[.int .i64 tx, .int .i64 n, .int .i64 d] 56)
  have y := (Blk.mk (w.alloc (.cells #[.slice As ns cs, .slice Ac nc cc, .slice Ak nk ck, .int .i64 lim, .int .i64 rnd] 26)) 40 #[.int .i64 s, .int .i64 k, .int .i64 a, .int .i64 f, .bool al]).alloc (.cells #[.int .i64 tx, .int .i64 n, .int .i64 d] 56)
  have x := Blk.mk ((w.alloc (.cells #[.slice As ns cs, .slice Ac nc cc, .slice Ak nk ck, .int .i64 lim, .int .i64 rnd] 26)).alloc (.cells #[.int .i64 s, .int .i64 k, .int .i64 a, .int .i64 f, .bool al] 40)) 56 #[.int .i64 tx, .int .i64 n, .int .i64 d]
  simp only [World.size_alloc] at y x
  have HS := Lib.hid hs
  have HC := Lib.hid hc
  have HK := Lib.hid hk
  clear hs hc hk
  go_enter Try.func9, Try.ntmps9
  go_wp2_with fail
  refine (dues_c _).mono ?_
  rintro e w1 ⟨rfl, hb1⟩
  have hb2 := bT hb0 hb1
  have z1 := z.t hb1
  have y1 := y.t hb1
  have x1 := x.t hb1
  obtain ⟨p0, p1, p2, p3, p4⟩ := z1.all5
  obtain ⟨q0, q1, q2, q3, q4⟩ := y1.all5
  obtain ⟨r0, r1, r2⟩ := (⟨x1.cell 0, x1.cell 1, x1.cell 2⟩ : _ ∧ _ ∧ _)
  go_wp2_with fail
  refine (fits13_c sch cts kds As Ac Ak ns cs nc cc nk ck lim rnd s k a f al n d _ (HS.out.below hb2) (HC.out.below hb2) hcc (HK.out.below hb2) hck).mono ?_
  rintro e w2 ⟨bb, ⟨rfl, hy⟩, hb3⟩
  have hb4 := bT hb2 hb3
  clear p0 p1 p2 p3 p4 q0 q1 q2 q3 q4 r0 r1 r2
  cases bb
  · clear hy
    go_wp2_with fail
    go_ret
    exact ⟨rfl, hb4⟩
  have HF := Lib.hid (hy rfl)
  clear hy
  have z2 := z1.t hb3
  have y2 := y1.t hb3
  have x2 := x1.t hb3
  obtain ⟨p0, p1, p2, p3, p4⟩ := z2.all5
  obtain ⟨q0, q1, q2, q3, q4⟩ := y2.all5
  obtain ⟨r0, r1, r2⟩ := (⟨x2.cell 0, x2.cell 1, x2.cell 2⟩ : _ ∧ _ ∧ _)
  by_cases h0 : exE sch ⟨s, k, a, f, al⟩ tx n d = 0
  case neg =>
    obtain ⟨r, hr⟩ : ∃ r, r = exE sch ⟨s, k, a, f, al⟩ tx n d := ⟨_, rfl⟩
    have hr2 : r = chargeE ⟨s, k, a, f, al⟩ tx n d := hr.trans (exE_fit' HF.out.fit tx n d)
    have hr0 : r ≠ 0 := by rw [hr]; exact h0
    have KX := Lib.hid (fun W h => texpl_e sch As Ac Ak ns cs nc cc nk ck lim rnd s k a f al tx n d W h r hr hr0)
    have KD := Lib.hid (fun W h => tavg_e sch As Ac Ak ns cs nc cc nk ck lim rnd s k a f al tx n d W h r hr hr0)
    have KG := Lib.hid (charge_e s k a f al tx n d · r hr2 hr0)
    have u : (r != 0) = true := by simpa using hr0
    clear hr hr2 h0
    go_wp2_with fail
    refine (KX.out _ (HS.out.below hb4)).mono ?_
    rintro e w3 ⟨rfl, hb5⟩
    clear p0 p1 p2 p3 p4 q0 q1 q2 q3 q4 r0 r1 r2
    have z3 := z2.t hb5
    have y3 := y2.t hb5
    have x3 := x2.t hb5
    have hb6 := bT hb4 hb5
    obtain ⟨p0, p1, p2, p3, p4⟩ := z3.all5
    obtain ⟨q0, q1, q2, q3, q4⟩ := y3.all5
    obtain ⟨r0, r1, r2⟩ := (⟨x3.cell 0, x3.cell 1, x3.cell 2⟩ : _ ∧ _ ∧ _)
    go_wp2_with fail
    refine (KD.out _ (HS.out.below hb6)).mono ?_
    rintro e w4 ⟨rfl, hb7⟩
    clear p0 p1 p2 p3 p4 q0 q1 q2 q3 q4 r0 r1 r2
    have y4 := y3.t hb7
    have x4 := x3.t hb7
    have hb8 := bT hb6 hb7
    obtain ⟨q0, q1, q2, q3, q4⟩ := y4.all5
    obtain ⟨r0, r1, r2⟩ := (⟨x4.cell 0, x4.cell 1, x4.cell 2⟩ : _ ∧ _ ∧ _)
    go_wp2_with fail
    refine (KG.out _).mono ?_
    rintro e w5 ⟨rfl, hb9⟩
    have hb10 := bT hb8 hb9
    go_wp2_with fail
    go_ret
    exact ⟨rfl, hb10⟩
  have hok : ∀ k, k < ns → bandsErr (sch.getD k []) = 0 := fun k hk => (HF.out.ok.sch k (by rw [← HS.out.1]; exact hk)).bands
  have hch0 : chargeE ⟨s, k, a, f, al⟩ tx n d = 0 := (exE_fit' HF.out.fit tx n d).symm.trans h0
  obtain ⟨_, hv0, hv1, htx⟩ := charge_ok hch0
  have htx' := mr_iff.1 htx
  obtain ⟨tx0, tx1⟩ := htx'
  obtain ⟨_, hs0, hs1, _, _⟩ := fit_ok HF.out.fit
  have hbd := exV_bd sch ⟨s, k, a, f, al⟩ tx n d (fun k hk => hok k (by rw [HS.out.1]; exact hk)) h0
  have HCL : Hid (k ≠ 2 → 0 < tx → chargeV ⟨s, k, a, f, al⟩ tx n d ≤ tx) := fun h2 ht => charge_le HF.out.fit tx n d HF.out.part h2 ht
  dsimp only at hs0 hs1
  obtain ⟨i, rfl⟩ := Int.eq_ofNat_of_zero_le hs0
  have hi : i < ns := by have := HS.out.1; omega
  have KX := Lib.hid (fun W h => texpl_t sch As Ac Ak ns cs nc cc nk ck lim rnd (i : Int) k a f al tx n d W h hok h0)
  have KD := Lib.hid (fun W h => tavg_t sch As Ac Ak ns cs nc cc nk ck lim rnd (i : Int) k a f al tx n d W h hok h0 tx1)
  have KG := Lib.hid (charge_t (i : Int) k a f al tx n d · hch0)
  have KR := Lib.hid (fun W h => rtexact_c sch As Ac Ak ns cs nc cc nk ck lim rnd (i : Int) k a f al tx n d W h hok h0)
  rw [Int.toNat_natCast] at KX
  obtain ⟨gb, go, B, nb, cb, hAs, hlt, c0, hbs⟩ := ScAt.one HS.out i hi
  subst hAs
  have hnb : nb = (sch.getD i []).length := hbs.1
  have hnb8 : nb ≤ 8 := by rw [hnb]; exact (goodB _ (hok i hi)).hi
  rw [← hnb] at KX
  generalize exV sch ⟨(i : Int), k, a, f, al⟩ tx n d = ev at *
  generalize chargeV ⟨(i : Int), k, a, f, al⟩ tx n d = cv at *
  obtain ⟨ev0, ev1⟩ := hbd
  have ii0 : (0 : Int) ≤ (i : Int) := by omega
  have ii1 : (i : Int) < (ns : Int) := by omega
  have ii2 : ((i : Int)).toNat = i := by omega
  clear hok hch0 h0 hs0 hs1 htx hbs hnb htx9
  go_wp2_with fail
  refine (KX.out _ (HS.out.below hb4)).mono ?_
  rintro e w3 ⟨⟨Ax, m, cx, S, rfl, hsx, hex⟩, hb5⟩
  have HSX := Lib.hid hsx
  have HEX := Lib.hid hex
  have hm : m = S.length := hsx.1
  have hm8 : m ≤ nb := by rw [hm]; exact hex.len
  have HM := Lib.hid hm
  clear p0 p1 p2 p3 p4 q0 q1 q2 q3 q4 r0 r1 r2 hsx hex hm
  have z3 := z2.t hb5
  have y3 := y2.t hb5
  have x3 := x2.t hb5
  have hb6 := bT hb4 hb5
  obtain ⟨p0, p1, p2, p3, p4⟩ := z3.all5
  obtain ⟨q0, q1, q2, q3, q4⟩ := y3.all5
  obtain ⟨r0, r1, r2⟩ := (⟨x3.cell 0, x3.cell 1, x3.cell 2⟩ : _ ∧ _ ∧ _)
  go_wp2_with fail
  refine (KD.out _ (HS.out.below hb6)).mono ?_
  rintro e w4 ⟨rfl, hb7⟩
  clear p0 p1 p2 p3 p4 q0 q1 q2 q3 q4 r0 r1 r2
  have z4 := z3.t hb7
  have y4 := y3.t hb7
  have x4 := x3.t hb7
  have hb8 := bT hb6 hb7
  obtain ⟨q0, q1, q2, q3, q4⟩ := y4.all5
  obtain ⟨r0, r1, r2⟩ := (⟨x4.cell 0, x4.cell 1, x4.cell 2⟩ : _ ∧ _ ∧ _)
  go_wp2_with fail
  refine (KG.out _).mono ?_
  rintro e w5 ⟨rfl, hb9⟩
  clear q0 q1 q2 q3 q4 r0 r1 r2
  have z5 := z4.t hb9
  have y5 := y4.t hb9
  have x5 := x4.t hb9
  have hb10 := bT hb8 hb9
  have hb57 := bT hb7 hb9
  go_wp2_with fail
  go_loopw [13, 14, 15, 86] (fun am al tp j wr => ∃ q : Nat, q ≤ m ∧ j = .int .i64 q ∧ am = .int .i64 (sxA S q) ∧ al = .int .i64 (sxX S q) ∧ tp = .int .i64 (sxT S q) ∧ Below w5.heap.size w5 wr) (fun _ _ _ j _ => m - (intOf j).toNat)
  case atStart => exact ⟨0, Nat.zero_le _, rfl, rfl, rfl, rfl, b0 _⟩
  case round =>
    obtain ⟨q, hq', rfl, rfl, rfl, rfl, hbl⟩ := hrel
    have hB := bT hb10 hbl
    have hbd := exp_bd HEX.out q (by have := HM.out; omega)
    by_cases hq : q < m
    · obtain ⟨b2, o2, rfl, hlt2, hat⟩ := (HSX.out.below (bT hb57 hbl)).2.2 (by omega)
      have hc := hat q hq
      obtain ⟨e1, e2, e3, e4, e5⟩ := HEX.out.each q (by have := HM.out; omega)
      have HA : Hid (sxA S (q + 1) = sxA S q + (S.getD q sx0).a) := rfl
      have HX : Hid (sxX S (q + 1) = sxX S q + (S.getD q sx0).x) := rfl
      have HT : Hid (sxT S (q + 1) = max (sxT S q) (S.getD q sx0).r) := rfl
      obtain ⟨c1, c2, c3⟩ : wr.cell? ⟨b2, o2 + q * 3, none⟩ = some (.int .i64 (S.getD q sx0).r) ∧ wr.cell? ⟨b2, o2 + q * 3 + 1, none⟩ = some (.int .i64 (S.getD q sx0).a) ∧ wr.cell? ⟨b2, o2 + q * 3 + 2, none⟩ = some (.int .i64 (S.getD q sx0).x) := ⟨hc 0 _ rfl, hc 1 _ rfl, hc 2 _ rfl⟩
      rw [e5] at c3 HX
      generalize sxA S q = sA at *
      generalize sxX S q = sX at *
      generalize sxT S q = sT at *
      generalize (S.getD q sx0).a = za at *
      generalize (S.getD q sx0).r = zr at *
      have hm0 := mul_bd0 (A := 100000000000) (B := 10000) (Int.le_of_lt e1) e2 e3 e4 (by decide)
      obtain ⟨m0, m1⟩ := hm0
      obtain ⟨n0, n1, n2, n3⟩ := hbd
      have mw : IntKind.i64.wrap (za * zr) = za * zr := by rw [IntKind.wrap_i64]; omega
      have nw : sX ≤ 8000000000000000 := by omega
      have nx : sA ≤ 800000000000 := by omega
      have va : decide (za ≤ 0) = false := by simpa using e1
      have hb11 := bA hbl (.cells #[.int .i64 zr, .int .i64 za, .int .i64 (za * zr)] 87)
      clear hat hc e5 n1 n3
      go_wp2_with fail
      go_roundw
      case rel => exact ⟨q + 1, by omega, by go_num, by rw [HA.out], by rw [HX.out], by rw [HT.out], hb11⟩
      case measure => simp [intOf]; omega
    obtain rfl : q = m := by omega
    have hsa : sxA S q = cv := by have h := HEX.out.sa; rw [← HM.out] at h; exact h
    have hsx2 : sxX S q = ev := by have h := HEX.out.sx; rw [← HM.out] at h; exact h
    rw [hsa, hsx2]
    have HAV : Hid (0 < tx → cv ≤ tx → ev / tx ≤ sxT S q) := fun ht hx => by
      have := exp_avg HEX.out hx ht
      rw [← HM.out] at this; exact this
    generalize sxT S q = sT at *
    clear hsa hsx2 hbd
    have z6 := z5.t hbl
    have y6 := y5.t hbl
    have x6 := x5.t hbl
    obtain ⟨p0, p1, p2, p3, p4⟩ := z6.all5
    obtain ⟨q0, q1, q2, q3, q4⟩ := y6.all5
    obtain ⟨r0, r1, r2⟩ := (⟨x6.cell 0, x6.cell 1, x6.cell 2⟩ : _ ∧ _ ∧ _)
    go_wp2_with fail
    refine (KR.out _ (HS.out.below hB)).mono ?_
    rintro e w7 ⟨rfl, hb11⟩
    clear p0 p1 p2 p3 p4 q0 q1 q2 q3 q4 r0 r1 r2
    have hb12 := bT hB hb11
    have z7 := z6.t hb11
    have y7 := y6.t hb11
    have x7 := x6.t hb11
    have p0 := z7.cell 0
    have q0 := y7.cell 0
    have q1 := y7.cell 1
    have r0 := x7.cell 0
    have c1 := (hb12.cell (p := ⟨gb, go + i, none⟩) hlt).trans c0
    have vl : decide ((nb : Int) < (q : Int)) = false := by simp; omega
    clear c0
    by_cases ht : tx ≤ 0
    · have hav : avgI ev tx = 0 := if_pos ht
      rw [hav]
      have v : decide (tx ≤ 0) = true := by simpa using ht
      clear hav
      go_wp2_with fail
      go_ret
      exact ⟨rfl, hb12⟩
    have hav : avgI ev tx = ev / tx := if_neg ht
    rw [hav]
    have hd1 : ev.tdiv tx = ev / tx := by rw [Int.tdiv_eq_ediv_of_nonneg ev0]
    have hd2 : 0 ≤ ev / tx := Int.ediv_nonneg ev0 (by omega)
    have hd3 : ev / tx ≤ ev := Int.ediv_le_self _ ev0
    have v : decide (tx ≤ 0) = false := by simpa using ht
    have vt : (tx == 0) = false := by simp; omega
    have ht1 : 0 < tx := by omega
    clear hav
    by_cases h2 : k = 2
    · have v2 : (k == 2) = true := by simpa using h2
      clear h2
      generalize ev / tx = qv at *
      go_wp2_with fail
      go_ret
      exact ⟨rfl, hb12⟩
    · have v2 : (k == 2) = false := by simpa using h2
      have hq3 := HAV.out ht1 (HCL.out h2 ht1)
      generalize ev / tx = qv at *
      have v3 : decide (qv ≤ sT) = true := by simpa using hq3
      clear h2
      go_wp2_with fail
      go_ret
      exact ⟨rfl, hb12⟩
--%%
end Go.Proofs.Ytlfeppbhicmeoaa
