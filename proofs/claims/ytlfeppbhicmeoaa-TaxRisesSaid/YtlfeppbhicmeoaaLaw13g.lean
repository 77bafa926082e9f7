/-
  Layer 13's law TaxRises: its walk. No conditions.
-/
import Derived.Test.YtlfeppbhicmeoaaLaw13f
import Derived.Test.YtlfeppbhicmeoaaRateP
import Derived.Lib.MinMax
namespace Go.Proofs.Ytlfeppbhicmeoaa
set_option linter.unusedVariables false
open Go.RowKit
theorem exE_zero {sch : List (List Bd)} {c : Cd} {n d : Int} (h : fitE sch c = 0) (hp : partB n d = true) (tx : Int) (h1 : -90000000000 ≤ tx) (h2 : tx ≤ 90000000000) : exE sch c tx n d = 0 := by
  have hc := (fit_ok h).1
  have hf := free_bd c n d hc hp
  unfold exE
  rw [if_neg (by simpa using h)]
  unfold chargeE
  rw [if_neg (by simpa using hc), if_neg (by rw [hp]; decide)]
  have m1 := mr_t (x := tx) (by omega)
  have m2 := mr_t (x := tx - freeI c.k c.a n d) (by omega)
  by_cases h4 : c.k = 4
  · rw [if_pos h4, if_pos m1]
  · rw [if_neg h4, if_pos (show mrB tx = true ∧ mrB (tx - freeI c.k c.a n d) = true from ⟨m1, m2⟩)]
theorem any_snoc (l : List Int) (x : Int) (k : Nat) (hk : k < l.length) : (l.take (k + 1)).any (· == x) = ((l.take k).any (· == x) || (l.getD k 0 == x)) := by
  rw [List.take_succ_eq_append_getElem hk, List.any_append]
  simp [List.getD, List.getElem?_eq_getElem hk]
--%%
set_option maxRecDepth 100000 in
set_option maxHeartbeats 3200000 in
theorem taxRises_walk (sch : List (List Bd)) (cts : List Ct) (kds : List Kd) (As Ac Ak : Option Addr) (ns cs nc cc nk ck : Nat) (lim rnd : Int) (s k a f : Int) (al : Bool) (tx n d : Int) (w : World) (hs : ScSl w As ns sch) (hc : CtSl w Ac nc cts) (hcc : nc ≤ cc) (hk : KdSl w Ak nk kds) (hck : nk ≤ ck) :
    Calls Try.prog 6 #[.agg #[.slice As ns cs, .slice Ac nc cc, .slice Ak nk ck, .int .i64 lim, .int .i64 rnd], .agg #[.int .i64 s, .int .i64 k, .int .i64 a, .int .i64 f, .bool al], .agg #[.int .i64 tx, .int .i64 n, .int .i64 d]] w fun e w' => e = .returned (.bool true) ∧ Below w.heap.size w w' := by
  have hb0 := bA (bA (below1 w (.cells #[.slice As ns cs, .slice Ac nc cc, .slice Ak nk ck, .int .i64 lim, .int .i64 rnd] 26)) (.cells #[.int .i64 s, .int .i64 k, .int .i64 a, .int .i64 f, .bool al] 40)) (.cells #[.int .i64 tx, .int .i64 n, .int .i64 d] 56)
  have z := ((Blk.mk w 26 #[.slice As ns cs, .slice Ac nc cc, .slice Ak nk ck, .int .i64 lim, .int .i64 rnd]).alloc (.cells #[.int .i64 s, .int .i64 k, .int .i64 a, .int .i64 f, .bool al] 40)).alloc (.cells #[.int .i64 tx, .int .i64 n, .int .i64 d] 56)
  have y := (Blk.mk (w.alloc (.cells #[.slice As ns cs, .slice Ac nc cc, .slice Ak nk ck, .int .i64 lim, .int .i64 rnd] 26)) 40 #[.int .i64 s, .int .i64 k, .int .i64 a, .int .i64 f, .bool al]).alloc (.cells #[.int .i64 tx, .int .i64 n, .int .i64 d] 56)
  have x := Blk.mk ((w.alloc (.cells #[.slice As ns cs, .slice Ac nc cc, .slice Ak nk ck, .int .i64 lim, .int .i64 rnd] 26)).alloc (.cells #[.int .i64 s, .int .i64 k, .int .i64 a, .int .i64 f, .bool al] 40)) 56 #[.int .i64 tx, .int .i64 n, .int .i64 d]
  simp only [World.size_alloc] at y x
  have HS := Lib.hid hs
  have HC := Lib.hid hc
  have HK := Lib.hid hk
  clear hs hc hk
  go_enter Try.func6, Try.ntmps6
  go_wp2_with fail
  refine (dues_c _).mono ?_
  rintro e w1 ⟨rfl, hb1⟩
  have hb2 := bT hb0 hb1
  have z1 := z.t hb1
  have y1 := y.t hb1
  have x1 := x.t hb1
  obtain ⟨p0, p1, p2, p3, p4⟩ := z1.all5
  obtain ⟨q0, q1, q2, q3, q4⟩ := y1.all5
  obtain ⟨r0, r1, r2⟩ := (⟨x1.cell 0, x1.cell 1, x1.cell 2⟩ : _ ∧ _ ∧ _)
  go_wp2_with fail
  refine (fits13_c sch cts kds As Ac Ak ns cs nc cc nk ck lim rnd s k a f al n d _ (HS.out.below hb2) (HC.out.below hb2) hcc (HK.out.below hb2) hck).mono ?_
  rintro e w2 ⟨bb, ⟨rfl, hy⟩, hb3⟩
  have hb4 := bT hb2 hb3
  clear p0 p1 p2 p3 p4 q0 q1 q2 q3 q4 r0 r1 r2
  cases bb
  · clear hy
    go_wp2_with fail
    go_ret
    exact ⟨rfl, hb4⟩
  have HF := Lib.hid (hy rfl)
  clear hy
  have z2 := z1.t hb3
  have y2 := y1.t hb3
  have x2 := x1.t hb3
  obtain ⟨p0, p1, p2, p3, p4⟩ := z2.all5
  obtain ⟨q0, q1, q2, q3, q4⟩ := y2.all5
  obtain ⟨r0, r1, r2⟩ := (⟨x2.cell 0, x2.cell 1, x2.cell 2⟩ : _ ∧ _ ∧ _)
  by_cases g1 : 50000000000 < tx
  · have v1 : decide (50000000000 < tx) = true := by simpa using g1
    clear g1
    go_wp2_with fail
    go_ret
    exact ⟨rfl, hb4⟩
  have v1 : decide (50000000000 < tx) = false := by simpa using g1
  by_cases g2 : tx < -50000000000
  · have v2 : decide (tx < -50000000000) = true := by simpa using g2
    clear g1 g2
    go_wp2_with fail
    go_ret
    exact ⟨rfl, hb4⟩
  have v2 : decide (tx < -50000000000) = false := by simpa using g2
  have tx0 : -50000000000 ≤ tx := by omega
  have tx1 : tx ≤ 50000000000 := by omega
  clear g1 g2
  obtain ⟨hc0, hs0, hs1, hf0, hf3⟩ := fit_ok HF.out.fit
  dsimp only at hc0 hs0 hs1 hf0 hf3
  obtain ⟨i, rfl⟩ := Int.eq_ofNat_of_zero_le hs0
  have hi : i < ns := by have := HS.out.1; omega
  have hok : ∀ k, k < ns → bandsErr (sch.getD k []) = 0 := fun k hk => (HF.out.ok.sch k (by rw [← HS.out.1]; exact hk)).bands
  have hoki : bandsErr (sch.getD (⟨(i : Int), k, a, f, al⟩ : Cd).s.toNat []) = 0 := by
    show bandsErr (sch.getD ((i : Int)).toNat []) = 0
    rw [Int.toNat_natCast]; exact hok i hi
  have hR := rate_bd HF.out.fit hoki HF.out.part tx
  have HRC := Lib.hid (rate_corner HF.out.fit hoki HF.out.part tx)
  have HCI := Lib.hid (corn_inc hoki HF.out.part)
  have KR := Lib.hid (fun W h => trate_t sch As Ac Ak ns cs nc cc nk ck lim rnd (i : Int) k a f al tx n d W h hok (by omega) (exE_zero HF.out.fit HF.out.part tx (by omega) (by omega)) (exE_zero HF.out.fit HF.out.part (tx + 1) (by omega) (by omega)))
  have KR2 := Lib.hid (fun W h => trate_t sch As Ac Ak ns cs nc cc nk ck lim rnd (i : Int) k a f al (tx - 1) n d W h hok (by omega) (exE_zero HF.out.fit HF.out.part (tx - 1) (by omega) (by omega)) (exE_zero HF.out.fit HF.out.part (tx - 1 + 1) (by omega) (by omega)))
  have KD := Lib.hid (fun W h => tcorn_t sch As Ac Ak ns cs nc cc nk ck lim rnd (i : Int) k a f al n d W h hok (cornE_fit HF.out.fit n d HF.out.part))
  change Hid (∀ W, ScSl W As ns sch → Calls Try.prog 26 #[.agg #[.slice As ns cs, .slice Ac nc cc, .slice Ak nk ck, .int .i64 lim, .int .i64 rnd], .agg #[.int .i64 (i : Int), .int .i64 k, .int .i64 a, .int .i64 f, .bool al], .int .i64 tx, .int .i64 n, .int .i64 d] W fun e w' => e = .returned (.tuple #[.int .i64 (rateI sch ⟨(i : Int), k, a, f, al⟩ tx n d), .int .i64 0]) ∧ Below W.heap.size W w') at KR
  change Hid (∀ W, ScSl W As ns sch → Calls Try.prog 26 #[.agg #[.slice As ns cs, .slice Ac nc cc, .slice Ak nk ck, .int .i64 lim, .int .i64 rnd], .agg #[.int .i64 (i : Int), .int .i64 k, .int .i64 a, .int .i64 f, .bool al], .int .i64 (tx - 1), .int .i64 n, .int .i64 d] W fun e w' => e = .returned (.tuple #[.int .i64 (rateI sch ⟨(i : Int), k, a, f, al⟩ (tx - 1) n d), .int .i64 0]) ∧ Below W.heap.size W w') at KR2
  rw [show (⟨(i : Int), k, a, f, al⟩ : Cd).s.toNat = i from Int.toNat_natCast i] at hR
  generalize rateI sch ⟨(i : Int), k, a, f, al⟩ (tx - 1) n d = rs at *
  generalize rateI sch ⟨(i : Int), k, a, f, al⟩ tx n d = rr at *
  generalize cornV sch ⟨(i : Int), k, a, f, al⟩ n d = cl at *
  obtain ⟨gb, go, B, nb, cb, rfl, hlt, c0, hbs⟩ := ScAt.one HS.out i hi
  generalize sch.getD i [] = L at *
  have hnb : nb = L.length := hbs.1
  rw [← hnb] at hR
  obtain ⟨hr0, hr1⟩ := hR
  have hnb9 := hbs.2.1
  have HBS := Lib.hid hbs
  have HNB := Lib.hid hnb
  have ii0 : (0 : Int) ≤ (i : Int) := by omega
  have ii1 : (i : Int) < (ns : Int) := by omega
  have ii2 : ((i : Int)).toNat = i := by omega
  clear hok hoki hc0 hs0 hs1 hf0 hf3 hbs hnb
  go_wp2_with fail
  refine (KR.out _ (HS.out.below hb4)).mono ?_
  rintro e w3 ⟨rfl, hb5⟩
  clear p0 p1 p2 p3 p4 q0 q1 q2 q3 q4 r0 r1 r2
  have z3 := z2.t hb5
  have y3 := y2.t hb5
  have x3 := x2.t hb5
  have hb6 := bT hb4 hb5
  have p0 := z3.cell 0
  have q0 := y3.cell 0
  have c1 := (hb6.cell (p := ⟨gb, go + i, none⟩) hlt).trans c0
  have HT0 : Hid (topTo L 0 = 0) := rfl
  go_wp2_with fail
  go_loopw [9, 65] (fun tp j wr => ∃ k : Nat, k ≤ nb ∧ j = .int .i64 k ∧ tp = .int .i64 (topTo L k) ∧ Below w3.heap.size w3 wr) (fun _ j _ => nb - (intOf j).toNat)
  case atStart => exact ⟨0, Nat.zero_le _, rfl, rfl, b0 _⟩
  case round =>
    obtain ⟨k, hk', rfl, rfl, hbl⟩ := hrel
    have hB := bT hb6 hbl
    by_cases hk : k < nb
    · obtain ⟨b2, o2, rfl, hlt2, hat⟩ := (HBS.out.below hB).2.2 (by omega)
      obtain ⟨d0, d1, d2⟩ := hat k (by have := HNB.out; omega)
      have HT : Hid (topTo L (k + 1) = max (topTo L k) (L.getD k bd0).r) := rfl
      generalize topTo L k = tk at *
      generalize (L.getD k bd0).r = br at *
      generalize (L.getD k bd0).f = bf at *
      generalize (L.getD k bd0).e = be at *
      clear hat
      have hb7 := bA hbl (.cells #[.int .i64 bf, .int .i64 br, .int .i64 be] 73)
      go_wp2_with fail
      go_roundw
      case rel => exact ⟨k + 1, by omega, by go_num, by rw [HT.out], hb7⟩
      case measure => simp [intOf]; omega
    obtain rfl : k = nb := by omega
    have z4 := z3.t hbl
    have y4 := y3.t hbl
    have x4 := x3.t hbl
    generalize topTo L k = tk at *
    clear p0 q0 c1 HT0
    obtain ⟨p0, p1, p2, p3, p4⟩ := z4.all5
    obtain ⟨q0, q1, q2, q3, q4⟩ := y4.all5
    obtain ⟨r0, r1, r2⟩ := (⟨x4.cell 0, x4.cell 1, x4.cell 2⟩ : _ ∧ _ ∧ _)
    go_wp2_with fail
    refine (KR2.out _ (HS.out.below hB)).mono ?_
    rintro e w5 ⟨rfl, hb7⟩
    clear p0 p1 p2 p3 p4 q0 q1 q2 q3 q4 r0 r1 r2
    have z5 := z4.t hb7
    have y5 := y4.t hb7
    have x5 := x4.t hb7
    have hb8 := bT hB hb7
    obtain ⟨p0, p1, p2, p3, p4⟩ := z5.all5
    obtain ⟨q0, q1, q2, q3, q4⟩ := y5.all5
    obtain ⟨r0, r1, r2⟩ := (⟨x5.cell 0, x5.cell 1, x5.cell 2⟩ : _ ∧ _ ∧ _)
    go_wp2_with fail
    refine (KD.out _ (HS.out.below hb8)).mono ?_
    rintro e w6 ⟨⟨cv, m, rfl, hcv⟩, hb9⟩
    clear p0 p1 p2 p3 p4 q0 q1 q2 q3 q4 r0 r1 r2
    obtain ⟨A2, c2, rfl, _, hsl⟩ := hcv.sl
    have HSL := Lib.hid hsl
    have x6 := x5.t hb9
    have r0 := x6.cell 0
    have hb10 := bT hb8 hb9
    have hml : m = cl.length := hsl.1
    have HML := Lib.hid hml
    have hm9 := hsl.2.1
    clear hcv hsl hml
    go_wp2_with fail
    go_loop [16, 102] (fun cn j => ∃ k : Nat, k ≤ m ∧ j = .int .i64 k ∧ cn = .bool ((cl.take k).any (· == tx))) (fun _ j => m - (intOf j).toNat)
    case atStart => exact ⟨0, Nat.zero_le _, rfl, rfl⟩
    case round =>
      obtain ⟨k, hk', rfl, rfl⟩ := hrel
      by_cases hk : k < m
      · obtain ⟨b2, o2, rfl, hlt2, hat⟩ := HSL.out.2.2 (by omega)
        have d0 := hat k hk
        have HA := Lib.hid (any_snoc cl tx k (by have := HML.out; omega))
        by_cases h0 : 0 < k
        · have d1 := hat (k - 1) (by omega)
          have hlt3 := HCI.out (k - 1) (by have := HML.out; omega)
          rw [show k - 1 + 1 = k by omega] at hlt3
          generalize cl.getD (k - 1) 0 = ck1 at *
          generalize cl.getD k 0 = ck0 at *
          have k1 : (0 : Int) < (k : Int) := by omega
          have k2 : ((k : Int) - 1).toNat = k - 1 := by omega
          have k3 : (0 : Int) ≤ (k : Int) - 1 := by omega
          have k4 : (k : Int) - 1 < (m : Int) := by omega
          have k5 : ((k : Int)).toNat = k := by omega
          have v3 : decide (ck0 ≤ ck1) = false := by simpa using hlt3
          clear hat hlt3
          generalize (cl.take k).any (· == tx) = bb at *
          by_cases he : ck0 = tx
          · have ve : (ck0 == tx) = true := by simpa using he
            have HA2 : Hid ((cl.take (k + 1)).any (· == tx) = true) := Lib.hid (HA.out.trans (by rw [ve]; simp))
            clear he
            cases bb
            all_goals
              go_wp2_with fail
              go_round
              case rel => exact ⟨k + 1, by omega, by go_num, by rw [HA2.out]⟩
              case measure => simp [intOf]; omega
          · have ve : (ck0 == tx) = false := by simpa using he
            have HA2 : Hid ((cl.take (k + 1)).any (· == tx) = bb) := Lib.hid (HA.out.trans (by rw [ve]; simp))
            clear he
            cases bb
            all_goals
              go_wp2_with fail
              go_round
              case rel => exact ⟨k + 1, by omega, by go_num, by rw [HA2.out]⟩
              case measure => simp [intOf]; omega
        · obtain rfl : k = 0 := by omega
          generalize cl.getD 0 0 = ck0 at *
          have HA3 : Hid ((cl.take (0 + 1)).any (· == tx) = (ck0 == tx)) := Lib.hid (HA.out.trans (by simp))
          rw [Nat.add_zero] at d0
          have h00 : (cl.take 0).any (· == tx) = false := by simp
          rw [h00]
          clear hat h0 h00
          by_cases he : ck0 = tx
          · have ve : (ck0 == tx) = true := by simpa using he
            clear he
            go_wp2_with fail
            go_round
            case rel => exact ⟨0 + 1, by omega, by go_num, by rw [HA3.out, ve]⟩
            case measure => simp [intOf]; omega
          · have ve : (ck0 == tx) = false := by simpa using he
            clear he
            go_wp2_with fail
            go_round
            case rel => exact ⟨0 + 1, by omega, by go_num, by rw [HA3.out, ve]⟩
            case measure => simp [intOf]; omega
      obtain rfl : k = m := by omega
      have hall : (cl.take k).any (· == tx) = decide (tx ∈ cl) := by
        rw [List.take_of_length_le (by have := HML.out; omega)]
        rw [Bool.eq_iff_iff]; simp
      rw [hall]
      have HL := Lib.hid hall
      clear hall
      by_cases he : rr = rs
      · have ve : (rr == rs) = true := by simpa using he
        clear he
        go_wp2_with fail
        go_ret
        exact ⟨rfl, hb10⟩
      · have ve : (rr == rs) = false := by simpa using he
        have HM : decide (tx ∈ cl) = true := by simpa using HRC.out he
        rw [HM]
        clear he HM
        go_wp2_with fail
        go_ret
        exact ⟨rfl, hb10⟩
--%%
end Go.Proofs.Ytlfeppbhicmeoaa
