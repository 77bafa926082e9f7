/-
  Layer 17's law OrderSweeps: its walk. Conditions as named.
-/
import Derived.Test.YtfhbnojhmeodiaaDoorLaw17a
import Derived.Test.YtfhbnojhmeodiaaDoorBookP5
import Derived.Laws.StructEq
namespace Go.Proofs.YtfhbnojhmeodiaaDoor
set_option linter.unusedVariables false
open Go.RowKit
theorem add_goodE {p : Nat} {l : List Od} (id pr am ra tt : Int) (w : World) (hb : Bk w p l) (hg : Good l) :
    Calls Tryd.prog 9 #[.pointer (some ⟨p, 0, none⟩), .agg #[.int .i64 id, .int .i64 pr, .int .i64 am, .int .i64 ra, .int .i64 tt]] w fun e w' => ∃ l2 r, (e = .returned (.int .i64 r) ∧ Bk w' p l2 ∧ Good l2 ∧ (r = 0 → orE id pr am ra tt = 0)) ∧ w.grownBy w' (some p) := by
  refine (badd_c p l id pr am ra tt w hb (by have := hg.len; omega) hg.so).mono ?_
  rintro e w' ⟨rfl, h1, h2⟩
  exact ⟨_, _, ⟨rfl, h1, hg.add ⟨rfl, rfl⟩, fun h => (addE_zero h).1⟩, h2⟩
theorem tk_one (xo xb xr xd xt xc : Int) (w : World) : TkSl (w.alloc (.cells #[.int .i64 xo, .int .i64 xb, .int .i64 xr, .int .i64 xd, .int .i64 xt, .int .i64 xc] 41)) (some ⟨w.heap.size, 0, none⟩) 1 [⟨xo, xb, xr, xd, xt, xc⟩] := by
  refine ⟨rfl, by decide, fun _ => ⟨w.heap.size, 0, rfl, by simp, fun k hk => ?_⟩⟩
  obtain rfl : k = 0 := by omega
  intro j u hu
  have hj : j < 6 := (List.getElem?_eq_some_iff.1 hu).1
  rw [cell_alloc, if_pos rfl]
  rcases (by omega : j = 0 ∨ j = 1 ∨ j = 2 ∨ j = 3 ∨ j = 4 ∨ j = 5) with rfl | rfl | rfl | rfl | rfl | rfl <;> (injection hu with hu; subst hu; rfl)
/-- one taken is put to a book -/
theorem took_one {p : Nat} {l : List Od} (xo xb xr xd xt xc : Int) (w : World) (hb : Bk w p l) (hg : GoodT l) :
    Calls Tryd.prog 18 #[.pointer (some ⟨p, 0, none⟩), .slice (some ⟨w.heap.size, 0, none⟩) 1 1] (w.alloc (.cells #[.int .i64 xo, .int .i64 xb, .int .i64 xr, .int .i64 xd, .int .i64 xt, .int .i64 xc] 41)) fun e w' => ∃ l2 r, (e = .returned (.int .i64 r) ∧ Bk w' p l2 ∧ GoodT l2) ∧ (w.alloc (.cells #[.int .i64 xo, .int .i64 xb, .int .i64 xr, .int .i64 xd, .int .i64 xt, .int .i64 xc] 41)).grownBy w' (some p) := by
  refine (btook_c p l (some ⟨w.heap.size, 0, none⟩) 1 1 [⟨xo, xb, xr, xd, xt, xc⟩] _ (hb.t (below1 w _)) (by have := hg.len; omega) (tk_one xo xb xr xd xt xc w)).mono ?_
  rintro e w' ⟨rfl, h1, h2⟩
  exact ⟨_, _, ⟨rfl, h1, hg.took _⟩, h2⟩
--%%
set_option maxRecDepth 100000 in
set_option maxHeartbeats 12800000 in
theorem orderSweeps_walk (A0 : Option Addr) (n0 c0 : Nat) (S : List Od) (A1 : Option Addr) (m c1 : Nat) (ts : List Tk) (w : World) (hl : OrSl w A0 n0 S) (ht : TkSl w A1 m ts) (htab : Tab w) :
    Calls Tryd.prog 7 #[.slice A0 n0 c0, .slice A1 m c1] w fun e w' => e = .returned (.bool true) ∧ Below w.heap.size w w' := by
  have HL := Lib.hid hl
  have HT := Lib.hid ht
  have HTB := Lib.hid htab
  have hn9 := hl.2.1
  have hm9 := ht.2.1
  have KB := Lib.hid (books_c w)
  clear hl ht htab
  go_enter Tryd.func7, Tryd.ntmps7
  go_wp2_with fail
  refine KB.out.mono ?_
  rintro e w1 ⟨rfl, hb1⟩
  by_cases h20 : 20 < n0
  · have v : decide ((20 : Int) < (n0 : Int)) = true := by simp; omega
    clear h20
    go_wp2_with fail
    go_ret
    exact ⟨rfl, hb1⟩
  have v : decide ((20 : Int) < (n0 : Int)) = false := by simp; omega
  by_cases h21 : 20 < m
  · have v2 : decide ((20 : Int) < (m : Int)) = true := by simp; omega
    clear h20 h21
    go_wp2_with fail
    go_ret
    exact ⟨rfl, hb1⟩
  have v2 : decide ((20 : Int) < (m : Int)) = false := by simp; omega
  clear h20
  have hbB := bA hb1 (.cells #[.slice none 0 0] 27)
  have hpp := Blk.mk w1 27 #[.slice none 0 0]
  have hpw : w.heap.size ≤ w1.heap.size := hb1.size
  have HB0 : Hid (Bk (w1.alloc (.cells #[.slice none 0 0] 27)) w1.heap.size []) := ⟨_, hpp, rfl, World.ownsRow_nil _ _ _ _⟩
  have HBB := Lib.hid hbB
  clear hpp hbB
  go_wp2_with fail
  go_loopw [40] (fun ci wr => ∃ (k : Nat) (l : List Od), k ≤ n0 ∧ ci = .int .i64 k ∧ Hid (Good l) ∧ Hid (Bk wr w1.heap.size l) ∧ Below w.heap.size w wr) (fun ci _ => n0 - (intOf ci).toNat)
  case atStart => exact ⟨0, [], Nat.zero_le _, rfl, Good.nil, HB0.out, HBB.out⟩
  case round =>
    obtain ⟨k, l, hk', rfl, HG, HK, hbl⟩ := hrel
    by_cases hk : k < n0
    case pos =>
      obtain ⟨b, off, rfl, hlt, hat⟩ := (HL.out.below hbl).2.2 (by omega)
      have hcl := hat k hk
      generalize S.getD k od0 = zz at *
      obtain ⟨id, pr, am, ra, tt, zk, zs⟩ := zz
      obtain ⟨a0, a1, a2, a3, a4⟩ : wr.cell? ⟨b, off + k * 5, none⟩ = some (.int .i64 id) ∧ wr.cell? ⟨b, off + k * 5 + 1, none⟩ = some (.int .i64 pr) ∧ wr.cell? ⟨b, off + k * 5 + 2, none⟩ = some (.int .i64 am) ∧ wr.cell? ⟨b, off + k * 5 + 3, none⟩ = some (.int .i64 ra) ∧ wr.cell? ⟨b, off + k * 5 + 4, none⟩ = some (.int .i64 tt) := ⟨hcl 0 _ rfl, hcl 1 _ rfl, hcl 2 _ rfl, hcl 3 _ rfl, hcl 4 _ rfl⟩
      have hb2 := bA hbl (.cells #[.int .i64 id, .int .i64 pr, .int .i64 am, .int .i64 ra, .int .i64 tt] 29)
      have KA := Lib.hid (add_goodE id pr am ra tt (wr.alloc (.cells #[.int .i64 id, .int .i64 pr, .int .i64 am, .int .i64 ra, .int .i64 tt] 29)) (HK.out.t (below1 wr (.cells #[.int .i64 id, .int .i64 pr, .int .i64 am, .int .i64 ra, .int .i64 tt] 29))) HG.out)
      have HB2 := Lib.hid hb2
      have HY := Lib.hid (Blk.mk wr 29 #[.int .i64 id, .int .i64 pr, .int .i64 am, .int .i64 ra, .int .i64 tt])
      have hplt := HK.out.lt
      clear hcl hat hbl hb2
      go_wp2_with fail
      refine KA.out.mono ?_
      rintro e w3 ⟨l2, r, ⟨rfl, hk3, hg3, hr⟩, hw3⟩
      have HB3 := Lib.hid (TurnB.below HB2.out hw3 hpw)
      have HY3 := Lib.hid (HY.out.grown hw3 (by simp; omega))
      have HK3 := Lib.hid hk3
      have HR := Lib.hid hr
      clear hw3 hk3 hr
      by_cases h0 : r = 0
      · have HOE := Lib.hid (HR.out h0)
        clear HR
        subst h0
        have HI : Hid (In17 id pr am ra tt) := In17.of_ok (orE_ok HOE.out)
        have KW := Lib.hid (owords_c id pr am ra tt w3 (by have := HI.out.id; exact ⟨by omega, by omega⟩) (by have := HI.out.pr; exact ⟨by omega, by omega⟩) (by have := HI.out.am; exact ⟨by omega, by omega⟩) (by have := HI.out.ra; exact ⟨by omega, by omega⟩) (by have := HI.out.tt; exact ⟨by omega, by omega⟩) (HTB.out.t HB3.out))
        obtain ⟨⟨x0, x1, x2, x3, x4⟩, _⟩ := HY3.out.a5f
        go_wp2_with fail
        refine KW.out.mono ?_
        rintro e w4 ⟨⟨b4, rfl, hs4⟩, hb4⟩
        have KP := Lib.hid (words_parse0 HI.out HOE.out (some ⟨b4, 0, none⟩) w4 hs4)
        clear hs4 x0 x1 x2 x3 x4
        have HB4 := Lib.hid hb4
        clear hb4
        go_wp2_with fail
        refine KP.out.mono ?_
        rintro e w5 ⟨rfl, hb5⟩
        have HB5 : Hid (Below w3.heap.size w3 w5) := bT HB4.out hb5
        have yy := Blk.mk w5 29 #[.int .i64 id, .int .i64 pr, .int .i64 am, .int .i64 ra, .int .i64 tt]
        have y5 := (HY3.out.t HB5.out).alloc (.cells #[.int .i64 id, .int .i64 pr, .int .i64 am, .int .i64 ra, .int .i64 tt] 29)
        obtain ⟨⟨x0, x1, x2, x3, x4⟩, _⟩ := yy.a5f
        obtain ⟨⟨y0, y1, y2, y3, y4⟩, _⟩ := y5.a5f
        have HKZ : Hid (Bk (w5.alloc (.cells #[.int .i64 id, .int .i64 pr, .int .i64 am, .int .i64 ra, .int .i64 tt] 29)) w1.heap.size l2) := (HK3.out.t HB5.out).t (below1 _ _)
        have HBZ : Hid (Below w.heap.size w (w5.alloc (.cells #[.int .i64 id, .int .i64 pr, .int .i64 am, .int .i64 ra, .int .i64 tt] 29))) := bA (bT HB3.out HB5.out) _
        clear yy y5 hb5
        go_wp2_with fail
        go_roundw
        case rel => exact ⟨k + 1, l2, by omega, by go_num, hg3, HKZ.out, HBZ.out⟩
        case measure => simp [intOf]; omega
      · have v0 : (r == 0) = false := by simpa using h0
        clear h0
        go_wp2_with fail
        go_roundw
        case rel => exact ⟨k + 1, l2, by omega, by go_num, hg3, HK3.out, HB3.out⟩
        case measure => simp [intOf]; omega
    obtain rfl : k = n0 := by omega
    have HGT := Lib.hid HG.out.t
    clear HG
    go_wp2_with fail
    go_loopw [63] (fun ci wr => ∃ (k : Nat) (l : List Od), k ≤ m ∧ ci = .int .i64 k ∧ Hid (GoodT l) ∧ Hid (Bk wr w1.heap.size l) ∧ Below w.heap.size w wr) (fun ci _ => m - (intOf ci).toNat)
    case atStart => exact ⟨0, l, Nat.zero_le _, rfl, HGT.out, HK.out, hbl⟩
    clear HGT HK hbl
    clear l
    case round =>
      obtain ⟨k2, l, hk2', rfl, HG, HK, hbl⟩ := hrel
      by_cases hk2 : k2 < m
      case pos =>
        obtain ⟨b, off, rfl, hlt, hat⟩ := (HT.out.below hbl).2.2 (by omega)
        have hcl := hat k2 hk2
        generalize ts.getD k2 tk0 = x at *
        obtain ⟨xo, xb, xr, xd, xt, xc⟩ := x
        obtain ⟨a0, a1, a2, a3, a4, a5⟩ : wr.cell? ⟨b, off + k2 * 6, none⟩ = some (.int .i64 xo) ∧ wr.cell? ⟨b, off + k2 * 6 + 1, none⟩ = some (.int .i64 xb) ∧ wr.cell? ⟨b, off + k2 * 6 + 2, none⟩ = some (.int .i64 xr) ∧ wr.cell? ⟨b, off + k2 * 6 + 3, none⟩ = some (.int .i64 xd) ∧ wr.cell? ⟨b, off + k2 * 6 + 4, none⟩ = some (.int .i64 xt) ∧ wr.cell? ⟨b, off + k2 * 6 + 5, none⟩ = some (.int .i64 xc) := ⟨hcl 0 _ rfl, hcl 1 _ rfl, hcl 2 _ rfl, hcl 3 _ rfl, hcl 4 _ rfl, hcl 5 _ rfl⟩
        have KT := took_one xo xb xr xd xt xc (wr.alloc (.cells #[.int .i64 xo, .int .i64 xb, .int .i64 xr, .int .i64 xd, .int .i64 xt, .int .i64 xc] 41)) (HK.out.t (below1 wr (.cells #[.int .i64 xo, .int .i64 xb, .int .i64 xr, .int .i64 xd, .int .i64 xt, .int .i64 xc] 41))) HG.out
        have hw0 : (wr.alloc (.cells #[.int .i64 xo, .int .i64 xb, .int .i64 xr, .int .i64 xd, .int .i64 xt, .int .i64 xc] 41)).heap.size = wr.heap.size + 1 := by simp
        rw [hw0] at KT
        have HKT := Lib.hid KT
        have HB2 := Lib.hid (bA (bA hbl (.cells #[.int .i64 xo, .int .i64 xb, .int .i64 xr, .int .i64 xd, .int .i64 xt, .int .i64 xc] 41)) (.cells #[.int .i64 xo, .int .i64 xb, .int .i64 xr, .int .i64 xd, .int .i64 xt, .int .i64 xc] 41))
        clear hcl hat hbl KT hw0
        go_wp2_with fail
        refine HKT.out.mono ?_
        rintro e w3 ⟨l2, r, ⟨rfl, hk3, hg3⟩, hw3⟩
        have HB3 := Lib.hid (TurnB.below HB2.out hw3 hpw)
        have HK3 := Lib.hid hk3
        clear hw3 hk3
        go_wp2_with fail
        go_roundw
        case rel => exact ⟨k2 + 1, l2, by omega, by go_num, hg3, HK3.out, HB3.out⟩
        case measure => simp [intOf]; omega
      obtain rfl : k2 = m := by omega
      -- what stands, and what is owed
      have hlen := HG.out.len
      obtain ⟨n, hn⟩ : ∃ n, n = l.length := ⟨_, rfl⟩
      have KL := Lib.hid (blist_c w1.heap.size l wr HK.out (by omega))
      unfold GivesOd at KL
      rw [← hn] at KL hlen
      have HN := Lib.hid hn
      clear hn
      clear hk2 hk2'
      go_wp2_with fail
      refine KL.out.mono ?_
      rintro e w4 ⟨⟨v4, rfl, ho4⟩, hb4⟩
      obtain ⟨A4, c4, rfl⟩ := own_slice ho4.2
      have HO4 := Lib.hid ho4
      have HK4 := Lib.hid (HK.out.t hb4)
      have HB4 := Lib.hid (bT hbl hb4)
      have KO := bowed_c w1.heap.size l w4 HK4.out (by rw [← HN.out]; omega)
      obtain ⟨so, no, eo, hv⟩ : ∃ so no eo, owedV l = ⟨eo, so, no⟩ := ⟨_, _, _, rfl⟩
      unfold OwedR at KO
      rw [hv] at KO
      have HKO := Lib.hid KO
      have HV := Lib.hid hv
      have HW4 := Lib.hid hpw
      clear ho4 hb4 hbl hv KO
      go_wp2_with fail
      refine HKO.out.mono ?_
      rintro e w5 ⟨rfl, hb5⟩
      have HO5 := Lib.hid (HO4.out.below hb5)
      have HK5 := Lib.hid (HK4.out.t hb5)
      have HB5 := Lib.hid (bT HB4.out hb5)
      clear hb5
      go_wp2_with fail
      go_loopw [16, 17, 18, 79] (fun cs cn cb ci wr => ∃ (k : Nat) (s m9 : Int) (b : Bool), k ≤ n ∧ ci = .int .i64 k ∧ cs = .int .i64 s ∧ cn = .int .i64 m9 ∧ cb = .bool b ∧ Hid (Ow l k b s m9) ∧ (0 ≤ s ∧ s ≤ 100000000000 * k) ∧ (0 ≤ m9 ∧ m9 ≤ k) ∧ Below w5.heap.size w5 wr) (fun _ _ _ ci _ => n - (intOf ci).toNat)
      case atStart => exact ⟨0, 0, 0, true, Nat.zero_le _, rfl, rfl, rfl, rfl, ow_start l, by omega, by omega, b0 _⟩
      case round =>
        obtain ⟨k3, s, m9, b, hk3', rfl, rfl, rfl, rfl, HOW, hs9, hm99, hbl⟩ := hrel
        obtain ⟨s1, s2⟩ := hs9
        obtain ⟨q1, q2⟩ := hm99
        by_cases hk3 : k3 < n
        case pos =>
          obtain ⟨b5, o5, rfl, hlt5, hat5⟩ := ((own_at HO5.out).below hbl).2.2 (by omega)
          have hcl := hat5 k3 hk3
          have hgd := HG.out.at (k := k3) (by rw [← HN.out]; exact hk3)
          have H1 := Lib.hid (ow_none HOW.out)
          have H2 : Hid (∀ s2 n2 : Int, _ → _ → Ow l (k3 + 1) false s2 n2) := fun s2 n2 h g => ow_off HOW.out h g
          have H3 := Lib.hid (fun a c d e => ow_zero HOW.out a c d e s1)
          have H4 := Lib.hid (fun a c d e => ow_more HOW.out a c d e s1)
          generalize l.getD k3 od0 = zz at *
          obtain ⟨id, pr, am, ra, tt, tk, ar⟩ := zz
          obtain ⟨d0, d1, d2, d3, d4, d5, d6⟩ : wr.cell? ⟨b5, o5 + k3 * 7, none⟩ = some (.int .i64 id) ∧ wr.cell? ⟨b5, o5 + k3 * 7 + 1, none⟩ = some (.int .i64 pr) ∧ wr.cell? ⟨b5, o5 + k3 * 7 + 2, none⟩ = some (.int .i64 am) ∧ wr.cell? ⟨b5, o5 + k3 * 7 + 3, none⟩ = some (.int .i64 ra) ∧ wr.cell? ⟨b5, o5 + k3 * 7 + 4, none⟩ = some (.int .i64 tt) ∧ wr.cell? ⟨b5, o5 + k3 * 7 + 5, none⟩ = some (.int .i64 tk) ∧ wr.cell? ⟨b5, o5 + k3 * 7 + 6, none⟩ = some (.int .i64 ar) := ⟨hcl 0 _ rfl, hcl 1 _ rfl, hcl 2 _ rfl, hcl 3 _ rfl, hcl 4 _ rfl, hcl 5 _ rfl, hcl 6 _ rfl⟩
          dsimp only at hgd H1 H2 H3 H4
          obtain ⟨t1, t2⟩ := hgd.1.hto
          have HMM : Hid (mrB tt = true ∧ mrB tk = true) := ⟨mr_iff.2 ⟨by omega, by omega⟩, hgd.2.1⟩
          obtain ⟨t3, t4⟩ := mr_iff.1 hgd.2.1
          have HB9 := Lib.hid (bA hbl (.cells #[.int .i64 id, .int .i64 pr, .int .i64 am, .int .i64 ra, .int .i64 tt, .int .i64 tk, .int .i64 ar] 39))
          clear hcl hat5 hgd hbl
          by_cases h0 : tt = 0
          · have v0 : (tt == 0) = true := by simpa using h0
            have HF := Lib.hid (H1.out h0)
            clear h0
            go_wp2_with fail
            go_roundw
            case rel => exact ⟨k3 + 1, s, m9 + 1, b, by omega, by go_num, rfl, rfl, rfl, HF.out, by omega, by omega, HB9.out⟩
            case measure => simp [intOf]; omega
          have v0 : (tt == 0) = false := by simpa using h0
          by_cases h1 : 100000000000 < tt - tk
          · have v1 : decide (100000000000 < tt - tk) = true := by simpa using h1
            have HF := Lib.hid (H2.out s m9 h0 (by rw [mr_iff]; omega))
            clear h0 h1
            go_wp2_with fail
            go_roundw
            case rel => exact ⟨k3 + 1, s, m9, false, by omega, by go_num, rfl, rfl, rfl, HF.out, by omega, by omega, HB9.out⟩
            case measure => simp [intOf]; omega
          have v1 : decide (100000000000 < tt - tk) = false := by simpa using h1
          have v2' : decide (tt - tk < -100000000000) = false := by simp; omega
          have h1' : tt - tk ≤ 100000000000 := by omega
          by_cases h2 : 0 < tt - tk
          · have v3 : decide (0 < tt - tk) = true := by simpa using h2
            have HF := H4.out h0 HMM.out h2 (mr_iff.2 ⟨by omega, by omega⟩)
            cases b with
            | false =>
              have HF2 : Hid (Ow l (k3 + 1) false (s + (tt - tk)) m9) := HF
              clear h0 h1 HF
              go_wp2_with fail
              go_roundw
              case rel => exact ⟨k3 + 1, s + (tt - tk), m9, false, by omega, by go_num, rfl, rfl, rfl, HF2.out, by omega, by omega, HB9.out⟩
              case measure => simp [intOf]; omega
            | true =>
              by_cases h9 : s + (tt - tk) ≤ 100000000000
              · have v9 : decide (s + (tt - tk) ≤ 100000000000) = true := by simpa using h9
                rw [v9] at HF
                have HF2 : Hid (Ow l (k3 + 1) true (s + (tt - tk)) m9) := HF
                clear h0 h1 HF h9
                go_wp2_with fail
                go_roundw
                case rel => exact ⟨k3 + 1, s + (tt - tk), m9, true, by omega, by go_num, rfl, rfl, rfl, HF2.out, by omega, by omega, HB9.out⟩
                case measure => simp [intOf]; omega
              · have v9 : decide (s + (tt - tk) ≤ 100000000000) = false := by simpa using h9
                rw [v9] at HF
                have HF2 : Hid (Ow l (k3 + 1) false (s + (tt - tk)) m9) := HF
                clear h0 h1 HF h9
                go_wp2_with fail
                go_roundw
                case rel => exact ⟨k3 + 1, s + (tt - tk), m9, false, by omega, by go_num, rfl, rfl, rfl, HF2.out, by omega, by omega, HB9.out⟩
                case measure => simp [intOf]; omega
          have v3 : decide (0 < tt - tk) = false := by simpa using h2
          have HF := Lib.hid (H3.out h0 HMM.out (by omega) (mr_iff.2 ⟨by omega, by omega⟩))
          clear h0 h1
          go_wp2_with fail
          go_roundw
          case rel => exact ⟨k3 + 1, s, m9, b, by omega, by go_num, rfl, rfl, rfl, HF.out, by omega, by omega, HB9.out⟩
          case measure => simp [intOf]; omega
        obtain rfl : k3 = n := by omega
        have HBR := Lib.hid (bT HB5.out hbl)
        have HKR := Lib.hid (HK5.out.t hbl)
        have HOR := Lib.hid (HO5.out.below hbl)
        have KS := Lib.hid (bsweep_c w1.heap.size l wr HKR.out (by rw [← HN.out]; omega))
        have HPR := Lib.hid (HKR.out.lt)
        clear hk3 hk3' hbl
        have hvv : if b = true then (eo = 0 ∧ so = s ∧ no = m9) else (eo = 10 ∧ so = 0 ∧ no = 0) := by
          have e1 : owedT l k3 = ⟨eo, so, no⟩ := by rw [HN.out]; exact HV.out
          cases b with
          | true =>
            have := (HOW.out.1 rfl).1
            rw [e1] at this
            injection this with i1 i2 i3
            exact ⟨i1, i2, i3⟩
          | false =>
            have := HOW.out.2 rfl
            rw [e1] at this
            injection this with i1 i2 i3
            exact ⟨i1, i2, i3⟩
        have HVV := Lib.hid hvv
        clear hvv HOW
        cases b
        case' false =>
          have u1 : (eo != 10) = false := by have := HVV.out; simp at this; simp [this.1]
          have u2 : (so != 0) = false := by have := HVV.out; simp at this; simp [this.2.1]
          have u3 : (no != 0) = false := by have := HVV.out; simp at this; simp [this.2.2]
        case' true =>
          have u1 : (eo != 0) = false := by have := HVV.out; simp at this; simp [this.1]
          have u2 : (so != s) = false := by have := HVV.out; simp at this; simp [this.2.1]
          have u3 : (no != m9) = false := by have := HVV.out; simp at this; simp [this.2.2]
        all_goals
          clear s1 s2 q1 q2
          go_wp2_with fail
          refine KS.out.mono ?_
          rintro e w6 ⟨⟨v6, rfl, ho6⟩, hk6, hg6⟩
          clear u1 u2 u3
          obtain ⟨gn, hgn⟩ : ∃ gn, gn = (sweepI l).length := ⟨_, rfl⟩
          unfold OwnN at ho6
          rw [← hgn] at ho6
          obtain ⟨A6, c6, rfl⟩ := own_slice ho6
          have HGN := Lib.hid hgn
          have HO6 := Lib.hid ho6
          have HK6 := Lib.hid hk6
          have HB6 := Lib.hid (TurnB.below HBR.out hg6 HW4.out)
          have HW6 : Hid (OwnOd w6 0 (.slice A4 k3 c4) k3 l) := by
            obtain ⟨u, h1, h2⟩ := HKR.out
            have ho := HOR.out
            exact ⟨ho.1, own_more (ho.2.kept hg6 (Or.inr fun he => own_blk ho.2 h1 (by decide) he.symm)) (Nat.zero_le _)⟩
          have hsl := sweep_len l l.length (Nat.le_refl _)
          rw [(sweep_all l).1, (sweep_all l).2, ← HN.out, ← hgn] at hsl
          obtain ⟨sn, hsn⟩ : ∃ sn, sn = (sweepL l).length := ⟨_, rfl⟩
          rw [← hsn] at hsl
          have KL2 := blist_c w1.heap.size (sweepL l) w6 hk6 (by rw [← hsn]; omega)
          unfold GivesOd at KL2
          rw [← hsn] at KL2
          have HKL2 := Lib.hid KL2
          have HSN := Lib.hid hsn
          have hgn9 : gn ≤ 8 := by omega
          have hsn9 : sn ≤ 8 := by omega
          have HSL := Lib.hid hsl
          clear ho6 hk6 hg6 hgn hsn KL2 hsl
          go_wp2_with fail
          refine HKL2.out.mono ?_
          rintro e w7 ⟨⟨v7, rfl, ho7⟩, hb7⟩
          obtain ⟨A7, c7, rfl⟩ := own_slice ho7.2
          have HO7 := Lib.hid ho7
          have HO67 : Hid (w7.ownsRow wr.heap.size 3 1 (.slice A6 gn c6) gn ((sweepI l).map (.int .i64))) := own_below HO6.out hb7
          have HW7 := Lib.hid (HW6.out.below hb7)
          have HK7 := Lib.hid (HK6.out.t hb7)
          have HB7 := Lib.hid (bT HB6.out hb7)
          clear ho7 hb7
          go_wp2_with fail
          go_loopw [24, 25, 143] (fun ck cm ci wr => ∃ (k a b : Nat), k ≤ k3 ∧ ci = .int .i64 k ∧ ck = .int .i64 a ∧ cm = .int .i64 b ∧ Hid (a = (sweepI (l.take k)).length) ∧ Hid (b = (sweepL (l.take k)).length) ∧ (a ≤ k ∧ b ≤ k) ∧ Below w7.heap.size w7 wr) (fun _ _ ci _ => k3 - (intOf ci).toNat)
          case atStart => exact ⟨0, 0, 0, Nat.zero_le _, rfl, rfl, rfl, rfl, rfl, by omega, b0 _⟩
          case round =>
            obtain ⟨k4, a, b, hk4', rfl, rfl, rfl, HA, HB, hab, hbl⟩ := hrel
            obtain ⟨ha9, hb9⟩ := hab
            by_cases hk4 : k4 < k3
            case pos =>
              have hkl : k4 < l.length := by rw [← HN.out]; exact hk4
              obtain ⟨b5, o5, rfl, hlt5, hat5⟩ := ((own_at HW7.out).below hbl).2.2 (by omega)
              have hcl := hat5 k4 hk4
              by_cases hg : goneO (l.getD k4 od0) = true
              · obtain ⟨g1, g2, g3, g4⟩ := sweep_gone hkl hg
                rw [← HA.out, ← HGN.out] at g1
                rw [← HA.out] at g2 g3
                rw [← HB.out] at g4
                have hrw := own_below HO67.out hbl
                obtain ⟨g, cg, hvg, hgB, hgl, hgc, hrw2⟩ := own_form hrw (by omega)
                injection hvg with e1 _ e2
                subst e1; subst e2
                have hcg : wr.cell? ⟨g, a, none⟩ = some (.int .i64 (l.getD k4 od0).id) := by
                  rw [hrw.cellAt a (by omega), List.getElem?_map]
                  have g5 : a < (sweepI l).length := by rw [← HGN.out]; exact g1
                  rw [List.getElem?_eq_getElem g5]
                  rw [getD_at (sweepI l) 0 g5] at g2
                  rw [g2]; rfl
                have HG3 := Lib.hid g3
                have HG4 := Lib.hid g4
                rw [goneO_iff] at hg
                generalize l.getD k4 od0 = zz at *
                obtain ⟨id, pr, am, ra, tt, tk, ar⟩ := zz
                obtain ⟨d0, d1, d2, d3, d4, d5, d6⟩ : wr.cell? ⟨b5, o5 + k4 * 7, none⟩ = some (.int .i64 id) ∧ wr.cell? ⟨b5, o5 + k4 * 7 + 1, none⟩ = some (.int .i64 pr) ∧ wr.cell? ⟨b5, o5 + k4 * 7 + 2, none⟩ = some (.int .i64 am) ∧ wr.cell? ⟨b5, o5 + k4 * 7 + 3, none⟩ = some (.int .i64 ra) ∧ wr.cell? ⟨b5, o5 + k4 * 7 + 4, none⟩ = some (.int .i64 tt) ∧ wr.cell? ⟨b5, o5 + k4 * 7 + 5, none⟩ = some (.int .i64 tk) ∧ wr.cell? ⟨b5, o5 + k4 * 7 + 6, none⟩ = some (.int .i64 ar) := ⟨hcl 0 _ rfl, hcl 1 _ rfl, hcl 2 _ rfl, hcl 3 _ rfl, hcl 4 _ rfl, hcl 5 _ rfl, hcl 6 _ rfl⟩
                dsimp only at hg hcg
                have v1 : decide (0 < tt) = true := by simpa using hg.1.1
                have v2' : decide (tt ≤ tk) = true := by simpa using hg.1.2
                have v3 : (ar == 0) = true := by simpa using hg.2
                have y := Blk.mk wr 39 #[.int .i64 id, .int .i64 pr, .int .i64 am, .int .i64 ra, .int .i64 tt, .int .i64 tk, .int .i64 ar]
                obtain ⟨y0, y1, y2, y3, y4, y5, y6⟩ := y.a7
                have hcg2 : (wr.alloc (.cells #[.int .i64 id, .int .i64 pr, .int .i64 am, .int .i64 ra, .int .i64 tt, .int .i64 tk, .int .i64 ar] 39)).cell? ⟨g, a, none⟩ = some (.int .i64 id) := by rw [cell_alloc, if_neg (by omega)]; exact hcg
                have k0 : (0 : Int) ≤ (a : Int) := by omega
                have k1 : (a : Int) < (gn : Int) := by omega
                have k2 : ((a : Int)).toNat = a := by omega
                have vg : decide ((gn : Int) ≤ (a : Int)) = false := by simp; omega
                have vg' : decide (gn ≤ a) = false := by simp; omega
                have vn : (id != id) = false := by simp
                have HB9 := Lib.hid (bA hbl (.cells #[.int .i64 id, .int .i64 pr, .int .i64 am, .int .i64 ra, .int .i64 tt, .int .i64 tk, .int .i64 ar] 39))
                clear g1 g2 g3 g4 hrw hrw2 hcl hat5 hg y hbl hcg hgB hgl hgc hkl
                go_wp2_with fail
                go_quiet (fail)
                go_wp2_with fail
                go_roundw
                case rel => exact ⟨k4 + 1, a + 1, b, by omega, by go_num, by go_num, rfl, HG3.out.symm, HG4.out.symm, by omega, bD HB9.out _⟩
                case measure => simp [intOf]; omega
              · obtain ⟨g1, g2, g3, g4⟩ := sweep_stays hkl hg
                rw [← HB.out, ← HSN.out] at g1
                rw [← HB.out] at g2 g4
                rw [← HA.out] at g3
                obtain ⟨b7, o7, rfl, hlt7, hat7⟩ := ((own_at HO7.out).below hbl).2.2 (by omega)
                have hcl7 := hat7 b g1
                rw [g2] at hcl7
                have HG3 := Lib.hid g3
                have HG4 := Lib.hid g4
                rw [goneO_iff] at hg
                generalize l.getD k4 od0 = zz at *
                obtain ⟨id, pr, am, ra, tt, tk, ar⟩ := zz
                obtain ⟨d0, d1, d2, d3, d4, d5, d6⟩ : wr.cell? ⟨b5, o5 + k4 * 7, none⟩ = some (.int .i64 id) ∧ wr.cell? ⟨b5, o5 + k4 * 7 + 1, none⟩ = some (.int .i64 pr) ∧ wr.cell? ⟨b5, o5 + k4 * 7 + 2, none⟩ = some (.int .i64 am) ∧ wr.cell? ⟨b5, o5 + k4 * 7 + 3, none⟩ = some (.int .i64 ra) ∧ wr.cell? ⟨b5, o5 + k4 * 7 + 4, none⟩ = some (.int .i64 tt) ∧ wr.cell? ⟨b5, o5 + k4 * 7 + 5, none⟩ = some (.int .i64 tk) ∧ wr.cell? ⟨b5, o5 + k4 * 7 + 6, none⟩ = some (.int .i64 ar) := ⟨hcl 0 _ rfl, hcl 1 _ rfl, hcl 2 _ rfl, hcl 3 _ rfl, hcl 4 _ rfl, hcl 5 _ rfl, hcl 6 _ rfl⟩
                obtain ⟨f0, f1, f2, f3, f4, f5, f6⟩ : wr.cell? ⟨b7, o7 + b * 7, none⟩ = some (.int .i64 id) ∧ wr.cell? ⟨b7, o7 + b * 7 + 1, none⟩ = some (.int .i64 pr) ∧ wr.cell? ⟨b7, o7 + b * 7 + 2, none⟩ = some (.int .i64 am) ∧ wr.cell? ⟨b7, o7 + b * 7 + 3, none⟩ = some (.int .i64 ra) ∧ wr.cell? ⟨b7, o7 + b * 7 + 4, none⟩ = some (.int .i64 tt) ∧ wr.cell? ⟨b7, o7 + b * 7 + 5, none⟩ = some (.int .i64 tk) ∧ wr.cell? ⟨b7, o7 + b * 7 + 6, none⟩ = some (.int .i64 ar) := ⟨hcl7 0 _ rfl, hcl7 1 _ rfl, hcl7 2 _ rfl, hcl7 3 _ rfl, hcl7 4 _ rfl, hcl7 5 _ rfl, hcl7 6 _ rfl⟩
                have hbw := below1 wr (.cells #[.int .i64 id, .int .i64 pr, .int .i64 am, .int .i64 ra, .int .i64 tt, .int .i64 tk, .int .i64 ar] 39)
                obtain ⟨x0, x1, x2, x3, x4, x5, x6⟩ : (wr.alloc (.cells #[.int .i64 id, .int .i64 pr, .int .i64 am, .int .i64 ra, .int .i64 tt, .int .i64 tk, .int .i64 ar] 39)).cell? ⟨b7, o7 + b * 7, none⟩ = some (.int .i64 id) ∧ (wr.alloc (.cells #[.int .i64 id, .int .i64 pr, .int .i64 am, .int .i64 ra, .int .i64 tt, .int .i64 tk, .int .i64 ar] 39)).cell? ⟨b7, o7 + b * 7 + 1, none⟩ = some (.int .i64 pr) ∧ (wr.alloc (.cells #[.int .i64 id, .int .i64 pr, .int .i64 am, .int .i64 ra, .int .i64 tt, .int .i64 tk, .int .i64 ar] 39)).cell? ⟨b7, o7 + b * 7 + 2, none⟩ = some (.int .i64 am) ∧ (wr.alloc (.cells #[.int .i64 id, .int .i64 pr, .int .i64 am, .int .i64 ra, .int .i64 tt, .int .i64 tk, .int .i64 ar] 39)).cell? ⟨b7, o7 + b * 7 + 3, none⟩ = some (.int .i64 ra) ∧ (wr.alloc (.cells #[.int .i64 id, .int .i64 pr, .int .i64 am, .int .i64 ra, .int .i64 tt, .int .i64 tk, .int .i64 ar] 39)).cell? ⟨b7, o7 + b * 7 + 4, none⟩ = some (.int .i64 tt) ∧ (wr.alloc (.cells #[.int .i64 id, .int .i64 pr, .int .i64 am, .int .i64 ra, .int .i64 tt, .int .i64 tk, .int .i64 ar] 39)).cell? ⟨b7, o7 + b * 7 + 5, none⟩ = some (.int .i64 tk) ∧ (wr.alloc (.cells #[.int .i64 id, .int .i64 pr, .int .i64 am, .int .i64 ra, .int .i64 tt, .int .i64 tk, .int .i64 ar] 39)).cell? ⟨b7, o7 + b * 7 + 6, none⟩ = some (.int .i64 ar) := ⟨(hbw.cell (p := ⟨b7, _, none⟩) hlt7).trans f0, (hbw.cell (p := ⟨b7, _, none⟩) hlt7).trans f1, (hbw.cell (p := ⟨b7, _, none⟩) hlt7).trans f2, (hbw.cell (p := ⟨b7, _, none⟩) hlt7).trans f3, (hbw.cell (p := ⟨b7, _, none⟩) hlt7).trans f4, (hbw.cell (p := ⟨b7, _, none⟩) hlt7).trans f5, (hbw.cell (p := ⟨b7, _, none⟩) hlt7).trans f6⟩
                have y := Blk.mk wr 39 #[.int .i64 id, .int .i64 pr, .int .i64 am, .int .i64 ra, .int .i64 tt, .int .i64 tk, .int .i64 ar]
                obtain ⟨y0, y1, y2, y3, y4, y5, y6⟩ := y.a7
                dsimp only at hg
                have k0 : (0 : Int) ≤ (b : Int) := by omega
                have k1 : (b : Int) < (sn : Int) := by omega
                have k2 : ((b : Int)).toNat = b := by omega
                have vg : decide ((sn : Int) ≤ (b : Int)) = false := by simp; omega
                have vg' : decide (sn ≤ b) = false := by simp; omega
                have HB9 := Lib.hid (bA hbl (.cells #[.int .i64 id, .int .i64 pr, .int .i64 am, .int .i64 ra, .int .i64 tt, .int .i64 tk, .int .i64 ar] 39))
                clear g1 g2 g3 g4 hcl hat5 hcl7 hat7 y hbl hbw hkl f0 f1 f2 f3 f4 f5 f6
                have hcs : (decide (0 < tt) = true ∧ decide (tt ≤ tk) = true ∧ (ar == 0) = false) ∨ (decide (0 < tt) = true ∧ decide (tt ≤ tk) = false) ∨ decide (0 < tt) = false := by
                  by_cases h1 : 0 < tt
                  · by_cases h2 : tt ≤ tk
                    · have h3 : ar ≠ 0 := fun h => hg ⟨⟨h1, h2⟩, h⟩
                      exact Or.inl ⟨decide_eq_true h1, decide_eq_true h2, by simpa using h3⟩
                    · exact Or.inr (Or.inl ⟨decide_eq_true h1, decide_eq_false h2⟩)
                  · exact Or.inr (Or.inr (decide_eq_false h1))
                clear hg
                rcases hcs with ⟨v1, v2', v3⟩ | ⟨v1, v2'⟩ | v1
                all_goals
                  go_wp2_with fail
                  go_quiet (fail)
                  go_wp2_with fail
                  go_roundw
                  case rel => exact ⟨k4 + 1, a, b + 1, by omega, by go_num, rfl, by go_num, HG3.out.symm, HG4.out.symm, by omega, bD HB9.out _⟩
                  case measure => simp [intOf]; omega
            obtain rfl : k4 = k3 := by omega
            have hag : a = gn := by
              have := HA.out
              rw [HN.out, (sweep_all l).2, ← HGN.out] at this
              exact this
            have hbg : b = sn := by
              have := HB.out
              rw [HN.out, (sweep_all l).1, ← HSN.out] at this
              exact this
            have va : ((a : Int) == (gn : Int)) = true := by rw [hag]; simp
            have vb : ((b : Int) == (sn : Int)) = true := by rw [hbg]; simp
            have KS2 := bsweep_c w1.heap.size (sweepL l) wr (HK7.out.t hbl) (by rw [← HSN.out]; omega)
            have HKS2 := Lib.hid KS2
            have HBE := Lib.hid (bT HB7.out hbl)
            have HTW := Lib.hid (sweep_twice l)
            clear hag hbg KS2 hbl
            go_wp2_with fail
            refine HKS2.out.mono ?_
            rintro e w8 ⟨⟨v8, rfl, ho8⟩, _, hg8⟩
            unfold OwnN at ho8
            rw [HTW.out] at ho8
            obtain ⟨A8, c8, rfl⟩ := own_slice ho8
            have HBF := Lib.hid (TurnB.below HBE.out hg8 HW4.out)
            clear ho8 hg8
            go_wp2_with fail
            go_ret
            exact ⟨rfl, HBF.out⟩
--%%
end Go.Proofs.YtfhbnojhmeodiaaDoor
