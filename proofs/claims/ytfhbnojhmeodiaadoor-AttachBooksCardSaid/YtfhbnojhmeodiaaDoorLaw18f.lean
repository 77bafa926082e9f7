/-
  Layer 18's law AttachBooks: its walk. Conditions as named.
-/
import Derived.Test.YtfhbnojhmeodiaaDoorAttB
import Derived.Test.YtfhbnojhmeodiaaDoorLaw18b
import Derived.Test.YtfhbnojhmeodiaaDoorI64
import Derived.Laws.StructEq
namespace Go.Proofs.YtfhbnojhmeodiaaDoor
set_option linter.unusedVariables false
open Go.RowKit
theorem add_goodB {p : Nat} {l : List Od} (id pr am ra tt : Int) (w : World) (hb : Bk w p l) (hg : Good l) :
    Calls Tryd.prog 9 #[.pointer (some ⟨p, 0, none⟩), .agg #[.int .i64 id, .int .i64 pr, .int .i64 am, .int .i64 ra, .int .i64 tt]] w fun e w' => ∃ l2 r, (e = .returned (.int .i64 r) ∧ Bk w' p l2 ∧ Good l2) ∧ w.grownBy w' (some p) := by
  refine (badd_c p l id pr am ra tt w hb (by have := hg.len; omega) hg.so).mono ?_
  rintro e w' ⟨rfl, h1, h2⟩
  exact ⟨_, _, ⟨rfl, h1, hg.add ⟨rfl, rfl⟩⟩, h2⟩
theorem below_of_grown {w w1 w2 : World} {p : Nat} (hb : Below w.heap.size w w1) (hg : w1.grownBy w2 (some p)) (hp : w.heap.size ≤ p) : Below w.heap.size w w2 := below_grown hb hg hb.size (fun k hk => by injection hk with hk; omega)
theorem OwnOd.keep {w w' : World} {n c : Nat} {A : Option Addr} {l : List Od} {p : Nat} {L : List Od} (h : OwnOd w 0 (.slice A n c) n l) (hk : Bk w p L) (hg : w.grownBy w' (some p)) : OwnOd w' 0 (.slice A n c) n l := by
  obtain ⟨u, h1, h2⟩ := hk
  exact ⟨h.1, own_more (h.2.kept hg (Or.inr fun he => own_blk h.2 h1 (by decide) he.symm)) (Nat.zero_le _)⟩
theorem OwnTk.keep {w w' : World} {b n c : Nat} {A : Option Addr} {l : List Tk} {p : Nat} {L : List Od} (h : OwnTk w b (.slice A n c) n l) (hk : Bk w p L) (hg : w.grownBy w' (some p)) : OwnTk w' 0 (.slice A n c) n l := by
  obtain ⟨u, h1, h2⟩ := hk
  exact ⟨h.1, own_more (h.2.kept hg (Or.inr fun he => own_blk h.2 h1 (by decide) he.symm)) (Nat.zero_le _)⟩
theorem tk_at {w : World} {base n c : Nat} {A : Option Addr} {l : List Tk} (h : OwnTk w base (.slice A n c) n l) : TkSl w A n l := by
  obtain ⟨A', c', he, hs⟩ := h.sl
  injection he with h1 _ _
  subst h1
  exact hs
--%%
set_option maxRecDepth 100000 in
set_option maxHeartbeats 12800000 in
theorem attachBooks_walk (A0 : Option Addr) (n0 c0 : Nat) (S : List Od) (A1 : Option Addr) (m c1 : Nat) (L : List Int) (prot : Int) (w : World) (hl : OrSl w A0 n0 S) (ht : I64Sl w A1 m L) (htab : Tab w) :
    Calls Tryd.prog 3 #[.slice A0 n0 c0, .slice A1 m c1, .int .i64 prot] w fun e w' => e = .returned (.bool true) ∧ Below w.heap.size w w' := by
  have HL := Lib.hid hl
  have HT := Lib.hid ht
  have hn9 := hl.2.1
  have hm9 := ht.2.1
  have KB := Lib.hid (serves_c w htab)
  clear hl ht htab
  go_enter Tryd.func3, Tryd.ntmps3
  go_wp2_with fail
  refine KB.out.mono ?_
  rintro e w1 ⟨rfl, hb1⟩
  by_cases h20 : 20 < n0
  · have v : decide ((20 : Int) < (n0 : Int)) = true := by simp; omega
    clear h20
    go_wp2_with fail
    go_ret
    exact ⟨rfl, hb1⟩
  have v : decide ((20 : Int) < (n0 : Int)) = false := by simp; omega
  by_cases h21 : 40 < m
  · have v2 : decide ((40 : Int) < (m : Int)) = true := by simp; omega
    clear h20 h21
    go_wp2_with fail
    go_ret
    exact ⟨rfl, hb1⟩
  have v2 : decide ((40 : Int) < (m : Int)) = false := by simp; omega
  clear h20
  have hbB := bA hb1 (.cells #[.slice none 0 0] 27)
  have hpp := Blk.mk w1 27 #[.slice none 0 0]
  have hpw : w.heap.size ≤ w1.heap.size := hb1.size
  have HB0 : Hid (Bk (w1.alloc (.cells #[.slice none 0 0] 27)) w1.heap.size []) := ⟨_, hpp, rfl, World.ownsRow_nil _ _ _ _⟩
  have HBB := Lib.hid hbB
  clear hpp hbB
  go_wp2_with fail
  go_loopw [34] (fun ci wr => ∃ (k : Nat) (l : List Od), k ≤ n0 ∧ ci = .int .i64 k ∧ Hid (Good l) ∧ Hid (Bk wr w1.heap.size l) ∧ Below w.heap.size w wr) (fun ci _ => n0 - (intOf ci).toNat)
  case atStart => exact ⟨0, [], Nat.zero_le _, rfl, Good.nil, HB0.out, HBB.out⟩
  case round =>
    obtain ⟨k, l, hk', rfl, HG, HK, hbl⟩ := hrel
    by_cases hk : k < n0
    case pos =>
      obtain ⟨b, off, rfl, hlt, hat⟩ := (HL.out.below hbl).2.2 (by omega)
      have hcl := hat k hk
      generalize S.getD k od0 = zz at *
      obtain ⟨id, pr, am, ra, tt, zk, zs⟩ := zz
      obtain ⟨a0, a1, a2, a3, a4⟩ : wr.cell? ⟨b, off + k * 5, none⟩ = some (.int .i64 id) ∧ wr.cell? ⟨b, off + k * 5 + 1, none⟩ = some (.int .i64 pr) ∧ wr.cell? ⟨b, off + k * 5 + 2, none⟩ = some (.int .i64 am) ∧ wr.cell? ⟨b, off + k * 5 + 3, none⟩ = some (.int .i64 ra) ∧ wr.cell? ⟨b, off + k * 5 + 4, none⟩ = some (.int .i64 tt) := ⟨hcl 0 _ rfl, hcl 1 _ rfl, hcl 2 _ rfl, hcl 3 _ rfl, hcl 4 _ rfl⟩
      have hb2 := bA hbl (.cells #[.int .i64 id, .int .i64 pr, .int .i64 am, .int .i64 ra, .int .i64 tt] 29)
      have KA := Lib.hid (add_goodB id pr am ra tt (wr.alloc (.cells #[.int .i64 id, .int .i64 pr, .int .i64 am, .int .i64 ra, .int .i64 tt] 29)) (HK.out.t (below1 wr (.cells #[.int .i64 id, .int .i64 pr, .int .i64 am, .int .i64 ra, .int .i64 tt] 29))) HG.out)
      have HB2 := Lib.hid hb2
      clear hcl hat hbl hb2
      go_wp2_with fail
      refine KA.out.mono ?_
      rintro e w3 ⟨l2, r, ⟨rfl, hk3, hg3⟩, hw3⟩
      have HB3 := Lib.hid (below_of_grown HB2.out hw3 hpw)
      clear hw3
      go_wp2_with fail
      go_roundw
      case rel => exact ⟨k + 1, l2, by omega, by go_num, hg3, hk3, HB3.out⟩
      case measure => simp [intOf]; omega
    obtain rfl : k = n0 := by omega
    have HGA := Lib.hid HG.out.a
    clear HG
    go_wp2_with fail
    go_loopw [43, 103] (fun ci _ wr => ∃ (k : Nat) (l : List Od), k ≤ m ∧ ci = .int .i64 k ∧ Hid (GoodA l) ∧ Hid (Bk wr w1.heap.size l) ∧ Below w.heap.size w wr) (fun ci _ _ => m - (intOf ci).toNat)
    case atStart => exact ⟨0, l, Nat.zero_le _, rfl, HGA.out, HK.out, hbl⟩
    clear HGA HK hbl
    clear l
    case round =>
      obtain ⟨k2, l, hk2', rfl, HG, HK, hbl⟩ := hrel
      by_cases hk2 : k2 < m
      case neg =>
        obtain rfl : k2 = m := by omega
        go_wp2_with fail
        go_ret
        exact ⟨rfl, hbl⟩
      obtain ⟨b, off, rfl, hlt, hat⟩ := ((HT.out).below hbl).2.2 (by omega)
      have hcl := hat k2 hk2
      generalize L.getD k2 0 = net at *
      have hlen := HG.out.len
      obtain ⟨n, hn⟩ : ∃ n, n = l.length := ⟨_, rfl⟩
      have KL := blist_c w1.heap.size l wr HK.out (by omega)
      unfold GivesOd at KL
      rw [← hn] at KL hlen
      have HKL := Lib.hid KL
      have HN := Lib.hid hn
      have HBL := Lib.hid hbl
      clear KL hn hbl hat
      go_wp2_with fail
      refine HKL.out.mono ?_
      rintro e w4 ⟨⟨v4, rfl, ho4⟩, hb4⟩
      clear hcl
      obtain ⟨A4, c4, rfl⟩ := own_slice ho4.2
      have HO4 : Hid (OwnOd w4 0 (.slice A4 n c4) n l) := ⟨ho4.1, own_more ho4.2 (Nat.zero_le _)⟩
      have HK4 := Lib.hid (HK.out.t hb4)
      have HB4 := Lib.hid (bT HBL.out hb4)
      clear ho4 hb4
      obtain ⟨se, hse⟩ : ∃ se, serveE l net prot = se := ⟨_, rfl⟩
      by_cases hs0 : se = 0
      case neg =>
        have KS := Lib.hid (serve_no net prot A4 n c4 l w4 (own_at HO4.out) (od_of HG.out HN.out) (by omega) se hse hs0)
        have KA := Lib.hid (fun W hk => abook_no net prot w1.heap.size l W hk HG.out se hse hs0)
        have v0 : (se != 0) = true := by simpa using hs0
        have vs : (se != se) = false := by simp
        clear hse hs0
        go_wp2_with fail
        refine KS.out.mono ?_
        rintro e w5 ⟨rfl, hb5⟩
        have HK5 := Lib.hid (HK4.out.t hb5)
        have HB45 := Lib.hid hb5
        clear hb5
        go_wp2_with fail
        refine (KA.out _ HK5.out).mono ?_
        rintro e w6 ⟨rfl, hb6⟩
        have HK6 := Lib.hid (HK5.out.t hb6)
        have HB46 := Lib.hid (bT HB45.out hb6)
        have KL2 := blist_c w1.heap.size l w6 HK6.out (by rw [← HN.out]; omega)
        unfold GivesOd at KL2
        rw [← HN.out] at KL2
        have HKL2 := Lib.hid KL2
        clear hb6 KL2
        go_wp2_with fail
        refine HKL2.out.mono ?_
        rintro e w7 ⟨⟨v7, rfl, ho7⟩, hb7⟩
        obtain ⟨A7, c7, rfl⟩ := own_slice ho7.2
        have HS7 := Lib.hid (own_at ho7)
        have HK7 := Lib.hid (HK6.out.t hb7)
        have HB47 := Lib.hid (bT HB46.out hb7)
        have HS4 := Lib.hid ((own_at HO4.out).below HB47.out)
        have HB7 := Lib.hid (bT HB4.out HB47.out)
        have vnn : ((n : Int) != (n : Int)) = false := by simp
        clear ho7 hb7
        go_wp2_with fail
        go_loopw [103] (fun ci wr => ∃ k : Nat, k ≤ n ∧ ci = .int .i64 k ∧ Below w7.heap.size w7 wr) (fun ci _ => n - (intOf ci).toNat)
        case atStart => exact ⟨0, Nat.zero_le _, rfl, b0 _⟩
        case round =>
          obtain ⟨k4, hk4', rfl, hbl⟩ := hrel
          by_cases hk4 : k4 < n
          case neg =>
            obtain rfl : k4 = n := by omega
            have HKR := Lib.hid (HK7.out.t hbl)
            have HBR := Lib.hid (bT HB7.out hbl)
            clear hbl
            go_wp2_with fail
            go_roundw
            case rel => exact ⟨k2 + 1, l, by omega, by go_num, HG.out, HKR.out, HBR.out⟩
            case measure => simp [intOf]; omega
          obtain ⟨b8, o8, rfl, hl8, hat8⟩ := (HS7.out.below hbl).2.2 (by omega)
          obtain ⟨b9, o9, rfl, hl9, hat9⟩ := (HS4.out.below hbl).2.2 (by omega)
          have g8 := hat8 k4 hk4
          have g9 := hat9 k4 hk4
          generalize l.getD k4 od0 = z1 at *
          obtain ⟨id, pr, am, ra, tt, tk, ar⟩ := z1
          obtain ⟨a0, a1, a2, a3, a4, a5, a6⟩ : wr.cell? ⟨b8, o8 + k4 * 7, none⟩ = some (.int .i64 id) ∧ wr.cell? ⟨b8, o8 + k4 * 7 + 1, none⟩ = some (.int .i64 pr) ∧ wr.cell? ⟨b8, o8 + k4 * 7 + 2, none⟩ = some (.int .i64 am) ∧ wr.cell? ⟨b8, o8 + k4 * 7 + 3, none⟩ = some (.int .i64 ra) ∧ wr.cell? ⟨b8, o8 + k4 * 7 + 4, none⟩ = some (.int .i64 tt) ∧ wr.cell? ⟨b8, o8 + k4 * 7 + 5, none⟩ = some (.int .i64 tk) ∧ wr.cell? ⟨b8, o8 + k4 * 7 + 6, none⟩ = some (.int .i64 ar) := ⟨g8 0 _ rfl, g8 1 _ rfl, g8 2 _ rfl, g8 3 _ rfl, g8 4 _ rfl, g8 5 _ rfl, g8 6 _ rfl⟩
          obtain ⟨e0, e1, e2, e3, e4, e5, e6⟩ : wr.cell? ⟨b9, o9 + k4 * 7, none⟩ = some (.int .i64 id) ∧ wr.cell? ⟨b9, o9 + k4 * 7 + 1, none⟩ = some (.int .i64 pr) ∧ wr.cell? ⟨b9, o9 + k4 * 7 + 2, none⟩ = some (.int .i64 am) ∧ wr.cell? ⟨b9, o9 + k4 * 7 + 3, none⟩ = some (.int .i64 ra) ∧ wr.cell? ⟨b9, o9 + k4 * 7 + 4, none⟩ = some (.int .i64 tt) ∧ wr.cell? ⟨b9, o9 + k4 * 7 + 5, none⟩ = some (.int .i64 tk) ∧ wr.cell? ⟨b9, o9 + k4 * 7 + 6, none⟩ = some (.int .i64 ar) := ⟨g9 0 _ rfl, g9 1 _ rfl, g9 2 _ rfl, g9 3 _ rfl, g9 4 _ rfl, g9 5 _ rfl, g9 6 _ rfl⟩
          have kk0 : (0 : Int) ≤ (k4 : Int) := by omega
          have kk1 : (k4 : Int) < (n : Int) := by omega
          have kk2 : ((k4 : Int)).toNat = k4 := by omega
          have HBL2 := Lib.hid hbl
          clear g8 g9 hat8 hat9 hbl
          go_wp2_with fail
          go_quiet (fail)
          go_wp2_with fail
          go_roundw
          case rel => exact ⟨k4 + 1, by omega, by go_num, bD HBL2.out _⟩
          case measure => simp [intOf]; omega
      have hse := hse.trans hs0
      clear hs0
      have KS := Lib.hid (serve_yes net prot A4 n c4 l w4 (own_at HO4.out) (od_of HG.out HN.out) (by omega) hse)
      by_cases hT : tookE l (tkL l net prot l.length) = 0
      case neg =>
        have KA := Lib.hid (fun W hk => abook_f net prot w1.heap.size l W hk HG.out hse hT)
        clear hse hT
        go_wp2_with fail
        refine KS.out.mono ?_
        rintro e w5 ⟨v5, ⟨rfl, ho5⟩, hb5⟩
        obtain ⟨A5, c5, rfl⟩ := own_slice ho5.2
        have HK5 := Lib.hid (HK4.out.t hb5)
        have HB5 := Lib.hid (bT HB4.out hb5)
        clear hb5 ho5
        go_wp2_with fail
        refine (KA.out _ HK5.out).mono ?_
        rintro e w6 ⟨⟨rfl, hk6⟩, hg6⟩
        have HB6 := Lib.hid (below_of_grown HB5.out hg6 hpw)
        have KL2 := blist_c w1.heap.size l w6 hk6 (by rw [← HN.out]; omega)
        unfold GivesOd at KL2
        rw [← HN.out] at KL2
        have HKL2 := Lib.hid KL2
        clear hk6 hg6 KL2
        go_wp2_with fail
        refine HKL2.out.mono ?_
        rintro e w7 ⟨⟨v7, rfl, ho7⟩, hb7⟩
        obtain ⟨A7, c7, rfl⟩ := own_slice ho7.2
        have HB7 := Lib.hid (bT HB6.out hb7)
        clear ho7 hb7
        go_wp2_with fail
        go_ret
        exact ⟨rfl, HB7.out⟩
      have KA := Lib.hid (fun W hk => abook_t net prot w1.heap.size l W hk HG.out hse hT)
      rw [← HN.out] at KA
      have HP := Lib.hid (fun k (hk : k < l.length) => per_od HG.out hse hT hk)
      have HGN := Lib.hid (HG.out.per hse hT)
      rw [← HN.out] at HP HGN
      have HLN : Hid ((tookL l (tkL l net prot n)).length = n) := by unfold Hid; rw [tookL_len, ← HN.out]
      clear hse hT
      generalize hts : tkL l net prot n = ts at *
      generalize htl : tookL l ts = tl at *
      clear hts htl
      generalize leftA l net prot n = la at *
      have vla : (la != la) = false := by simp
      have vnn : ((n : Int) != (n : Int)) = false := by simp
      go_wp2_with fail
      refine KS.out.mono ?_
      rintro e w5 ⟨v5, ⟨rfl, ho5⟩, hb5⟩
      obtain ⟨A5, c5, rfl⟩ := own_slice ho5.2
      have HO5 : Hid (OwnTk w5 0 (.slice A5 n c5) n ts) := ⟨ho5.1, own_more ho5.2 (Nat.zero_le _)⟩
      have HK5 := Lib.hid (HK4.out.t hb5)
      have HB5 := Lib.hid (bT HB4.out hb5)
      have HO45 : Hid (OwnOd w5 0 (.slice A4 n c4) n l) := ⟨HO4.out.1, own_below HO4.out.2 hb5⟩
      clear hb5 ho5
      go_wp2_with fail
      refine (KA.out _ HK5.out).mono ?_
      rintro e w6 ⟨v6, ⟨rfl, ho6, hk6⟩, hg6⟩
      obtain ⟨A6, c6, rfl⟩ := own_slice ho6.2
      have HO6 : Hid (OwnTk w6 0 (.slice A6 n c6) n ts) := ⟨ho6.1, own_more ho6.2 (Nat.zero_le _)⟩
      have HO56 := Lib.hid (HO5.out.keep HK5.out hg6)
      have HO46 := Lib.hid (HO45.out.keep HK5.out hg6)
      have HB6 := Lib.hid (below_of_grown HB5.out hg6 hpw)
      have HK6 := Lib.hid hk6
      have KL2 := blist_c w1.heap.size tl w6 hk6 (by rw [HLN.out]; omega)
      unfold GivesOd at KL2
      rw [HLN.out] at KL2
      have HKL2 := Lib.hid KL2
      clear hk6 hg6 KL2 ho6
      go_wp2_with fail
      refine HKL2.out.mono ?_
      rintro e w7 ⟨⟨v7, rfl, ho7⟩, hb7⟩
      obtain ⟨A7, c7, rfl⟩ := own_slice ho7.2
      have HS7 := Lib.hid (own_at ho7)
      have HK7 := Lib.hid (HK6.out.t hb7)
      have HB7 := Lib.hid (bT HB6.out hb7)
      have HS4 := Lib.hid ((own_at HO46.out).below hb7)
      have HT5 := Lib.hid ((tk_at HO56.out).below hb7)
      have HT6 := Lib.hid ((tk_at HO6.out).below hb7)
      clear ho7 hb7
      go_wp2_with fail
      go_loopw [103] (fun ci wr => ∃ k : Nat, k ≤ n ∧ ci = .int .i64 k ∧ Below w7.heap.size w7 wr) (fun ci _ => n - (intOf ci).toNat)
      case atStart => exact ⟨0, Nat.zero_le _, rfl, b0 _⟩
      case round =>
        obtain ⟨k4, hk4', rfl, hbl⟩ := hrel
        by_cases hk4 : k4 < n
        case neg =>
          obtain rfl : k4 = n := by omega
          have HKR := Lib.hid (HK7.out.t hbl)
          have HBR := Lib.hid (bT HB7.out hbl)
          clear hbl
          go_wp2_with fail
          go_roundw
          case rel => exact ⟨k2 + 1, tl, by omega, by go_num, HGN.out, HKR.out, HBR.out⟩
          case measure => simp [intOf]; omega
        obtain ⟨b8, o8, rfl, hl8, hat8⟩ := (HS7.out.below hbl).2.2 (by omega)
        obtain ⟨b9, o9, rfl, hl9, hat9⟩ := (HS4.out.below hbl).2.2 (by omega)
        obtain ⟨bw, ow, rfl, hlw, hatw⟩ := (HT5.out.below hbl).2.2 (by omega)
        obtain ⟨bg, og, rfl, hlg, hatg⟩ := (HT6.out.below hbl).2.2 (by omega)
        have g8 := hat8 k4 hk4
        have g9 := hat9 k4 hk4
        have gw := hatw k4 hk4
        have gg := hatg k4 hk4
        have P := HP.out k4 hk4
        generalize l.getD k4 od0 = z1 at *
        generalize ts.getD k4 tk0 = z2 at *
        generalize tl.getD k4 od0 = z3 at *
        obtain ⟨id, pr, am, ra, tt, tk, ar⟩ := z1
        obtain ⟨xo, xb, xr, xd, xt, xc⟩ := z2
        obtain ⟨yd, yp, ya, yr, yt, yk, ys⟩ := z3
        obtain ⟨⟨p1, p2, p3, p4, p5⟩, p6, p7, p8, p9, pa, pt⟩ := P
        dsimp only at p1 p2 p3 p4 p5 p6 p7 p8 p9 pa pt
        subst p1; subst p2; subst p3; subst p4; subst p5; subst p6; subst p7; subst p8
        obtain ⟨a0, a1, a2, a3, a4, a5, a6⟩ : wr.cell? ⟨b8, o8 + k4 * 7, none⟩ = some (.int .i64 yd) ∧ wr.cell? ⟨b8, o8 + k4 * 7 + 1, none⟩ = some (.int .i64 yp) ∧ wr.cell? ⟨b8, o8 + k4 * 7 + 2, none⟩ = some (.int .i64 ya) ∧ wr.cell? ⟨b8, o8 + k4 * 7 + 3, none⟩ = some (.int .i64 yr) ∧ wr.cell? ⟨b8, o8 + k4 * 7 + 4, none⟩ = some (.int .i64 yt) ∧ wr.cell? ⟨b8, o8 + k4 * 7 + 5, none⟩ = some (.int .i64 (tk + xt)) ∧ wr.cell? ⟨b8, o8 + k4 * 7 + 6, none⟩ = some (.int .i64 ys) := ⟨g8 0 _ rfl, g8 1 _ rfl, g8 2 _ rfl, g8 3 _ rfl, g8 4 _ rfl, g8 5 _ rfl, g8 6 _ rfl⟩
        obtain ⟨e0, e1, e2, e3, e4, e5, e6⟩ : wr.cell? ⟨b9, o9 + k4 * 7, none⟩ = some (.int .i64 yd) ∧ wr.cell? ⟨b9, o9 + k4 * 7 + 1, none⟩ = some (.int .i64 yp) ∧ wr.cell? ⟨b9, o9 + k4 * 7 + 2, none⟩ = some (.int .i64 ya) ∧ wr.cell? ⟨b9, o9 + k4 * 7 + 3, none⟩ = some (.int .i64 yr) ∧ wr.cell? ⟨b9, o9 + k4 * 7 + 4, none⟩ = some (.int .i64 yt) ∧ wr.cell? ⟨b9, o9 + k4 * 7 + 5, none⟩ = some (.int .i64 tk) ∧ wr.cell? ⟨b9, o9 + k4 * 7 + 6, none⟩ = some (.int .i64 xb) := ⟨g9 0 _ rfl, g9 1 _ rfl, g9 2 _ rfl, g9 3 _ rfl, g9 4 _ rfl, g9 5 _ rfl, g9 6 _ rfl⟩
        obtain ⟨f0, f1, f2, f3, f4, f5⟩ : wr.cell? ⟨bw, ow + k4 * 6, none⟩ = some (.int .i64 xo) ∧ wr.cell? ⟨bw, ow + k4 * 6 + 1, none⟩ = some (.int .i64 xb) ∧ wr.cell? ⟨bw, ow + k4 * 6 + 2, none⟩ = some (.int .i64 xr) ∧ wr.cell? ⟨bw, ow + k4 * 6 + 3, none⟩ = some (.int .i64 xd) ∧ wr.cell? ⟨bw, ow + k4 * 6 + 4, none⟩ = some (.int .i64 xt) ∧ wr.cell? ⟨bw, ow + k4 * 6 + 5, none⟩ = some (.int .i64 ys) := ⟨gw 0 _ rfl, gw 1 _ rfl, gw 2 _ rfl, gw 3 _ rfl, gw 4 _ rfl, gw 5 _ rfl⟩
        obtain ⟨h0, h1, h2, h3, h4, h5⟩ : wr.cell? ⟨bg, og + k4 * 6, none⟩ = some (.int .i64 xo) ∧ wr.cell? ⟨bg, og + k4 * 6 + 1, none⟩ = some (.int .i64 xb) ∧ wr.cell? ⟨bg, og + k4 * 6 + 2, none⟩ = some (.int .i64 xr) ∧ wr.cell? ⟨bg, og + k4 * 6 + 3, none⟩ = some (.int .i64 xd) ∧ wr.cell? ⟨bg, og + k4 * 6 + 4, none⟩ = some (.int .i64 xt) ∧ wr.cell? ⟨bg, og + k4 * 6 + 5, none⟩ = some (.int .i64 ys) := ⟨gg 0 _ rfl, gg 1 _ rfl, gg 2 _ rfl, gg 3 _ rfl, gg 4 _ rfl, gg 5 _ rfl⟩
        have kk0 : (0 : Int) ≤ (k4 : Int) := by omega
        have kk1 : (k4 : Int) < (n : Int) := by omega
        have kk2 : ((k4 : Int)).toNat = k4 := by omega
        have HBL2 := Lib.hid hbl
        clear g8 g9 gw gg hat8 hat9 hatw hatg hbl
        have q1 : IntKind.i64.wrap (tk + xt) = tk + xt := IntWalk.i64_in _ (by omega)
        have q2 : IntKind.i64.wrap (tk + xt + ys) = tk + xt + ys := IntWalk.i64_in _ (by omega)
        by_cases ht0 : 0 < yt
        case' pos =>
          have v3 : decide (0 < yt) = true := by simpa using ht0
          have v4 : decide (yt < tk + xt + ys) = false := by have := pt ht0; simp; omega
        case' neg =>
          have v3 : decide (0 < yt) = false := by simpa using ht0
          have v4 : True := trivial
        all_goals
          clear p9 pa pt ht0
          go_wp2_with fail
          go_quiet (fail)
          go_wp2_with fail
          go_quiet (fail)
          go_wp2_with fail
          go_roundw
          case rel => exact ⟨k4 + 1, by omega, by go_num, bD HBL2.out _⟩
          case measure => simp [intOf]; omega
--%%
end Go.Proofs.YtfhbnojhmeodiaaDoor
