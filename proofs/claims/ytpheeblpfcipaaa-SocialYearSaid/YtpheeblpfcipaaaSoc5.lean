/-
  Contracts of social.ToDate, Corners and Rates (these two for one band). Conditions as named.
-/
import Derived.Test.YtpheeblpfcipaaaSoc4
import Derived.Test.YtpheeblpfcipaaaBand3
namespace Go.Proofs.Ytpheeblpfcipaaa
set_option linter.unusedVariables false
open Go.RowKit
/-- may all sums up to the end be? -/
def okT (cts : List Ct) (l : List Bs) (nc n : Nat) : Prop := (∀ k, k < n → okY cts l nc k = true) ∧ ∀ k i, k < n → i < nc → okS (rowY cts l nc) k i = true
def ToDR (cts : List Ct) (l : List Bs) (nc n : Nat) (w : World) (e : Ending) (w' : World) : Prop :=
  ((okT cts l nc n ∧ ∃ v, e = .returned (.tuple #[v, .int .i64 0]) ∧ OwnS w' w.heap.size v nc (sumL (rowY cts l nc) nc n 0)) ∨
   (¬ okT cts l nc n ∧ e = .returned (.tuple #[.slice none 0 0, .int .i64 10]))) ∧ Below w.heap.size w w'
--%%
theorem todate_c (cts : List Ct) (As Ac Ak A : Option Addr) (ns cs nc cc nk ck n c : Nat) (lim rnd : Int) (l : List Bs) (w : World) (hs : CtSl w Ac nc cts) (hok : ∀ k, k < nc → CtOK (cts.getD k ct0)) (hl : BsSl w A n l) (hn : nc ≤ 64) (hn2 : n ≤ 1000) :
    Calls Try.prog 15 #[.agg #[.slice As ns cs, .slice Ac nc cc, .slice Ak nk ck, .int .i64 lim, .int .i64 rnd], .slice A n c] w (ToDR cts l nc n w) := by
  have KY := Lib.hid (fun W h1 h2 => year_c cts As Ac Ak A ns cs nc cc nk ck n c lim rnd l W h1 hok h2 (by omega) hn2)
  have HS := Lib.hid hs
  have HL := Lib.hid hl
  have z := Blk.mk w 26 #[.slice As ns cs, .slice Ac nc cc, .slice Ak nk ck, .int .i64 lim, .int .i64 rnd]
  have hb0 := below1 w (.cells #[.slice As ns cs, .slice Ac nc cc, .slice Ak nk ck, .int .i64 lim, .int .i64 rnd] 26)
  clear hs hl hok
  go_enter Try.func15, Try.ntmps15
  go_wp2_with fail
  refine (KY.out _ (HS.out.below hb0) (HL.out.below hb0)).mono ?_
  rintro e w1 ⟨⟨hyes, v, rfl, hv⟩ | ⟨⟨k, hk, hno⟩, rfl⟩, hb1⟩
  case inr =>
    have HN : Hid (¬ okT cts l nc n) := fun h => by
      have := h.1 k hk
      rw [hno] at this
      cases this
    clear hno
    go_wp2_with fail
    go_ret2
    exact ⟨Or.inr ⟨HN.out, rfl⟩, bT hb0 hb1⟩
  have HY := Lib.hid hyes
  clear hyes
  obtain ⟨A1, c1, rfl, hc1, hr⟩ := hv.sl (by omega)
  have HV := Lib.hid hv
  have KS := Lib.hid (sum_c (rowY cts l nc) A1 n c1 nc w1 hr hn)
  have z1 := z.t hb1
  obtain ⟨p0, p1, p2, p3, p4⟩ := z1.all5
  have hb2 := bT hb0 hb1
  clear hv hr
  go_wp2_with fail
  refine KS.out.mono ?_
  rintro e w2 ⟨⟨hyes, v, rfl, hv⟩ | ⟨⟨k, i, hk, hi, hno⟩, rfl⟩, hb3⟩
  · have HT : Hid (okT cts l nc n) := ⟨HY.out, hyes⟩
    have HVV := Lib.hid hv
    clear hyes hv
    go_wp2_with fail
    go_ret2
    exact ⟨Or.inl ⟨HT.out, v, rfl, HVV.out.1, own_more HVV.out.2 hb2.size⟩, bT hb2 hb3⟩
  · have HN : Hid (¬ okT cts l nc n) := fun h => by
      have := h.2 k i hk hi
      rw [hno] at this
      cases this
    clear hno
    go_wp2_with fail
    go_ret2
    exact ⟨Or.inr ⟨HN.out, rfl⟩, bT hb2 hb3⟩
--%%
theorem find1_c (x : Int) (A : Option Addr) (c : Nat) (w : World) : Calls Try.prog 36 #[.int .i64 x, .slice A 1 c] w fun e w' => e = .returned (.int .i64 0) ∧ w = w' := by
  go_enter Try.func36, Try.ntmps36
  go_wp2_with fail
  refine wp_loop_rounds 1 ?_
  rw [rounds_succ]
  go_wp2_with fail
  go_ret
  exact ⟨rfl, rfl⟩
--%%
theorem corners1_c (nm : ByteArray) (base pc yc rd : Int) (b : Bd) (A : Option Addr) (c : Nat) (ah top : Int) (w : World) (h : BandSl w A 1 [b]) (hyc : 0 ≤ yc ∧ yc ≤ 100000000000) (ha : -100000000000 ≤ ah ∧ ah ≤ 100000000000)
    (ht : top = underI pc yc 100000000000 ah) (h1 : 0 < top) (h2 : top < 100000000000) :
    Calls Try.prog 20 #[.agg #[.string nm, .int .i64 base, .slice A 1 c, .int .i64 pc, .int .i64 yc, .int .i64 rd], .int .i64 ah] w (GivesI 2 [0, top] w) := by
  have KU := Lib.hid (under_c nm base pc yc rd A 1 c 100000000000 ah · (by omega) (by omega))
  rw [← ht] at KU
  have HB := Lib.hid h
  have z := Blk.mk w 31 #[.string nm, .int .i64 base, .slice A 1 c, .int .i64 pc, .int .i64 yc, .int .i64 rd]
  have z1 := z.alloc (.cells #[.int .i64 0] 2)
  have HO := Lib.hid (World.ownsRow_lit (e := 2) (size := 1) (base := w.heap.size) (w.alloc (.cells #[.string nm, .int .i64 base, .slice A 1 c, .int .i64 pc, .int .i64 yc, .int .i64 rd] 31)) #[.int .i64 0] 1 (by simp) (by decide) rfl)
  have hb0 := bA (below1 w (.cells #[.string nm, .int .i64 base, .slice A 1 c, .int .i64 pc, .int .i64 yc, .int .i64 rd] 31)) (.cells #[.int .i64 0] 2)
  clear ht h
  go_enter Try.func20, Try.ntmps20
  go_wp2_with fail
  refine (KU.out _).mono ?_
  rintro e w1 ⟨rfl, hb1⟩
  have z2 := z1.t hb1
  have HO1 := Lib.hid (own_below HO.out hb1)
  have hb2 := bT hb0 hb1
  obtain ⟨p0, p1, p2, p3, p4, p5⟩ := z2.all6
  go_wp2_with fail
  refine (bcorners_c [b] A 1 c _ (HB.out.below hb2) (by decide)).mono ?_
  rintro e w2 ⟨⟨v, rfl, hv⟩, hb3⟩
  obtain ⟨A2, c2, rfl, _, _⟩ := hv.sl
  have HO2 := Lib.hid (own_below HO1.out hb3)
  have hb4 := bT hb2 hb3
  have hs4 := hb4.size
  rw [World.size_alloc] at HO2
  clear hv
  go_wp2_with fail
  refine wp_loop_rounds 1 ?_
  rw [rounds_succ]
  go_wp2_with (at_builtin; refine wpList_app1 _ rfl _ _ 61 rfl 2 _ 1 8 Try.underlying61 info_i64 rfl (by decide) rfl HO2.out _ rfl (by first | rfl | simp) rfl (by simp [Value.oneCell']) (by omega) (by omega) (by first | omega | (simp; omega)) ?_; intro v' w4 ho' hg)
  go_ret
  exact ⟨⟨_, rfl, rfl, by simpa using ho'⟩, bP hb4 HO2.out hg (Nat.le_refl _)⟩
--%%
end Go.Proofs.Ytpheeblpfcipaaa
