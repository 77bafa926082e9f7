/-
  Contracts of tax.Exact and tax.Due. Conditions as named.
-/
import Derived.Test.YtankoappneglcaaCode3
import Derived.Test.YtankoappneglcaaScaleP
import Derived.Deep.RegionHeld3
namespace Go.Proofs.Ytankoappneglcaa
set_option linter.unusedVariables false
open Go.RowKit
/-- why no tax is reckoned -/
def exE (sch : List (List Bd)) (c : Cd) (tx n d : Int) : Int := if fitE sch c ≠ 0 then fitE sch c else chargeE c tx n d
/-- the tax, exactly -/
def exV (sch : List (List Bd)) (c : Cd) (tx n d : Int) : Int :=
  if c.k = 4 then 0 else if c.k = 3 then chargeV c tx n d * ((sch.getD c.s.toNat []).getD c.f.toNat bd0).r
  else progS (chargeV c tx n d) (fr (sch.getD c.s.toNat []) n d) (fun k => ((sch.getD c.s.toNat []).getD k bd0).r) (sch.getD c.s.toNat []).length (sch.getD c.s.toNat []).length
theorem fit_ok {sch : List (List Bd)} {c : Cd} (h : fitE sch c = 0) : codeErr c.s c.k c.a c.f = 0 ∧ 0 ≤ c.s ∧ c.s < sch.length ∧ 0 ≤ c.f ∧ (c.k = 3 → c.f < (sch.getD c.s.toNat []).length) := by
  unfold fitE at h
  by_cases h1 : codeErr c.s c.k c.a c.f = 0
  · rw [if_neg (by simpa using h1)] at h
    have ha := code_a _ _ _ _ h1
    by_cases h2 : (sch.length : Int) ≤ c.s
    · rw [if_pos h2] at h; cases h
    · rw [if_neg h2] at h
      refine ⟨h1, by omega, by omega, by omega, fun h3 => ?_⟩
      by_cases h4 : ((sch.getD c.s.toNat []).length : Int) ≤ c.f
      · rw [if_pos ⟨h3, h4⟩] at h; cases h
      · omega
  · rw [if_pos h1] at h
    exact absurd h h1
theorem charge_ok {c : Cd} {tx n d : Int} (h : chargeE c tx n d = 0) : partB n d = true ∧ 0 ≤ chargeV c tx n d ∧ chargeV c tx n d ≤ 100000000000 ∧ mrB tx = true := by
  unfold chargeE at h
  by_cases h1 : codeErr c.s c.k c.a c.f = 0
  · rw [if_neg (by simpa using h1)] at h
    cases hp : partB n d
    · rw [if_pos hp] at h; cases h
    · rw [if_neg (by rw [hp]; decide)] at h
      unfold chargeV
      by_cases h4 : c.k = 4
      · rw [if_pos h4] at h ⊢
        refine ⟨rfl, Int.le_refl _, by decide, ?_⟩
        cases ht : mrB tx
        · rw [ht] at h; simp at h
        · rfl
      · rw [if_neg h4] at h ⊢
        by_cases hs : mrB tx = true ∧ mrB (tx - freeI c.k c.a n d) = true
        · have := mr_iff.1 hs.2
          exact ⟨rfl, by omega, by omega, hs.1⟩
        · rw [if_neg hs] at h; cases h
  · rw [if_pos h1] at h
    exact absurd h h1
theorem ScAt.one {w : World} {A : Option Addr} {ns : Nat} {sch : List (List Bd)} (hs : ScSl w A ns sch) (i : Nat) (hi : i < ns) : ∃ b off B n c, A = some ⟨b, off, none⟩ ∧ b < w.heap.size ∧ w.cell? ⟨b, off + i, none⟩ = some (.slice B n c) ∧ BandSl w B n (sch.getD i []) := by
  obtain ⟨b, off, hA, hlt, hat⟩ := hs.2.2 (by omega)
  obtain ⟨B, n, c, c0, hbs⟩ := hat i hi
  exact ⟨b, off, B, n, c, hA, hlt, by rw [Nat.mul_one] at c0; exact c0, hbs⟩
--%%
theorem texact_e (sch : List (List Bd)) (As Ac Ak : Option Addr) (ns cs nc cc nk ck : Nat) (lim rnd : Int) (s k a f : Int) (al : Bool) (tx n d : Int) (w : World) (hs : ScSl w As ns sch) (r : Int) (hr : Hid (r = exE sch ⟨s, k, a, f, al⟩ tx n d)) (h0 : r ≠ 0) :
    Calls Try.prog 54 #[.agg #[.slice As ns cs, .slice Ac nc cc, .slice Ak nk ck, .int .i64 lim, .int .i64 rnd], .agg #[.int .i64 s, .int .i64 k, .int .i64 a, .int .i64 f, .bool al], .int .i64 tx, .int .i64 n, .int .i64 d] w fun e w' => e = .returned (.tuple #[.int .i64 0, .int .i64 r]) ∧ Below w.heap.size w w' := by
  have z := (Blk.mk w 26 #[.slice As ns cs, .slice Ac nc cc, .slice Ak nk ck, .int .i64 lim, .int .i64 rnd]).alloc (.cells #[.int .i64 s, .int .i64 k, .int .i64 a, .int .i64 f, .bool al] 40)
  have y := Blk.mk (w.alloc (.cells #[.slice As ns cs, .slice Ac nc cc, .slice Ak nk ck, .int .i64 lim, .int .i64 rnd] 26)) 40 #[.int .i64 s, .int .i64 k, .int .i64 a, .int .i64 f, .bool al]
  rw [World.size_alloc] at y
  have hb0 := bA (below1 w (.cells #[.slice As ns cs, .slice Ac nc cc, .slice Ak nk ck, .int .i64 lim, .int .i64 rnd] 26)) (.cells #[.int .i64 s, .int .i64 k, .int .i64 a, .int .i64 f, .bool al] 40)
  have t : (r != 0) = true := by simpa using h0
  have hR := hr.out
  unfold exE at hR
  by_cases h1 : fitE sch ⟨s, k, a, f, al⟩ = 0
  case neg =>
    rw [if_pos h1] at hR
    have K := Lib.hid (tfits_c sch As Ac Ak ns cs nc cc nk ck lim rnd s k a f al _ (hs.below hb0) r hR)
    clear hR h0 h1 hs
    go_enter Try.func54, Try.ntmps54
    go_wp2_with fail
    refine K.out.mono ?_
    rintro e w1 ⟨rfl, hb1⟩
    go_wp2_with fail
    go_ret2
    exact ⟨rfl, bT hb0 hb1⟩
  rw [if_neg (by simpa using h1)] at hR
  have K := Lib.hid (tfits_c sch As Ac Ak ns cs nc cc nk ck lim rnd s k a f al _ (hs.below hb0) 0 h1.symm)
  have K2 := Lib.hid (charge_e s k a f al tx n d · r hR h0)
  clear hR h0 h1 hs
  go_enter Try.func54, Try.ntmps54
  go_wp2_with fail
  refine K.out.mono ?_
  rintro e w1 ⟨rfl, hb1⟩
  have y1 := y.t hb1
  obtain ⟨p0, p1, p2, p3, p4⟩ := y1.all5
  go_wp2_with fail
  refine (K2.out _).mono ?_
  rintro e w2 ⟨rfl, hb2⟩
  go_wp2_with fail
  go_ret2
  exact ⟨rfl, bT (bT hb0 hb1) hb2⟩
--%%
set_option maxRecDepth 100000 in
set_option maxHeartbeats 800000 in
theorem texact_t (sch : List (List Bd)) (As Ac Ak : Option Addr) (ns cs nc cc nk ck : Nat) (lim rnd : Int) (s k a f : Int) (al : Bool) (tx n d : Int) (w : World) (hs : ScSl w As ns sch) (hok : ∀ k, k < ns → bandsErr (sch.getD k []) = 0) (hr : exE sch ⟨s, k, a, f, al⟩ tx n d = 0) :
    Calls Try.prog 54 #[.agg #[.slice As ns cs, .slice Ac nc cc, .slice Ak nk ck, .int .i64 lim, .int .i64 rnd], .agg #[.int .i64 s, .int .i64 k, .int .i64 a, .int .i64 f, .bool al], .int .i64 tx, .int .i64 n, .int .i64 d] w fun e w' => e = .returned (.tuple #[.int .i64 (exV sch ⟨s, k, a, f, al⟩ tx n d), .int .i64 0]) ∧ Below w.heap.size w w' := by
  have z := (Blk.mk w 26 #[.slice As ns cs, .slice Ac nc cc, .slice Ak nk ck, .int .i64 lim, .int .i64 rnd]).alloc (.cells #[.int .i64 s, .int .i64 k, .int .i64 a, .int .i64 f, .bool al] 40)
  have y := Blk.mk (w.alloc (.cells #[.slice As ns cs, .slice Ac nc cc, .slice Ak nk ck, .int .i64 lim, .int .i64 rnd] 26)) 40 #[.int .i64 s, .int .i64 k, .int .i64 a, .int .i64 f, .bool al]
  rw [World.size_alloc] at y
  have hb0 := bA (below1 w (.cells #[.slice As ns cs, .slice Ac nc cc, .slice Ak nk ck, .int .i64 lim, .int .i64 rnd] 26)) (.cells #[.int .i64 s, .int .i64 k, .int .i64 a, .int .i64 f, .bool al] 40)
  have hR := hr
  unfold exE at hR
  by_cases h1 : fitE sch ⟨s, k, a, f, al⟩ = 0
  case neg =>
    rw [if_pos h1] at hR
    exact absurd hR h1
  rw [if_neg (by simpa using h1)] at hR
  have K := Lib.hid (tfits_c sch As Ac Ak ns cs nc cc nk ck lim rnd s k a f al _ (hs.below hb0) 0 h1.symm)
  have K2 := Lib.hid (charge_t s k a f al tx n d · hR)
  obtain ⟨hc0, hs0, hs1, hf0, hf3⟩ := fit_ok h1
  obtain ⟨hp, hv0, hv1, _⟩ := charge_ok hR
  dsimp only at hc0 hs0 hs1 hf0 hf3
  obtain ⟨i, rfl⟩ := Int.eq_ofNat_of_zero_le hs0
  rw [Int.toNat_natCast] at hf3
  have hi : i < ns := by have := hs.1; omega
  have hBE := hok i hi
  obtain ⟨gb, go, B, nb, cb, rfl, hlt, c0, hbs⟩ := ScAt.one hs i hi
  have HV : Hid (exV sch ⟨(i : Int), k, a, f, al⟩ tx n d = if k = 4 then 0 else if k = 3 then chargeV ⟨(i : Int), k, a, f, al⟩ tx n d * ((sch.getD i []).getD f.toNat bd0).r else progS (chargeV ⟨(i : Int), k, a, f, al⟩ tx n d) (fr (sch.getD i []) n d) (fun k => ((sch.getD i []).getD k bd0).r) (sch.getD i []).length (sch.getD i []).length) := rfl
  generalize exV sch ⟨(i : Int), k, a, f, al⟩ tx n d = ev at *
  generalize chargeV ⟨(i : Int), k, a, f, al⟩ tx n d = cv at *
  have HBS := Lib.hid hbs
  have ii0 : (0 : Int) ≤ (i : Int) := by omega
  have ii1 : (i : Int) < (ns : Int) := by omega
  have ii2 : ((i : Int)).toNat = i := by omega
  clear h1 hR hr hs hok hbs hc0 hs0 hs1
  by_cases h4 : k = 4
  · subst h4
    rw [if_pos rfl] at HV
    go_enter Try.func54, Try.ntmps54
    go_wp2_with fail
    refine K.out.mono ?_
    rintro e w1 ⟨rfl, hb1⟩
    have y1 := y.t hb1
    obtain ⟨p0, p1, p2, p3, p4⟩ := y1.all5
    go_wp2_with fail
    refine (K2.out _).mono ?_
    rintro e w2 ⟨rfl, hb2⟩
    have a1 := (y1.t hb2).cell 1
    go_wp2_with fail
    go_ret2
    exact ⟨ret2_int HV.out.symm rfl, bT (bT hb0 hb1) hb2⟩
  rw [if_neg h4] at HV
  have u4 : (k == 4) = false := by simpa using h4
  by_cases h3 : k = 3
  · subst h3
    rw [if_pos rfl] at HV
    obtain ⟨j, rfl⟩ := Int.eq_ofNat_of_zero_le hf0
    have hj : j < nb := by have := hf3 rfl; have := HBS.out.1; omega
    rw [Int.toNat_natCast] at HV
    have hrb := (goodB _ hBE).r j (by have := HBS.out.1; omega)
    obtain ⟨b2, o2, rfl, hlt2, hat2⟩ := HBS.out.2.2 (by omega)
    obtain ⟨_, d1, _⟩ := hat2 j (by have := HBS.out.1; omega)
    generalize ((sch.getD i []).getD j bd0).r = br at *
    have KP := Lib.hid (part_t cv br · (mr_t (by omega)) (rateB_iff.2 hrb))
    have jj0 : (0 : Int) ≤ (j : Int) := by omega
    have jj1 : (j : Int) < (nb : Int) := by omega
    have jj2 : ((j : Int)).toNat = j := by omega
    clear hat2 hf3 hBE h4 hf0
    go_enter Try.func54, Try.ntmps54
    go_wp2_with fail
    refine K.out.mono ?_
    rintro e w1 ⟨rfl, hb1⟩
    have y1 := y.t hb1
    have z1 := z.t hb1
    obtain ⟨p0, p1, p2, p3, p4⟩ := y1.all5
    go_wp2_with fail
    refine (K2.out _).mono ?_
    rintro e w2 ⟨rfl, hb2⟩
    have y2 := y1.t hb2
    have z2 := z1.t hb2
    have a1 := y2.cell 1
    have hb3 := bT (bT hb0 hb1) hb2
    have c1 := (hb3.cell (p := ⟨gb, go + i, none⟩) hlt).trans c0
    have e1 := (hb3.cell (p := ⟨b2, o2 + j * 3 + 1, none⟩) hlt2).trans d1
    have hs3 := hb3.size
    have hl1 : gb < w2.heap.size := by omega
    have hl2 : b2 < w2.heap.size := by omega
    have G : Hid (∀ W, Below w2.heap.size w2 W → Below w2.heap.size w2 W ∧ W.cell? ⟨w.heap.size, 0, none⟩ = some (.slice (some ⟨gb, go, none⟩) ns cs) ∧ W.cell? ⟨w.heap.size + 1, 0, none⟩ = some (.int .i64 i) ∧ W.cell? ⟨w.heap.size + 1, 3, none⟩ = some (.int .i64 j) ∧ W.cell? ⟨gb, go + i, none⟩ = some (.slice (some ⟨b2, o2, none⟩) nb cb) ∧ W.cell? ⟨b2, o2 + j * 3 + 1, none⟩ = some (.int .i64 br)) := fun W hW => ⟨hW, (z2.t hW).cell 0, (y2.t hW).cell 0, (y2.t hW).cell 3, (hW.cell (p := ⟨gb, go + i, none⟩) hl1).trans c1, (hW.cell (p := ⟨b2, o2 + j * 3 + 1, none⟩) hl2).trans e1⟩
    go_wp2_with fail
    go_region_held3 (fun W => Below w2.heap.size w2 W ∧ W.cell? ⟨w.heap.size, 0, none⟩ = some (.slice (some ⟨gb, go, none⟩) ns cs) ∧ W.cell? ⟨w.heap.size + 1, 0, none⟩ = some (.int .i64 i) ∧ W.cell? ⟨w.heap.size + 1, 3, none⟩ = some (.int .i64 j) ∧ W.cell? ⟨gb, go + i, none⟩ = some (.slice (some ⟨b2, o2, none⟩) nb cb) ∧ W.cell? ⟨b2, o2 + j * 3 + 1, none⟩ = some (.int .i64 br))
      (first | assumption | exact G.out _ (b0 _).drew | (exact sK G.out (by assumption) (by assumption)))
      (first | (go_at_call 28; (with_reducible refine (KP.out _).mono ?_); rintro e w6 ⟨rfl, hb6⟩))
    all_goals
      have hbz := bT hb3 (show Below w2.heap.size w2 _ ∧ _ from by assumption).1
      go_wp2_with fail
      go_ret2
      exact ⟨ret2_int HV.out.symm rfl, hbz⟩
  · rw [if_neg h3] at HV
    have u3 : (k == 3) = false := by simpa using h3
    have KS := Lib.hid (fun W h => bscale_c (sch.getD i []) B nb cb n d W h hBE hp)
    have KE := Lib.hid (fun A m c W h => bexact1_c cv (scaleTo (sch.getD i []) n d (sch.getD i []).length) A m c W h (scale_err hBE n d hp) (mr_t (by omega)))
    have hval := scale_val hBE n d cv hp
    rw [hval] at KE
    rw [HBS.out.1] at KS
    generalize progS cv (fr (sch.getD i []) n d) (fun k => ((sch.getD i []).getD k bd0).r) (sch.getD i []).length (sch.getD i []).length = pv at *
    rw [← HBS.out.1] at KS
    have HNB := Lib.hid HBS.out.1
    clear hval hf3 hBE h4 h3
    go_enter Try.func54, Try.ntmps54
    go_wp2_with fail
    refine K.out.mono ?_
    rintro e w1 ⟨rfl, hb1⟩
    have y1 := y.t hb1
    have z1 := z.t hb1
    obtain ⟨p0, p1, p2, p3, p4⟩ := y1.all5
    go_wp2_with fail
    refine (K2.out _).mono ?_
    rintro e w2 ⟨rfl, hb2⟩
    have y2 := y1.t hb2
    have z2 := z1.t hb2
    have a0 := y2.cell 0
    have a1 := y2.cell 1
    have t0 := z2.cell 0
    have hb3 := bT (bT hb0 hb1) hb2
    have c1 := (hb3.cell (p := ⟨gb, go + i, none⟩) hlt).trans c0
    go_wp2_with fail
    refine (KS.out _ (HBS.out.below hb3)).mono ?_
    rintro e w3 ⟨⟨v, m, rfl, hv⟩, hb4⟩
    obtain ⟨Av, cv2, rfl, _, hbv⟩ := hv.sl
    have hbv' : BandSl w3 Av m (scaleTo (sch.getD i []) n d (sch.getD i []).length) := by rw [← HNB.out]; exact hbv
    have HBV := Lib.hid hbv'
    clear hv hbv hbv'
    go_wp2_with fail
    refine (KE.out _ _ _ _ HBV.out).mono ?_
    rintro e w4 ⟨rfl, hb5⟩
    go_wp2_with fail
    go_ret2
    exact ⟨ret2_int HV.out.symm rfl, bT (bT hb3 hb4) hb5⟩
--%%
end Go.Proofs.Ytankoappneglcaa
