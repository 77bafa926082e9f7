/-
  Contracts of tax.Explain and tax.Average. Conditions as named.
-/
import Derived.Test.YtlfeppbhicmeoaaExplP
import Derived.Test.YtlfeppbhicmeoaaTax3
import Derived.Lib.MinMax
namespace Go.Proofs.Ytlfeppbhicmeoaa
set_option linter.unusedVariables false
open Go.RowKit
def sxC (z : Sx) : List Value := [.int .i64 z.r, .int .i64 z.a, .int .i64 z.x]
theorem sxC_len (z : Sx) : (sxC z).length = 3 := rfl
abbrev SxSl := RowSl sxC 3 sx0
def ExplR (nb : Nat) (x ev : Int) (w : World) (e : Ending) (w' : World) : Prop := (∃ A m c S, e = .returned (.tuple #[.slice A m c, .int .i64 0]) ∧ SxSl w' A m S ∧ ExpOK nb x ev S) ∧ Below w.heap.size w w'
theorem sx_nil (w : World) : SxSl w none 0 [] := ⟨rfl, by decide, fun h => absurd h (by decide)⟩
--%%
def OwnX (w : World) (base : Nat) (v : Value) (n : Nat) (l : List Sx) : Prop := n = l.length ∧ w.ownsRow base 87 3 v n (l.flatMap sxC)
theorem info_tshare : (Try.prog.info? 87).map (fun i => (i.zero, i.size, i.bytes)) = some (some (.agg #[.int .i64 0, .int .i64 0, .int .i64 0]), 3, 24) := by kernel_rfl
theorem OwnX.sl {w : World} {base : Nat} {v : Value} {n : Nat} {l : List Sx} (h : OwnX w base v n l) : ∃ A c, v = .slice A n c ∧ SxSl w A n l := by
  obtain ⟨A, c, rfl, _, hs⟩ := own_sl sxC 3 sx0 sxC_len h.2 h.1 (by decide)
  exact ⟨A, c, rfl, hs⟩
theorem sx_one (w : World) (r a x : Int) (o : Nat) : SxSl ((w.alloc (.cells #[.int .i64 r, .int .i64 a, .int .i64 x] 87)).drewN o) (some ⟨w.heap.size, 0, none⟩) 1 [⟨r, a, x⟩] := by
  refine ⟨rfl, by decide, fun _ => ⟨w.heap.size, 0, rfl, by simp, fun k hk => ?_⟩⟩
  obtain rfl : k = 0 := by omega
  intro j u hu
  have hj : j < 3 := (List.getElem?_eq_some_iff.1 hu).1
  show (w.alloc _).cell? _ = _
  rw [cell_alloc, if_pos rfl]
  rcases (by omega : j = 0 ∨ j = 1 ∨ j = 2) with rfl | rfl | rfl <;> (injection hu with hu; subst hu; rfl)
--%%
theorem texpl_e (sch : List (List Bd)) (As Ac Ak : Option Addr) (ns cs nc cc nk ck : Nat) (lim rnd : Int) (s k a f : Int) (al : Bool) (tx n d : Int) (w : World) (hs : ScSl w As ns sch) (r : Int) (hr : Hid (r = exE sch ⟨s, k, a, f, al⟩ tx n d)) (h0 : r ≠ 0) :
    Calls Try.prog 33 #[.agg #[.slice As ns cs, .slice Ac nc cc, .slice Ak nk ck, .int .i64 lim, .int .i64 rnd], .agg #[.int .i64 s, .int .i64 k, .int .i64 a, .int .i64 f, .bool al], .int .i64 tx, .int .i64 n, .int .i64 d] w fun e w' => e = .returned (.tuple #[.slice none 0 0, .int .i64 r]) ∧ Below w.heap.size w w' := by
  have hb0 := bA (below1 w (.cells #[.slice As ns cs, .slice Ac nc cc, .slice Ak nk ck, .int .i64 lim, .int .i64 rnd] 26)) (.cells #[.int .i64 s, .int .i64 k, .int .i64 a, .int .i64 f, .bool al] 40)
  have K := Lib.hid (texact_e sch As Ac Ak ns cs nc cc nk ck lim rnd s k a f al tx n d _ (hs.below hb0) r hr h0)
  have t : (r != 0) = true := by simpa using h0
  clear hs h0
  go_enter Try.func33, Try.ntmps33
  go_wp2_with fail
  refine K.out.mono ?_
  rintro e w1 ⟨rfl, hb1⟩
  go_wp2_with fail
  go_ret2
  exact ⟨rfl, bT hb0 hb1⟩
theorem tavg_e (sch : List (List Bd)) (As Ac Ak : Option Addr) (ns cs nc cc nk ck : Nat) (lim rnd : Int) (s k a f : Int) (al : Bool) (tx n d : Int) (w : World) (hs : ScSl w As ns sch) (r : Int) (hr : Hid (r = exE sch ⟨s, k, a, f, al⟩ tx n d)) (h0 : r ≠ 0) :
    Calls Try.prog 34 #[.agg #[.slice As ns cs, .slice Ac nc cc, .slice Ak nk ck, .int .i64 lim, .int .i64 rnd], .agg #[.int .i64 s, .int .i64 k, .int .i64 a, .int .i64 f, .bool al], .int .i64 tx, .int .i64 n, .int .i64 d] w fun e w' => e = .returned (.tuple #[.int .i64 0, .int .i64 r]) ∧ Below w.heap.size w w' := by
  have hb0 := bA (below1 w (.cells #[.slice As ns cs, .slice Ac nc cc, .slice Ak nk ck, .int .i64 lim, .int .i64 rnd] 26)) (.cells #[.int .i64 s, .int .i64 k, .int .i64 a, .int .i64 f, .bool al] 40)
  have K := Lib.hid (texact_e sch As Ac Ak ns cs nc cc nk ck lim rnd s k a f al tx n d _ (hs.below hb0) r hr h0)
  have t : (r != 0) = true := by simpa using h0
  clear hs h0
  go_enter Try.func34, Try.ntmps34
  go_wp2_with fail
  refine K.out.mono ?_
  rintro e w1 ⟨rfl, hb1⟩
  go_wp2_with fail
  go_ret2
  exact ⟨rfl, bT hb0 hb1⟩
def avgI (ev tx : Int) : Int := if tx ≤ 0 then 0 else ev / tx
theorem tavg_t (sch : List (List Bd)) (As Ac Ak : Option Addr) (ns cs nc cc nk ck : Nat) (lim rnd : Int) (s k a f : Int) (al : Bool) (tx n d : Int) (w : World) (hs : ScSl w As ns sch) (hok : ∀ k, k < ns → bandsErr (sch.getD k []) = 0) (hr : exE sch ⟨s, k, a, f, al⟩ tx n d = 0) (htx : tx ≤ 100000000000) :
    Calls Try.prog 34 #[.agg #[.slice As ns cs, .slice Ac nc cc, .slice Ak nk ck, .int .i64 lim, .int .i64 rnd], .agg #[.int .i64 s, .int .i64 k, .int .i64 a, .int .i64 f, .bool al], .int .i64 tx, .int .i64 n, .int .i64 d] w fun e w' => e = .returned (.tuple #[.int .i64 (avgI (exV sch ⟨s, k, a, f, al⟩ tx n d) tx), .int .i64 0]) ∧ Below w.heap.size w w' := by
  have hb0 := bA (below1 w (.cells #[.slice As ns cs, .slice Ac nc cc, .slice Ak nk ck, .int .i64 lim, .int .i64 rnd] 26)) (.cells #[.int .i64 s, .int .i64 k, .int .i64 a, .int .i64 f, .bool al] 40)
  have K := Lib.hid (texact_t sch As Ac Ak ns cs nc cc nk ck lim rnd s k a f al tx n d _ (hs.below hb0) hok hr)
  have hbd := exV_bd sch ⟨s, k, a, f, al⟩ tx n d (fun k hk => hok k (by have := hs.1; omega)) hr
  generalize exV sch ⟨s, k, a, f, al⟩ tx n d = ev at *
  obtain ⟨av, hav⟩ : ∃ av, av = avgI ev tx := ⟨_, rfl⟩
  rw [← hav]
  clear hs hok hr
  by_cases h : tx ≤ 0
  · have v : decide (tx ≤ 0) = true := by simpa using h
    have : av = 0 := by rw [hav]; exact if_pos h
    subst this
    clear h hav
    go_enter Try.func34, Try.ntmps34
    go_wp2_with fail
    refine K.out.mono ?_
    rintro e w1 ⟨rfl, hb1⟩
    go_wp2_with fail
    go_ret2
    exact ⟨rfl, bT hb0 hb1⟩
  have v : decide (tx ≤ 0) = false := by simpa using h
  have ha : av = ev / tx := by rw [hav]; exact if_neg h
  have hq : roundI ev tx 1 = av := by
    rw [ha]; unfold roundI nearB
    simp
  have KR := Lib.hid (round_c ev tx 1 · (by omega) (by omega) (by omega) (by omega) (by decide))
  rw [hq] at KR
  clear h hav ha hq
  go_enter Try.func34, Try.ntmps34
  go_wp2_with fail
  refine K.out.mono ?_
  rintro e w1 ⟨rfl, hb1⟩
  go_wp2_with fail
  refine (KR.out _).mono ?_
  rintro e w2 ⟨rfl, hb2⟩
  go_wp2_with fail
  go_ret2
  exact ⟨rfl, bT (bT hb0 hb1) hb2⟩
--%%
set_option maxRecDepth 100000 in
set_option maxHeartbeats 3200000 in
theorem texpl_t (sch : List (List Bd)) (As Ac Ak : Option Addr) (ns cs nc cc nk ck : Nat) (lim rnd : Int) (s k a f : Int) (al : Bool) (tx n d : Int) (w : World) (hs : ScSl w As ns sch) (hok : ∀ k, k < ns → bandsErr (sch.getD k []) = 0) (hr : exE sch ⟨s, k, a, f, al⟩ tx n d = 0) :
    Calls Try.prog 33 #[.agg #[.slice As ns cs, .slice Ac nc cc, .slice Ak nk ck, .int .i64 lim, .int .i64 rnd], .agg #[.int .i64 s, .int .i64 k, .int .i64 a, .int .i64 f, .bool al], .int .i64 tx, .int .i64 n, .int .i64 d] w (ExplR (sch.getD s.toNat []).length (chargeV ⟨s, k, a, f, al⟩ tx n d) (exV sch ⟨s, k, a, f, al⟩ tx n d) w) := by
  have z := (Blk.mk w 26 #[.slice As ns cs, .slice Ac nc cc, .slice Ak nk ck, .int .i64 lim, .int .i64 rnd]).alloc (.cells #[.int .i64 s, .int .i64 k, .int .i64 a, .int .i64 f, .bool al] 40)
  have y := Blk.mk (w.alloc (.cells #[.slice As ns cs, .slice Ac nc cc, .slice Ak nk ck, .int .i64 lim, .int .i64 rnd] 26)) 40 #[.int .i64 s, .int .i64 k, .int .i64 a, .int .i64 f, .bool al]
  rw [World.size_alloc] at y
  have hb0 := bA (below1 w (.cells #[.slice As ns cs, .slice Ac nc cc, .slice Ak nk ck, .int .i64 lim, .int .i64 rnd] 26)) (.cells #[.int .i64 s, .int .i64 k, .int .i64 a, .int .i64 f, .bool al] 40)
  have hR := hr
  unfold exE at hR
  by_cases h1 : fitE sch ⟨s, k, a, f, al⟩ = 0
  case neg =>
    rw [if_pos h1] at hR
    exact absurd hR h1
  rw [if_neg (by simpa using h1)] at hR
  have K := Lib.hid (texact_t sch As Ac Ak ns cs nc cc nk ck lim rnd s k a f al tx n d _ (hs.below hb0) hok hr)
  have K2 := Lib.hid (charge_t s k a f al tx n d · hR)
  obtain ⟨hc0, hs0, hs1, hf0, hf3⟩ := fit_ok h1
  obtain ⟨hp, hv0, hv1, _⟩ := charge_ok hR
  dsimp only at hc0 hs0 hs1 hf0 hf3
  obtain ⟨i, rfl⟩ := Int.eq_ofNat_of_zero_le hs0
  rw [Int.toNat_natCast] at hf3 ⊢
  have hi : i < ns := by have := hs.1; omega
  have hBE := hok i hi
  have hoki : bandsErr (sch.getD (⟨(i : Int), k, a, f, al⟩ : Cd).s.toNat []) = 0 := by
    show bandsErr (sch.getD ((i : Int)).toNat []) = 0
    rw [Int.toNat_natCast]; exact hBE
  have hz := exV_zero sch ⟨(i : Int), k, a, f, al⟩ tx n d hp hoki
  obtain ⟨gb, go, B, nb, cb, rfl, hlt, c0, hbs⟩ := ScAt.one hs i hi
  have HV : Hid (exV sch ⟨(i : Int), k, a, f, al⟩ tx n d = if k = 4 then 0 else if k = 3 then chargeV ⟨(i : Int), k, a, f, al⟩ tx n d * ((sch.getD i []).getD f.toNat bd0).r else progS (chargeV ⟨(i : Int), k, a, f, al⟩ tx n d) (fr (sch.getD i []) n d) (fun k => ((sch.getD i []).getD k bd0).r) (sch.getD i []).length (sch.getD i []).length) := rfl
  have HC4 : Hid (k = 4 → chargeV ⟨(i : Int), k, a, f, al⟩ tx n d = 0) := fun h => if_pos h
  generalize exV sch ⟨(i : Int), k, a, f, al⟩ tx n d = ev at *
  generalize chargeV ⟨(i : Int), k, a, f, al⟩ tx n d = cv at *
  have HBS := Lib.hid hbs
  have HNB := Lib.hid hbs.1
  have ii0 : (0 : Int) ≤ (i : Int) := by omega
  have ii1 : (i : Int) < (ns : Int) := by omega
  have ii2 : ((i : Int)).toNat = i := by omega
  clear h1 hR hr hs hok hbs hc0 hs0 hs1 hoki
  by_cases hcv : cv = 0
  · have hev := hz hcv
    subst hcv
    subst hev
    clear hz hf3 hBE
    go_enter Try.func33, Try.ntmps33
    go_wp2_with fail
    refine K.out.mono ?_
    rintro e w1 ⟨rfl, hb1⟩
    obtain ⟨p0, p1, p2, p3, p4⟩ := (y.t hb1).all5
    go_wp2_with fail
    refine (K2.out _).mono ?_
    rintro e w2 ⟨rfl, hb2⟩
    go_wp2_with fail
    go_ret2
    exact ⟨⟨_, _, _, [], rfl, sx_nil _, exp_nil _⟩, bT (bT hb0 hb1) hb2⟩
  have vz : (cv == 0) = false := by simpa using hcv
  have h4 : k ≠ 4 := fun h => hcv (HC4.out h)
  have cv1 : 0 < cv := by omega
  clear hz HC4 hcv
  rw [if_neg h4] at HV
  have u4 : (k == 4) = false := by simpa using h4
  by_cases h3 : k = 3
  · subst h3
    rw [if_pos rfl] at HV
    obtain ⟨j, rfl⟩ := Int.eq_ofNat_of_zero_le hf0
    have hj : j < nb := by have := hf3 rfl; have := HNB.out; omega
    rw [Int.toNat_natCast] at HV
    have hrb := (goodB _ hBE).r j (by have := HNB.out; omega)
    obtain ⟨b2, o2, rfl, hlt2, hat2⟩ := HBS.out.2.2 (by omega)
    obtain ⟨_, d1, _⟩ := hat2 j (by have := HNB.out; omega)
    have HX := Lib.hid (exp_one (sch.getD i []).length (by have := HNB.out; omega) cv _ cv1 hv1 hrb.1 hrb.2)
    generalize ((sch.getD i []).getD j bd0).r = br at *
    generalize (sch.getD i []).length = NB at *
    have jj0 : (0 : Int) ≤ (j : Int) := by omega
    have jj1 : (j : Int) < (nb : Int) := by omega
    have jj2 : ((j : Int)).toNat = j := by omega
    clear hat2 hf3 hBE h4 hf0 hrb
    go_enter Try.func33, Try.ntmps33
    go_wp2_with fail
    refine K.out.mono ?_
    rintro e w1 ⟨rfl, hb1⟩
    have y1 := y.t hb1
    have z1 := z.t hb1
    obtain ⟨p0, p1, p2, p3, p4⟩ := y1.all5
    go_wp2_with fail
    refine (K2.out _).mono ?_
    rintro e w2 ⟨rfl, hb2⟩
    have y2 := y1.t hb2
    have z2 := z1.t hb2
    clear p0 p1 p2 p3 p4
    have a1 := y2.cell 1
    have hb3 := bT (bT hb0 hb1) hb2
    have c1 := (hb3.cell (p := ⟨gb, go + i, none⟩) hlt).trans c0
    have e1 := (hb3.cell (p := ⟨b2, o2 + j * 3 + 1, none⟩) hlt2).trans d1
    have hs3 := hb3.size
    have hl1 : gb < w2.heap.size := by omega
    have hl2 : b2 < w2.heap.size := by omega
    have G : Hid (∀ W, Below w2.heap.size w2 W → Below w2.heap.size w2 W ∧ W.cell? ⟨w.heap.size, 0, none⟩ = some (.slice (some ⟨gb, go, none⟩) ns cs) ∧ W.cell? ⟨w.heap.size + 1, 0, none⟩ = some (.int .i64 i) ∧ W.cell? ⟨w.heap.size + 1, 3, none⟩ = some (.int .i64 j) ∧ W.cell? ⟨gb, go + i, none⟩ = some (.slice (some ⟨b2, o2, none⟩) nb cb) ∧ W.cell? ⟨b2, o2 + j * 3 + 1, none⟩ = some (.int .i64 br)) := fun W hW => ⟨hW, (z2.t hW).cell 0, (y2.t hW).cell 0, (y2.t hW).cell 3, (hW.cell (p := ⟨gb, go + i, none⟩) hl1).trans c1, (hW.cell (p := ⟨b2, o2 + j * 3 + 1, none⟩) hl2).trans e1⟩
    go_wp2_with fail
    go_region_held3 (fun W => Below w2.heap.size w2 W ∧ W.cell? ⟨w.heap.size, 0, none⟩ = some (.slice (some ⟨gb, go, none⟩) ns cs) ∧ W.cell? ⟨w.heap.size + 1, 0, none⟩ = some (.int .i64 i) ∧ W.cell? ⟨w.heap.size + 1, 3, none⟩ = some (.int .i64 j) ∧ W.cell? ⟨gb, go + i, none⟩ = some (.slice (some ⟨b2, o2, none⟩) nb cb) ∧ W.cell? ⟨b2, o2 + j * 3 + 1, none⟩ = some (.int .i64 br))
      (first | assumption | exact G.out _ (b0 _).drew | (exact sK G.out (by assumption) (by assumption)) | (exact sK G.out (by assumption) (below1 _ _)))
      (fail)
    all_goals
      have hbz := bT hb3 (show Below w2.heap.size w2 _ ∧ _ from by assumption).1
      go_wp2_with fail
      go_ret2
      refine ⟨⟨_, _, _, [⟨br, cv, ev⟩], rfl, ?_, ?_⟩, hbz⟩
      · exact sx_one _ _ _ _ 0
      · rw [HV.out]; exact HX.out
  · rw [if_neg h3] at HV
    have u3 : (k == 3) = false := by simpa using h3
    have KS := Lib.hid (fun W h => bscale_c (sch.getD i []) B nb cb n d W h hBE hp)
    have hval := scale_val hBE n d cv hp
    have hsl := scale_len (sch.getD i []) n d (sch.getD i []).length
    have hse := scale_err hBE n d hp
    generalize hL : scaleTo (sch.getD i []) n d (sch.getD i []).length = L at *
    rw [← HV.out] at hval
    have HLL : Hid (L = scaleTo (sch.getD i []) n d (sch.getD i []).length) := hL.symm
    have hg := goodB L hse
    have HX := Lib.hid (fun k h1 h2 h3 => exp_bands L hse (sch.getD i []).length hsl cv (Int.le_of_lt cv1) hv1 k h1 h2 h3)
    rw [hval] at HX
    generalize (sch.getD i []).length = NB at *
    clear hval hf3 hL hsl
    have HG := Lib.hid hg
    have hg8 := hg.hi
    clear hg hse hBE h3 h4
    go_enter Try.func33, Try.ntmps33
    go_wp2_with fail
    refine K.out.mono ?_
    rintro e w1 ⟨rfl, hb1⟩
    have y1 := y.t hb1
    have z1 := z.t hb1
    obtain ⟨p0, p1, p2, p3, p4⟩ := y1.all5
    go_wp2_with fail
    refine (K2.out _).mono ?_
    rintro e w2 ⟨rfl, hb2⟩
    have y2 := y1.t hb2
    have z2 := z1.t hb2
    clear p0 p1 p2 p3 p4
    have a0 := y2.cell 0
    have a1 := y2.cell 1
    have t0 := z2.cell 0
    have hb3 := bT (bT hb0 hb1) hb2
    have c1 := (hb3.cell (p := ⟨gb, go + i, none⟩) hlt).trans c0
    go_wp2_with fail
    refine (KS.out _ (HBS.out.below hb3)).mono ?_
    rintro e w3 ⟨⟨v, m, rfl, hv⟩, hb4⟩
    obtain ⟨Av, cv2, rfl, _, hbv⟩ := hv.sl
    rw [HNB.out] at hbv
    have HBV := Lib.hid (HLL.out ▸ hbv : BandSl w3 Av m L)
    clear hv hbv a0 a1 t0 c1
    have hb5 := bT hb3 hb4
    have HML := Lib.hid HBV.out.1
    have hm8 : m ≤ 8 := by have := HML.out; omega
    rw [← HML.out] at HX
    go_wp2_with fail
    go_loopw [16, 89] (fun v j wr => ∃ k : Nat, k ≤ m ∧ j = .int .i64 k ∧ OwnX wr w3.heap.size v k (shTo cv (fun k => (L.getD k bd0).f) (fun k => (L.getD k bd0).r) m k) ∧ Hid (∀ i, i < k → (L.getD i bd0).f < cv) ∧ Below w3.heap.size w3 wr) (fun _ j _ => m - (intOf j).toNat)
    case atStart => exact ⟨0, Nat.zero_le _, rfl, ⟨rfl, World.ownsRow_nil _ _ _ _⟩, fun i hi => absurd hi (by omega), b0 _⟩
    case round =>
      obtain ⟨k, hk', rfl, ho, HP, hbl⟩ := hrel
      have hB := bT hb5 hbl
      by_cases hk : k < m
      case neg =>
        obtain ⟨A2, c3, rfl, hsx⟩ := ho.sl
        have HSX := Lib.hid hsx
        have HXX := Lib.hid (HX.out k (by omega) HP.out (Or.inl (by omega)))
        clear ho hsx
        go_wp2_with fail
        go_ret2
        exact ⟨⟨_, _, _, _, rfl, HSX.out, HXX.out⟩, hB⟩
      obtain ⟨b2, o2, rfl, hlt2, hat⟩ := (HBV.out.below hbl).2.2 (by omega)
      obtain ⟨d0, d1, d2⟩ := hat k (by have := HML.out; omega)
      have hfk := HG.out.f k (by have := HML.out; omega)
      have hrk := HG.out.r k (by have := HML.out; omega)
      have HS := Lib.hid (shTo_snoc cv (fun k => (L.getD k bd0).f) (fun k => (L.getD k bd0).r) m k)
      have hbr := bA hbl (.cells #[.int .i64 (L.getD k bd0).f, .int .i64 (L.getD k bd0).r, .int .i64 (L.getD k bd0).e] 73)
      have HO := Lib.hid (ho.2.alloc (.cells #[.int .i64 (L.getD k bd0).f, .int .i64 (L.getD k bd0).r, .int .i64 (L.getD k bd0).e] 73))
      have HO1 := Lib.hid ho.1
      have hsz := hbl.size
      have kk1 : IntKind.i64.wrap ((k : Int) + 1) = (k : Int) + 1 := by rw [IntKind.wrap_i64]; omega
      have kk2 : 0 ≤ (k : Int) + 1 := by omega
      have kk3 : ((k : Int) + 1).toNat = k + 1 := by omega
      by_cases hst : cv ≤ (L.getD k bd0).f
      · have HXX := Lib.hid (HX.out k (by omega) HP.out (Or.inr hst))
        obtain ⟨A2, c3, rfl, hsx⟩ := ho.sl
        have HSX := Lib.hid (RowSl.below hsx (below1 wr (.cells #[.int .i64 (L.getD k bd0).f, .int .i64 (L.getD k bd0).r, .int .i64 (L.getD k bd0).e] 73)))
        clear ho hsx HS HO HO1
        by_cases hn : k + 1 < m
        · have hn2 : (k : Int) + 1 < (m : Int) := by omega
          obtain ⟨e0, _, _⟩ := hat (k + 1) (by have := HML.out; omega)
          generalize (L.getD (k + 1) bd0).f = bg at *
          generalize (L.getD k bd0).f = bf at *
          generalize (L.getD k bd0).r = br at *
          generalize (L.getD k bd0).e = be at *
          obtain ⟨T, hT⟩ : ∃ T, min cv bg = T := ⟨_, rfl⟩
          have vs : decide (T ≤ bf) = true := by simp; omega
          clear hat hst
          go_wp2_with fail
          go_ret2
          exact ⟨⟨_, _, _, _, rfl, HSX.out, HXX.out⟩, bT hb5 hbr⟩
        · have hn2 : decide ((k : Int) + 1 < (m : Int)) = false := by simp; omega
          generalize (L.getD k bd0).f = bf at *
          generalize (L.getD k bd0).r = br at *
          generalize (L.getD k bd0).e = be at *
          have vs : decide (cv ≤ bf) = true := by simpa using hst
          clear hat hst
          go_wp2_with fail
          go_ret2
          exact ⟨⟨_, _, _, _, rfl, HSX.out, HXX.out⟩, bT hb5 hbr⟩
      have HP2 : Hid (∀ i, i < k + 1 → (L.getD i bd0).f < cv) := fun i hi => by
        rcases (by omega : i = k ∨ i < k) with rfl | hi
        · omega
        · exact HP.out i hi
      have HW : widthI cv (fun k => (L.getD k bd0).f) m k = pos ((if k + 1 < m then min cv (L.getD (k + 1) bd0).f else cv) - (L.getD k bd0).f) := rfl
      have hmono := HG.out.m k
      rw [← HML.out] at hmono
      rw [HW] at HS
      clear HW
      generalize shTo cv (fun k => (L.getD k bd0).f) (fun k => (L.getD k bd0).r) m k = sk at *
      clear ho
      by_cases hn : k + 1 < m
      · have hn2 : (k : Int) + 1 < (m : Int) := by omega
        obtain ⟨e0, _, _⟩ := hat (k + 1) (by have := HML.out; omega)
        have hm2 := hmono hn
        rw [if_pos hn] at HS
        generalize (L.getD (k + 1) bd0).f = bg at *
        generalize (L.getD k bd0).f = bf at *
        generalize (L.getD k bd0).r = br at *
        generalize (L.getD k bd0).e = be at *
        rw [pos_t (show 0 ≤ min cv bg - bf by omega)] at HS
        obtain ⟨T, hT⟩ : ∃ T, min cv bg = T := ⟨_, rfl⟩
        have t0 : bf < T := by omega
        have t1 : T ≤ 100000000000 := by omega
        have t2 : 0 ≤ bf := hfk.1
        rw [hT] at HS
        clear hm2
        have KP := Lib.hid (part_t (T - bf) br · (mr_t (by omega)) (rateB_iff.2 hrk))
        have vs : decide (T ≤ bf) = false := by simp; omega
        clear hat hmono hst hfk hrk
        go_wp2_with fail
        refine (KP.out _).mono ?_
        rintro e w6 ⟨rfl, hb6⟩
        have HO2 := Lib.hid (own_below HO.out hb6)
        have yb := (Blk.mk wr 73 #[.int .i64 bf, .int .i64 br, .int .i64 be]).t hb6
        have yb0 := yb.cell 0
        have yb1 := yb.cell 1
        have hsz6 := (bT hbr hb6).size
        go_wp2_with (at_builtin; refine wpList_app1 _ rfl _ _ 83 rfl 87 _ 3 24 Try.underlying83 info_tshare rfl (by decide) rfl HO2.out _ rfl (by first | rfl | simp) rfl (by simp [Value.oneCell']) (by omega) (by omega) (by first | omega | (simp; omega)) ?_; intro v' w7 ho' hg)
        go_roundw
        case rel =>
          refine ⟨k + 1, by omega, by go_num, ⟨?_, ?_⟩, HP2.out, bP (bT hbr hb6) HO2.out hg (Nat.le_refl _)⟩
          · rw [HS.out]; simp [← HO1.out]
          · rw [HS.out]; simpa [sxC] using ho'
        case measure => simp [intOf]; omega
      · have hn2 : decide ((k : Int) + 1 < (m : Int)) = false := by simp; omega
        rw [if_neg hn] at HS
        generalize (L.getD k bd0).f = bf at *
        generalize (L.getD k bd0).r = br at *
        generalize (L.getD k bd0).e = be at *
        rw [pos_t (show 0 ≤ cv - bf by omega)] at HS
        have t0 : bf < cv := by omega
        have t2 : 0 ≤ bf := hfk.1
        have KP := Lib.hid (part_t (cv - bf) br · (mr_t (by omega)) (rateB_iff.2 hrk))
        have vs : decide (cv ≤ bf) = false := by simp; omega
        clear hat hmono hst hfk hrk
        go_wp2_with fail
        refine (KP.out _).mono ?_
        rintro e w6 ⟨rfl, hb6⟩
        have HO2 := Lib.hid (own_below HO.out hb6)
        have yb := (Blk.mk wr 73 #[.int .i64 bf, .int .i64 br, .int .i64 be]).t hb6
        have yb0 := yb.cell 0
        have yb1 := yb.cell 1
        have hsz6 := (bT hbr hb6).size
        go_wp2_with (at_builtin; refine wpList_app1 _ rfl _ _ 83 rfl 87 _ 3 24 Try.underlying83 info_tshare rfl (by decide) rfl HO2.out _ rfl (by first | rfl | simp) rfl (by simp [Value.oneCell']) (by omega) (by omega) (by first | omega | (simp; omega)) ?_; intro v' w7 ho' hg)
        go_roundw
        case rel =>
          refine ⟨k + 1, by omega, by go_num, ⟨?_, ?_⟩, HP2.out, bP (bT hbr hb6) HO2.out hg (Nat.le_refl _)⟩
          · rw [HS.out]; simp [← HO1.out]
          · rw [HS.out]; simpa [sxC] using ho'
        case measure => simp [intOf]; omega
--%%
end Go.Proofs.Ytlfeppbhicmeoaa
