/-
  Layer 17's law OrderChecks: its walk. Conditions as named.
-/
import Derived.Test.YtfhbnojhmeodiaaDoorLaw17w
import Derived.Test.YtfhbnojhmeodiaaDoorItoaP
namespace Go.Proofs.YtfhbnojhmeodiaaDoor
set_option linter.unusedVariables false
open Go.RowKit
structure In17 (id pr am ra tt : Int) : Prop where
  am : -100000000000 ≤ am ∧ am ≤ 100000000000
  tt : -100000000000 ≤ tt ∧ tt ≤ 100000000000
  id : -999999999 ≤ id ∧ id ≤ 999999999
  pr : -999999999 ≤ pr ∧ pr ≤ 999999999
  ra : -999999999 ≤ ra ∧ ra ≤ 999999999
theorem In17.of_ok {id pr am ra tt : Int} (h : OrOK id pr am ra tt) : In17 id pr am ra tt := by
  obtain ⟨h1, h2, h3, h4, h5, _⟩ := h
  exact ⟨by omega, by omega, by omega, by omega, by omega⟩
theorem words_pw {id pr am ra tt : Int} (h : In17 id pr am ra tt) : opF (wordsO id pr am ra tt) 5 = 0 ∧ opV (wordsO id pr am ra tt) 0 = id ∧ opV (wordsO id pr am ra tt) 1 = pr ∧ opV (wordsO id pr am ra tt) 2 = am ∧ opV (wordsO id pr am ra tt) 3 = ra ∧ opV (wordsO id pr am ra tt) 4 = tt := by
  have h0 := int_itoa id h.id.1 h.id.2
  have h1 := int_itoa pr h.pr.1 h.pr.2
  have h2 := parse_text am h.am.1 h.am.2
  have h3 := int_itoa ra h.ra.1 h.ra.2
  have h4 := parse_text tt h.tt.1 h.tt.2
  have e0 : pwE 0 ((wordsO id pr am ra tt).getD 0 st0) = 0 := h0.1
  have e1 : pwE 1 ((wordsO id pr am ra tt).getD 1 st0) = 0 := h1.1
  have e2 : pwE 2 ((wordsO id pr am ra tt).getD 2 st0) = 0 := h2.1
  have e3 : pwE 3 ((wordsO id pr am ra tt).getD 3 st0) = 0 := h3.1
  have e4 : pwE 4 ((wordsO id pr am ra tt).getD 4 st0) = 0 := h4.1
  refine ⟨?_, h0.2, h1.2, h2.2, h3.2, h4.2⟩
  have f1 : opF (wordsO id pr am ra tt) 1 = 0 := by show (if (0:Int) ≠ 0 then _ else pwE 0 _) = 0; rw [if_neg (by decide), e0]
  have f2 : opF (wordsO id pr am ra tt) 2 = 0 := by rw [opF, f1, if_neg (by decide), e1]
  have f3 : opF (wordsO id pr am ra tt) 3 = 0 := by rw [opF, f2, if_neg (by decide), e2]
  have f4 : opF (wordsO id pr am ra tt) 4 = 0 := by rw [opF, f3, if_neg (by decide), e3]
  rw [opF, f4, if_neg (by decide), e4]
theorem words_e {id pr am ra tt : Int} (h : In17 id pr am ra tt) : opE 5 (wordsO id pr am ra tt) = orE id pr am ra tt := by
  obtain ⟨a, b, c, d, e, f⟩ := words_pw h
  unfold opE
  rw [if_neg (fun h => h rfl), a, if_neg (by decide), b, c, d, e, f]
theorem words_size {id pr am ra tt : Int} (h : In17 id pr am ra tt) : ∀ k, k < 5 → ((wordsO id pr am ra tt).getD k st0).size ≤ 1000000 := fun k hk => by
  have h0 := itoa_len id h.id.1 h.id.2
  have h1 := itoa_len pr h.pr.1 h.pr.2
  have h2 := textB_len am h.am.1 h.am.2
  have h3 := itoa_len ra h.ra.1 h.ra.2
  have h4 := textB_len tt h.tt.1 h.tt.2
  have sz : ∀ l : List UInt8, (⟨l.toArray⟩ : ByteArray).size = l.length := fun l => by simp [ByteArray.size]
  rcases (by omega : k = 0 ∨ k = 1 ∨ k = 2 ∨ k = 3 ∨ k = 4) with rfl | rfl | rfl | rfl | rfl
  · show (⟨(Lib.itoa id).toArray⟩ : ByteArray).size ≤ _; rw [sz]; omega
  · show (⟨(Lib.itoa pr).toArray⟩ : ByteArray).size ≤ _; rw [sz]; omega
  · show (⟨(textB am).toArray⟩ : ByteArray).size ≤ _; rw [sz]; omega
  · show (⟨(Lib.itoa ra).toArray⟩ : ByteArray).size ≤ _; rw [sz]; omega
  · show (⟨(textB tt).toArray⟩ : ByteArray).size ≤ _; rw [sz]; omega
--%%
theorem words_parse0 {id pr am ra tt : Int} (h : In17 id pr am ra tt) (h0 : orE id pr am ra tt = 0) (A : Option Addr) (w : World) (hs : StSl w A 5 (wordsO id pr am ra tt)) :
    Calls Tryd.prog 21 #[.slice A 5 5] w fun e w' => e = .returned (.tuple #[.agg #[.int .i64 id, .int .i64 pr, .int .i64 am, .int .i64 ra, .int .i64 tt], .int .i64 0]) ∧ Below w.heap.size w w' := by
  refine (oparse_c A 5 5 _ w hs (words_size h)).mono ?_
  obtain ⟨_, b, c, d, e, f⟩ := words_pw h
  rintro ee w' ⟨⟨h1, _⟩ | ⟨_, rfl⟩, hb⟩
  · rw [words_e h] at h1; exact absurd h0 h1
  · rw [b, c, d, e, f]; exact ⟨rfl, hb⟩
theorem words_parse1 {id pr am ra tt : Int} (h : In17 id pr am ra tt) (r : Int) (hr : orE id pr am ra tt = r) (h0 : r ≠ 0) (A : Option Addr) (w : World) (hs : StSl w A 5 (wordsO id pr am ra tt)) :
    Calls Tryd.prog 21 #[.slice A 5 5] w fun e w' => e = .returned (.tuple #[.agg #[.int .i64 0, .int .i64 0, .int .i64 0, .int .i64 0, .int .i64 0], .int .i64 r]) ∧ Below w.heap.size w w' := by
  refine (oparse_c A 5 5 _ w hs (words_size h)).mono ?_
  rintro ee w' ⟨⟨h1, rfl⟩ | ⟨h1, _⟩, hb⟩
  · rw [words_e h, hr]; exact ⟨rfl, hb⟩
  · rw [words_e h, hr] at h1; exact absurd h1 h0
theorem words_row (id pr am ra tt : Int) (W : World) (b : Nat) (hb : b < W.heap.size) (c0 : W.cell? ⟨b, 0, none⟩ = some (.string ⟨(Lib.itoa id).toArray⟩)) (c1 : W.cell? ⟨b, 1, none⟩ = some (.string ⟨(Lib.itoa pr).toArray⟩)) (c2 : W.cell? ⟨b, 2, none⟩ = some (.string ⟨(textB am).toArray⟩)) (c3 : W.cell? ⟨b, 3, none⟩ = some (.string ⟨(Lib.itoa ra).toArray⟩)) (c4 : W.cell? ⟨b, 4, none⟩ = some (.string ⟨(textB tt).toArray⟩)) : StSl W (some ⟨b, 0, none⟩) 5 (wordsO id pr am ra tt) := by
  refine ⟨rfl, by decide, fun _ => ⟨b, 0, rfl, hb, fun k hk j u hu => ?_⟩⟩
  have hj : j = 0 := by
    have := (List.getElem?_eq_some_iff.1 hu).1
    rw [stC_len] at this; omega
  subst hj
  rw [← hu]
  rcases (by omega : k = 0 ∨ k = 1 ∨ k = 2 ∨ k = 3 ∨ k = 4) with rfl | rfl | rfl | rfl | rfl
  · simpa [wordsO, stC] using c0
  · simpa [wordsO, stC] using c1
  · simpa [wordsO, stC] using c2
  · simpa [wordsO, stC] using c3
  · simpa [wordsO, stC] using c4
theorem alc0 {n : Nat} {W w1 : World} (hb : Below ((W.alloc (.cells #[.int .i64 0, .int .i64 0, .int .i64 0, .int .i64 0, .int .i64 0] 29)).drew).heap.size ((W.alloc (.cells #[.int .i64 0, .int .i64 0, .int .i64 0, .int .i64 0, .int .i64 0] 29)).drew) w1) (h : n ≤ W.heap.size) : Blk w1 W.heap.size 29 #[.int .i64 0, .int .i64 0, .int .i64 0, .int .i64 0, .int .i64 0] ∧ n ≤ W.heap.size := ⟨((Blk.mk W 29 #[.int .i64 0, .int .i64 0, .int .i64 0, .int .i64 0, .int .i64 0]).drewN 1).t hb, h⟩
theorem alc1 {n : Nat} {W w1 : World} (hb : Below (W.alloc (.cells #[.int .i64 0, .int .i64 0, .int .i64 0, .int .i64 0, .int .i64 0] 29)).heap.size (W.alloc (.cells #[.int .i64 0, .int .i64 0, .int .i64 0, .int .i64 0, .int .i64 0] 29)) w1) (h : n ≤ W.heap.size) : Blk w1 W.heap.size 29 #[.int .i64 0, .int .i64 0, .int .i64 0, .int .i64 0, .int .i64 0] ∧ n ≤ W.heap.size := ⟨(Blk.mk W 29 #[.int .i64 0, .int .i64 0, .int .i64 0, .int .i64 0, .int .i64 0]).t hb, h⟩
theorem alc2 {n : Nat} {W w1 : World} {o : Obj} (hb : Below ((W.alloc (.cells #[.int .i64 0, .int .i64 0, .int .i64 0, .int .i64 0, .int .i64 0] 29)).alloc o).heap.size ((W.alloc (.cells #[.int .i64 0, .int .i64 0, .int .i64 0, .int .i64 0, .int .i64 0] 29)).alloc o) w1) (h : n ≤ W.heap.size) : Blk w1 W.heap.size 29 #[.int .i64 0, .int .i64 0, .int .i64 0, .int .i64 0, .int .i64 0] ∧ n ≤ W.heap.size := ⟨((Blk.mk W 29 #[.int .i64 0, .int .i64 0, .int .i64 0, .int .i64 0, .int .i64 0]).alloc o).t hb, h⟩
theorem alc2' {n : Nat} {W w1 : World} {o : Obj} (hb : Below ((W.alloc o).alloc (.cells #[.int .i64 0, .int .i64 0, .int .i64 0, .int .i64 0, .int .i64 0] 29)).heap.size ((W.alloc o).alloc (.cells #[.int .i64 0, .int .i64 0, .int .i64 0, .int .i64 0, .int .i64 0] 29)) w1) (h : n ≤ W.heap.size) : Blk w1 (W.heap.size + 1) 29 #[.int .i64 0, .int .i64 0, .int .i64 0, .int .i64 0, .int .i64 0] ∧ n ≤ W.heap.size + 1 := ⟨by have := (Blk.mk (W.alloc o) 29 #[.int .i64 0, .int .i64 0, .int .i64 0, .int .i64 0, .int .i64 0]).t hb; rwa [World.size_alloc] at this, by omega⟩
theorem alc3 {n b : Nat} {W w1 : World} (h : Blk W b 29 #[.int .i64 0, .int .i64 0, .int .i64 0, .int .i64 0, .int .i64 0] ∧ n ≤ b) (hb : Below W.heap.size W w1) : Blk w1 b 29 #[.int .i64 0, .int .i64 0, .int .i64 0, .int .i64 0, .int .i64 0] ∧ n ≤ b := ⟨h.1.t hb, h.2⟩
theorem alc4 {n b : Nat} {W w1 : World} {o : Obj} (h : Blk W b 29 #[.int .i64 0, .int .i64 0, .int .i64 0, .int .i64 0, .int .i64 0] ∧ n ≤ b) (hb : Below (W.alloc o).heap.size (W.alloc o) w1) : Blk w1 b 29 #[.int .i64 0, .int .i64 0, .int .i64 0, .int .i64 0, .int .i64 0] ∧ n ≤ b := ⟨(h.1.alloc o).t hb, h.2⟩
theorem Blk.five {w : World} {g : Nat} {t : TypeId} {a b c d e : Value} (hb : Blk w g t #[a, b, c, d, e]) (a' b' c' d' e' : Value) :
    Blk (((((w.setCell ⟨g, 0, none⟩ a').setCell ⟨g, 1, none⟩ b').setCell ⟨g, 2, none⟩ c').setCell ⟨g, 3, none⟩ d').setCell ⟨g, 4, none⟩ e') g t #[a', b', c', d', e'] := by
  have h1 := Blk.setq hb 0 a'
  have h2 := Blk.setq h1 1 b'
  have h3 := Blk.setq h2 2 c'
  have h4 := Blk.setq h3 3 d'
  have h5 := Blk.setq h4 4 e'
  simpa using h5
theorem bS5 {w0 W : World} (h : Below w0.heap.size w0 W) {b : Nat} (hb : w0.heap.size ≤ b) (v0 v1 v2 v3 v4 : Value) : Below w0.heap.size w0 (((((W.setCell ⟨b, 0, none⟩ v0).setCell ⟨b, 1, none⟩ v1).setCell ⟨b, 2, none⟩ v2).setCell ⟨b, 3, none⟩ v3).setCell ⟨b, 4, none⟩ v4) := bS (bS (bS (bS (bS h hb _) hb _) hb _) hb _) hb _
--%%
set_option maxRecDepth 100000 in
set_option maxHeartbeats 40000000 in
theorem orderChecks_walk (id pr am ra tt : Int) (w : World) (htab : Tab w) : Calls Tryd.prog 6 #[.agg #[.int .i64 id, .int .i64 pr, .int .i64 am, .int .i64 ra, .int .i64 tt]] w fun e w' => e = .returned (.bool true) ∧ Below w.heap.size w w' := by
  have hb0 := below1 w (.cells #[.int .i64 id, .int .i64 pr, .int .i64 am, .int .i64 ra, .int .i64 tt] 29)
  have z := Blk.mk w 29 #[.int .i64 id, .int .i64 pr, .int .i64 am, .int .i64 ra, .int .i64 tt]
  have HZ := Lib.hid z
  have HT := Lib.hid (htab.t hb0)
  have HB0 := Lib.hid hb0
  have KB := Lib.hid (books_c (w.alloc (.cells #[.int .i64 id, .int .i64 pr, .int .i64 am, .int .i64 ra, .int .i64 tt] 29)))
  have KW := Lib.hid (wrong_c id pr am ra tt)
  have KC := Lib.hid (ocheck_c id pr am ra tt)
  obtain ⟨r, hr⟩ : ∃ r, orE id pr am ra tt = r := ⟨_, rfl⟩
  have HR := Lib.hid hr
  rw [hr] at KW KC
  have vr : (r != r) = false := by simp
  clear htab z hr hb0
  go_enter Tryd.func6, Tryd.ntmps6
  go_wp2_with fail
  refine KB.out.mono ?_
  rintro e w1 ⟨rfl, hb1⟩
  obtain ⟨z0, z1, z2, z3, z4⟩ := (HZ.out.t hb1).a5f.1
  have HB1 := Lib.hid hb1
  clear hb1
  go_wp2_with fail
  refine (KW.out _).mono ?_
  rintro e w2 ⟨rfl, hb2⟩
  have HB2 := Lib.hid (bT HB1.out hb2)
  clear z0 z1 z2 z3 z4 hb2
  obtain ⟨z0, z1, z2, z3, z4⟩ := (HZ.out.t HB2.out).a5f.1
  go_wp2_with fail
  refine (KC.out _).mono ?_
  rintro e w3 ⟨rfl, hb3⟩
  have HB3 := Lib.hid (bT HB2.out hb3)
  clear z0 z1 z2 z3 z4 hb3
  obtain ⟨z0, z1, z2, z3, z4⟩ := (HZ.out.t HB3.out).a5f.1
  have hbe := bT HB0.out HB3.out
  by_cases h0 : 100000000000 < am
  · have v : decide (100000000000 < am) = true := by simpa using h0
    clear h0
    go_wp2_with fail
    go_ret
    exact ⟨rfl, hbe⟩
  have v0 : decide (100000000000 < am) = false := by simpa using h0
  by_cases h1 : am < -100000000000
  · have v : decide (am < -100000000000) = true := by simpa using h1
    clear h1
    go_wp2_with fail
    go_ret
    exact ⟨rfl, hbe⟩
  have v1 : decide (am < -100000000000) = false := by simpa using h1
  by_cases h2 : 100000000000 < tt
  · have v : decide (100000000000 < tt) = true := by simpa using h2
    clear h2
    go_wp2_with fail
    go_ret
    exact ⟨rfl, hbe⟩
  have v2 : decide (100000000000 < tt) = false := by simpa using h2
  by_cases h3 : tt < -100000000000
  · have v : decide (tt < -100000000000) = true := by simpa using h3
    clear h3
    go_wp2_with fail
    go_ret
    exact ⟨rfl, hbe⟩
  have v3 : decide (tt < -100000000000) = false := by simpa using h3
  by_cases h4 : 999999999 < id
  · have v : decide (999999999 < id) = true := by simpa using h4
    clear h4
    go_wp2_with fail
    go_ret
    exact ⟨rfl, hbe⟩
  have v4 : decide (999999999 < id) = false := by simpa using h4
  by_cases h5 : id < -999999999
  · have v : decide (id < -999999999) = true := by simpa using h5
    clear h5
    go_wp2_with fail
    go_ret
    exact ⟨rfl, hbe⟩
  have v5 : decide (id < -999999999) = false := by simpa using h5
  by_cases h6 : 999999999 < pr
  · have v : decide (999999999 < pr) = true := by simpa using h6
    clear h6
    go_wp2_with fail
    go_ret
    exact ⟨rfl, hbe⟩
  have v6 : decide (999999999 < pr) = false := by simpa using h6
  by_cases h7 : pr < -999999999
  · have v : decide (pr < -999999999) = true := by simpa using h7
    clear h7
    go_wp2_with fail
    go_ret
    exact ⟨rfl, hbe⟩
  have v7 : decide (pr < -999999999) = false := by simpa using h7
  by_cases h8 : 999999999 < ra
  · have v : decide (999999999 < ra) = true := by simpa using h8
    clear h8
    go_wp2_with fail
    go_ret
    exact ⟨rfl, hbe⟩
  have v8 : decide (999999999 < ra) = false := by simpa using h8
  by_cases h9 : ra < -999999999
  · have v : decide (ra < -999999999) = true := by simpa using h9
    clear h9
    go_wp2_with fail
    go_ret
    exact ⟨rfl, hbe⟩
  have v9 : decide (ra < -999999999) = false := by simpa using h9
  have HI : Hid (In17 id pr am ra tt) := ⟨by omega, by omega, by omega, by omega, by omega⟩
  clear h0 h1 h2 h3 h4 h5 h6 h7 h8 h9 hbe
  have KT : Hid (∀ x W, InW x → Tab W → Calls Tryd.prog 23 #[.int .i64 x] W fun e w' => e = .returned (.string ⟨(textB x).toArray⟩) ∧ Below W.heap.size W w') := fun x W hx ht => text_c x W hx.1 hx.2 ht
  have KI : Hid (∀ x W, InW x → Tab W → Calls Tryd.prog 22 #[.int .i64 x] W fun e w' => e = .returned (.string ⟨(Lib.itoa x).toArray⟩) ∧ Below W.heap.size W w') := fun x W hx ht => itoa_b x (by have := hx.1; omega) hx.2 W ht
  have H0a : Hid (InW id) := ⟨by have := HI.out.id; omega, by have := HI.out.id; omega⟩
  have H1 : Hid (InW pr) := ⟨by have := HI.out.pr; omega, by have := HI.out.pr; omega⟩
  have H2 : Hid (InW am) := ⟨by have := HI.out.am; omega, by have := HI.out.am; omega⟩
  have H3 : Hid (InW ra) := ⟨by have := HI.out.ra; omega, by have := HI.out.ra; omega⟩
  have H4 : Hid (InW tt) := ⟨by have := HI.out.tt; omega, by have := HI.out.tt; omega⟩
  have G : Hid (∀ W, Below ((w.alloc (.cells #[.int .i64 id, .int .i64 pr, .int .i64 am, .int .i64 ra, .int .i64 tt] 29))).heap.size (w.alloc (.cells #[.int .i64 id, .int .i64 pr, .int .i64 am, .int .i64 ra, .int .i64 tt] 29)) W → Below ((w.alloc (.cells #[.int .i64 id, .int .i64 pr, .int .i64 am, .int .i64 ra, .int .i64 tt] 29))).heap.size (w.alloc (.cells #[.int .i64 id, .int .i64 pr, .int .i64 am, .int .i64 ra, .int .i64 tt] 29)) W ∧ (W.cell? ⟨w.heap.size, 0, none⟩ = some (.int .i64 id) ∧ W.cell? ⟨w.heap.size, 1, none⟩ = some (.int .i64 pr) ∧ W.cell? ⟨w.heap.size, 2, none⟩ = some (.int .i64 am) ∧ W.cell? ⟨w.heap.size, 3, none⟩ = some (.int .i64 ra) ∧ W.cell? ⟨w.heap.size, 4, none⟩ = some (.int .i64 tt)) ∧ Tab W) := fun W hW => ⟨hW, (HZ.out.t hW).a5f.1, HT.out.t hW⟩
  have HW := Lib.hid (words_row id pr am ra tt)

  obtain ⟨p0, p1, p2, p3, p4, HP0, HP1, KP⟩ : ∃ p0 p1 p2 p3 p4 : Int, Hid (r = 0 → p0 = id ∧ p1 = pr ∧ p2 = am ∧ p3 = ra ∧ p4 = tt) ∧ Hid (r ≠ 0 → p0 = 0 ∧ p1 = 0 ∧ p2 = 0 ∧ p3 = 0 ∧ p4 = 0) ∧ Hid (∀ A W, StSl W A 5 (wordsO id pr am ra tt) → Calls Tryd.prog 21 #[.slice A 5 5] W fun e w' => e = .returned (.tuple #[.agg #[.int .i64 p0, .int .i64 p1, .int .i64 p2, .int .i64 p3, .int .i64 p4], .int .i64 r]) ∧ Below W.heap.size W w') := by
    by_cases h0 : r = 0
    · exact ⟨id, pr, am, ra, tt, fun _ => ⟨rfl, rfl, rfl, rfl, rfl⟩, fun h => absurd h0 h, fun A W h => by rw [h0]; exact words_parse0 HI.out (HR.out.trans h0) A W h⟩
    · exact ⟨0, 0, 0, 0, 0, fun h => absurd h h0, fun _ => ⟨rfl, rfl, rfl, rfl, rfl⟩, fun A W h => words_parse1 HI.out r HR.out h0 A W h⟩
  have hs1 := HB3.out.size
  go_wp2_with fail
  go_region_held3 (fun W => Below ((w.alloc (.cells #[.int .i64 id, .int .i64 pr, .int .i64 am, .int .i64 ra, .int .i64 tt] 29))).heap.size (w.alloc (.cells #[.int .i64 id, .int .i64 pr, .int .i64 am, .int .i64 ra, .int .i64 tt] 29)) W ∧ (W.cell? ⟨w.heap.size, 0, none⟩ = some (.int .i64 id) ∧ W.cell? ⟨w.heap.size, 1, none⟩ = some (.int .i64 pr) ∧ W.cell? ⟨w.heap.size, 2, none⟩ = some (.int .i64 am) ∧ W.cell? ⟨w.heap.size, 3, none⟩ = some (.int .i64 ra) ∧ W.cell? ⟨w.heap.size, 4, none⟩ = some (.int .i64 tt)) ∧ Tab W)
    (first | assumption | (with_reducible exact G.out _ (bA HSW.out _)) | (with_reducible refine G.out _ (bS5 HSW.out ?_ _ _ _ _ _); first | exact hbb | (simp only [World.size_alloc]; exact hbb)) | exact G.out _ (bD HB3.out 1) | (exact sK G.out (by assumption) (by assumption)) | (exact sK G.out (by assumption) (below1 _ _)))
    (first
      | (go_at_call 22; (with_reducible refine (KI.out id _ H0a.out (show Below ((w.alloc (.cells #[.int .i64 id, .int .i64 pr, .int .i64 am, .int .i64 ra, .int .i64 tt] 29))).heap.size (w.alloc (.cells #[.int .i64 id, .int .i64 pr, .int .i64 am, .int .i64 ra, .int .i64 tt] 29)) _ ∧ _ ∧ Tab _ from by assumption).2.2).mono ?_); rintro e w1 ⟨rfl, hb1⟩; (first | (have yal := alc2' hb1 hs1) | (have yal := alc2 hb1 hs1) | (have yal := alc0 hb1 hs1) | (have yal := alc1 hb1 hs1) | (have yal := alc3 yal hb1) | (have yal := alc4 yal hb1) | skip); have hs1 := Nat.le_trans (show Below ((w.alloc (.cells #[.int .i64 id, .int .i64 pr, .int .i64 am, .int .i64 ra, .int .i64 tt] 29))).heap.size (w.alloc (.cells #[.int .i64 id, .int .i64 pr, .int .i64 am, .int .i64 ra, .int .i64 tt] 29)) _ ∧ _ ∧ Tab _ from by assumption).1.size hb1.size)
      | (go_at_call 22; (with_reducible refine (KI.out pr _ H1.out (show Below ((w.alloc (.cells #[.int .i64 id, .int .i64 pr, .int .i64 am, .int .i64 ra, .int .i64 tt] 29))).heap.size (w.alloc (.cells #[.int .i64 id, .int .i64 pr, .int .i64 am, .int .i64 ra, .int .i64 tt] 29)) _ ∧ _ ∧ Tab _ from by assumption).2.2).mono ?_); rintro e w1 ⟨rfl, hb1⟩; (first | (have yal := alc2' hb1 hs1) | (have yal := alc2 hb1 hs1) | (have yal := alc0 hb1 hs1) | (have yal := alc1 hb1 hs1) | (have yal := alc3 yal hb1) | (have yal := alc4 yal hb1) | skip); have hs1 := Nat.le_trans (show Below ((w.alloc (.cells #[.int .i64 id, .int .i64 pr, .int .i64 am, .int .i64 ra, .int .i64 tt] 29))).heap.size (w.alloc (.cells #[.int .i64 id, .int .i64 pr, .int .i64 am, .int .i64 ra, .int .i64 tt] 29)) _ ∧ _ ∧ Tab _ from by assumption).1.size hb1.size)
      | (go_at_call 22; (with_reducible refine (KI.out ra _ H3.out (show Below ((w.alloc (.cells #[.int .i64 id, .int .i64 pr, .int .i64 am, .int .i64 ra, .int .i64 tt] 29))).heap.size (w.alloc (.cells #[.int .i64 id, .int .i64 pr, .int .i64 am, .int .i64 ra, .int .i64 tt] 29)) _ ∧ _ ∧ Tab _ from by assumption).2.2).mono ?_); rintro e w1 ⟨rfl, hb1⟩; (first | (have yal := alc2' hb1 hs1) | (have yal := alc2 hb1 hs1) | (have yal := alc0 hb1 hs1) | (have yal := alc1 hb1 hs1) | (have yal := alc3 yal hb1) | (have yal := alc4 yal hb1) | skip); have hs1 := Nat.le_trans (show Below ((w.alloc (.cells #[.int .i64 id, .int .i64 pr, .int .i64 am, .int .i64 ra, .int .i64 tt] 29))).heap.size (w.alloc (.cells #[.int .i64 id, .int .i64 pr, .int .i64 am, .int .i64 ra, .int .i64 tt] 29)) _ ∧ _ ∧ Tab _ from by assumption).1.size hb1.size)
      | (go_at_call 23; (with_reducible refine (KT.out am _ H2.out (show Below ((w.alloc (.cells #[.int .i64 id, .int .i64 pr, .int .i64 am, .int .i64 ra, .int .i64 tt] 29))).heap.size (w.alloc (.cells #[.int .i64 id, .int .i64 pr, .int .i64 am, .int .i64 ra, .int .i64 tt] 29)) _ ∧ _ ∧ Tab _ from by assumption).2.2).mono ?_); rintro e w1 ⟨rfl, hb1⟩; (first | (have yal := alc2' hb1 hs1) | (have yal := alc2 hb1 hs1) | (have yal := alc0 hb1 hs1) | (have yal := alc1 hb1 hs1) | (have yal := alc3 yal hb1) | (have yal := alc4 yal hb1) | skip); have hs1 := Nat.le_trans (show Below ((w.alloc (.cells #[.int .i64 id, .int .i64 pr, .int .i64 am, .int .i64 ra, .int .i64 tt] 29))).heap.size (w.alloc (.cells #[.int .i64 id, .int .i64 pr, .int .i64 am, .int .i64 ra, .int .i64 tt] 29)) _ ∧ _ ∧ Tab _ from by assumption).1.size hb1.size)
      | (go_at_call 23; (with_reducible refine (KT.out tt _ H4.out (show Below ((w.alloc (.cells #[.int .i64 id, .int .i64 pr, .int .i64 am, .int .i64 ra, .int .i64 tt] 29))).heap.size (w.alloc (.cells #[.int .i64 id, .int .i64 pr, .int .i64 am, .int .i64 ra, .int .i64 tt] 29)) _ ∧ _ ∧ Tab _ from by assumption).2.2).mono ?_); rintro e w1 ⟨rfl, hb1⟩; (first | (have yal := alc2' hb1 hs1) | (have yal := alc2 hb1 hs1) | (have yal := alc0 hb1 hs1) | (have yal := alc1 hb1 hs1) | (have yal := alc3 yal hb1) | (have yal := alc4 yal hb1) | skip); have hs1 := Nat.le_trans (show Below ((w.alloc (.cells #[.int .i64 id, .int .i64 pr, .int .i64 am, .int .i64 ra, .int .i64 tt] 29))).heap.size (w.alloc (.cells #[.int .i64 id, .int .i64 pr, .int .i64 am, .int .i64 ra, .int .i64 tt] 29)) _ ∧ _ ∧ Tab _ from by assumption).1.size hb1.size)
      | (go_at_call 21; refine (KP.out _ _ (HW.out _ _ (by first | (simp; done) | (simp; omega)) (by simp [cell_alloc]) (by simp [cell_alloc]) (by simp [cell_alloc]) (by simp [cell_alloc]) (by simp [cell_alloc]))).mono ?_; rintro e w1 ⟨rfl, hb1⟩; have HSW := Lib.hid (bT (show Below ((w.alloc (.cells #[.int .i64 id, .int .i64 pr, .int .i64 am, .int .i64 ra, .int .i64 tt] 29))).heap.size (w.alloc (.cells #[.int .i64 id, .int .i64 pr, .int .i64 am, .int .i64 ra, .int .i64 tt] 29)) _ ∧ _ ∧ Tab _ from by assumption).1 hb1); (first | (have yal := alc2' hb1 hs1) | (have yal := alc2 hb1 hs1) | (have yal := alc0 hb1 hs1) | (have yal := alc1 hb1 hs1) | (have yal := alc3 yal hb1) | (have yal := alc4 yal hb1) | skip); first | (obtain ⟨yy, hbb⟩ := yal; (try simp only [World.size_alloc] at yy hbb); have yk := Lib.hid (Blk.five yy (.int .i64 p0) (.int .i64 p1) (.int .i64 p2) (.int .i64 p3) (.int .i64 p4)); obtain ⟨⟨y0, y1, y2, y3, y4⟩, g0, g1, g2, g3, g4⟩ := yy.a5f; clear yy) | (have yk := Lib.hid (Blk.mk w1 29 #[.int .i64 p0, .int .i64 p1, .int .i64 p2, .int .i64 p3, .int .i64 p4]))))
  all_goals
    obtain ⟨hbw, ⟨z0, z1, z2, z3, z4⟩, _⟩ := (show Below ((w.alloc (.cells #[.int .i64 id, .int .i64 pr, .int .i64 am, .int .i64 ra, .int .i64 tt] 29))).heap.size (w.alloc (.cells #[.int .i64 id, .int .i64 pr, .int .i64 am, .int .i64 ra, .int .i64 tt] 29)) _ ∧ (_ ∧ _ ∧ _ ∧ _ ∧ _) ∧ Tab _ from by assumption)
    have hbz := bT HB0.out hbw
    obtain ⟨⟨q0, q1, q2, q3, q4⟩, _⟩ := yk.out.a5f
    by_cases h0 : r = 0
    · obtain ⟨rfl, rfl, rfl, rfl, rfl⟩ := HP0.out h0
      subst h0
      go_wp2_with fail
      go_ret
      exact ⟨rfl, hbz⟩
    · obtain ⟨rfl, rfl, rfl, rfl, rfl⟩ := HP1.out h0
      have vr0 : (r != 0) = true := by simpa using h0
      have vr1 : (r == r) = true := by simp
      clear h0
      go_wp2_with fail
      go_ret
      exact ⟨rfl, hbz⟩
--%%
end Go.Proofs.YtfhbnojhmeodiaaDoor
