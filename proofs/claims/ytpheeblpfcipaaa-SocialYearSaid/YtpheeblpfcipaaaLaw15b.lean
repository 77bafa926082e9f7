/-
  Layer 15's laws: whether a table fits; the example. Conditions as named.
-/
import Derived.Test.YtpheeblpfcipaaaLaw15
import Derived.Test.YtpheeblpfcipaaaSoc6
namespace Go.Proofs.Ytpheeblpfcipaaa
set_option linter.unusedVariables false
open Go.RowKit
/-- a bool, which tells something where it is true -/
def Yes (P : Prop) (w : World) (e : Ending) (w' : World) : Prop := ∃ b : Bool, (e = .returned (.bool b) ∧ (b = true → P)) ∧ Below w.heap.size w w'
--%%
theorem fits15_c (sch : List (List Bd)) (cts : List Ct) (kds : List Kd) (As Ac Ak : Option Addr) (ns cs nc cc nk ck : Nat) (lim rnd : Int) (w : World) (hs : ScSl w As ns sch) (hc : CtSl w Ac nc cts) (hcc : nc ≤ cc) (hk : KdSl w Ak nk kds) (hck : nk ≤ ck) :
    Calls Try.prog 8 #[.agg #[.slice As ns cs, .slice Ac nc cc, .slice Ak nk ck, .int .i64 lim, .int .i64 rnd]] w (Yes (TbOK sch cts kds lim rnd ∧ nc ≤ 20) w) := by
  have z := Blk.mk w 26 #[.slice As ns cs, .slice Ac nc cc, .slice Ak nk ck, .int .i64 lim, .int .i64 rnd]
  have hb0 := below1 w (.cells #[.slice As ns cs, .slice Ac nc cc, .slice Ak nk ck, .int .i64 lim, .int .i64 rnd] 26)
  have KC := Lib.hid (tcheck_c sch cts kds As Ac Ak ns cs nc cc nk ck lim rnd (w.alloc (.cells #[.slice As ns cs, .slice Ac nc cc, .slice Ak nk ck, .int .i64 lim, .int .i64 rnd] 26)) (hs.below hb0) (hc.below hb0) hcc (hk.below hb0) hck)
  clear hs hc hk
  by_cases h1 : ns ≤ 20
  case neg =>
    have t1 : decide ((ns : Int) ≤ 20) = false := by simp; omega
    go_enter Try.func8, Try.ntmps8
    go_wp2_with fail
    go_ret
    exact ⟨false, ⟨rfl, fun h => by cases h⟩, hb0⟩
  by_cases h2 : nc ≤ 20
  case neg =>
    have t1 : decide ((ns : Int) ≤ 20) = true := by simp; omega
    have t2 : decide ((nc : Int) ≤ 20) = false := by simp; omega
    go_enter Try.func8, Try.ntmps8
    go_wp2_with fail
    go_ret
    exact ⟨false, ⟨rfl, fun h => by cases h⟩, hb0⟩
  have t1 : decide ((ns : Int) ≤ 20) = true := by simp; omega
  have t2 : decide ((nc : Int) ≤ 20) = true := by simp; omega
  by_cases h3 : nk ≤ 30
  case neg =>
    have t3 : decide ((nk : Int) ≤ 30) = false := by simp; omega
    go_enter Try.func8, Try.ntmps8
    go_wp2_with fail
    go_ret
    exact ⟨false, ⟨rfl, fun h => by cases h⟩, hb0⟩
  have t3 : decide ((nk : Int) ≤ 30) = true := by simp; omega
  go_enter Try.func8, Try.ntmps8
  go_wp2_with fail
  refine KC.out.mono ?_
  rintro e w1 ⟨r, ⟨rfl, hr⟩, hb1⟩
  have HR := Lib.hid hr
  clear hr
  go_wp2_with fail
  go_ret
  exact ⟨_, ⟨rfl, fun h => ⟨HR.out (by simpa using h), h2⟩⟩, bT hb0 hb1⟩
--%%
theorem fundC_ok : ∀ k, k < 1 → CtOK (([fundC] : List Ct).getD k ct0) := by
  intro k hk
  obtain rfl : k = 0 := by omega
  exact ⟨by decide +kernel, by decide, by decide, by decide, by decide, by decide +kernel⟩
def b2000 : Bs := ⟨0, 0, 2000⟩
def l2000 : List Bs := [b2000, b2000, b2000]
theorem y_ok : ∀ k, k < 3 → okY [fundC] l2000 1 k = true := by
  intro k hk
  rcases (by omega : k = 0 ∨ k = 1 ∨ k = 2) with rfl | rfl | rfl <;> decide +kernel
theorem y_0 : rowY [fundC] l2000 1 0 = [⟨50, 100⟩] := by kernel_rfl
theorem y_2 : rowY [fundC] l2000 1 2 = [⟨25, 50⟩] := by kernel_rfl
theorem y_s : sumL (rowY [fundC] l2000 1) 1 3 0 = [⟨125, 250⟩] := by kernel_rfl
theorem y_t : okT [fundC] l2000 1 3 := by
  refine ⟨y_ok, fun k i hk hi => ?_⟩
  obtain rfl : i = 0 := by omega
  rcases (by omega : k = 0 ∨ k = 1 ∨ k = 2) with rfl | rfl | rfl <;> decide +kernel
theorem Fund.ct {w' : World} {Ac : Nat} {b off : Nat} (h0 : Ac < w'.heap.size ∧ w'.cell? ⟨Ac, 0, none⟩ = some (.string ⟨#[102, 117, 110, 100]⟩) ∧ w'.cell? ⟨Ac, 1, none⟩ = some (.int .i64 2) ∧ w'.cell? ⟨Ac, 2, none⟩ = some (.slice (some ⟨b, off, none⟩) 1 1) ∧
  w'.cell? ⟨Ac, 3, none⟩ = some (.int .i64 1000) ∧ w'.cell? ⟨Ac, 4, none⟩ = some (.int .i64 2500) ∧ w'.cell? ⟨Ac, 5, none⟩ = some (.int .i64 4) ∧ BandSl w' (some ⟨b, off, none⟩) 1 [⟨0, 500, 1000⟩]) : CtSl w' (some ⟨Ac, 0, none⟩) 1 [fundC] := by
  obtain ⟨h, c0, c1, c2, c3, c4, c5, hb⟩ := h0
  refine ⟨rfl, by decide, fun _ => ⟨Ac, 0, rfl, h, fun k hk => ?_⟩⟩
  obtain rfl : k = 0 := by omega
  exact ⟨c0, by decide, c1, ⟨_, _, _, c2, hb⟩, c3, c4, c5⟩
theorem bs_sl (w : World) : BsSl (w.alloc (.cells #[.int .i64 0, .int .i64 0, .int .i64 2000, .int .i64 0, .int .i64 0, .int .i64 2000, .int .i64 0, .int .i64 0, .int .i64 2000] 59)) (some ⟨w.heap.size, 0, none⟩) 3 l2000 := by
  refine ⟨rfl, by decide, fun _ => ⟨w.heap.size, 0, rfl, by simp, fun k hk => ?_⟩⟩
  rcases (by omega : k = 0 ∨ k = 1 ∨ k = 2) with rfl | rfl | rfl <;> exact ⟨by simp [cell_alloc]; rfl, by simp [cell_alloc]; rfl, by simp [cell_alloc]; rfl⟩
theorem BsSl.dr {w : World} {A : Option Addr} {n : Nat} {l : List Bs} (h : BsSl w A n l) : BsSl w.drew A n l := h
--%%
set_option maxRecDepth 100000 in
set_option maxHeartbeats 1600000 in
theorem pays_c (w : World) : Calls Try.prog 7 #[] w fun e w' => e = .returned (.bool true) ∧ Below w.heap.size w w' := by
  have z := Blk.mk w 59 #[.int .i64 0, .int .i64 0, .int .i64 2000]
  have hb0 := below1 w (.cells #[.int .i64 0, .int .i64 0, .int .i64 2000] 59)
  have KF := Lib.hid fund_c
  have KY : Hid (∀ (As Ac Ak A : Option Addr) (c : Nat) (W : World), CtSl W Ac 1 [fundC] → BsSl W A 3 l2000 → Calls Try.prog 14 #[.agg #[.slice As 1 1, .slice Ac 1 1, .slice Ak 1 1, .int .i64 5000, .int .i64 1], .slice A 3 c] W (fun e w' => (∃ v, e = .returned (.tuple #[v, .int .i64 0]) ∧ RowsOwn w' W.heap.size v 3 1 (rowY [fundC] l2000 1)) ∧ Below W.heap.size W w')) := fun As Ac Ak A c W h1 h2 => by
    refine (year_c [fundC] As Ac Ak A 1 1 1 1 1 1 3 c 5000 1 l2000 W h1 fundC_ok h2 (by decide) (by decide)).mono ?_
    rintro e w' ⟨⟨_, h⟩ | ⟨⟨k, hk, h⟩, _⟩, hb⟩
    · exact ⟨h, hb⟩
    · rw [y_ok k hk] at h; cases h
  have KT : Hid (∀ (As Ac Ak A : Option Addr) (c : Nat) (W : World), CtSl W Ac 1 [fundC] → BsSl W A 3 l2000 → Calls Try.prog 15 #[.agg #[.slice As 1 1, .slice Ac 1 1, .slice Ak 1 1, .int .i64 5000, .int .i64 1], .slice A 3 c] W (fun e w' => (∃ v, e = .returned (.tuple #[v, .int .i64 0]) ∧ OwnS w' W.heap.size v 1 [⟨125, 250⟩]) ∧ Below W.heap.size W w')) := fun As Ac Ak A c W h1 h2 => by
    refine (todate_c [fundC] As Ac Ak A 1 1 1 1 1 1 3 c 5000 1 l2000 W h1 fundC_ok h2 (by decide) (by decide)).mono ?_
    rintro e w' ⟨⟨_, h⟩ | ⟨h, _⟩, hb⟩
    · rw [y_s] at h
      exact ⟨h, hb⟩
    · exact absurd y_t h
  have hfl : ∀ (a b c d e : Value) (W : World), (Instr.field 26 (.agg #[a, b, c, d, e]) 1).run Try.prog W = .ok b W := fun _ _ _ _ _ _ => by kernel_rfl
  go_enter Try.func7, Try.ntmps7
  go_wp2_with fail
  generalize hW : w.alloc (.cells #[.int .i64 0, .int .i64 0, .int .i64 2000] 59) = w1 at *
  clear hW
  have G : Hid (∀ W, Below w1.heap.size w1 W → Below w1.heap.size w1 W ∧ W.cell? ⟨w.heap.size, 0, none⟩ = some (.int .i64 0) ∧ W.cell? ⟨w.heap.size, 1, none⟩ = some (.int .i64 0) ∧ W.cell? ⟨w.heap.size, 2, none⟩ = some (.int .i64 2000)) := fun W hW => ⟨hW, (z.t hW).cell 0, (z.t hW).cell 1, (z.t hW).cell 2⟩
  go_region_held3 (fun W => Below w1.heap.size w1 W ∧ W.cell? ⟨w.heap.size, 0, none⟩ = some (.int .i64 0) ∧ W.cell? ⟨w.heap.size, 1, none⟩ = some (.int .i64 0) ∧ W.cell? ⟨w.heap.size, 2, none⟩ = some (.int .i64 2000))
    (first | assumption | exact G.out _ (b0 _).drew | exact G.out _ (bA (b0 _) _).drew | (exact sK G.out (by assumption) (by assumption)) | (exact sK G.out (by assumption) (below1 _ _)))
    (first
      | (go_at_call 19; (with_reducible refine (KF.out _).mono ?_); rintro e w2 ⟨⟨As, Ac, Ak, b, off, rfl, hf⟩, hb2⟩; have hct := Lib.hid (Fund.ct hf); clear hf)
      | (go_at_call 14; first | ((with_reducible refine (KY.out _ _ _ _ _ _ (hct.out.below (below1 _ _)) (bs_sl _)).mono ?_); rintro e w3 ⟨⟨v, rfl, hv⟩, hb3⟩; obtain ⟨Av, cv, rfl, _, hr⟩ := hv.sl (by decide); clear hv; have HR := Lib.hid hr; clear hr) | ((with_reducible refine (KY.out _ _ _ _ _ _ hct.out ((bs_sl w1).dr.below hb2)).mono ?_); rintro e w3 ⟨⟨v, rfl, hv⟩, hb3⟩; obtain ⟨Av, cv, rfl, _, hr⟩ := hv.sl (by decide); clear hv; have HR := Lib.hid hr; clear hr)))
  all_goals
    have hB := (show Below w1.heap.size w1 _ ∧ _ from by assumption).1
    have hb4 := bT hb0 hB
    have z3 := z.t hB
    clear hct
    go_wp2_with fail
    have G3 : Hid (∀ W, Below w3.heap.size w3 W → Below w3.heap.size w3 W ∧ W.cell? ⟨w.heap.size, 0, none⟩ = some (.int .i64 0) ∧ W.cell? ⟨w.heap.size, 1, none⟩ = some (.int .i64 0) ∧ W.cell? ⟨w.heap.size, 2, none⟩ = some (.int .i64 2000)) := fun W hW => ⟨hW, (z3.t hW).cell 0, (z3.t hW).cell 1, (z3.t hW).cell 2⟩
    go_region_held3 (fun W => Below w3.heap.size w3 W ∧ W.cell? ⟨w.heap.size, 0, none⟩ = some (.int .i64 0) ∧ W.cell? ⟨w.heap.size, 1, none⟩ = some (.int .i64 0) ∧ W.cell? ⟨w.heap.size, 2, none⟩ = some (.int .i64 2000))
      (first | assumption | exact G3.out _ (b0 _).drew | exact G3.out _ (bA (b0 _) _).drew | (exact sK G3.out (by assumption) (by assumption)) | (exact sK G3.out (by assumption) (below1 _ _)))
      (first
        | (go_at_call 19; (with_reducible refine (KF.out _).mono ?_); rintro e w4 ⟨⟨As, Ac, Ak, b, off, rfl, hf⟩, hb5⟩; have hct := Lib.hid (Fund.ct hf); clear hf)
        | (go_at_call 15; first | ((with_reducible refine (KT.out _ _ _ _ _ _ (hct.out.below (below1 _ _)) (bs_sl _)).mono ?_); rintro e w5 ⟨⟨v, rfl, hv⟩, hb6⟩; obtain ⟨Av2, cv2, rfl, _, hr⟩ := hv.sl; clear hv; have HR2 := Lib.hid hr; clear hr) | ((with_reducible refine (KT.out _ _ _ _ _ _ hct.out ((bs_sl w3).dr.below hb5)).mono ?_); rintro e w5 ⟨⟨v, rfl, hv⟩, hb6⟩; obtain ⟨Av2, cv2, rfl, _, hr⟩ := hv.sl; clear hv; have HR2 := Lib.hid hr; clear hr)))
  all_goals
    have hB2 := (show Below w3.heap.size w3 _ ∧ _ from by assumption).1
    have hb7 := bT hb4 hB2
    clear hct
    have HRA := Lib.hid (HR.out.below hB2)
    go_wp2_with fail
    refine (KF.out _).mono ?_
    rintro e w6 ⟨⟨As, Ac, Ak, b, off, rfl, ha, d0, d1, d2, d3, d4, d5, hbs⟩, hb8⟩
    have hb9 := bT hb7 hb8
    have HRB := Lib.hid (HRA.out.below hb8)
    have HR2B := Lib.hid (HR2.out.below hb8)
    go_wp2_with fail
    refine (corners1_c _ 2 1000 2500 4 ⟨0, 500, 1000⟩ (some ⟨b, off, none⟩) 1 2000 500 _ hbs (by decide) (by decide) (by decide) (by decide) (by decide)).mono ?_
    rintro e w7 ⟨⟨v, rfl, hv⟩, hb10⟩
    obtain ⟨Av3, cv3, rfl, _, hr3⟩ := hv.sl
    have HR3 := Lib.hid hr3
    have hb11 := bT hb9 hb10
    have HRC := Lib.hid (HRB.out.below hb10)
    have HR2C := Lib.hid (HR2B.out.below hb10)
    clear hv hr3 d0 d1 d2 d3 d4 d5 hbs
    go_wp2_with fail
    refine (KF.out _).mono ?_
    rintro e w8 ⟨⟨As2, Ac2, Ak2, b2, off2, rfl, ha2, d0, d1, d2, d3, d4, d5, hbs⟩, hb12⟩
    have hb13 := bT hb11 hb12
    have HRD := Lib.hid (HRC.out.below hb12)
    have HR2D := Lib.hid (HR2C.out.below hb12)
    have HR3D := Lib.hid (HR3.out.below hb12)
    go_wp2_with fail
    refine (rates1_c _ 2 1000 2500 4 ⟨0, 500, 1000⟩ b2 off2 1 499 2000 _ hbs (by decide +kernel) (by decide) (by decide) (by decide) (by decide) (by decide)).mono ?_
    rintro e w9 ⟨rfl, hb14⟩
    have hb15 := bT hb13 hb14
    have HRE := HRD.out.below hb14
    have HR2E := HR2D.out.below hb14
    have HR3E := HR3D.out.below hb14
    clear d0 d1 d2 d3 d4 d5 hbs
    obtain ⟨bA, oA, rfl, _, hat⟩ := HRE.2 (by decide)
    obtain ⟨B0, cB0, f0, s0⟩ := hat 0 (by decide)
    obtain ⟨B2, cB2, f2, s2⟩ := hat 2 (by decide)
    rw [y_0] at s0
    rw [y_2] at s2
    obtain ⟨g0, o0, rfl, _, t0⟩ := s0.2.2 (by decide)
    obtain ⟨u0, u1⟩ := t0 0 (by decide)
    obtain ⟨g2, o2, rfl, _, t2⟩ := s2.2.2 (by decide)
    obtain ⟨u2, u3⟩ := t2 0 (by decide)
    obtain ⟨g4, o4, rfl, _, t4⟩ := HR2E.2.2 (by decide)
    obtain ⟨u4, u5⟩ := t4 0 (by decide)
    obtain ⟨g6, o6, rfl, _, t6⟩ := HR3E.2.2 (by decide)
    have u6 := t6 1 (by decide)
    simp only [Nat.zero_mul, Nat.add_zero] at f0 u0 u1 u2 u3 u4 u5
    rw [show ([⟨50, 100⟩] : List Sh).getD 0 sh0 = ⟨50, 100⟩ from rfl] at u0 u1
    rw [show ([⟨25, 50⟩] : List Sh).getD 0 sh0 = ⟨25, 50⟩ from rfl] at u2 u3
    rw [show ([⟨125, 250⟩] : List Sh).getD 0 sh0 = ⟨125, 250⟩ from rfl] at u4 u5
    rw [show ([0, 500] : List Int).getD 1 0 = 500 from rfl] at u6
    dsimp only at u0 u1 u2 u3 u4 u5
    clear hat s0 s2 t0 t2 t4 t6 HRE HR2E HR3E
    go_wp2_with fail
    go_ret
    exact ⟨rfl, hb15⟩
--%%
end Go.Proofs.Ytpheeblpfcipaaa
