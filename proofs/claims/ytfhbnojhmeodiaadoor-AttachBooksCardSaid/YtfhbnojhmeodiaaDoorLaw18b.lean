/-
  Layer 18's laws: the example that is asked first. Conditions as named.
-/
import Derived.Test.YtfhbnojhmeodiaaDoorLaw18
namespace Go.Proofs.YtfhbnojhmeodiaaDoor
set_option linter.unusedVariables false
open Go.RowKit
def exO : List Od := [⟨1, 0, 50, 0, 0, 0, 0⟩, ⟨2, 0, 50, 0, 0, 0, 5⟩]
def exT : List Tk := [⟨1, 0, 50, 50, 50, 0⟩, ⟨2, 5, 50, 55, 30, 25⟩]
theorem exO_ok : ∀ k, k < 2 → OdOK (exO.getD k od0) := by
  intro k hk
  rcases (by omega : k = 0 ∨ k = 1) with rfl | rfl <;> exact ⟨⟨by decide, by decide, by decide, by decide, by decide, by decide⟩, by decide, by decide⟩
theorem exO_e : ∀ k, k < 2 → oneE (exO.getD k od0) 130 = 0 := by decide +kernel
theorem exO_left : leftA exO 130 50 2 = 50 := by decide +kernel
theorem tk_ext {a b : Tk} (h1 : a.o = b.o) (h2 : a.br = b.br) (h3 : a.or = b.or) (h4 : a.du = b.du) (h5 : a.ta = b.ta) (h6 : a.ca = b.ca) : a = b := by
  cases a; cases b; simp only at h1 h2 h3 h4 h5 h6; subst h1; subst h2; subst h3; subst h4; subst h5; subst h6; rfl
theorem exO_tk : tkL exO 130 50 2 = exT := by
  show [tkA exO 130 50 0, tkA exO 130 50 1] = _
  rw [show tkA exO 130 50 0 = ⟨1, 0, 50, 50, 50, 0⟩ from tk_ext (by decide +kernel) (by decide +kernel) (by decide +kernel) (by decide +kernel) (by decide +kernel) (by decide +kernel), show tkA exO 130 50 1 = ⟨2, 5, 50, 55, 30, 25⟩ from tk_ext (by decide +kernel) (by decide +kernel) (by decide +kernel) (by decide +kernel) (by decide +kernel) (by decide +kernel)]
  rfl
theorem ex_25 : textB 25 = [48, 46, 50, 53] := by decide +kernel
theorem ex_od (w : World) : OdSl (w.alloc (.cells #[.int .i64 1, .int .i64 0, .int .i64 50, .int .i64 0, .int .i64 0, .int .i64 0, .int .i64 0, .int .i64 2, .int .i64 0, .int .i64 50, .int .i64 0, .int .i64 0, .int .i64 0, .int .i64 5] 39)) (some ⟨w.heap.size, 0, none⟩) 2 exO := by
  refine ⟨rfl, by decide, fun _ => ⟨w.heap.size, 0, rfl, by simp, fun k hk => ?_⟩⟩
  rcases (by omega : k = 0 ∨ k = 1) with rfl | rfl
  all_goals
    intro j u hu
    have hj : j < 7 := (List.getElem?_eq_some_iff.1 hu).1
    rw [cell_alloc, if_pos rfl]
    rcases (by omega : j = 0 ∨ j = 1 ∨ j = 2 ∨ j = 3 ∨ j = 4 ∨ j = 5 ∨ j = 6) with rfl | rfl | rfl | rfl | rfl | rfl | rfl <;> (injection hu with hu; subst hu; rfl)
/-- what the example's calls answer -/
theorem ex_serve (A : Option Addr) (c : Nat) (w : World) (hl : OdSl w A 2 exO) :
    Calls Tryd.prog 11 #[.int .i64 130, .int .i64 50, .slice A 2 c] w fun e w' => (∃ B c', e = .returned (.tuple #[.slice B 2 c', .int .i64 50, .int .i64 0]) ∧ TkSl w' B 2 exT) ∧ Below w.heap.size w w' := by
  refine (serve_c 130 50 A 2 c exO w (by decide) (by decide) (by decide) hl exO_ok (by decide)).mono ?_
  rintro e w' ⟨⟨_, v, rfl, hv⟩ | ⟨k, hk, _, hn, _⟩, hb⟩
  · rw [exO_tk] at hv
    obtain ⟨B, c', rfl, hs⟩ := hv.sl
    rw [exO_left]
    exact ⟨⟨B, c', rfl, hs⟩, hb⟩
  · exact absurd (exO_e k hk) hn
theorem ex_sum (A : Option Addr) (c : Nat) (w : World) (hl : TkSl w A 2 exT) :
    Calls Tryd.prog 27 #[.slice A 2 c] w fun e w' => e = .returned (.tuple #[.int .i64 80, .int .i64 0]) ∧ Below w.heap.size w w' := by
  have h := asum_c A 2 c exT w hl (by decide) (by decide)
  rw [show sumT exT 2 = 80 from by decide] at h
  exact h
theorem ex_right (A : Option Addr) (c : Nat) (w : World) (hl : TkSl w A 2 exT) :
    Calls Tryd.prog 28 #[.slice A 2 c] w fun e w' => e = .returned (.bool true) ∧ Below w.heap.size w w' := by
  refine aright_c A 2 c exT w hl ?_ true (Lib.hid (by decide))
  intro k hk
  rcases (by omega : k = 0 ∨ k = 1) with rfl | rfl <;> exact ⟨by decide, by decide, by decide, by decide⟩
--%%
set_option maxRecDepth 100000 in
set_option maxHeartbeats 3200000 in
theorem serves_c (w : World) (htab : Tab w) : Calls Tryd.prog 8 #[] w fun e w' => e = .returned (.bool true) ∧ Below w.heap.size w w' := by
  have HT := Lib.hid htab
  clear htab
  go_enter Tryd.func8, Tryd.ntmps8
  go_wp2_with fail
  have hb0 : Below w.heap.size w _ := bA (bA (below1 w (.cells #[.int .i64 1, .int .i64 0, .int .i64 50, .int .i64 0, .int .i64 0, .int .i64 0, .int .i64 0] 39)) (.cells #[.int .i64 2, .int .i64 0, .int .i64 50, .int .i64 0, .int .i64 0, .int .i64 0, .int .i64 5] 39)) (.cells #[.int .i64 1, .int .i64 0, .int .i64 50, .int .i64 0, .int .i64 0, .int .i64 0, .int .i64 0, .int .i64 2, .int .i64 0, .int .i64 50, .int .i64 0, .int .i64 0, .int .i64 0, .int .i64 5] 39)
  have ho := ex_od ((w.alloc (.cells #[.int .i64 1, .int .i64 0, .int .i64 50, .int .i64 0, .int .i64 0, .int .i64 0, .int .i64 0] 39)).alloc (.cells #[.int .i64 2, .int .i64 0, .int .i64 50, .int .i64 0, .int .i64 0, .int .i64 0, .int .i64 5] 39))
  simp only [World.size_alloc] at ho
  refine (ex_serve _ _ _ ho).mono ?_
  rintro e w1 ⟨⟨B, c1, rfl, hs⟩, hb1⟩
  have hb2 := bT hb0 hb1
  have HS := Lib.hid hs
  clear hs ho
  go_wp2_with fail
  refine (ex_sum _ _ _ HS.out).mono ?_
  rintro e w2 ⟨rfl, hb3⟩
  have hb4 := bT hb2 hb3
  have HS2 := Lib.hid (RowSl.below HS.out hb3)
  obtain ⟨b, off, rfl, hlt, hat⟩ := HS2.out.2.2 (by decide)
  have m4 : w2.cell? ⟨b, off + 4, none⟩ = some (.int .i64 50) := hat 0 (by decide) 4 _ rfl
  obtain ⟨n0, n1, n2, n3, n4, n5⟩ : w2.cell? ⟨b, off + 6, none⟩ = some (.int .i64 2) ∧ w2.cell? ⟨b, off + 6 + 1, none⟩ = some (.int .i64 5) ∧ w2.cell? ⟨b, off + 6 + 2, none⟩ = some (.int .i64 50) ∧ w2.cell? ⟨b, off + 6 + 3, none⟩ = some (.int .i64 55) ∧ w2.cell? ⟨b, off + 6 + 4, none⟩ = some (.int .i64 30) ∧ w2.cell? ⟨b, off + 6 + 5, none⟩ = some (.int .i64 25) := ⟨hat 1 (by decide) 0 _ rfl, hat 1 (by decide) 1 _ rfl, hat 1 (by decide) 2 _ rfl, hat 1 (by decide) 3 _ rfl, hat 1 (by decide) 4 _ rfl, hat 1 (by decide) 5 _ rfl⟩
  clear hat
  go_wp2_with fail
  refine (ex_right _ _ _ HS2.out).mono ?_
  rintro e w3 ⟨rfl, hb5⟩
  have hb6 := bT hb4 hb5
  obtain ⟨_, _, hA, _, hat⟩ := (RowSl.below HS2.out hb5).2.2 (by decide)
  injection hA with hA
  injection hA with hA1 hA2
  subst hA1
  subst hA2
  obtain ⟨n0', n1', n2', n3', n4', n5'⟩ : w3.cell? ⟨b, off + 6, none⟩ = some (.int .i64 2) ∧ w3.cell? ⟨b, off + 6 + 1, none⟩ = some (.int .i64 5) ∧ w3.cell? ⟨b, off + 6 + 2, none⟩ = some (.int .i64 50) ∧ w3.cell? ⟨b, off + 6 + 3, none⟩ = some (.int .i64 55) ∧ w3.cell? ⟨b, off + 6 + 4, none⟩ = some (.int .i64 30) ∧ w3.cell? ⟨b, off + 6 + 5, none⟩ = some (.int .i64 25) := ⟨hat 1 (by decide) 0 _ rfl, hat 1 (by decide) 1 _ rfl, hat 1 (by decide) 2 _ rfl, hat 1 (by decide) 3 _ rfl, hat 1 (by decide) 4 _ rfl, hat 1 (by decide) 5 _ rfl⟩
  clear hat m4 n0 n1 n2 n3 n4 n5
  go_wp2_with fail
  refine (aline_c 2 5 50 55 30 25 _ (by decide) (by decide) (by decide) (by decide) (HT.out.t hb6)).mono ?_
  rintro e w4 ⟨⟨bs, rfl, hlt4, _, _, _, s3⟩, hb7⟩
  rw [ex_25] at s3
  go_wp2_with fail
  go_ret
  exact ⟨rfl, bT hb6 hb7⟩
--%%
end Go.Proofs.YtfhbnojhmeodiaaDoor
