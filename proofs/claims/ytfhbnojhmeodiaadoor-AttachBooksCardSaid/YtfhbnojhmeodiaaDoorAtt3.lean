/-
  Contract of attach.Line. Conditions as named.
-/
import Derived.Test.YtfhbnojhmeodiaaDoorAtt2
namespace Go.Proofs.YtfhbnojhmeodiaaDoor
set_option linter.unusedVariables false
open Go.RowKit
def LineR (s1 s2 s3 s4 : List UInt8) (w : World) (e : Ending) (w' : World) : Prop := (∃ b, e = .returned (.slice (some ⟨b, 0, none⟩) 4 4) ∧ b < w'.heap.size ∧ w'.cell? ⟨b, 0, none⟩ = some (.string ⟨s1.toArray⟩) ∧ w'.cell? ⟨b, 1, none⟩ = some (.string ⟨s2.toArray⟩) ∧ w'.cell? ⟨b, 2, none⟩ = some (.string ⟨s3.toArray⟩) ∧ w'.cell? ⟨b, 3, none⟩ = some (.string ⟨s4.toArray⟩)) ∧ Below w.heap.size w w'
set_option maxRecDepth 100000 in
set_option maxHeartbeats 3200000 in
theorem aline_c (zo zb zr zd zt zc : Int) (w : World) (h1 : -100000000000 ≤ zb ∧ zb ≤ 100000000000) (h2 : -100000000000 ≤ zr ∧ zr ≤ 100000000000) (h3 : -100000000000 ≤ zt ∧ zt ≤ 100000000000) (h4 : -100000000000 ≤ zc ∧ zc ≤ 100000000000) (htab : Tab w) :
    Calls Tryd.prog 29 #[.agg #[.int .i64 zo, .int .i64 zb, .int .i64 zr, .int .i64 zd, .int .i64 zt, .int .i64 zc]] w (LineR (textB zb) (textB zr) (textB zt) (textB zc) w) := by
  have z := Blk.mk w 41 #[.int .i64 zo, .int .i64 zb, .int .i64 zr, .int .i64 zd, .int .i64 zt, .int .i64 zc]
  have hb0 := below1 w (.cells #[.int .i64 zo, .int .i64 zb, .int .i64 zr, .int .i64 zd, .int .i64 zt, .int .i64 zc] 41)
  have HT := Lib.hid (htab.t hb0)
  have KT : Hid (∀ x W, (-100000000000 ≤ x ∧ x ≤ 100000000000) → Tab W → Calls Tryd.prog 23 #[.int .i64 x] W fun e w' => e = .returned (.string ⟨(textB x).toArray⟩) ∧ Below W.heap.size W w') := fun x W hx ht => text_c x W (by omega) (by omega) ht
  have G : Hid (∀ W, Below ((w.alloc (.cells #[.int .i64 zo, .int .i64 zb, .int .i64 zr, .int .i64 zd, .int .i64 zt, .int .i64 zc] 41))).heap.size (w.alloc (.cells #[.int .i64 zo, .int .i64 zb, .int .i64 zr, .int .i64 zd, .int .i64 zt, .int .i64 zc] 41)) W → Below ((w.alloc (.cells #[.int .i64 zo, .int .i64 zb, .int .i64 zr, .int .i64 zd, .int .i64 zt, .int .i64 zc] 41))).heap.size (w.alloc (.cells #[.int .i64 zo, .int .i64 zb, .int .i64 zr, .int .i64 zd, .int .i64 zt, .int .i64 zc] 41)) W ∧ (W.cell? ⟨w.heap.size, 1, none⟩ = some (.int .i64 zb) ∧ W.cell? ⟨w.heap.size, 2, none⟩ = some (.int .i64 zr) ∧ W.cell? ⟨w.heap.size, 4, none⟩ = some (.int .i64 zt) ∧ W.cell? ⟨w.heap.size, 5, none⟩ = some (.int .i64 zc)) ∧ Tab W) := fun W hW => ⟨hW, ⟨(z.t hW).cell 1, (z.t hW).cell 2, (z.t hW).cell 4, (z.t hW).cell 5⟩, HT.out.t hW⟩
  have H1 := Lib.hid h1
  have H2 := Lib.hid h2
  have H3 := Lib.hid h3
  have H4 := Lib.hid h4
  clear h1 h2 h3 h4 htab
  go_enter Tryd.func29, Tryd.ntmps29
  go_wp2_with fail
  go_region_held3 (fun W => Below ((w.alloc (.cells #[.int .i64 zo, .int .i64 zb, .int .i64 zr, .int .i64 zd, .int .i64 zt, .int .i64 zc] 41))).heap.size (w.alloc (.cells #[.int .i64 zo, .int .i64 zb, .int .i64 zr, .int .i64 zd, .int .i64 zt, .int .i64 zc] 41)) W ∧ (W.cell? ⟨w.heap.size, 1, none⟩ = some (.int .i64 zb) ∧ W.cell? ⟨w.heap.size, 2, none⟩ = some (.int .i64 zr) ∧ W.cell? ⟨w.heap.size, 4, none⟩ = some (.int .i64 zt) ∧ W.cell? ⟨w.heap.size, 5, none⟩ = some (.int .i64 zc)) ∧ Tab W)
    (first | assumption | exact G.out _ (b0 _).drew | (exact sK G.out (by assumption) (by assumption)) | (exact sK G.out (by assumption) (below1 _ _)))
    (first
      | (go_at_call 23; (with_reducible refine (KT.out zb _ H1.out (show Below ((w.alloc (.cells #[.int .i64 zo, .int .i64 zb, .int .i64 zr, .int .i64 zd, .int .i64 zt, .int .i64 zc] 41))).heap.size (w.alloc (.cells #[.int .i64 zo, .int .i64 zb, .int .i64 zr, .int .i64 zd, .int .i64 zt, .int .i64 zc] 41)) _ ∧ _ ∧ Tab _ from by assumption).2.2).mono ?_); rintro e w1 ⟨rfl, hb1⟩)
      | (go_at_call 23; (with_reducible refine (KT.out zr _ H2.out (show Below ((w.alloc (.cells #[.int .i64 zo, .int .i64 zb, .int .i64 zr, .int .i64 zd, .int .i64 zt, .int .i64 zc] 41))).heap.size (w.alloc (.cells #[.int .i64 zo, .int .i64 zb, .int .i64 zr, .int .i64 zd, .int .i64 zt, .int .i64 zc] 41)) _ ∧ _ ∧ Tab _ from by assumption).2.2).mono ?_); rintro e w1 ⟨rfl, hb1⟩)
      | (go_at_call 23; (with_reducible refine (KT.out zt _ H3.out (show Below ((w.alloc (.cells #[.int .i64 zo, .int .i64 zb, .int .i64 zr, .int .i64 zd, .int .i64 zt, .int .i64 zc] 41))).heap.size (w.alloc (.cells #[.int .i64 zo, .int .i64 zb, .int .i64 zr, .int .i64 zd, .int .i64 zt, .int .i64 zc] 41)) _ ∧ _ ∧ Tab _ from by assumption).2.2).mono ?_); rintro e w1 ⟨rfl, hb1⟩)
      | (go_at_call 23; (with_reducible refine (KT.out zc _ H4.out (show Below ((w.alloc (.cells #[.int .i64 zo, .int .i64 zb, .int .i64 zr, .int .i64 zd, .int .i64 zt, .int .i64 zc] 41))).heap.size (w.alloc (.cells #[.int .i64 zo, .int .i64 zb, .int .i64 zr, .int .i64 zd, .int .i64 zt, .int .i64 zc] 41)) _ ∧ _ ∧ Tab _ from by assumption).2.2).mono ?_); rintro e w1 ⟨rfl, hb1⟩))
  all_goals
    have hbz := bT hb0 (show Below ((w.alloc (.cells #[.int .i64 zo, .int .i64 zb, .int .i64 zr, .int .i64 zd, .int .i64 zt, .int .i64 zc] 41))).heap.size (w.alloc (.cells #[.int .i64 zo, .int .i64 zb, .int .i64 zr, .int .i64 zd, .int .i64 zt, .int .i64 zc] 41)) _ ∧ _ from by assumption).1
    go_wp2_with fail
    go_ret
    exact ⟨⟨_, rfl, by simp, by simp [cell_alloc], by simp [cell_alloc], by simp [cell_alloc], by simp [cell_alloc]⟩, hbz⟩
--%%
end Go.Proofs.YtfhbnojhmeodiaaDoor
