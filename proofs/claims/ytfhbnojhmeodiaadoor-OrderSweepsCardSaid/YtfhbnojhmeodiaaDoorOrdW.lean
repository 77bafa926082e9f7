/-
  Contract of order.Words. Conditions as named.
-/
import Derived.Test.YtfhbnojhmeodiaaDoorStr
import Derived.Test.YtfhbnojhmeodiaaDoorText
import Derived.Test.YtfhbnojhmeodiaaDoorOrd2
import Derived.Test.YtfhbnojhmeodiaaDoorShelf
import Derived.Deep.QuietTactic
import Derived.BigQuiet
import Derived.Deep.RegionHeld3
namespace Go.Proofs.YtfhbnojhmeodiaaDoor
set_option linter.unusedVariables false
open Go.RowKit
theorem itoa_b (n : Int) (h0 : -9223372036854775808 ≤ n) (h1 : n ≤ 9223372036854775807) (w : World) (htab : Tab w) :
    Calls Tryd.prog 22 #[.int .i64 n] w fun e w' => e = .returned (.string ⟨(Lib.itoa n).toArray⟩) ∧ Below w.heap.size w w' :=
  (Tryd.strconv_Itoa n h0 h1 w htab).mono fun e w' ⟨h, k, os, hw⟩ => ⟨h, by subst hw; exact Lib.below_grow _ w (Nat.le_refl _) k os⟩
/-- an order's words -/
def wordsO (id pr am ra tt : Int) : List ByteArray := [⟨(Lib.itoa id).toArray⟩, ⟨(Lib.itoa pr).toArray⟩, ⟨(textB am).toArray⟩, ⟨(Lib.itoa ra).toArray⟩, ⟨(textB tt).toArray⟩]
def InW (x : Int) : Prop := -9223372036854775807 ≤ x ∧ x ≤ 9223372036854775807
def WordsR (L : List ByteArray) (w : World) (e : Ending) (w' : World) : Prop := (∃ b, e = .returned (.slice (some ⟨b, 0, none⟩) 5 5) ∧ StSl w' (some ⟨b, 0, none⟩) 5 L) ∧ Below w.heap.size w w'
--%%
set_option maxRecDepth 100000 in
set_option maxHeartbeats 3200000 in
theorem owords_c (id pr am ra tt : Int) (w : World) (h0 : InW id) (h1 : InW pr) (h2 : InW am) (h3 : InW ra) (h4 : InW tt) (htab : Tab w) :
    Calls Tryd.prog 24 #[.agg #[.int .i64 id, .int .i64 pr, .int .i64 am, .int .i64 ra, .int .i64 tt]] w (WordsR (wordsO id pr am ra tt) w) := by
  have z := Blk.mk w 29 #[.int .i64 id, .int .i64 pr, .int .i64 am, .int .i64 ra, .int .i64 tt]
  have hb0 := below1 w (.cells #[.int .i64 id, .int .i64 pr, .int .i64 am, .int .i64 ra, .int .i64 tt] 29)
  have HT := Lib.hid (htab.t hb0)
  have KT : Hid (∀ x W, InW x → Tab W → Calls Tryd.prog 23 #[.int .i64 x] W fun e w' => e = .returned (.string ⟨(textB x).toArray⟩) ∧ Below W.heap.size W w') := fun x W hx ht => text_c x W hx.1 hx.2 ht
  have KI : Hid (∀ x W, InW x → Tab W → Calls Tryd.prog 22 #[.int .i64 x] W fun e w' => e = .returned (.string ⟨(Lib.itoa x).toArray⟩) ∧ Below W.heap.size W w') := fun x W hx ht => itoa_b x (by have := hx.1; omega) hx.2 W ht
  have G : Hid (∀ W, Below ((w.alloc (.cells #[.int .i64 id, .int .i64 pr, .int .i64 am, .int .i64 ra, .int .i64 tt] 29))).heap.size (w.alloc (.cells #[.int .i64 id, .int .i64 pr, .int .i64 am, .int .i64 ra, .int .i64 tt] 29)) W → Below ((w.alloc (.cells #[.int .i64 id, .int .i64 pr, .int .i64 am, .int .i64 ra, .int .i64 tt] 29))).heap.size (w.alloc (.cells #[.int .i64 id, .int .i64 pr, .int .i64 am, .int .i64 ra, .int .i64 tt] 29)) W ∧ (W.cell? ⟨w.heap.size, 0, none⟩ = some (.int .i64 id) ∧ W.cell? ⟨w.heap.size, 1, none⟩ = some (.int .i64 pr) ∧ W.cell? ⟨w.heap.size, 2, none⟩ = some (.int .i64 am) ∧ W.cell? ⟨w.heap.size, 3, none⟩ = some (.int .i64 ra) ∧ W.cell? ⟨w.heap.size, 4, none⟩ = some (.int .i64 tt)) ∧ Tab W) := fun W hW => ⟨hW, ⟨(z.t hW).cell 0, (z.t hW).cell 1, (z.t hW).cell 2, (z.t hW).cell 3, (z.t hW).cell 4⟩, HT.out.t hW⟩
  have H0 := Lib.hid h0
  have H1 := Lib.hid h1
  have H2 := Lib.hid h2
  have H3 := Lib.hid h3
  have H4 := Lib.hid h4
  have HW : Hid (∀ (W : World) (b : Nat), b < W.heap.size → W.cell? ⟨b, 0, none⟩ = some (.string ⟨(Lib.itoa id).toArray⟩) → W.cell? ⟨b, 1, none⟩ = some (.string ⟨(Lib.itoa pr).toArray⟩) → W.cell? ⟨b, 2, none⟩ = some (.string ⟨(textB am).toArray⟩) → W.cell? ⟨b, 3, none⟩ = some (.string ⟨(Lib.itoa ra).toArray⟩) → W.cell? ⟨b, 4, none⟩ = some (.string ⟨(textB tt).toArray⟩) → StSl W (some ⟨b, 0, none⟩) 5 (wordsO id pr am ra tt)) := fun W b hb c0 c1 c2 c3 c4 => by
    refine ⟨rfl, by decide, fun _ => ⟨b, 0, rfl, hb, fun k hk j u hu => ?_⟩⟩
    have hj : j = 0 := by
      have := (List.getElem?_eq_some_iff.1 hu).1
      rw [stC_len] at this; omega
    subst hj
    rw [← hu]
    rcases (by omega : k = 0 ∨ k = 1 ∨ k = 2 ∨ k = 3 ∨ k = 4) with rfl | rfl | rfl | rfl | rfl
    · simpa [wordsO, stC] using c0
    · simpa [wordsO, stC] using c1
    · simpa [wordsO, stC] using c2
    · simpa [wordsO, stC] using c3
    · simpa [wordsO, stC] using c4
  clear h0 h1 h2 h3 h4 htab
  go_enter Tryd.func24, Tryd.ntmps24
  go_wp2_with fail
  go_region_held3 (fun W => Below ((w.alloc (.cells #[.int .i64 id, .int .i64 pr, .int .i64 am, .int .i64 ra, .int .i64 tt] 29))).heap.size (w.alloc (.cells #[.int .i64 id, .int .i64 pr, .int .i64 am, .int .i64 ra, .int .i64 tt] 29)) W ∧ (W.cell? ⟨w.heap.size, 0, none⟩ = some (.int .i64 id) ∧ W.cell? ⟨w.heap.size, 1, none⟩ = some (.int .i64 pr) ∧ W.cell? ⟨w.heap.size, 2, none⟩ = some (.int .i64 am) ∧ W.cell? ⟨w.heap.size, 3, none⟩ = some (.int .i64 ra) ∧ W.cell? ⟨w.heap.size, 4, none⟩ = some (.int .i64 tt)) ∧ Tab W)
    (first | assumption | exact G.out _ (b0 _).drew | (exact sK G.out (by assumption) (by assumption)) | (exact sK G.out (by assumption) (below1 _ _)))
    (first
      | (go_at_call 22; (with_reducible refine (KI.out id _ H0.out (show Below ((w.alloc (.cells #[.int .i64 id, .int .i64 pr, .int .i64 am, .int .i64 ra, .int .i64 tt] 29))).heap.size (w.alloc (.cells #[.int .i64 id, .int .i64 pr, .int .i64 am, .int .i64 ra, .int .i64 tt] 29)) _ ∧ _ ∧ Tab _ from by assumption).2.2).mono ?_); rintro e w1 ⟨rfl, hb1⟩)
      | (go_at_call 22; (with_reducible refine (KI.out pr _ H1.out (show Below ((w.alloc (.cells #[.int .i64 id, .int .i64 pr, .int .i64 am, .int .i64 ra, .int .i64 tt] 29))).heap.size (w.alloc (.cells #[.int .i64 id, .int .i64 pr, .int .i64 am, .int .i64 ra, .int .i64 tt] 29)) _ ∧ _ ∧ Tab _ from by assumption).2.2).mono ?_); rintro e w1 ⟨rfl, hb1⟩)
      | (go_at_call 22; (with_reducible refine (KI.out ra _ H3.out (show Below ((w.alloc (.cells #[.int .i64 id, .int .i64 pr, .int .i64 am, .int .i64 ra, .int .i64 tt] 29))).heap.size (w.alloc (.cells #[.int .i64 id, .int .i64 pr, .int .i64 am, .int .i64 ra, .int .i64 tt] 29)) _ ∧ _ ∧ Tab _ from by assumption).2.2).mono ?_); rintro e w1 ⟨rfl, hb1⟩)
      | (go_at_call 23; (with_reducible refine (KT.out am _ H2.out (show Below ((w.alloc (.cells #[.int .i64 id, .int .i64 pr, .int .i64 am, .int .i64 ra, .int .i64 tt] 29))).heap.size (w.alloc (.cells #[.int .i64 id, .int .i64 pr, .int .i64 am, .int .i64 ra, .int .i64 tt] 29)) _ ∧ _ ∧ Tab _ from by assumption).2.2).mono ?_); rintro e w1 ⟨rfl, hb1⟩)
      | (go_at_call 23; (with_reducible refine (KT.out tt _ H4.out (show Below ((w.alloc (.cells #[.int .i64 id, .int .i64 pr, .int .i64 am, .int .i64 ra, .int .i64 tt] 29))).heap.size (w.alloc (.cells #[.int .i64 id, .int .i64 pr, .int .i64 am, .int .i64 ra, .int .i64 tt] 29)) _ ∧ _ ∧ Tab _ from by assumption).2.2).mono ?_); rintro e w1 ⟨rfl, hb1⟩))
  all_goals
    have hbz := bT hb0 (show Below ((w.alloc (.cells #[.int .i64 id, .int .i64 pr, .int .i64 am, .int .i64 ra, .int .i64 tt] 29))).heap.size (w.alloc (.cells #[.int .i64 id, .int .i64 pr, .int .i64 am, .int .i64 ra, .int .i64 tt] 29)) _ ∧ _ from by assumption).1
    go_wp2_with fail
    go_ret
    exact ⟨⟨_, rfl, HW.out _ _ (by simp) (by simp [cell_alloc]) (by simp [cell_alloc]) (by simp [cell_alloc]) (by simp [cell_alloc]) (by simp [cell_alloc])⟩, hbz⟩
--%%
end Go.Proofs.YtfhbnojhmeodiaaDoor
