/-
  Layer 13's laws: the walk of the example that is asked first (dues). Conditions as named.
-/
import Derived.Test.YtlfeppbhicmeoaaLaw13b
import Derived.Test.YtlfeppbhicmeoaaPer
namespace Go.Proofs.Ytlfeppbhicmeoaa
set_option linter.unusedVariables false
open Go.RowKit
theorem ex_st (w : World) : StSl (w.alloc (.cells #[.int .i64 0, .int .i64 1, .int .i64 12000, .int .i64 0, .bool false, .int .i64 5000, .int .i64 0, .int .i64 1, .int .i64 12000, .int .i64 0, .bool false, .int .i64 5000, .int .i64 0, .int .i64 1, .int .i64 12000, .int .i64 0, .bool true, .int .i64 11001] 42)) (some ⟨w.heap.size, 0, none⟩) 3 exL := by
  refine ⟨rfl, by decide, fun _ => ⟨w.heap.size, 0, rfl, by simp, fun k hk => ?_⟩⟩
  rcases (by omega : k = 0 ∨ k = 1 ∨ k = 2) with rfl | rfl | rfl
  all_goals
    intro j u hu
    have hj : j < 6 := (List.getElem?_eq_some_iff.1 hu).1
    rw [cell_alloc, if_pos rfl]
    rcases (by omega : j = 0 ∨ j = 1 ∨ j = 2 ∨ j = 3 ∨ j = 4 ∨ j = 5) with rfl | rfl | rfl | rfl | rfl | rfl <;> (injection hu with hu; subst hu; rfl)
set_option maxRecDepth 100000 in
set_option maxHeartbeats 3200000 in
theorem dues_c (w : World) : Calls Try.prog 18 #[] w fun e w' => e = .returned (.bool true) ∧ Below w.heap.size w w' := by
  have KN := Lib.hid (new2024_yes 4 (by decide))
  go_enter Try.func18, Try.ntmps18
  go_wp2_with fail
  refine (KN.out _).mono ?_
  rintro e w2 ⟨⟨g, rfl, hyr, hg1, hg2⟩, hb1⟩
  have HY := Lib.hid hyr
  clear hyr
  have z := (Blk.mk w2 40 #[.int .i64 0, .int .i64 1, .int .i64 12000, .int .i64 0, .bool false]).alloc (.cells #[.int .i64 0, .int .i64 1, .int .i64 12000, .int .i64 0, .bool false] 40)
  have y := Blk.mk (w2.alloc (.cells #[.int .i64 0, .int .i64 1, .int .i64 12000, .int .i64 0, .bool false] 40)) 40 #[.int .i64 0, .int .i64 1, .int .i64 12000, .int .i64 0, .bool false]
  rw [World.size_alloc] at y
  obtain ⟨p0, p1, p2, p3, p4⟩ := z.all5
  obtain ⟨q0, q1, q2, q3, q4⟩ := y.all5
  have f4 := y.free 4
  go_wp2_with fail
  clear p0 p1 p2 p3 p4 q0 q1 q2 q3 q4 f4 z y
  have z := (Blk.mk w2 40 #[.int .i64 0, .int .i64 1, .int .i64 12000, .int .i64 0, .bool false]).alloc (.cells #[.int .i64 0, .int .i64 1, .int .i64 12000, .int .i64 0, .bool true] 40)
  have y := Blk.mk (w2.alloc (.cells #[.int .i64 0, .int .i64 1, .int .i64 12000, .int .i64 0, .bool false] 40)) 40 #[.int .i64 0, .int .i64 1, .int .i64 12000, .int .i64 0, .bool true]
  rw [World.size_alloc] at y
  have hb2 := bA (below1 w2 (.cells #[.int .i64 0, .int .i64 1, .int .i64 12000, .int .i64 0, .bool false] 40)) (.cells #[.int .i64 0, .int .i64 1, .int .i64 12000, .int .i64 0, .bool true] 40)
  generalize (w2.alloc (.cells #[.int .i64 0, .int .i64 1, .int .i64 12000, .int .i64 0, .bool false] 40)).alloc (.cells #[.int .i64 0, .int .i64 1, .int .i64 12000, .int .i64 0, .bool true] 40) = w3 at *
  have hb3 := bT hb1 hb2
  have HY3 := Lib.hid (HY.out.t hb2)
  have G : Hid (∀ W, Below w3.heap.size w3 W → Below w3.heap.size w3 W ∧ (W.cell? ⟨w2.heap.size, 0, none⟩ = some (.int .i64 0) ∧ W.cell? ⟨w2.heap.size, 1, none⟩ = some (.int .i64 1) ∧ W.cell? ⟨w2.heap.size, 2, none⟩ = some (.int .i64 12000) ∧ W.cell? ⟨w2.heap.size, 3, none⟩ = some (.int .i64 0) ∧ W.cell? ⟨w2.heap.size, 4, none⟩ = some (.bool false)) ∧ (W.cell? ⟨w2.heap.size + 1, 0, none⟩ = some (.int .i64 0) ∧ W.cell? ⟨w2.heap.size + 1, 1, none⟩ = some (.int .i64 1) ∧ W.cell? ⟨w2.heap.size + 1, 2, none⟩ = some (.int .i64 12000) ∧ W.cell? ⟨w2.heap.size + 1, 3, none⟩ = some (.int .i64 0) ∧ W.cell? ⟨w2.heap.size + 1, 4, none⟩ = some (.bool true))) := fun W hW => ⟨hW, (z.t hW).all5, (y.t hW).all5⟩
  go_region_held3 (fun W => Below w3.heap.size w3 W ∧ (W.cell? ⟨w2.heap.size, 0, none⟩ = some (.int .i64 0) ∧ W.cell? ⟨w2.heap.size, 1, none⟩ = some (.int .i64 1) ∧ W.cell? ⟨w2.heap.size, 2, none⟩ = some (.int .i64 12000) ∧ W.cell? ⟨w2.heap.size, 3, none⟩ = some (.int .i64 0) ∧ W.cell? ⟨w2.heap.size, 4, none⟩ = some (.bool false)) ∧ (W.cell? ⟨w2.heap.size + 1, 0, none⟩ = some (.int .i64 0) ∧ W.cell? ⟨w2.heap.size + 1, 1, none⟩ = some (.int .i64 1) ∧ W.cell? ⟨w2.heap.size + 1, 2, none⟩ = some (.int .i64 12000) ∧ W.cell? ⟨w2.heap.size + 1, 3, none⟩ = some (.int .i64 0) ∧ W.cell? ⟨w2.heap.size + 1, 4, none⟩ = some (.bool true)))
    (first | assumption | exact G.out _ (b0 _).drew | exact G.out _ (bA (b0 _) _).drew | (exact sK G.out (by assumption) (by assumption)) | (exact sK G.out (by assumption) (below1 _ _)))
    (first
      | (go_at_call 48; (with_reducible refine (simple_c _).mono ?_); rintro e w4 ⟨⟨As, Ak, rfl, hs⟩, hb4⟩; have HS4 := Lib.hid hs; clear hs)
      | (go_at_call 15; have hst := ex_st w4; have hsc := HS4.out.below (below1 w4 (.cells #[.int .i64 0, .int .i64 1, .int .i64 12000, .int .i64 0, .bool false, .int .i64 5000, .int .i64 0, .int .i64 1, .int .i64 12000, .int .i64 0, .bool false, .int .i64 5000, .int .i64 0, .int .i64 1, .int .i64 12000, .int .i64 0, .bool true, .int .i64 11001] 42)); have hyy := HY3.out.t (bA (bT (b0 w3).drew hb4) (.cells #[.int .i64 0, .int .i64 1, .int .i64 12000, .int .i64 0, .bool false, .int .i64 5000, .int .i64 0, .int .i64 1, .int .i64 12000, .int .i64 0, .bool false, .int .i64 5000, .int .i64 0, .int .i64 1, .int .i64 12000, .int .i64 0, .bool true, .int .i64 11001] 42)); (with_reducible refine (ex_year (some As) (some Ak) _ 3 g _ hsc hyy hst).mono ?_); rintro e w5 ⟨⟨bu, ou, c2, rfl, m0, m1, m2, hbl⟩, hb5⟩)
      | (go_at_call 15; have hst := RowSl.below (ex_st w3) (bT (b0 _).drew hb4); have hyy := HY3.out.t (bT (bA (b0 w3) (.cells #[.int .i64 0, .int .i64 1, .int .i64 12000, .int .i64 0, .bool false, .int .i64 5000, .int .i64 0, .int .i64 1, .int .i64 12000, .int .i64 0, .bool false, .int .i64 5000, .int .i64 0, .int .i64 1, .int .i64 12000, .int .i64 0, .bool true, .int .i64 11001] 42)).drew hb4); (with_reducible refine (ex_year (some As) (some Ak) _ 3 g _ HS4.out hyy hst).mono ?_); rintro e w5 ⟨⟨bu, ou, c2, rfl, m0, m1, m2, hbl⟩, hb5⟩))
  all_goals
    have hB5 := (show Below w3.heap.size w3 w5 ∧ _ from by assumption).1
    have z5 := z.t hB5
    have hb6 := bT hb3 hB5
    clear G
    have G : Hid (∀ W, Below w5.heap.size w5 W → Below w5.heap.size w5 W ∧ (W.cell? ⟨w2.heap.size, 0, none⟩ = some (.int .i64 0) ∧ W.cell? ⟨w2.heap.size, 1, none⟩ = some (.int .i64 1) ∧ W.cell? ⟨w2.heap.size, 2, none⟩ = some (.int .i64 12000) ∧ W.cell? ⟨w2.heap.size, 3, none⟩ = some (.int .i64 0) ∧ W.cell? ⟨w2.heap.size, 4, none⟩ = some (.bool false))) := fun W hW => ⟨hW, (z5.t hW).all5⟩
    go_wp2_with fail
    go_region_held3 (fun W => Below w5.heap.size w5 W ∧ (W.cell? ⟨w2.heap.size, 0, none⟩ = some (.int .i64 0) ∧ W.cell? ⟨w2.heap.size, 1, none⟩ = some (.int .i64 1) ∧ W.cell? ⟨w2.heap.size, 2, none⟩ = some (.int .i64 12000) ∧ W.cell? ⟨w2.heap.size, 3, none⟩ = some (.int .i64 0) ∧ W.cell? ⟨w2.heap.size, 4, none⟩ = some (.bool false)))
      (first | assumption | exact G.out _ (b0 _).drew | (exact sK G.out (by assumption) (by assumption)) | (exact sK G.out (by assumption) (below1 _ _)))
      (first
        | (go_at_call 48; (with_reducible refine (simple_c _).mono ?_); rintro e w6 ⟨⟨Bs, Bk, rfl, hs6⟩, hb7⟩; have HS6 := Lib.hid hs6; clear hs6)
        | (go_at_call 26; (with_reducible refine (ex_rate (some Bs) (some Bk) _ HS6.out).mono ?_); rintro e w7 ⟨rfl, hb8⟩))
    have hB7 := (show Below w5.heap.size w5 w7 ∧ _ from by assumption).1
    have z7 := z5.t hB7
    have hb9 := bT hb6 hB7
    clear G
    have G : Hid (∀ W, Below w7.heap.size w7 W → Below w7.heap.size w7 W ∧ (W.cell? ⟨w2.heap.size, 0, none⟩ = some (.int .i64 0) ∧ W.cell? ⟨w2.heap.size, 1, none⟩ = some (.int .i64 1) ∧ W.cell? ⟨w2.heap.size, 2, none⟩ = some (.int .i64 12000) ∧ W.cell? ⟨w2.heap.size, 3, none⟩ = some (.int .i64 0) ∧ W.cell? ⟨w2.heap.size, 4, none⟩ = some (.bool false))) := fun W hW => ⟨hW, (z7.t hW).all5⟩
    go_wp2_with fail
    go_region_held3 (fun W => Below w7.heap.size w7 W ∧ (W.cell? ⟨w2.heap.size, 0, none⟩ = some (.int .i64 0) ∧ W.cell? ⟨w2.heap.size, 1, none⟩ = some (.int .i64 1) ∧ W.cell? ⟨w2.heap.size, 2, none⟩ = some (.int .i64 12000) ∧ W.cell? ⟨w2.heap.size, 3, none⟩ = some (.int .i64 0) ∧ W.cell? ⟨w2.heap.size, 4, none⟩ = some (.bool false)))
      (first | assumption | exact G.out _ (b0 _).drew | (exact sK G.out (by assumption) (by assumption)) | (exact sK G.out (by assumption) (below1 _ _)))
      (first
        | (go_at_call 48; (with_reducible refine (simple_c _).mono ?_); rintro e w8 ⟨⟨Ds, Dk, rfl, hs8⟩, hb10⟩; have HS8 := Lib.hid hs8; clear hs8)
        | (go_at_call 25; (with_reducible refine (ex_corn (some Ds) (some Dk) _ HS8.out).mono ?_); rintro e w9 ⟨⟨bc, oc, c3, rfl, n0, n1, hbc⟩, hb11⟩))
    have hB9 := (show Below w7.heap.size w7 w9 ∧ _ from by assumption).1
    have hb12 := bT hb9 hB9
    have hbu := hbl
    have m0' := ((bT hB7 hB9).cell (p := ⟨bu, ou, none⟩) hbl).trans m0
    have m1' := ((bT hB7 hB9).cell (p := ⟨bu, ou + 1, none⟩) hbl).trans m1
    have m2' := ((bT hB7 hB9).cell (p := ⟨bu, ou + 2, none⟩) hbl).trans m2
    go_wp2_with fail
    go_ret
    exact ⟨rfl, hb12⟩
--%%
end Go.Proofs.Ytlfeppbhicmeoaa
