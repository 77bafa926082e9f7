/-
  Contracts of date.Of, Add, Between and period.New at a few days. No conditions.
-/
import Derived.Test.YtankoappneglcaaDate
import Derived.LoopN
namespace Go.Proofs.Ytankoappneglcaa
set_option linter.unusedVariables false
open Go.RowKit
--%%
set_option maxRecDepth 100000 in
set_option maxHeartbeats 600000 in
theorem of2024_c (w : World) : Calls Try.prog 32 #[.int .i64 45385] w fun e w' => e = .returned (.tuple #[.agg #[.int .i64 2024, .int .i64 4, .int .i64 5], .int .i64 0]) ∧ Below w.heap.size w w' := by
  have y := (Blk.mk w 36 #[.int .i64 0, .int .i64 0, .int .i64 0]).alloc (.cells #[.int .i64 2024, .int .i64 1, .int .i64 1] 36)
  have x := Blk.mk (w.alloc (.cells #[.int .i64 0, .int .i64 0, .int .i64 0] 36)) 36 #[.int .i64 2024, .int .i64 1, .int .i64 1]
  rw [World.size_alloc] at x
  have hb0 := bA (below1 w (.cells #[.int .i64 0, .int .i64 0, .int .i64 0] 36)) (.cells #[.int .i64 2024, .int .i64 1, .int .i64 1] 36)
  go_enter Try.func32, Try.ntmps32
  go_wp2_with fail
  refine wp_loop_rounds 1 ?_
  rw [rounds_succ]
  go_wp2_with fail
  refine (number2025_1_c _).mono ?_
  rintro e w1 ⟨rfl, hb1⟩
  have hb2 := bT hb0 hb1
  have y1 := y.t hb1
  have x1 := x.t hb1
  obtain ⟨a0, a1, a2, a3, a4, a5⟩ := x1.a3
  go_wp2_with fail
  refine (number2024_1_c _).mono ?_
  rintro e w2 ⟨rfl, hb3⟩
  have hb4 := bT hb2 hb3
  have y2 := y1.t hb3
  have x2 := x1.t hb3
  obtain ⟨a0, a1, a2, a3, a4, a5⟩ := x2.a3
  have x3 : Blk (((w2.setCell ⟨w.heap.size + 1, 1, none⟩ (.int .i64 2)).setCell ⟨w.heap.size + 1, 1, none⟩ (.int .i64 3)).setCell ⟨w.heap.size + 1, 1, none⟩ (.int .i64 4)) (w.heap.size + 1) 36 #[.int .i64 2024, .int .i64 4, .int .i64 1] := ((x2.put 1 (.int .i64 2)).put 1 (.int .i64 3)).put 1 (.int .i64 4)
  obtain ⟨a6, a7, a8, a9, a10, a11⟩ := x3.a3
  go_wp2_with fail
  refine wp_loop_rounds 4 ?_
  rw [rounds_succ]
  go_wp2_with fail
  refine (last2024_1_c _).mono ?_
  rintro e w' ⟨rfl, rfl⟩
  go_wp2_with fail
  refine (last2024_1_c _).mono ?_
  rintro e w' ⟨rfl, rfl⟩
  go_wp2_with fail
  rw [rounds_succ]
  go_wp2_with fail
  refine (last2024_2_c _).mono ?_
  rintro e w' ⟨rfl, rfl⟩
  go_wp2_with fail
  refine (last2024_2_c _).mono ?_
  rintro e w' ⟨rfl, rfl⟩
  go_wp2_with fail
  rw [rounds_succ]
  go_wp2_with fail
  refine (last2024_3_c _).mono ?_
  rintro e w' ⟨rfl, rfl⟩
  go_wp2_with fail
  refine (last2024_3_c _).mono ?_
  rintro e w' ⟨rfl, rfl⟩
  go_wp2_with fail
  rw [rounds_succ]
  go_wp2_with fail
  have hb5 := bS (bS (bS hb4 (p := ⟨w.heap.size + 1, 1, none⟩) (Nat.le_succ _) (.int .i64 2)) (p := ⟨w.heap.size + 1, 1, none⟩) (Nat.le_succ _) (.int .i64 3)) (p := ⟨w.heap.size + 1, 1, none⟩) (Nat.le_succ _) (.int .i64 4)
  have y3 := ((y2.far (a := ⟨w.heap.size + 1, 1, none⟩) (Nat.ne_of_lt (Nat.lt_succ_self _)) (.int .i64 2)).far (a := ⟨w.heap.size + 1, 1, none⟩) (Nat.ne_of_lt (Nat.lt_succ_self _)) (.int .i64 3)).far (a := ⟨w.heap.size + 1, 1, none⟩) (Nat.ne_of_lt (Nat.lt_succ_self _)) (.int .i64 4)
  generalize hW : ((w2.setCell ⟨w.heap.size + 1, 1, none⟩ (.int .i64 2)).setCell ⟨w.heap.size + 1, 1, none⟩ (.int .i64 3)).setCell ⟨w.heap.size + 1, 1, none⟩ (.int .i64 4) = w3 at *
  clear hW
  obtain ⟨b0, b1, b2, b3, b4, b5⟩ := y3.a3
  refine (last2024_4_c _).mono ?_
  rintro e w' ⟨rfl, rfl⟩
  go_wp2_with fail
  exact bodyPost_ret (v := .tuple #[.agg #[.int .i64 2024, .int .i64 4, .int .i64 5], .int .i64 0]) (by simp [results, Try.results32, go_sem, b0, b1, b2]) rfl ⟨rfl, bS (bS (bS (bS hb5 (Nat.le_succ _) _) (Nat.le_refl _) _) (Nat.le_refl _) _) (Nat.le_refl _) _⟩
--%%
set_option maxRecDepth 100000 in
set_option maxHeartbeats 600000 in
theorem of2025_c (w : World) : Calls Try.prog 32 #[.int .i64 45750] w fun e w' => e = .returned (.tuple #[.agg #[.int .i64 2025, .int .i64 4, .int .i64 5], .int .i64 0]) ∧ Below w.heap.size w w' := by
  have y := (Blk.mk w 36 #[.int .i64 0, .int .i64 0, .int .i64 0]).alloc (.cells #[.int .i64 2025, .int .i64 1, .int .i64 1] 36)
  have x := Blk.mk (w.alloc (.cells #[.int .i64 0, .int .i64 0, .int .i64 0] 36)) 36 #[.int .i64 2025, .int .i64 1, .int .i64 1]
  rw [World.size_alloc] at x
  have hb0 := bA (below1 w (.cells #[.int .i64 0, .int .i64 0, .int .i64 0] 36)) (.cells #[.int .i64 2025, .int .i64 1, .int .i64 1] 36)
  go_enter Try.func32, Try.ntmps32
  go_wp2_with fail
  refine wp_loop_rounds 1 ?_
  rw [rounds_succ]
  go_wp2_with fail
  refine (number2026_1_c _).mono ?_
  rintro e w1 ⟨rfl, hb1⟩
  have hb2 := bT hb0 hb1
  have y1 := y.t hb1
  have x1 := x.t hb1
  obtain ⟨a0, a1, a2, a3, a4, a5⟩ := x1.a3
  go_wp2_with fail
  refine (number2025_1_c _).mono ?_
  rintro e w2 ⟨rfl, hb3⟩
  have hb4 := bT hb2 hb3
  have y2 := y1.t hb3
  have x2 := x1.t hb3
  obtain ⟨a0, a1, a2, a3, a4, a5⟩ := x2.a3
  have x3 : Blk (((w2.setCell ⟨w.heap.size + 1, 1, none⟩ (.int .i64 2)).setCell ⟨w.heap.size + 1, 1, none⟩ (.int .i64 3)).setCell ⟨w.heap.size + 1, 1, none⟩ (.int .i64 4)) (w.heap.size + 1) 36 #[.int .i64 2025, .int .i64 4, .int .i64 1] := ((x2.put 1 (.int .i64 2)).put 1 (.int .i64 3)).put 1 (.int .i64 4)
  obtain ⟨a6, a7, a8, a9, a10, a11⟩ := x3.a3
  go_wp2_with fail
  refine wp_loop_rounds 4 ?_
  rw [rounds_succ]
  go_wp2_with fail
  refine (last2025_1_c _).mono ?_
  rintro e w' ⟨rfl, rfl⟩
  go_wp2_with fail
  refine (last2025_1_c _).mono ?_
  rintro e w' ⟨rfl, rfl⟩
  go_wp2_with fail
  rw [rounds_succ]
  go_wp2_with fail
  refine (last2025_2_c _).mono ?_
  rintro e w' ⟨rfl, rfl⟩
  go_wp2_with fail
  refine (last2025_2_c _).mono ?_
  rintro e w' ⟨rfl, rfl⟩
  go_wp2_with fail
  rw [rounds_succ]
  go_wp2_with fail
  refine (last2025_3_c _).mono ?_
  rintro e w' ⟨rfl, rfl⟩
  go_wp2_with fail
  refine (last2025_3_c _).mono ?_
  rintro e w' ⟨rfl, rfl⟩
  go_wp2_with fail
  rw [rounds_succ]
  go_wp2_with fail
  have hb5 := bS (bS (bS hb4 (p := ⟨w.heap.size + 1, 1, none⟩) (Nat.le_succ _) (.int .i64 2)) (p := ⟨w.heap.size + 1, 1, none⟩) (Nat.le_succ _) (.int .i64 3)) (p := ⟨w.heap.size + 1, 1, none⟩) (Nat.le_succ _) (.int .i64 4)
  have y3 := ((y2.far (a := ⟨w.heap.size + 1, 1, none⟩) (Nat.ne_of_lt (Nat.lt_succ_self _)) (.int .i64 2)).far (a := ⟨w.heap.size + 1, 1, none⟩) (Nat.ne_of_lt (Nat.lt_succ_self _)) (.int .i64 3)).far (a := ⟨w.heap.size + 1, 1, none⟩) (Nat.ne_of_lt (Nat.lt_succ_self _)) (.int .i64 4)
  generalize hW : ((w2.setCell ⟨w.heap.size + 1, 1, none⟩ (.int .i64 2)).setCell ⟨w.heap.size + 1, 1, none⟩ (.int .i64 3)).setCell ⟨w.heap.size + 1, 1, none⟩ (.int .i64 4) = w3 at *
  clear hW
  obtain ⟨b0, b1, b2, b3, b4, b5⟩ := y3.a3
  refine (last2025_4_c _).mono ?_
  rintro e w' ⟨rfl, rfl⟩
  go_wp2_with fail
  exact bodyPost_ret (v := .tuple #[.agg #[.int .i64 2025, .int .i64 4, .int .i64 5], .int .i64 0]) (by simp [results, Try.results32, go_sem, b0, b1, b2]) rfl ⟨rfl, bS (bS (bS (bS hb5 (Nat.le_succ _) _) (Nat.le_refl _) _) (Nat.le_refl _) _) (Nat.le_refl _) _⟩
--%%
theorem dadd2024_c (w : World) : Calls Try.prog 15 #[.agg #[.int .i64 2024, .int .i64 4, .int .i64 6], .int .i64 (-1)] w fun e w' => e = .returned (.tuple #[.agg #[.int .i64 2024, .int .i64 4, .int .i64 5], .int .i64 0]) ∧ Below w.heap.size w w' := by
  have y := Blk.mk (w.alloc (.cells #[.int .i64 2024, .int .i64 4, .int .i64 6] 36)) 36 #[.int .i64 0, .int .i64 0, .int .i64 0]
  rw [World.size_alloc] at y
  have hb0 := bA (below1 w (.cells #[.int .i64 2024, .int .i64 4, .int .i64 6] 36)) (.cells #[.int .i64 0, .int .i64 0, .int .i64 0] 36)
  go_enter Try.func15, Try.ntmps15
  go_wp2_with fail
  refine (number2024_4_c _).mono ?_
  rintro e w1 ⟨rfl, hb1⟩
  have hb2 := bT hb0 hb1
  have y1 := y.t hb1
  go_wp2_with fail
  refine (of2024_c _).mono ?_
  rintro e w2 ⟨rfl, hb3⟩
  have hb4 := bT hb2 hb3
  obtain ⟨b0, b1, b2, b3, b4, b5⟩ := (y1.t hb3).a3
  go_wp2_with fail
  exact bodyPost_ret (v := .tuple #[.agg #[.int .i64 2024, .int .i64 4, .int .i64 5], .int .i64 0]) (by simp [results, Try.results15, go_sem, b0, b1, b2]) rfl ⟨rfl, bS (bS (bS hb4 (Nat.le_succ _) _) (Nat.le_succ _) _) (Nat.le_succ _) _⟩
--%%
theorem dadd2025_c (w : World) : Calls Try.prog 15 #[.agg #[.int .i64 2025, .int .i64 4, .int .i64 6], .int .i64 (-1)] w fun e w' => e = .returned (.tuple #[.agg #[.int .i64 2025, .int .i64 4, .int .i64 5], .int .i64 0]) ∧ Below w.heap.size w w' := by
  have y := Blk.mk (w.alloc (.cells #[.int .i64 2025, .int .i64 4, .int .i64 6] 36)) 36 #[.int .i64 0, .int .i64 0, .int .i64 0]
  rw [World.size_alloc] at y
  have hb0 := bA (below1 w (.cells #[.int .i64 2025, .int .i64 4, .int .i64 6] 36)) (.cells #[.int .i64 0, .int .i64 0, .int .i64 0] 36)
  go_enter Try.func15, Try.ntmps15
  go_wp2_with fail
  refine (number2025_4_c _).mono ?_
  rintro e w1 ⟨rfl, hb1⟩
  have hb2 := bT hb0 hb1
  have y1 := y.t hb1
  go_wp2_with fail
  refine (of2025_c _).mono ?_
  rintro e w2 ⟨rfl, hb3⟩
  have hb4 := bT hb2 hb3
  obtain ⟨b0, b1, b2, b3, b4, b5⟩ := (y1.t hb3).a3
  go_wp2_with fail
  exact bodyPost_ret (v := .tuple #[.agg #[.int .i64 2025, .int .i64 4, .int .i64 5], .int .i64 0]) (by simp [results, Try.results15, go_sem, b0, b1, b2]) rfl ⟨rfl, bS (bS (bS hb4 (Nat.le_succ _) _) (Nat.le_succ _) _) (Nat.le_succ _) _⟩
--%%
theorem between2023_c (w : World) : Calls Try.prog 17 #[.agg #[.int .i64 2023, .int .i64 4, .int .i64 6], .agg #[.int .i64 2024, .int .i64 4, .int .i64 6]] w fun e w' => e = .returned (.tuple #[.int .i64 366, .int .i64 0]) ∧ Below w.heap.size w w' := by
  have x := (Blk.mk w 36 #[.int .i64 2023, .int .i64 4, .int .i64 6]).alloc (.cells #[.int .i64 2024, .int .i64 4, .int .i64 6] 36)
  have y := Blk.mk (w.alloc (.cells #[.int .i64 2023, .int .i64 4, .int .i64 6] 36)) 36 #[.int .i64 2024, .int .i64 4, .int .i64 6]
  rw [World.size_alloc] at y
  have hb0 := bA (below1 w (.cells #[.int .i64 2023, .int .i64 4, .int .i64 6] 36)) (.cells #[.int .i64 2024, .int .i64 4, .int .i64 6] 36)
  go_enter Try.func17, Try.ntmps17
  go_wp2_with fail
  refine (number2023_4_c _).mono ?_
  rintro e w1 ⟨rfl, hb1⟩
  have hb2 := bT hb0 hb1
  obtain ⟨b0, b1, b2, b3, b4, b5⟩ := (y.t hb1).a3
  go_wp2_with fail
  refine (number2024_4_c _).mono ?_
  rintro e w2 ⟨rfl, hb3⟩
  go_wp2_with fail
  go_ret2
  exact ⟨rfl, bT hb2 hb3⟩
--%%
theorem between2024_c (w : World) : Calls Try.prog 17 #[.agg #[.int .i64 2024, .int .i64 4, .int .i64 6], .agg #[.int .i64 2025, .int .i64 4, .int .i64 6]] w fun e w' => e = .returned (.tuple #[.int .i64 365, .int .i64 0]) ∧ Below w.heap.size w w' := by
  have x := (Blk.mk w 36 #[.int .i64 2024, .int .i64 4, .int .i64 6]).alloc (.cells #[.int .i64 2025, .int .i64 4, .int .i64 6] 36)
  have y := Blk.mk (w.alloc (.cells #[.int .i64 2024, .int .i64 4, .int .i64 6] 36)) 36 #[.int .i64 2025, .int .i64 4, .int .i64 6]
  rw [World.size_alloc] at y
  have hb0 := bA (below1 w (.cells #[.int .i64 2024, .int .i64 4, .int .i64 6] 36)) (.cells #[.int .i64 2025, .int .i64 4, .int .i64 6] 36)
  go_enter Try.func17, Try.ntmps17
  go_wp2_with fail
  refine (number2024_4_c _).mono ?_
  rintro e w1 ⟨rfl, hb1⟩
  have hb2 := bT hb0 hb1
  obtain ⟨b0, b1, b2, b3, b4, b5⟩ := (y.t hb1).a3
  go_wp2_with fail
  refine (number2025_4_c _).mono ?_
  rintro e w2 ⟨rfl, hb3⟩
  go_wp2_with fail
  go_ret2
  exact ⟨rfl, bT hb2 hb3⟩
--%%
/-- how many whole periods a year has -/
def nomI (f : Int) : Int := if f = 1 then 52 else if f = 2 then 26 else if f = 3 then 13 else if f = 4 then 12 else 0
theorem nominal_c (f : Int) (w : World) : Calls Try.prog 13 #[.int .i64 f] w fun e w' => e = .returned (.int .i64 (nomI f)) ∧ w = w' := by
  by_cases h : f = 1 ∨ f = 2 ∨ f = 3 ∨ f = 4
  · rcases h with rfl | rfl | rfl | rfl
    all_goals
      go_enter Try.func13, Try.ntmps13
      go_wp2
      go_ret
      exact ⟨rfl, rfl⟩
  · have h1 : (f == 1) = false := by simp; omega
    have h2 : (f == 2) = false := by simp; omega
    have h3 : (f == 3) = false := by simp; omega
    have h4 : (f == 4) = false := by simp; omega
    have e : Hid (nomI f = 0) := by unfold Hid nomI; rw [if_neg (by omega), if_neg (by omega), if_neg (by omega), if_neg (by omega)]
    clear h
    go_enter Try.func13, Try.ntmps13
    go_wp2
    go_ret
    exact ⟨ret_int e.out.symm, rfl⟩
--%%
end Go.Proofs.Ytankoappneglcaa
