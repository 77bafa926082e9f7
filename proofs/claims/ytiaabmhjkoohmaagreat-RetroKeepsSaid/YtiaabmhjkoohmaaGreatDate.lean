/-
 Contracts of package date at a few days. No conditions.
-/
import Derived.Test.YtiaabmhjkoohmaaGreatM0
import Derived.Outline
import Derived.Deep.QuietTactic
import Derived.BigQuiet
import Derived.Deep.RegionHeld3
import Derived.Lib.MinMax
namespace Go.Proofs.YtiaabmhjkoohmaaGreat
set_option maxRecDepth 100000
set_option maxHeartbeats 25600000
set_option linter.unusedVariables false
set_option linter.unusedSimpArgs false
open Go.RowKit Tryz
open Lib (hid)
theorem Blk.put {w : World} {g : Nat} {t : TypeId} {cs : Array Value} (h : Blk w g t cs) (i : Nat) (u : Value) : Blk (w.setCell ⟨g, i, none⟩ u) g t (cs.setIfInBounds i u) := heap_setCell_same w g i cs t u h
theorem Blk.a3 {w : World} {g : Nat} {t : TypeId} {a b c : Value} (h : Blk w g t #[a, b, c]) : w.cell? ⟨g, 0, none⟩ = some a ∧ w.cell? ⟨g, 1, none⟩ = some b ∧ w.cell? ⟨g, 2, none⟩ = some c ∧ w.frozen? ⟨g, 0, none⟩ = false ∧ w.frozen? ⟨g, 1, none⟩ = false ∧ w.frozen? ⟨g, 2, none⟩ = false := ⟨h.cell 0, h.cell 1, h.cell 2, h.free 0, h.free 1, h.free 2⟩
theorem leap2024_c (w : World) : Calls prog 147 #[.int .i64 2024] w fun e w' => e = .returned (.bool true) ∧ w = w' := by
 go_enter func147, ntmps147
 go_wp2
 go_ret
 exact ⟨rfl, rfl⟩
theorem leap2025_c (w : World) : Calls prog 147 #[.int .i64 2025] w fun e w' => e = .returned (.bool false) ∧ w = w' := by
 go_enter func147, ntmps147
 go_wp2
 go_ret
 exact ⟨rfl, rfl⟩
theorem leap2026_c (w : World) : Calls prog 147 #[.int .i64 2026] w fun e w' => e = .returned (.bool false) ∧ w = w' := by
 go_enter func147, ntmps147
 go_wp2
 go_ret
 exact ⟨rfl, rfl⟩
theorem last2024_4_c (w : World) : Calls prog 143 #[.int .i64 2024, .int .i64 4] w fun e w' => e = .returned (.int .i64 30) ∧ w = w' := by
 go_enter func143, ntmps143
 go_wp2
 go_ret
 exact ⟨rfl, rfl⟩
theorem last2025_4_c (w : World) : Calls prog 143 #[.int .i64 2025, .int .i64 4] w fun e w' => e = .returned (.int .i64 30) ∧ w = w' := by
 go_enter func143, ntmps143
 go_wp2
 go_ret
 exact ⟨rfl, rfl⟩
theorem last2026_1_c (w : World) : Calls prog 143 #[.int .i64 2026, .int .i64 1] w fun e w' => e = .returned (.int .i64 31) ∧ w = w' := by
 go_enter func143, ntmps143
 go_wp2
 go_ret
 exact ⟨rfl, rfl⟩
theorem last2025_1_c (w : World) : Calls prog 143 #[.int .i64 2025, .int .i64 1] w fun e w' => e = .returned (.int .i64 31) ∧ w = w' := by
 go_enter func143, ntmps143
 go_wp2
 go_ret
 exact ⟨rfl, rfl⟩
theorem last2025_3_c (w : World) : Calls prog 143 #[.int .i64 2025, .int .i64 3] w fun e w' => e = .returned (.int .i64 31) ∧ w = w' := by
 go_enter func143, ntmps143
 go_wp2
 go_ret
 exact ⟨rfl, rfl⟩
theorem last2025_2_c (w : World) : Calls prog 143 #[.int .i64 2025, .int .i64 2] w fun e w' => e = .returned (.int .i64 28) ∧ w = w' := by
 go_enter func143, ntmps143
 go_wp2_with fail
 refine (leap2025_c _).mono ?_
 rintro e w' ⟨rfl, rfl⟩
 go_wp2_with fail
 go_ret
 exact ⟨rfl, rfl⟩
theorem leaps1900_c (w : World) : Calls prog 145 #[.int .i64 1900] w fun e w' => e = .returned (.int .i64 460) ∧ w = w' := by
 go_enter func145, ntmps145
 go_wp2
 go_ret
 exact ⟨rfl, rfl⟩
theorem leaps2024_c (w : World) : Calls prog 145 #[.int .i64 2024] w fun e w' => e = .returned (.int .i64 490) ∧ w = w' := by
 go_enter func145, ntmps145
 go_wp2
 go_ret
 exact ⟨rfl, rfl⟩
theorem leaps2025_c (w : World) : Calls prog 145 #[.int .i64 2025] w fun e w' => e = .returned (.int .i64 491) ∧ w = w' := by
 go_enter func145, ntmps145
 go_wp2
 go_ret
 exact ⟨rfl, rfl⟩
theorem leaps2026_c (w : World) : Calls prog 145 #[.int .i64 2026] w fun e w' => e = .returned (.int .i64 491) ∧ w = w' := by
 go_enter func145, ntmps145
 go_wp2
 go_ret
 exact ⟨rfl, rfl⟩
theorem before1_c (w : World) : Calls prog 146 #[.int .i64 1] w fun e w' => e = .returned (.int .i64 0) ∧ w = w' := by
 go_enter func146, ntmps146
 go_wp2
 go_ret
 exact ⟨rfl, rfl⟩
theorem before4_c (w : World) : Calls prog 146 #[.int .i64 4] w fun e w' => e = .returned (.int .i64 90) ∧ w = w' := by
 go_enter func146, ntmps146
 go_wp2
 go_ret
 exact ⟨rfl, rfl⟩
theorem dright2024_4_c (w : World) : Calls prog 142 #[.agg #[.int .i64 2024, .int .i64 4, .int .i64 6]] w fun e w' => e = .returned (.bool true) ∧ Below w.heap.size w w' := by
 have K := hid last2024_4_c
 have hb0 := bz1 w (.cells #[.int .i64 2024, .int .i64 4, .int .i64 6] 152)
 obtain ⟨c0, c1, c2, _, _, _⟩ := (Blk.mk w 152 #[.int .i64 2024, .int .i64 4, .int .i64 6]).a3
 go_enter func142, ntmps142
 go_wp2_with fail
 go_quiet ((go_at_call 143; exact Calls.quiet_of_same ((K.out _).mono fun e w' h => ⟨h.1, h.2.symm⟩)))
 go_wp2_with fail
 go_ret
 exact ⟨rfl, bD hb0 _⟩
theorem dright2025_4_c (w : World) : Calls prog 142 #[.agg #[.int .i64 2025, .int .i64 4, .int .i64 6]] w fun e w' => e = .returned (.bool true) ∧ Below w.heap.size w w' := by
 have K := hid last2025_4_c
 have hb0 := bz1 w (.cells #[.int .i64 2025, .int .i64 4, .int .i64 6] 152)
 obtain ⟨c0, c1, c2, _, _, _⟩ := (Blk.mk w 152 #[.int .i64 2025, .int .i64 4, .int .i64 6]).a3
 go_enter func142, ntmps142
 go_wp2_with fail
 go_quiet ((go_at_call 143; exact Calls.quiet_of_same ((K.out _).mono fun e w' h => ⟨h.1, h.2.symm⟩)))
 go_wp2_with fail
 go_ret
 exact ⟨rfl, bD hb0 _⟩
theorem dright2025_1_c (w : World) : Calls prog 142 #[.agg #[.int .i64 2025, .int .i64 1, .int .i64 1]] w fun e w' => e = .returned (.bool true) ∧ Below w.heap.size w w' := by
 have K := hid last2025_1_c
 have hb0 := bz1 w (.cells #[.int .i64 2025, .int .i64 1, .int .i64 1] 152)
 obtain ⟨c0, c1, c2, _, _, _⟩ := (Blk.mk w 152 #[.int .i64 2025, .int .i64 1, .int .i64 1]).a3
 go_enter func142, ntmps142
 go_wp2_with fail
 go_quiet ((go_at_call 143; exact Calls.quiet_of_same ((K.out _).mono fun e w' h => ⟨h.1, h.2.symm⟩)))
 go_wp2_with fail
 go_ret
 exact ⟨rfl, bD hb0 _⟩
theorem dright2026_1_c (w : World) : Calls prog 142 #[.agg #[.int .i64 2026, .int .i64 1, .int .i64 1]] w fun e w' => e = .returned (.bool true) ∧ Below w.heap.size w w' := by
 have K := hid last2026_1_c
 have hb0 := bz1 w (.cells #[.int .i64 2026, .int .i64 1, .int .i64 1] 152)
 obtain ⟨c0, c1, c2, _, _, _⟩ := (Blk.mk w 152 #[.int .i64 2026, .int .i64 1, .int .i64 1]).a3
 go_enter func142, ntmps142
 go_wp2_with fail
 go_quiet ((go_at_call 143; exact Calls.quiet_of_same ((K.out _).mono fun e w' h => ⟨h.1, h.2.symm⟩)))
 go_wp2_with fail
 go_ret
 exact ⟨rfl, bD hb0 _⟩
theorem number2024_4_c (w : World) : Calls prog 104 #[.agg #[.int .i64 2024, .int .i64 4, .int .i64 6]] w fun e w' => e = .returned (.tuple #[.int .i64 45386, .int .i64 0]) ∧ Below w.heap.size w w' := by
 have K1 := hid leaps2024_c
 have K2 := hid leaps1900_c
 have K3 := hid before4_c
 have hb0 := bz1 w (.cells #[.int .i64 2024, .int .i64 4, .int .i64 6] 152)
 have z := Blk.mk w 152 #[.int .i64 2024, .int .i64 4, .int .i64 6]
 go_enter func104, ntmps104
 go_wp2_with fail
 refine (dright2024_4_c _).mono ?_
 rintro e w1 ⟨rfl, hb1⟩
 have hb2 := bT hb0 hb1
 obtain ⟨c0, c1, c2, _, _, _⟩ := (z.t hb1).a3
 go_wp2_with fail
 go_quiet ((first | (go_at_call 145; first | with_reducible exact Calls.quiet_of_same ((K1.out _).mono fun e w' h => ⟨h.1, h.2.symm⟩) | with_reducible exact Calls.quiet_of_same ((K2.out _).mono fun e w' h => ⟨h.1, h.2.symm⟩)) | (go_at_call 146; exact Calls.quiet_of_same ((K3.out _).mono fun e w' h => ⟨h.1, h.2.symm⟩))))
 go_wp2_with (go_at_call 147; refine (leap2024_c _).mono ?_; rintro e w' ⟨rfl, rfl⟩)
 go_ret2
 exact ⟨rfl, bD hb2 _⟩
theorem number2025_4_c (w : World) : Calls prog 104 #[.agg #[.int .i64 2025, .int .i64 4, .int .i64 6]] w fun e w' => e = .returned (.tuple #[.int .i64 45751, .int .i64 0]) ∧ Below w.heap.size w w' := by
 have K1 := hid leaps2025_c
 have K2 := hid leaps1900_c
 have K3 := hid before4_c
 have hb0 := bz1 w (.cells #[.int .i64 2025, .int .i64 4, .int .i64 6] 152)
 have z := Blk.mk w 152 #[.int .i64 2025, .int .i64 4, .int .i64 6]
 go_enter func104, ntmps104
 go_wp2_with fail
 refine (dright2025_4_c _).mono ?_
 rintro e w1 ⟨rfl, hb1⟩
 have hb2 := bT hb0 hb1
 obtain ⟨c0, c1, c2, _, _, _⟩ := (z.t hb1).a3
 go_wp2_with fail
 go_quiet ((first | (go_at_call 145; first | with_reducible exact Calls.quiet_of_same ((K1.out _).mono fun e w' h => ⟨h.1, h.2.symm⟩) | with_reducible exact Calls.quiet_of_same ((K2.out _).mono fun e w' h => ⟨h.1, h.2.symm⟩)) | (go_at_call 146; exact Calls.quiet_of_same ((K3.out _).mono fun e w' h => ⟨h.1, h.2.symm⟩))))
 go_wp2_with (go_at_call 147; refine (leap2025_c _).mono ?_; rintro e w' ⟨rfl, rfl⟩)
 go_ret2
 exact ⟨rfl, bD hb2 _⟩
theorem number2025_1_c (w : World) : Calls prog 104 #[.agg #[.int .i64 2025, .int .i64 1, .int .i64 1]] w fun e w' => e = .returned (.tuple #[.int .i64 45656, .int .i64 0]) ∧ Below w.heap.size w w' := by
 have K1 := hid leaps2025_c
 have K2 := hid leaps1900_c
 have K3 := hid before1_c
 have hb0 := bz1 w (.cells #[.int .i64 2025, .int .i64 1, .int .i64 1] 152)
 have z := Blk.mk w 152 #[.int .i64 2025, .int .i64 1, .int .i64 1]
 go_enter func104, ntmps104
 go_wp2_with fail
 refine (dright2025_1_c _).mono ?_
 rintro e w1 ⟨rfl, hb1⟩
 have hb2 := bT hb0 hb1
 obtain ⟨c0, c1, c2, _, _, _⟩ := (z.t hb1).a3
 go_wp2_with fail
 go_quiet ((first | (go_at_call 145; first | with_reducible exact Calls.quiet_of_same ((K1.out _).mono fun e w' h => ⟨h.1, h.2.symm⟩) | with_reducible exact Calls.quiet_of_same ((K2.out _).mono fun e w' h => ⟨h.1, h.2.symm⟩)) | (go_at_call 146; exact Calls.quiet_of_same ((K3.out _).mono fun e w' h => ⟨h.1, h.2.symm⟩))))
 go_wp2_with (go_at_call 147; refine (leap2025_c _).mono ?_; rintro e w' ⟨rfl, rfl⟩)
 go_ret2
 exact ⟨rfl, bD hb2 _⟩
theorem number2026_1_c (w : World) : Calls prog 104 #[.agg #[.int .i64 2026, .int .i64 1, .int .i64 1]] w fun e w' => e = .returned (.tuple #[.int .i64 46021, .int .i64 0]) ∧ Below w.heap.size w w' := by
 have K1 := hid leaps2026_c
 have K2 := hid leaps1900_c
 have K3 := hid before1_c
 have hb0 := bz1 w (.cells #[.int .i64 2026, .int .i64 1, .int .i64 1] 152)
 have z := Blk.mk w 152 #[.int .i64 2026, .int .i64 1, .int .i64 1]
 go_enter func104, ntmps104
 go_wp2_with fail
 refine (dright2026_1_c _).mono ?_
 rintro e w1 ⟨rfl, hb1⟩
 have hb2 := bT hb0 hb1
 obtain ⟨c0, c1, c2, _, _, _⟩ := (z.t hb1).a3
 go_wp2_with fail
 go_quiet ((first | (go_at_call 145; first | with_reducible exact Calls.quiet_of_same ((K1.out _).mono fun e w' h => ⟨h.1, h.2.symm⟩) | with_reducible exact Calls.quiet_of_same ((K2.out _).mono fun e w' h => ⟨h.1, h.2.symm⟩)) | (go_at_call 146; exact Calls.quiet_of_same ((K3.out _).mono fun e w' h => ⟨h.1, h.2.symm⟩))))
 go_wp2_with (go_at_call 147; refine (leap2026_c _).mono ?_; rintro e w' ⟨rfl, rfl⟩)
 go_ret2
 exact ⟨rfl, bD hb2 _⟩
theorem months2024_c (w : World) : Calls prog 102 #[.agg #[.int .i64 2024, .int .i64 4, .int .i64 6], .int .i64 12] w fun e w' => e = .returned (.tuple #[.agg #[.int .i64 2025, .int .i64 4, .int .i64 6], .int .i64 0]) ∧ Below w.heap.size w w' := by
 have hb0 := bA (bz1 w (.cells #[.int .i64 2024, .int .i64 4, .int .i64 6] 152)) (.cells #[.int .i64 0, .int .i64 0, .int .i64 0] 152)
 have z := (Blk.mk w 152 #[.int .i64 2024, .int .i64 4, .int .i64 6]).alloc (.cells #[.int .i64 0, .int .i64 0, .int .i64 0] 152)
 have y := Blk.mk (w.alloc (.cells #[.int .i64 2024, .int .i64 4, .int .i64 6] 152)) 152 #[.int .i64 0, .int .i64 0, .int .i64 0]
 rw [World.size_alloc] at y
 have K := hid last2025_4_c
 go_enter func102, ntmps102
 go_wp2_with fail
 refine (dright2024_4_c _).mono ?_
 rintro e w1 ⟨rfl, hb1⟩
 have hb2 := bT hb0 hb1
 obtain ⟨c0, c1, c2, _, _, _⟩ := (z.t hb1).a3
 have y1 := y.t hb1
 have x := Blk.mk w1 152 #[.int .i64 2025, .int .i64 4, .int .i64 6]
 obtain ⟨d0, d1, d2, f0, f1, f2⟩ := x.a3
 have X2 := hid (x.put 2 (.int .i64 6))
 have hb3 := bA hb2 (.cells #[.int .i64 2025, .int .i64 4, .int .i64 6] 152)
 have hs1 := hb2.size
 go_wp2_with fail
 go_region_held3 (fun W => Below w.heap.size w W ∧ W.cell? ⟨w1.heap.size, 0, none⟩ = some (.int .i64 2025) ∧ W.cell? ⟨w1.heap.size, 1, none⟩ = some (.int .i64 4) ∧ W.cell? ⟨w1.heap.size, 2, none⟩ = some (.int .i64 6) ∧ w1.heap.size < W.heap.size ∧ Blk W (w.heap.size + 1) 152 #[.int .i64 0, .int .i64 0, .int .i64 0])
  (first | assumption | exact ⟨hb3.drew, d0, d1, d2, by simp, y1.alloc _⟩ | exact ⟨(bS hb3 (p := ⟨w1.heap.size, 2, none⟩) hs1 _).drew, X2.out.cell 0, X2.out.cell 1, X2.out.cell 2, by simp, (y1.alloc _).far (a := ⟨w1.heap.size, 2, none⟩) (by have := y1.lt; omega) _⟩)
  (first | (go_at_call 143; refine (K.out _).mono ?_; rintro e w3 ⟨rfl, rfl⟩))
 all_goals
  obtain ⟨hbx, e0, e1, e2, hlt, yx⟩ := (show Below w.heap.size w _ ∧ _ from by assumption)
  go_wp2_with fail
  refine (dright2025_4_c _).mono ?_
  rintro e w4 ⟨rfl, hb4⟩
  have g0 := (hb4.cell (p := ⟨w1.heap.size, 0, none⟩) hlt).trans e0
  have g1 := (hb4.cell (p := ⟨w1.heap.size, 1, none⟩) hlt).trans e1
  have g2 := (hb4.cell (p := ⟨w1.heap.size, 2, none⟩) hlt).trans e2
  have hb5 := bT hbx hb4
  obtain ⟨y0, y1, y2, y3, y4, y5⟩ := (yx.t hb4).a3
  go_wp2_with fail
  exact bodyPost_ret (v := .tuple #[.agg #[.int .i64 2025, .int .i64 4, .int .i64 6], .int .i64 0]) (by simp [results, results102, go_sem, y0, y1, y2]) rfl ⟨rfl, bS (bS (bS hb5 (Nat.le_succ _) _) (Nat.le_succ _) _) (Nat.le_succ _) _⟩
end Go.Proofs.YtiaabmhjkoohmaaGreat
