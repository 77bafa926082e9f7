/-
  Contracts of package period: the years that begin on two days. Conditions as named.
-/
import Derived.Test.YtankoappneglcaaDate2
import Derived.Lib.MinMax
namespace Go.Proofs.Ytankoappneglcaa
set_option linter.unusedVariables false
open Go.RowKit
theorem Blk.a9 {w : World} {g : Nat} {t : TypeId} {a b c d e f x y z : Value} (h : Blk w g t #[a, b, c, d, e, f, x, y, z]) : w.cell? ⟨g, 0, none⟩ = some a ∧ w.cell? ⟨g, 1, none⟩ = some b ∧ w.cell? ⟨g, 2, none⟩ = some c ∧ w.cell? ⟨g, 3, none⟩ = some d ∧ w.cell? ⟨g, 4, none⟩ = some e ∧ w.cell? ⟨g, 5, none⟩ = some f ∧ w.cell? ⟨g, 6, none⟩ = some x ∧ w.cell? ⟨g, 7, none⟩ = some y ∧ w.cell? ⟨g, 8, none⟩ = some z :=
  ⟨h.cell 0, h.cell 1, h.cell 2, h.cell 3, h.cell 4, h.cell 5, h.cell 6, h.cell 7, h.cell 8⟩
theorem nom_cases (f : Int) (h : nomI f ≠ 0) : f = 1 ∨ f = 2 ∨ f = 3 ∨ f = 4 := by
  unfold nomI at h
  by_cases h1 : f = 1
  · exact Or.inl h1
  by_cases h2 : f = 2
  · exact Or.inr (Or.inl h2)
  by_cases h3 : f = 3
  · exact Or.inr (Or.inr (Or.inl h3))
  by_cases h4 : f = 4
  · exact Or.inr (Or.inr (Or.inr h4))
  · rw [if_neg h1, if_neg h2, if_neg h3, if_neg h4] at h; exact absurd rfl h
/-- a tax year in memory: its frequency and its days count -/
def YrAt (w : World) (g : Nat) (f days : Int) : Prop := ∃ a b c d e x y, Blk w g 60 #[.int .i64 f, a, b, c, d, e, x, y, .int .i64 days]
theorem YrAt.t {w w' : World} {g : Nat} {f d : Int} (h : YrAt w g f d) (hb : Below w.heap.size w w') : YrAt w' g f d := by
  obtain ⟨a, b, c, d, e, x, y, h⟩ := h
  exact ⟨a, b, c, d, e, x, y, h.t hb⟩
--%%
def NewYr (f days : Int) (w : World) (e : Ending) (w' : World) : Prop := (∃ g, e = .returned (.tuple #[.pointer (some ⟨g, 0, none⟩), .int .i64 0]) ∧ YrAt w' g f days ∧ g < w'.heap.size ∧ w.heap.size ≤ g) ∧ Below w.heap.size w w'
--%%
theorem new2023_no (f : Int) (h : nomI f = 0) (w : World) : Calls Try.prog 5 #[.int .i64 f, .agg #[.int .i64 2023, .int .i64 4, .int .i64 6]] w fun e w' => e = .returned (.tuple #[.pointer none, .int .i64 40]) ∧ Below w.heap.size w w' := by
  have K := Lib.hid (nominal_c f)
  rw [h] at K
  clear h
  go_enter Try.func5, Try.ntmps5
  go_wp2_with fail
  refine (K.out _).mono ?_
  rintro e w' ⟨rfl, rfl⟩
  go_wp2_with fail
  go_ret2
  exact ⟨rfl, below1 _ _⟩
set_option maxRecDepth 100000 in
theorem new2023_yes (f : Int) (h : nomI f ≠ 0) (w : World) : Calls Try.prog 5 #[.int .i64 f, .agg #[.int .i64 2023, .int .i64 4, .int .i64 6]] w (NewYr f 366 w) := by
  have K := Lib.hid (nominal_c f)
  have hz : (nomI f == 0) = false := by simpa using h
  generalize nomI f = nf at *
  have z := Blk.mk w 36 #[.int .i64 2023, .int .i64 4, .int .i64 6]
  have hb0 := below1 w (.cells #[.int .i64 2023, .int .i64 4, .int .i64 6] 36)
  obtain ⟨a0, a1, a2, a3, a4, a5⟩ := z.a3
  clear h
  go_enter Try.func5, Try.ntmps5
  go_wp2_with fail
  refine (K.out _).mono ?_
  rintro e w' ⟨rfl, rfl⟩
  go_wp2_with fail
  refine (months2023_c _).mono ?_
  rintro e w1 ⟨rfl, hb1⟩
  have hb2 := bT hb0 hb1
  have z1 := (z.t hb1).alloc (.cells #[.int .i64 2024, .int .i64 4, .int .i64 6] 36)
  have y1 := Blk.mk w1 36 #[.int .i64 2024, .int .i64 4, .int .i64 6]
  have hb3 := bA hb2 (.cells #[.int .i64 2024, .int .i64 4, .int .i64 6] 36)
  obtain ⟨a0, a1, a2, a3, a4, a5⟩ := z1.a3
  go_wp2_with fail
  refine (dadd2024_c _).mono ?_
  rintro e w2 ⟨rfl, hb4⟩
  have hb5 := bT hb3 hb4
  have x2 := Blk.mk w2 36 #[.int .i64 2024, .int .i64 4, .int .i64 5]
  have z2 := (z1.t hb4).alloc (.cells #[.int .i64 2024, .int .i64 4, .int .i64 5] 36)
  have y2 := (y1.t hb4).alloc (.cells #[.int .i64 2024, .int .i64 4, .int .i64 5] 36)
  obtain ⟨a0, a1, a2, a3, a4, a5⟩ := z2.a3
  obtain ⟨c0, c1, c2, c3, c4, c5⟩ := y2.a3
  have hb6 := bA hb5 (.cells #[.int .i64 2024, .int .i64 4, .int .i64 5] 36)
  have yr := Blk.mk (w2.alloc (.cells #[.int .i64 2024, .int .i64 4, .int .i64 5] 36)) 60 #[.int .i64 f, .int .i64 2023, .int .i64 4, .int .i64 6, .int .i64 2024, .int .i64 4, .int .i64 5, .int .i64 0, .int .i64 0]
  rw [World.size_alloc] at yr
  have z3 := z2.alloc (.cells #[.int .i64 f, .int .i64 2023, .int .i64 4, .int .i64 6, .int .i64 2024, .int .i64 4, .int .i64 5, .int .i64 0, .int .i64 0] 60)
  have y3 := y2.alloc (.cells #[.int .i64 f, .int .i64 2023, .int .i64 4, .int .i64 6, .int .i64 2024, .int .i64 4, .int .i64 5, .int .i64 0, .int .i64 0] 60)
  have hb7 := bA hb6 (.cells #[.int .i64 f, .int .i64 2023, .int .i64 4, .int .i64 6, .int .i64 2024, .int .i64 4, .int .i64 5, .int .i64 0, .int .i64 0] 60)
  obtain ⟨p0, p1, p2, p3, p4, p5⟩ := z3.a3
  go_wp2_with fail
  refine (number2023_4_c _).mono ?_
  rintro e w3 ⟨rfl, hb8⟩
  have hb9 := bT hb7 hb8
  have yr2 := yr.t hb8
  have yr2f := yr2.free 7
  have yr2c := yr2.cell 7
  have z4 := z3.t hb8
  have y4 := y3.t hb8
  obtain ⟨a0, a1, a2, a3, a4, a5⟩ := z4.a3
  obtain ⟨c0, c1, c2, c3, c4, c5⟩ := y4.a3
  have yr3 := yr2.put 7 (.int .i64 45020)
  have z5 := z4.far (a := ⟨w2.heap.size + 1, 7, none⟩) (by have := z1.lt; have := hb4.size; simp at *; omega) (.int .i64 45020)
  have y5 := y4.far (a := ⟨w2.heap.size + 1, 7, none⟩) (by have := y1.lt; have := hb4.size; simp at *; omega) (.int .i64 45020)
  obtain ⟨d0, d1, d2, d3, d4, d5⟩ := z5.a3
  obtain ⟨e0, e1, e2, e3, e4, e5⟩ := y5.a3
  have hs2 := hb5.size
  have hb10 := bS hb9 (p := ⟨w2.heap.size + 1, 7, none⟩) (Nat.le_succ_of_le hs2) (.int .i64 45020)
  go_wp2_with fail
  refine (between2023_c _).mono ?_
  rintro e w4 ⟨rfl, hb11⟩
  have hb12 := bT hb10 hb11
  have yr4 : Blk w4 (w2.heap.size + 1) 60 #[.int .i64 f, .int .i64 2023, .int .i64 4, .int .i64 6, .int .i64 2024, .int .i64 4, .int .i64 5, .int .i64 45020, .int .i64 0] := yr3.t hb11
  have yr4f := yr4.free 8
  have yr4c := yr4.cell 8
  have yr5 : Blk (w4.setCell ⟨w2.heap.size + 1, 8, none⟩ (.int .i64 366)) (w2.heap.size + 1) 60 #[.int .i64 f, .int .i64 2023, .int .i64 4, .int .i64 6, .int .i64 2024, .int .i64 4, .int .i64 5, .int .i64 45020, .int .i64 366] := yr4.put 8 (.int .i64 366)
  go_wp2_with fail
  go_ret2
  exact ⟨⟨_, rfl, ⟨_, _, _, _, _, _, _, yr5⟩, yr5.lt, Nat.le_succ_of_le hs2⟩, bS hb12 (p := ⟨w2.heap.size + 1, 8, none⟩) (Nat.le_succ_of_le hs2) _⟩
--%%
theorem new2024_no (f : Int) (h : nomI f = 0) (w : World) : Calls Try.prog 5 #[.int .i64 f, .agg #[.int .i64 2024, .int .i64 4, .int .i64 6]] w fun e w' => e = .returned (.tuple #[.pointer none, .int .i64 40]) ∧ Below w.heap.size w w' := by
  have K := Lib.hid (nominal_c f)
  rw [h] at K
  clear h
  go_enter Try.func5, Try.ntmps5
  go_wp2_with fail
  refine (K.out _).mono ?_
  rintro e w' ⟨rfl, rfl⟩
  go_wp2_with fail
  go_ret2
  exact ⟨rfl, below1 _ _⟩
set_option maxRecDepth 100000 in
theorem new2024_yes (f : Int) (h : nomI f ≠ 0) (w : World) : Calls Try.prog 5 #[.int .i64 f, .agg #[.int .i64 2024, .int .i64 4, .int .i64 6]] w (NewYr f 365 w) := by
  have K := Lib.hid (nominal_c f)
  have hz : (nomI f == 0) = false := by simpa using h
  generalize nomI f = nf at *
  have z := Blk.mk w 36 #[.int .i64 2024, .int .i64 4, .int .i64 6]
  have hb0 := below1 w (.cells #[.int .i64 2024, .int .i64 4, .int .i64 6] 36)
  obtain ⟨a0, a1, a2, a3, a4, a5⟩ := z.a3
  clear h
  go_enter Try.func5, Try.ntmps5
  go_wp2_with fail
  refine (K.out _).mono ?_
  rintro e w' ⟨rfl, rfl⟩
  go_wp2_with fail
  refine (months2024_c _).mono ?_
  rintro e w1 ⟨rfl, hb1⟩
  have hb2 := bT hb0 hb1
  have z1 := (z.t hb1).alloc (.cells #[.int .i64 2025, .int .i64 4, .int .i64 6] 36)
  have y1 := Blk.mk w1 36 #[.int .i64 2025, .int .i64 4, .int .i64 6]
  have hb3 := bA hb2 (.cells #[.int .i64 2025, .int .i64 4, .int .i64 6] 36)
  obtain ⟨a0, a1, a2, a3, a4, a5⟩ := z1.a3
  go_wp2_with fail
  refine (dadd2025_c _).mono ?_
  rintro e w2 ⟨rfl, hb4⟩
  have hb5 := bT hb3 hb4
  have x2 := Blk.mk w2 36 #[.int .i64 2025, .int .i64 4, .int .i64 5]
  have z2 := (z1.t hb4).alloc (.cells #[.int .i64 2025, .int .i64 4, .int .i64 5] 36)
  have y2 := (y1.t hb4).alloc (.cells #[.int .i64 2025, .int .i64 4, .int .i64 5] 36)
  obtain ⟨a0, a1, a2, a3, a4, a5⟩ := z2.a3
  obtain ⟨c0, c1, c2, c3, c4, c5⟩ := y2.a3
  have hb6 := bA hb5 (.cells #[.int .i64 2025, .int .i64 4, .int .i64 5] 36)
  have yr := Blk.mk (w2.alloc (.cells #[.int .i64 2025, .int .i64 4, .int .i64 5] 36)) 60 #[.int .i64 f, .int .i64 2024, .int .i64 4, .int .i64 6, .int .i64 2025, .int .i64 4, .int .i64 5, .int .i64 0, .int .i64 0]
  rw [World.size_alloc] at yr
  have z3 := z2.alloc (.cells #[.int .i64 f, .int .i64 2024, .int .i64 4, .int .i64 6, .int .i64 2025, .int .i64 4, .int .i64 5, .int .i64 0, .int .i64 0] 60)
  have y3 := y2.alloc (.cells #[.int .i64 f, .int .i64 2024, .int .i64 4, .int .i64 6, .int .i64 2025, .int .i64 4, .int .i64 5, .int .i64 0, .int .i64 0] 60)
  have hb7 := bA hb6 (.cells #[.int .i64 f, .int .i64 2024, .int .i64 4, .int .i64 6, .int .i64 2025, .int .i64 4, .int .i64 5, .int .i64 0, .int .i64 0] 60)
  obtain ⟨p0, p1, p2, p3, p4, p5⟩ := z3.a3
  go_wp2_with fail
  refine (number2024_4_c _).mono ?_
  rintro e w3 ⟨rfl, hb8⟩
  have hb9 := bT hb7 hb8
  have yr2 := yr.t hb8
  have yr2f := yr2.free 7
  have yr2c := yr2.cell 7
  have z4 := z3.t hb8
  have y4 := y3.t hb8
  obtain ⟨a0, a1, a2, a3, a4, a5⟩ := z4.a3
  obtain ⟨c0, c1, c2, c3, c4, c5⟩ := y4.a3
  have yr3 := yr2.put 7 (.int .i64 45386)
  have z5 := z4.far (a := ⟨w2.heap.size + 1, 7, none⟩) (by have := z1.lt; have := hb4.size; simp at *; omega) (.int .i64 45386)
  have y5 := y4.far (a := ⟨w2.heap.size + 1, 7, none⟩) (by have := y1.lt; have := hb4.size; simp at *; omega) (.int .i64 45386)
  obtain ⟨d0, d1, d2, d3, d4, d5⟩ := z5.a3
  obtain ⟨e0, e1, e2, e3, e4, e5⟩ := y5.a3
  have hs2 := hb5.size
  have hb10 := bS hb9 (p := ⟨w2.heap.size + 1, 7, none⟩) (Nat.le_succ_of_le hs2) (.int .i64 45386)
  go_wp2_with fail
  refine (between2024_c _).mono ?_
  rintro e w4 ⟨rfl, hb11⟩
  have hb12 := bT hb10 hb11
  have yr4 : Blk w4 (w2.heap.size + 1) 60 #[.int .i64 f, .int .i64 2024, .int .i64 4, .int .i64 6, .int .i64 2025, .int .i64 4, .int .i64 5, .int .i64 45386, .int .i64 0] := yr3.t hb11
  have yr4f := yr4.free 8
  have yr4c := yr4.cell 8
  have yr5 : Blk (w4.setCell ⟨w2.heap.size + 1, 8, none⟩ (.int .i64 365)) (w2.heap.size + 1) 60 #[.int .i64 f, .int .i64 2024, .int .i64 4, .int .i64 6, .int .i64 2025, .int .i64 4, .int .i64 5, .int .i64 45386, .int .i64 365] := yr4.put 8 (.int .i64 365)
  go_wp2_with fail
  go_ret2
  exact ⟨⟨_, rfl, ⟨_, _, _, _, _, _, _, yr5⟩, yr5.lt, Nat.le_succ_of_le hs2⟩, bS hb12 (p := ⟨w2.heap.size + 1, 8, none⟩) (Nat.le_succ_of_le hs2) _⟩
--%%
def lenI (f : Int) : Int := if f = 1 then 7 else if f = 2 then 14 else if f = 3 then 28 else 0
theorem length_c (f : Int) (h : nomI f ≠ 0) (w : World) : Calls Try.prog 43 #[.int .i64 f] w fun e w' => e = .returned (.int .i64 (lenI f)) ∧ w = w' := by
  rcases nom_cases f h with rfl | rfl | rfl | rfl
  all_goals
    go_enter Try.func43, Try.ntmps43
    go_wp2
    go_ret
    exact ⟨rfl, rfl⟩
--%%
/-- how many periods a year of so many days has -/
def cntI (f days : Int) : Int := if f = 1 then (days + 6) / 7 else if f = 2 then (days + 13) / 14 else if f = 3 then (days + 27) / 28 else 12
theorem count_c (f days : Int) (h : nomI f ≠ 0) (hd : 0 ≤ days ∧ days ≤ 366) (g : Nat) (w : World) (hy : YrAt w g f days) : Calls Try.prog 24 #[.pointer (some ⟨g, 0, none⟩)] w fun e w' => e = .returned (.int .i64 (cntI f days)) ∧ w = w' := by
  obtain ⟨a, b, c, d, e, x, y, z⟩ := hy
  obtain ⟨c0, _, _, _, _, _, _, _, c8⟩ := z.a9
  have K := Lib.hid (length_c f h)
  have K2 := Lib.hid (nominal_c f)
  rcases nom_cases f h with rfl | rfl | rfl | rfl
  · rw [show lenI 1 = 7 from rfl] at K
    clear h
    go_enter Try.func24, Try.ntmps24
    go_wp2_with fail
    refine (K.out _).mono ?_
    rintro e w' ⟨rfl, rfl⟩
    go_wp2_with fail
    go_ret
    exact ⟨ret_int (by simp [cntI]; omega), rfl⟩
  · rw [show lenI 2 = 14 from rfl] at K
    clear h
    go_enter Try.func24, Try.ntmps24
    go_wp2_with fail
    refine (K.out _).mono ?_
    rintro e w' ⟨rfl, rfl⟩
    go_wp2_with fail
    go_ret
    exact ⟨ret_int (by simp [cntI]; omega), rfl⟩
  · rw [show lenI 3 = 28 from rfl] at K
    clear h
    go_enter Try.func24, Try.ntmps24
    go_wp2_with fail
    refine (K.out _).mono ?_
    rintro e w' ⟨rfl, rfl⟩
    go_wp2_with fail
    go_ret
    exact ⟨ret_int (by simp [cntI]; omega), rfl⟩
  · rw [show lenI 4 = 0 from rfl] at K
    rw [show nomI 4 = 12 from rfl] at K2
    clear h
    go_enter Try.func24, Try.ntmps24
    go_wp2_with fail
    refine (K.out _).mono ?_
    rintro e w' ⟨rfl, rfl⟩
    go_wp2_with fail
    refine (K2.out _).mono ?_
    rintro e w' ⟨rfl, rfl⟩
    go_wp2_with fail
    go_ret
    exact ⟨rfl, rfl⟩
--%%
theorem ypart_f (f days k : Int) (h : nomI f ≠ 0) (hd : 0 ≤ days ∧ days ≤ 366) (g : Nat) (w : World) (hy : YrAt w g f days) (hk : ¬ (1 ≤ k ∧ k ≤ cntI f days)) : Calls Try.prog 46 #[.pointer (some ⟨g, 0, none⟩), .int .i64 k] w fun e w' => e = .returned (.tuple #[.int .i64 0, .int .i64 0, .int .i64 1]) ∧ w = w' := by
  have K := Lib.hid (count_c f days h hd g w hy)
  generalize cntI f days = n at *
  by_cases h1 : k < 1
  · have h2 : decide (k < 1) = true := by simpa using h1
    clear hk
    go_enter Try.func46, Try.ntmps46
    go_wp2_with fail
    go_ret3
    exact ⟨rfl, rfl⟩
  · have h2 : decide (k < 1) = false := by simpa using h1
    have h3 : n < k := by omega
    have h4 : decide (n < k) = true := by simpa using h3
    clear hk
    go_enter Try.func46, Try.ntmps46
    go_wp2_with fail
    refine K.out.mono ?_
    rintro e w' ⟨rfl, rfl⟩
    go_wp2_with fail
    go_ret3
    exact ⟨rfl, rfl⟩
theorem ypart_t (f days k : Int) (h : nomI f ≠ 0) (hd : 0 ≤ days ∧ days ≤ 366) (g : Nat) (w : World) (hy : YrAt w g f days) (hk : 1 ≤ k ∧ k ≤ cntI f days) : Calls Try.prog 46 #[.pointer (some ⟨g, 0, none⟩), .int .i64 k] w fun e w' => e = .returned (.tuple #[.int .i64 (min k (nomI f)), .int .i64 (nomI f), .int .i64 0]) ∧ Below w.heap.size w w' := by
  have K := Lib.hid (count_c f days h hd g w hy)
  have K2 := Lib.hid (nominal_c f)
  obtain ⟨a, b, c, d, e, x, y, z⟩ := hy
  obtain ⟨c0, _, _, _, _, _, _, _, c8⟩ := z.a9
  generalize cntI f days = n at *
  generalize nomI f = nf at *
  have h1 : ¬ k < 1 := by omega
  have h2 : decide (k < 1) = false := by simpa using h1
  have h3 : ¬ n < k := by omega
  have h4 : decide (n < k) = false := by simpa using h3
  clear h
  go_enter Try.func46, Try.ntmps46
  go_wp2_with fail
  refine K.out.mono ?_
  rintro e w' ⟨rfl, rfl⟩
  go_wp2_with fail
  go_quiet ((go_at_call 13; exact Calls.quiet_of_same ((K2.out _).mono fun e w' h => ⟨h.1, h.2.symm⟩)))
  go_wp2_with fail
  go_ret3
  exact ⟨rfl, below_drewN (Below.refl _ _) _⟩
--%%
end Go.Proofs.Ytankoappneglcaa
