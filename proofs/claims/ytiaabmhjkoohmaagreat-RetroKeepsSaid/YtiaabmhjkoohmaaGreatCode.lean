/-
 Contracts of package code: whether a code may be; what it frees; what is charged. Conditions as named.
-/
import Derived.Test.YtiaabmhjkoohmaaGreatM0
import Derived.Lib.MinMax
namespace Go.Proofs.YtiaabmhjkoohmaaGreat
set_option maxRecDepth 100000
set_option maxHeartbeats 25600000
set_option linter.unusedVariables false
set_option linter.unusedSimpArgs false
open Go.RowKit Tryz
open Lib (hid)
structure Cd where
 s : Int
 k : Int
 a : Int
 f : Int
 al : Bool
def cE9 (s k a f : Int) : Int :=
 if s < 0 ∨ 7 < s then 81
 else if k < 1 ∨ 4 < k then 80
 else if ((k = 3 ∨ k = 4) ∧ a ≠ 0) ∨ a < 0 ∨ 999999000 < a ∨ a % 1000 ≠ 0 then 80
 else if k = 2 ∧ a = 0 then 80
 else if (k ≠ 3 ∧ f ≠ 0) ∨ f < 0 ∨ 7 < f then 80
 else 0
theorem ccheck_c (s k a f : Int) (al : Bool) (w : World) : Calls prog 96 #[.agg #[.int .i64 s, .int .i64 k, .int .i64 a, .int .i64 f, .bool al]] w fun e w' => e = .returned (.int .i64 (cE9 s k a f)) ∧ Below w.heap.size w w' := by
 obtain ⟨r, hr⟩ : ∃ r, r = cE9 s k a f := ⟨_, rfl⟩
 rw [← hr]
 have HR := hid hr
 clear hr
 by_cases h1 : s < 0
 case pos =>
  have d1 : decide (s < 0) = true := by simp; omega
  have e : r = 81 := by rw [HR.out]; unfold cE9; (repeat' split) <;> omega
  subst e
  clear HR
  go_enter func96, ntmps96
  go_wp2
  go_ret
  exact ⟨rfl, bz1 _ _⟩
 have d1 : decide (s < 0) = false := by simp; omega
 by_cases h2 : 7 < s
 case pos =>
  have d2 : decide (7 < s) = true := by simp; omega
  have e : r = 81 := by rw [HR.out]; unfold cE9; (repeat' split) <;> omega
  subst e
  clear HR
  go_enter func96, ntmps96
  go_wp2
  go_ret
  exact ⟨rfl, bz1 _ _⟩
 have d2 : decide (7 < s) = false := by simp; omega
 by_cases h3 : k < 1
 case pos =>
  have d3 : decide (k < 1) = true := by simp; omega
  have z1 : (k == 1) = false := by simp; omega
  have z2 : (k == 2) = false := by simp; omega
  have e : r = 80 := by rw [HR.out]; unfold cE9; (repeat' split) <;> omega
  subst e
  clear HR
  go_enter func96, ntmps96
  go_wp2
  go_ret
  exact ⟨rfl, bz1 _ _⟩
 by_cases h4 : 4 < k
 case pos =>
  have d3 : decide (k < 1) = false := by simp; omega
  have d4 : decide (4 < k) = true := by simp; omega
  have z1 : (k == 1) = false := by simp; omega
  have z2 : (k == 2) = false := by simp; omega
  have e : r = 80 := by rw [HR.out]; unfold cE9; (repeat' split) <;> omega
  subst e
  clear HR
  go_enter func96, ntmps96
  go_wp2
  go_ret
  exact ⟨rfl, bz1 _ _⟩
 rcases (by omega : k = 1 ∨ k = 2 ∨ k = 3 ∨ k = 4) with rfl | rfl | rfl | rfl
 ·
  clear h3 h4
  by_cases h5 : a < 0
  case pos =>
   have d5 : decide (a < 0) = true := by simp; omega
   have e : r = 80 := by rw [HR.out]; unfold cE9; (repeat' split) <;> omega
   subst e
   clear HR
   go_enter func96, ntmps96
   go_wp2
   go_ret
   exact ⟨rfl, bz1 _ _⟩
  have d5 : decide (a < 0) = false := by simp; omega
  by_cases h6 : 999999000 < a
  case pos =>
   have d6 : decide (999999000 < a) = true := by simp; omega
   have e : r = 80 := by rw [HR.out]; unfold cE9; (repeat' split) <;> omega
   subst e
   clear HR
   go_enter func96, ntmps96
   go_wp2
   go_ret
   exact ⟨rfl, bz1 _ _⟩
  have d6 : decide (999999000 < a) = false := by simp; omega
  by_cases h7 : ¬ a % 1000 = 0
  case pos =>
   have d7 : (a % 1000 != 0) = true := by simp; omega
   have e : r = 80 := by rw [HR.out]; unfold cE9; (repeat' split) <;> omega
   subst e
   clear HR
   go_enter func96, ntmps96
   go_wp2
   go_ret
   exact ⟨rfl, bz1 _ _⟩
  have d7 : (a % 1000 != 0) = false := by simp; omega
  by_cases h9 : ¬ f = 0
  case pos =>
   have d9 : (f != 0) = true := by simp; omega
   have e : r = 80 := by rw [HR.out]; unfold cE9; (repeat' split) <;> omega
   subst e
   clear HR
   go_enter func96, ntmps96
   go_wp2
   go_ret
   exact ⟨rfl, bz1 _ _⟩
  obtain rfl : f = 0 := by omega
  clear h9
  have e : r = 0 := by rw [HR.out]; unfold cE9; (repeat' split) <;> omega
  subst e
  clear HR
  go_enter func96, ntmps96
  go_wp2
  go_ret
  exact ⟨rfl, bz1 _ _⟩
 ·
  clear h3 h4
  by_cases h5 : a < 0
  case pos =>
   have d5 : decide (a < 0) = true := by simp; omega
   have e : r = 80 := by rw [HR.out]; unfold cE9; (repeat' split) <;> omega
   subst e
   clear HR
   go_enter func96, ntmps96
   go_wp2
   go_ret
   exact ⟨rfl, bz1 _ _⟩
  have d5 : decide (a < 0) = false := by simp; omega
  by_cases h6 : 999999000 < a
  case pos =>
   have d6 : decide (999999000 < a) = true := by simp; omega
   have e : r = 80 := by rw [HR.out]; unfold cE9; (repeat' split) <;> omega
   subst e
   clear HR
   go_enter func96, ntmps96
   go_wp2
   go_ret
   exact ⟨rfl, bz1 _ _⟩
  have d6 : decide (999999000 < a) = false := by simp; omega
  by_cases h7 : ¬ a % 1000 = 0
  case pos =>
   have d7 : (a % 1000 != 0) = true := by simp; omega
   have e : r = 80 := by rw [HR.out]; unfold cE9; (repeat' split) <;> omega
   subst e
   clear HR
   go_enter func96, ntmps96
   go_wp2
   go_ret
   exact ⟨rfl, bz1 _ _⟩
  have d7 : (a % 1000 != 0) = false := by simp; omega
  by_cases h8 : a = 0
  case pos =>
   have d8 : (a == 0) = true := by simp; omega
   have e : r = 80 := by rw [HR.out]; unfold cE9; (repeat' split) <;> omega
   subst e
   clear HR
   go_enter func96, ntmps96
   go_wp2
   go_ret
   exact ⟨rfl, bz1 _ _⟩
  have d8 : (a == 0) = false := by simp; omega
  by_cases h9 : ¬ f = 0
  case pos =>
   have d9 : (f != 0) = true := by simp; omega
   have e : r = 80 := by rw [HR.out]; unfold cE9; (repeat' split) <;> omega
   subst e
   clear HR
   go_enter func96, ntmps96
   go_wp2
   go_ret
   exact ⟨rfl, bz1 _ _⟩
  obtain rfl : f = 0 := by omega
  clear h9
  have e : r = 0 := by rw [HR.out]; unfold cE9; (repeat' split) <;> omega
  subst e
  clear HR
  go_enter func96, ntmps96
  go_wp2
  go_ret
  exact ⟨rfl, bz1 _ _⟩
 ·
  clear h3 h4
  by_cases h5 : ¬ a = 0
  case pos =>
   have d5 : (a != 0) = true := by simp; omega
   have e : r = 80 := by rw [HR.out]; unfold cE9; (repeat' split) <;> omega
   subst e
   clear HR
   go_enter func96, ntmps96
   go_wp2
   go_ret
   exact ⟨rfl, bz1 _ _⟩
  obtain rfl : a = 0 := by omega
  clear h5
  by_cases h9 : f < 0
  case pos =>
   have d9 : decide (f < 0) = true := by simp; omega
   have e : r = 80 := by rw [HR.out]; unfold cE9; (repeat' split) <;> omega
   subst e
   clear HR
   go_enter func96, ntmps96
   go_wp2
   go_ret
   exact ⟨rfl, bz1 _ _⟩
  have d9 : decide (f < 0) = false := by simp; omega
  by_cases h10 : 7 < f
  case pos =>
   have d10 : decide (7 < f) = true := by simp; omega
   have e : r = 80 := by rw [HR.out]; unfold cE9; (repeat' split) <;> omega
   subst e
   clear HR
   go_enter func96, ntmps96
   go_wp2
   go_ret
   exact ⟨rfl, bz1 _ _⟩
  have d10 : decide (7 < f) = false := by simp; omega
  have e : r = 0 := by rw [HR.out]; unfold cE9; (repeat' split) <;> omega
  subst e
  clear HR
  go_enter func96, ntmps96
  go_wp2
  go_ret
  exact ⟨rfl, bz1 _ _⟩
 ·
  clear h3 h4
  by_cases h5 : ¬ a = 0
  case pos =>
   have d5 : (a != 0) = true := by simp; omega
   have e : r = 80 := by rw [HR.out]; unfold cE9; (repeat' split) <;> omega
   subst e
   clear HR
   go_enter func96, ntmps96
   go_wp2
   go_ret
   exact ⟨rfl, bz1 _ _⟩
  obtain rfl : a = 0 := by omega
  clear h5
  by_cases h9 : ¬ f = 0
  case pos =>
   have d9 : (f != 0) = true := by simp; omega
   have e : r = 80 := by rw [HR.out]; unfold cE9; (repeat' split) <;> omega
   subst e
   clear HR
   go_enter func96, ntmps96
   go_wp2
   go_ret
   exact ⟨rfl, bz1 _ _⟩
  obtain rfl : f = 0 := by omega
  clear h9
  have e : r = 0 := by rw [HR.out]; unfold cE9; (repeat' split) <;> omega
  subst e
  clear HR
  go_enter func96, ntmps96
  go_wp2
  go_ret
  exact ⟨rfl, bz1 _ _⟩
end Go.Proofs.YtiaabmhjkoohmaaGreat
