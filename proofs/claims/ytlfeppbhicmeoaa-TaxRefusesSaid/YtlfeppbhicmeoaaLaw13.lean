/-
  Layer 13's laws: the walks of what they ask first. Conditions as named.
-/
import Derived.Test.YtlfeppbhicmeoaaRefT2
import Derived.Test.YtlfeppbhicmeoaaVoc3
namespace Go.Proofs.Ytlfeppbhicmeoaa
set_option linter.unusedVariables false
open Go.RowKit
/-- the schemes of the example -/
def simS : List (List Bd) := [[⟨0, 2000, 0⟩, ⟨120000, 4000, 0⟩]]
def Simple (w : World) (e : Ending) (w' : World) : Prop := (∃ As Ak, e = .returned (.agg #[.slice (some As) 1 1, .slice none 0 0, .slice (some Ak) 1 1, .int .i64 5000, .int .i64 1]) ∧ ScSl w' (some As) 1 simS) ∧ Below w.heap.size w w'
theorem simple_c (w : World) : Calls Try.prog 48 #[] w (Simple w) := by
  go_enter Try.func48, Try.ntmps48
  go_wp2_with fail
  refine bodyPost_ret (v := .agg #[.slice (some ⟨w.heap.size + 2, 0, none⟩) 1 1, .slice none 0 0, .slice (some ⟨w.heap.size + 3, 0, none⟩) 1 1, .int .i64 5000, .int .i64 1]) (by simp [results, Try.results48, go_sem]) rfl ?_
  refine ⟨⟨_, _, rfl, rfl, by decide, fun _ => ⟨w.heap.size + 2, 0, rfl, by simp, fun k hk => ?_⟩⟩, ?_⟩
  · obtain rfl : k = 0 := by omega
    refine ⟨some ⟨w.heap.size + 1, 0, none⟩, 2, 2, by simp [cell_alloc], rfl, by decide, fun _ => ⟨w.heap.size + 1, 0, rfl, by simp, fun k hk => ?_⟩⟩
    rcases (by simp [simS] at hk; omega : k = 0 ∨ k = 1) with rfl | rfl
    · exact ⟨by simp [cell_alloc, simS], by simp [cell_alloc, simS], by simp [cell_alloc, simS]⟩
    · exact ⟨by simp [cell_alloc, simS], by simp [cell_alloc, simS], by simp [cell_alloc, simS]⟩
  · repeat (first | exact Below.refl _ _ | refine Below.alloc ?_ (by simp; omega) _ | refine Below.alloc ?_ (by simp) _ | refine Below.setCell ?_ (by simp) _)
--%%
/-- the periods of the example -/
def exC (al : Bool) : Cd := ⟨0, 1, 12000, 0, al⟩
def exL : List St := [⟨exC false, 5000⟩, ⟨exC false, 5000⟩, ⟨exC true, 11001⟩]
theorem ex_yE : ∀ k, k < 3 → yE simS 1 12 exL k = 0 := by decide +kernel
theorem ex_dueL : dueL simS 1 12 exL 3 = [800, 1600, 3600] := by decide +kernel
theorem ex_r0 : exE simS (exC false) 11000 1 12 = 0 := by decide +kernel
theorem ex_r1 : exE simS (exC false) (11000 + 1) 1 12 = 0 := by decide +kernel
theorem ex_r2 : exV simS (exC false) (11000 + 1) 1 12 - exV simS (exC false) 11000 1 12 = 4000 := by decide +kernel
theorem ex_c0 : cornE simS (exC false) 1 12 = 0 := by decide +kernel
theorem ex_c1 : cornV simS (exC false) 1 12 = [1000, 11000] := by decide +kernel
theorem ex_ok : ∀ k, k < 1 → bandsErr (simS.getD k []) = 0 := by decide +kernel
--%%
end Go.Proofs.Ytlfeppbhicmeoaa
