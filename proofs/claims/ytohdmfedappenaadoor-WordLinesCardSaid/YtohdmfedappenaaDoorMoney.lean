/-
  Contracts of package money. Conditions as named.
-/
import Derived.Test.YtohdmfedappenaaDoorChecked
import Derived.Test.YtohdmfedappenaaDoorVoc
import Derived.Outline
import Derived.Deep.QuietTactic
import Derived.BigQuiet
namespace Go.Proofs.YtohdmfedappenaaDoor
set_option linter.unusedVariables false
open Go.RowKit

/-- may an amount be? -/
def mrB (x : Int) : Bool := decide (-100000000000 ≤ x ∧ x ≤ 100000000000)
theorem mr_t {x : Int} (h : -100000000000 ≤ x ∧ x ≤ 100000000000) : mrB x = true := by simp [mrB]; omega
theorem mr_f {x : Int} (h : ¬ (-100000000000 ≤ x ∧ x ≤ 100000000000)) : mrB x = false := by simp [mrB]; omega
theorem mr_iff {x : Int} : mrB x = true ↔ (-100000000000 ≤ x ∧ x ≤ 100000000000) := by simp [mrB]
theorem mr_not {x : Int} : mrB x = false ↔ ¬ (-100000000000 ≤ x ∧ x ≤ 100000000000) := by simp [mrB]
--%%
end Go.Proofs.YtohdmfedappenaaDoor
