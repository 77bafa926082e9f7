/-
  Layer 18's laws: the example that is asked first, and what states may be. Conditions as named.
-/
import Derived.Test.YtfhbnojhmeodiaaDoorAtt3
import Derived.Test.YtfhbnojhmeodiaaDoorOrd2
import Derived.Deep.QuietTactic
import Derived.BigQuiet
namespace Go.Proofs.YtfhbnojhmeodiaaDoor
set_option linter.unusedVariables false
open Go.RowKit
def Yes18 (P : Prop) (w : World) (e : Ending) (w' : World) : Prop := ∃ b : Bool, (e = .returned (.bool b) ∧ (b = true → P)) ∧ Below w.heap.size w w'
theorem Yes18.no {P : Prop} {w w' : World} {v : Bool} (hv : v = false) (hb : Below w.heap.size w w') : Yes18 P w (.returned (.bool v)) w' := ⟨v, ⟨rfl, fun h => by rw [hv] at h; cases h⟩, hb⟩
def May18 (l : List Od) (n : Nat) : Prop := (∀ k, k < n → OdOK (l.getD k od0)) ∧ n ≤ 20
--%%
end Go.Proofs.YtfhbnojhmeodiaaDoor
