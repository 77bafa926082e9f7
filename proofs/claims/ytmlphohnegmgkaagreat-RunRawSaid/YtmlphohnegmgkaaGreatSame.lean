/-
 Contracts of table.Same and of what it leans on. Conditions as named.
-/
import Derived.Test.YtmlphohnegmgkaaGreatM2
import Derived.Deep.QuietTactic
import Derived.BigQuiet
import Derived.Laws.StructEq
import Derived.Deep.RegionHeld3
namespace Go.Proofs.YtmlphohnegmgkaaGreat
set_option linter.unusedVariables false
set_option linter.unusedSimpArgs false
open Go.RowKit
def SameR (P : Prop) (w : World) (e : Ending) (w' : World) : Prop := ∃ r : Bool, (e = .returned (.bool r) ∧ (r = true ↔ P)) ∧ Below w.heap.size w w'
theorem same_no {P : Prop} (h : ¬ P) {w w' : World} (hb : Below w.heap.size w w') : SameR P w (.returned (.bool false)) w' := ⟨false, ⟨rfl, by simp [h]⟩, hb⟩
theorem same_yes {P : Prop} (h : P) {w w' : World} (hb : Below w.heap.size w w') : SameR P w (.returned (.bool true)) w' := ⟨true, ⟨rfl, by simp [h]⟩, hb⟩
theorem list_same {α : Type} {L M : List α} {d : α} (hn : L.length = M.length) (h : ∀ i, i < L.length → L.getD i d = M.getD i d) : L = M := by
 apply List.ext_getElem hn
 intro i h1 h2
 have := h i h1
 rwa [getD_get h1, getD_get h2] at this
end Go.Proofs.YtmlphohnegmgkaaGreat
