/-
  Contracts of package band: what an amount comes to by bands. Conditions as named.
-/
import Derived.Test.YtbliblhipecgfaaGreatDoorBand
import Derived.Lib.MinMax
import Derived.Deep.RegionHeld3
namespace Go.Proofs.YtbliblhipecgfaaGreatDoor
set_option linter.unusedVariables false
open Go.RowKit
--%%
/-- for a region that draws, with three cells of a band and what was there before -/
theorem sB3 {w W W1 : World} {b o0 o1 o2 : Nat} {v0 v1 v2 : Value} (hw : b < w.heap.size)
    (h : W.cell? ⟨b, o0, none⟩ = some v0 ∧ W.cell? ⟨b, o1, none⟩ = some v1 ∧ W.cell? ⟨b, o2, none⟩ = some v2 ∧ Below w.heap.size w W) (hb : Below W.heap.size W W1) :
    W1.cell? ⟨b, o0, none⟩ = some v0 ∧ W1.cell? ⟨b, o1, none⟩ = some v1 ∧ W1.cell? ⟨b, o2, none⟩ = some v2 ∧ Below w.heap.size w W1 := by
  have hlt : b < W.heap.size := Nat.lt_of_lt_of_le hw h.2.2.2.size
  exact ⟨(hb.cell (p := ⟨b, _, none⟩) hlt).trans h.1, (hb.cell (p := ⟨b, _, none⟩) hlt).trans h.2.1, (hb.cell (p := ⟨b, _, none⟩) hlt).trans h.2.2.1, h.2.2.2.trans (hb.mono h.2.2.2.size)⟩
--%%
/-- what an amount comes to by bands, by one side's rates -/
def bandS (sel : Bd → Int) (l : List Bd) (x : Int) : Int := progS x (fun k => (l.getD k bd0).f) (fun k => sel (l.getD k bd0)) l.length l.length
--%%
end Go.Proofs.YtbliblhipecgfaaGreatDoor
