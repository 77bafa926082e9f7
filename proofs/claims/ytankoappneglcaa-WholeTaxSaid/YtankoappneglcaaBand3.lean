/-
  Contracts of package band: corners, and the band in which an amount ends. Conditions as named.
-/
import Derived.Test.YtankoappneglcaaBand
import Derived.Test.YtankoappneglcaaI64
namespace Go.Proofs.Ytankoappneglcaa
set_option linter.unusedVariables false
open Go.RowKit
theorem corners_snoc (l : List Bd) (k : Nat) (h0 : 0 < k) (hk : k < l.length) : (((l.drop 1).take (k - 1)).map (·.f)).map (Value.int .i64) ++ [.int .i64 (l.getD k bd0).f] = (((l.drop 1).take k).map (·.f)).map (Value.int .i64) := by
  obtain ⟨j, rfl⟩ : ∃ j, k = j + 1 := ⟨k - 1, by omega⟩
  have h1 := map_take_snoc (fun b : Bd => Value.int .i64 b.f) (l.drop 1) j bd0 (by simp; omega)
  have h2 : (l.drop 1).getD j bd0 = l.getD (j + 1) bd0 := by simp [List.getD]
  rw [h2] at h1
  simpa [List.map_map, Function.comp_def] using h1.symm
--%%
end Go.Proofs.Ytankoappneglcaa
