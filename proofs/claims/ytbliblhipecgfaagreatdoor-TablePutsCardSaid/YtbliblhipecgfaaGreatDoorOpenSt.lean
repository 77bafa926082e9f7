/-
  An argument that is a slice of strings, opened, its capacity told. No conditions.
-/
import Derived.Test.YtbliblhipecgfaaGreatDoorM0
namespace Go.Proofs.YtbliblhipecgfaaGreatDoor
set_option linter.unusedVariables false
open Go.ChangeShapes Go.WideShapes Go.Deep Go.RowKit
section
variable {H : Type} {enc : TypeId × Value → H} {w : World}
set_option maxRecDepth 100000
theorem open_stc {r : Reach} {b0 : Nat} {v : Value} {d : DataW H} {p : List MemPlace} (hv : Value.okWide Tryz.prog w r b0 32 v) (h : DataW.Trod enc Tryz.prog w 0 (fun _ => true) true 32 v d p) :
    ∃ A n c l, v = .slice A n c ∧ StSl w A n l ∧ n ≤ c ∧ ∀ k, k < n → (l.getD k st0).size ≤ 9223372036854775807 := by
  obtain ⟨m, hm⟩ := trod_slice_arg Tryz.underlying32 hv h
  obtain ⟨A, n, c, l, rfl, hc0, _, h1, h2, h3⟩ := open_sl StAt 1 st0 (by decide) Tryz.underlying32 (by kernel_rfl) (fun b off cs m x hb hl hc hx => by
    match cs, hl with
    | [a0], _ =>
      obtain ⟨s, rfl, hs⟩ := cell_string Tryz.underlying9 hx
      exact ⟨s, hc, hs⟩) hm
  refine ⟨A, n, c, l, rfl, ⟨h1, h2, fun hn => ?_⟩, hc0, fun k hk => ?_⟩
  · obtain ⟨b, off, hA, hlt, hat⟩ := h3 hn
    exact ⟨b, off, hA, hlt, fun k hk => (hat k hk).1⟩
  · obtain ⟨b, off, hA, hlt, hat⟩ := h3 (by omega)
    exact (hat k hk).2
end
end Go.Proofs.YtbliblhipecgfaaGreatDoor
