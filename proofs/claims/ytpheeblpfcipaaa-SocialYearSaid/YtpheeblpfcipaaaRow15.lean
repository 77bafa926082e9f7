/-
  Layer 15's laws, with their arguments as they come in. No conditions.
-/
import Derived.Test.YtpheeblpfcipaaaOpenT
import Derived.Test.YtpheeblpfcipaaaBase2
namespace Go.Proofs.Ytpheeblpfcipaaa
set_option linter.unusedVariables false
open Go.ChangeShapes Go.WideShapes Go.Deep Go.RowKit
section
variable {H : Type} {enc : TypeId × Value → H} {w : World}
set_option maxRecDepth 100000
theorem open_bases {r : Reach} {b0 : Nat} {v : Value} {d : DataW H} {p : List MemPlace} (hv : Value.okWide Try.prog w r b0 46 v) (h : DataW.Trod enc Try.prog w 0 (fun _ => true) true 46 v d p) :
    ∃ A n c l, v = .slice A n c ∧ BsSl w A n l := by
  obtain ⟨m, hm⟩ := trod_slice_arg Try.underlying46 hv h
  obtain ⟨A, n, c, l, rfl, _, _, hs⟩ := open_sl BsAt 3 bs0 (by decide) Try.underlying46 (by kernel_rfl) (fun b off cs m x hb hl hc hx => by
    have hf := struct_cells Try.underlying59 (by kernel_rfl) hl hx
    obtain ⟨u0, n0, y0, e0, t0⟩ := hf 0 _ rfl
    obtain ⟨u1, n1, y1, e1, t1⟩ := hf 1 _ rfl
    obtain ⟨u2, n2, y2, e2, t2⟩ := hf 2 _ rfl
    obtain ⟨q0, rfl, _⟩ := cell_int Try.underlying2 t0
    obtain ⟨q1, rfl, _⟩ := cell_int Try.underlying2 t1
    obtain ⟨q2, rfl, _⟩ := cell_int Try.underlying2 t2
    exact ⟨⟨q0, q1, q2⟩, hc 0 _ e0, hc 1 _ e1, hc 2 _ e2⟩) hm
  exact ⟨A, n, c, l, rfl, hs⟩
end
end Go.Proofs.Ytpheeblpfcipaaa
