/-
  Layer 11's laws, with their arguments as they come in. No conditions beyond those named.
-/
import Derived.Test.YtbpdgkaohfmabaaDoorOpen2
import Derived.Test.YtbpdgkaohfmabaaDoorLaw11b
namespace Go.Proofs.YtbpdgkaohfmabaaDoor
set_option linter.unusedVariables false
open Go.ChangeShapes Go.WideShapes Go.Deep Go.RowKit
section
variable {H : Type} {enc : TypeId × Value → H} {w : World}
set_option maxRecDepth 100000
theorem open_elem {r : Reach} {b0 : Nat} {v : Value} {d : DataW H} {p : List MemPlace} (hv : Value.okWide Tryd.prog w r b0 23 v) (h : DataW.Trod enc Tryd.prog w 0 (fun _ => true) true 23 v d p) :
    ∃ k a u, v = .agg #[.string k, .int .i64 a, .int .i64 u] ∧ k.size ≤ 9223372036854775807 ∧ (-9223372036854775808 ≤ a ∧ a ≤ 9223372036854775807) ∧ (-9223372036854775808 ≤ u ∧ u ≤ 9223372036854775807) := by
  obtain ⟨l, m, rfl, hl, hm⟩ := trod_struct_arg Tryd.underlying23 hv h
  rw [show Tryd.prog.cellsOf 23 = 3 from by kernel_rfl] at hl
  have hf := struct_cells Tryd.underlying23 (by kernel_rfl) hl hm
  obtain ⟨u0, n0, y0, e0, t0⟩ := hf 0 _ rfl
  obtain ⟨u1, n1, y1, e1, t1⟩ := hf 1 _ rfl
  obtain ⟨u2, n2, y2, e2, t2⟩ := hf 2 _ rfl
  obtain ⟨q0, rfl, w0⟩ := cell_string Tryd.underlying9 t0
  obtain ⟨q1, rfl, w1⟩ := cell_int Tryd.underlying2 t1
  obtain ⟨q2, rfl, w2⟩ := cell_int Tryd.underlying2 t2
  match l, hl with
  | [a0, a1, a2], _ =>
    simp only [List.getElem?_cons_zero, List.getElem?_cons_succ, Option.some.injEq] at e0 e1 e2
    subst e0; subst e1; subst e2
    exact ⟨q0, q1, q2, rfl, w0, w1, w2⟩
end
theorem elementValues_row (k : ByteArray) (a u : Int) (w : World) (h : k.size ≤ 9223372036854775807 ∧ (-9223372036854775808 ≤ a ∧ a ≤ 9223372036854775807) ∧ (-9223372036854775808 ≤ u ∧ u ≤ 9223372036854775807)) (htab : Tab w) :
    Calls Tryd.prog 3 #[.agg #[.string k, .int .i64 a, .int .i64 u]] w fun e w' => e = .returned (.bool true) ∧ Below w.heap.size w w' := elementValues_walk k a u w h.2.1 h.2.2 htab
end Go.Proofs.YtbpdgkaohfmabaaDoor
