/-
  Layer 17's laws, with their arguments as they come in: OrderChecks. No conditions beyond those named.
-/
import Derived.Test.YtkablfcieclndaaDoorOpen2
import Derived.Test.YtkablfcieclndaaDoorLaw17a
namespace Go.Proofs.YtkablfcieclndaaDoor
set_option linter.unusedVariables false
open Go.ChangeShapes Go.WideShapes Go.Deep Go.RowKit
section
variable {H : Type} {enc : TypeId × Value → H} {w : World}
set_option maxRecDepth 100000
theorem open_order {r : Reach} {b0 : Nat} {v : Value} {d : DataW H} {p : List MemPlace} (hv : Value.okWide Tryd.prog w r b0 29 v) (h : DataW.Trod enc Tryd.prog w 0 (fun _ => true) true 29 v d p) :
    ∃ id pr am ra tt, v = .agg #[.int .i64 id, .int .i64 pr, .int .i64 am, .int .i64 ra, .int .i64 tt] ∧ True := by
  obtain ⟨l, m, rfl, hl, hm⟩ := trod_struct_arg Tryd.underlying29 hv h
  rw [show Tryd.prog.cellsOf 29 = 5 from by kernel_rfl] at hl
  have hf := struct_cells Tryd.underlying29 (by kernel_rfl) hl hm
  obtain ⟨u0, n0, y0, e0, t0⟩ := hf 0 _ rfl
  obtain ⟨u1, n1, y1, e1, t1⟩ := hf 1 _ rfl
  obtain ⟨u2, n2, y2, e2, t2⟩ := hf 2 _ rfl
  obtain ⟨u3, n3, y3, e3, t3⟩ := hf 3 _ rfl
  obtain ⟨u4, n4, y4, e4, t4⟩ := hf 4 _ rfl
  obtain ⟨q0, rfl, _⟩ := cell_int Tryd.underlying3 t0
  obtain ⟨q1, rfl, _⟩ := cell_int Tryd.underlying3 t1
  obtain ⟨q2, rfl, _⟩ := cell_int Tryd.underlying2 t2
  obtain ⟨q3, rfl, _⟩ := cell_int Tryd.underlying3 t3
  obtain ⟨q4, rfl, _⟩ := cell_int Tryd.underlying2 t4
  match l, hl with
  | [a0, a1, a2, a3, a4], _ =>
    simp only [List.getElem?_cons_zero, List.getElem?_cons_succ, Option.some.injEq] at e0 e1 e2 e3 e4
    subst e0; subst e1; subst e2; subst e3; subst e4
    exact ⟨q0, q1, q2, q3, q4, rfl, trivial⟩
end
theorem orderChecks_row (id pr am ra tt : Int) (w : World) (h : True) (htab : Tab w) :
    Calls Tryd.prog 5 #[.agg #[.int .i64 id, .int .i64 pr, .int .i64 am, .int .i64 ra, .int .i64 tt]] w fun e w' => e = .returned (.bool true) ∧ Below w.heap.size w w' := orderChecks_walk id pr am ra tt w htab
end Go.Proofs.YtkablfcieclndaaDoor
