/-
  An argument that is a tax code, opened. No conditions.
-/
import Derived.Test.YtbliblhipecgfaaGreatDoorM1
namespace Go.Proofs.YtbliblhipecgfaaGreatDoor
set_option linter.unusedVariables false
open Go.ChangeShapes Go.WideShapes Go.Deep Go.RowKit
section
variable {H : Type} {enc : TypeId × Value → H} {w : World}
set_option maxRecDepth 100000
theorem open_code {r : Reach} {b0 : Nat} {v : Value} {d : DataW H} {p : List MemPlace} (hv : Value.okWide Tryz.prog w r b0 50 v) (h : DataW.Trod enc Tryz.prog w 0 (fun _ => true) true 50 v d p) :
    ∃ s k a f al, v = .agg #[.int .i64 s, .int .i64 k, .int .i64 a, .int .i64 f, .bool al] ∧ True := by
  obtain ⟨l, m, rfl, hl, hm⟩ := trod_struct_arg Tryz.underlying50 hv h
  rw [show Tryz.prog.cellsOf 50 = 5 from by kernel_rfl] at hl
  have hf := struct_cells Tryz.underlying50 (by kernel_rfl) hl hm
  obtain ⟨u0, n0, y0, e0, t0⟩ := hf 0 _ rfl
  obtain ⟨u1, n1, y1, e1, t1⟩ := hf 1 _ rfl
  obtain ⟨u2, n2, y2, e2, t2⟩ := hf 2 _ rfl
  obtain ⟨u3, n3, y3, e3, t3⟩ := hf 3 _ rfl
  obtain ⟨u4, n4, y4, e4, t4⟩ := hf 4 _ rfl
  obtain ⟨q0, rfl, _⟩ := cell_int Tryz.underlying3 t0
  obtain ⟨q1, rfl, _⟩ := cell_int Tryz.underlying3 t1
  obtain ⟨q2, rfl, _⟩ := cell_int Tryz.underlying2 t2
  obtain ⟨q3, rfl, _⟩ := cell_int Tryz.underlying3 t3
  obtain ⟨q4, rfl⟩ := cell_bool Tryz.underlying4 t4
  match l, hl with
  | [a0, a1, a2, a3, a4], _ =>
    simp only [List.getElem?_cons_zero, List.getElem?_cons_succ, Option.some.injEq] at e0 e1 e2 e3 e4
    subst e0; subst e1; subst e2; subst e3; subst e4
    exact ⟨q0, q1, q2, q3, q4, rfl, trivial⟩
end
end Go.Proofs.YtbliblhipecgfaaGreatDoor
