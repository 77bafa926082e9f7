/-
  Layer 17's laws, with their arguments as they come in: OrderBooks. No conditions beyond those named.
-/
import Derived.Test.YtkablfcieclndaaDoorOpen2
import Derived.Test.YtkablfcieclndaaDoorLaw17c
namespace Go.Proofs.YtkablfcieclndaaDoor
set_option linter.unusedVariables false
open Go.ChangeShapes Go.WideShapes Go.Deep Go.RowKit
section
variable {H : Type} {enc : TypeId × Value → H} {w : World}
set_option maxRecDepth 100000
theorem open_op_t {b off : Nat} {cs : List Value} {m : Nat} {x : DataW H × List MemPlace} (hl : cs.length = 6) (hc : CellsAt w b off cs) (h : DataW.trod enc Tryd.prog w 0 (fun _ => true) true m 31 cs = some x) :
    ∃ a : Sp, RowAt spC w b off a := by
  obtain ⟨xs, n, _, _, _, hxs, hf⟩ := DataW.trod_struct Tryd.underlying31 h
  have f0 : DataW.trod enc Tryd.prog w 0 (fun _ => true) true n 29 ((cs.drop 0).take (Tryd.prog.cellsOf 29)) = xs[0]? := hf 0 _ rfl
  have f1 : DataW.trod enc Tryd.prog w 0 (fun _ => true) true n 4 ((cs.drop 5).take (Tryd.prog.cellsOf 4)) = xs[1]? := hf 1 _ rfl
  have hx2 : xs.length = 2 := by simpa using hxs
  rw [List.getElem?_eq_getElem (by omega)] at f0 f1
  match cs, hl with
  | [a0, a1, a2, a3, a4, a5], _ =>
    have g0 : DataW.trod enc Tryd.prog w 0 (fun _ => true) true n 29 [a0, a1, a2, a3, a4] = some (xs[0]'(by omega)) := by
      rw [show Tryd.prog.cellsOf 29 = 5 from by kernel_rfl] at f0
      exact f0
    have g1 : DataW.trod enc Tryd.prog w 0 (fun _ => true) true n 4 [a5] = some (xs[1]'(by omega)) := by
      rw [show Tryd.prog.cellsOf 4 = 1 from by kernel_rfl] at f1
      exact f1
    have hf0 := struct_cells Tryd.underlying29 (by kernel_rfl) rfl g0
    obtain ⟨u0, n0, y0, e0, t0⟩ := hf0 0 _ rfl
    obtain ⟨u1, n1, y1, e1, t1⟩ := hf0 1 _ rfl
    obtain ⟨u2, n2, y2, e2, t2⟩ := hf0 2 _ rfl
    obtain ⟨u3, n3, y3, e3, t3⟩ := hf0 3 _ rfl
    obtain ⟨u4, n4, y4, e4, t4⟩ := hf0 4 _ rfl
    obtain ⟨q0, rfl, _⟩ := cell_int Tryd.underlying3 t0
    obtain ⟨q1, rfl, _⟩ := cell_int Tryd.underlying3 t1
    obtain ⟨q2, rfl, _⟩ := cell_int Tryd.underlying2 t2
    obtain ⟨q3, rfl, _⟩ := cell_int Tryd.underlying3 t3
    obtain ⟨q4, rfl, _⟩ := cell_int Tryd.underlying2 t4
    obtain ⟨q5, rfl⟩ := cell_bool Tryd.underlying4 g1
    simp only [List.getElem?_cons_zero, List.getElem?_cons_succ, Option.some.injEq] at e0 e1 e2 e3 e4
    subst e0; subst e1; subst e2; subst e3; subst e4
    exact ⟨⟨q0, q1, q2, q3, q4, q5⟩, hc⟩
theorem open_ops {r : Reach} {b0 : Nat} {v : Value} {d : DataW H} {p : List MemPlace} (hv : Value.okWide Tryd.prog w r b0 22 v) (h : DataW.Trod enc Tryd.prog w 0 (fun _ => true) true 22 v d p) :
    ∃ A n c l, v = .slice A n c ∧ SpSl w A n l := by
  obtain ⟨m, hm⟩ := trod_slice_arg Tryd.underlying22 hv h
  obtain ⟨A, n, c, l, rfl, _, _, hs⟩ := open_sl (RowAt spC) 6 sp0 (by decide) Tryd.underlying22 (by kernel_rfl) (fun b off cs m x hb hl hc hx => open_op_t hl hc hx) hm
  exact ⟨A, n, c, l, rfl, hs⟩
end
theorem orderBooks_row (A : Option Addr) (n c : Nat) (l : List Sp) (w : World) (hl : SpSl w A n l) (htab : Tab w) :
    Calls Tryd.prog 3 #[.slice A n c] w fun e w' => e = .returned (.bool true) ∧ Below w.heap.size w w' := orderBooks_walk A n c l w hl
end Go.Proofs.YtkablfcieclndaaDoor
