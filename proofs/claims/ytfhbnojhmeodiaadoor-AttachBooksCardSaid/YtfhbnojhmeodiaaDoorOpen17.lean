/-
  Slices of orders, and of what orders took, as arguments. No conditions.
-/
import Derived.Test.YtfhbnojhmeodiaaDoorOpen2
import Derived.Test.YtfhbnojhmeodiaaDoorBookP3
import Derived.Test.YtfhbnojhmeodiaaDoorAttP
namespace Go.Proofs.YtfhbnojhmeodiaaDoor
set_option linter.unusedVariables false
open Go.ChangeShapes Go.WideShapes Go.Deep Go.RowKit
section
variable {H : Type} {enc : TypeId × Value → H} {w : World}
set_option maxRecDepth 100000
theorem open_order_t {b off : Nat} {cs : List Value} {m : Nat} {x : DataW H × List MemPlace} (hl : cs.length = 5) (hc : CellsAt w b off cs) (h : DataW.trod enc Tryd.prog w 0 (fun _ => true) true m 29 cs = some x) :
    ∃ a : Od, RowAt orC w b off a := by
  match cs, hl with
  | [a0, a1, a2, a3, a4], _ =>
    have hf0 := struct_cells Tryd.underlying29 (by kernel_rfl) rfl h
    obtain ⟨u0, n0, y0, e0, t0⟩ := hf0 0 _ rfl
    obtain ⟨u1, n1, y1, e1, t1⟩ := hf0 1 _ rfl
    obtain ⟨u2, n2, y2, e2, t2⟩ := hf0 2 _ rfl
    obtain ⟨u3, n3, y3, e3, t3⟩ := hf0 3 _ rfl
    obtain ⟨u4, n4, y4, e4, t4⟩ := hf0 4 _ rfl
    obtain ⟨q0, rfl, _⟩ := cell_int Tryd.underlying3 t0
    obtain ⟨q1, rfl, _⟩ := cell_int Tryd.underlying3 t1
    obtain ⟨q2, rfl, _⟩ := cell_int Tryd.underlying2 t2
    obtain ⟨q3, rfl, _⟩ := cell_int Tryd.underlying3 t3
    obtain ⟨q4, rfl, _⟩ := cell_int Tryd.underlying2 t4
    simp only [List.getElem?_cons_zero, List.getElem?_cons_succ, Option.some.injEq] at e0 e1 e2 e3 e4
    subst e0; subst e1; subst e2; subst e3; subst e4
    exact ⟨⟨q0, q1, q2, q3, q4, 0, 0⟩, hc⟩
theorem open_orders {r : Reach} {b0 : Nat} {v : Value} {d : DataW H} {p : List MemPlace} (hv : Value.okWide Tryd.prog w r b0 22 v) (h : DataW.Trod enc Tryd.prog w 0 (fun _ => true) true 22 v d p) :
    ∃ A n c l, v = .slice A n c ∧ OrSl w A n l := by
  obtain ⟨m, hm⟩ := trod_slice_arg Tryd.underlying22 hv h
  obtain ⟨A, n, c, l, rfl, _, _, hs⟩ := open_sl (RowAt orC) 5 od0 (by decide) Tryd.underlying22 (by kernel_rfl) (fun b off cs m x hb hl hc hx => open_order_t hl hc hx) hm
  exact ⟨A, n, c, l, rfl, hs⟩
theorem open_taken_t {b off : Nat} {cs : List Value} {m : Nat} {x : DataW H × List MemPlace} (hl : cs.length = 6) (hc : CellsAt w b off cs) (h : DataW.trod enc Tryd.prog w 0 (fun _ => true) true m 41 cs = some x) :
    ∃ a : Tk, RowAt tkC w b off a := by
  match cs, hl with
  | [a0, a1, a2, a3, a4, a5], _ =>
    have hf := struct_cells Tryd.underlying41 (by kernel_rfl) rfl h
    obtain ⟨u0, n0, y0, e0, t0⟩ := hf 0 _ rfl
    obtain ⟨u1, n1, y1, e1, t1⟩ := hf 1 _ rfl
    obtain ⟨u2, n2, y2, e2, t2⟩ := hf 2 _ rfl
    obtain ⟨u3, n3, y3, e3, t3⟩ := hf 3 _ rfl
    obtain ⟨u4, n4, y4, e4, t4⟩ := hf 4 _ rfl
    obtain ⟨u5, n5, y5, e5, t5⟩ := hf 5 _ rfl
    obtain ⟨q0, rfl, _⟩ := cell_int Tryd.underlying3 t0
    obtain ⟨q1, rfl, _⟩ := cell_int Tryd.underlying2 t1
    obtain ⟨q2, rfl, _⟩ := cell_int Tryd.underlying2 t2
    obtain ⟨q3, rfl, _⟩ := cell_int Tryd.underlying2 t3
    obtain ⟨q4, rfl, _⟩ := cell_int Tryd.underlying2 t4
    obtain ⟨q5, rfl, _⟩ := cell_int Tryd.underlying2 t5
    simp only [List.getElem?_cons_zero, List.getElem?_cons_succ, Option.some.injEq] at e0 e1 e2 e3 e4 e5
    subst e0; subst e1; subst e2; subst e3; subst e4; subst e5
    exact ⟨⟨q0, q1, q2, q3, q4, q5⟩, hc⟩
theorem open_takens {r : Reach} {b0 : Nat} {v : Value} {d : DataW H} {p : List MemPlace} (hv : Value.okWide Tryd.prog w r b0 33 v) (h : DataW.Trod enc Tryd.prog w 0 (fun _ => true) true 33 v d p) :
    ∃ A n c l, v = .slice A n c ∧ TkSl w A n l := by
  obtain ⟨m, hm⟩ := trod_slice_arg Tryd.underlying33 hv h
  obtain ⟨A, n, c, l, rfl, _, _, hs⟩ := open_sl (RowAt tkC) 6 tk0 (by decide) Tryd.underlying33 (by kernel_rfl) (fun b off cs m x hb hl hc hx => open_taken_t hl hc hx) hm
  exact ⟨A, n, c, l, rfl, hs⟩
end
end Go.Proofs.YtfhbnojhmeodiaaDoor
