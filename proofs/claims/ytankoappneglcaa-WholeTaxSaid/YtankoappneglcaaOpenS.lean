/-
  Slices of periods with their codes, as arguments. No conditions.
-/
import Derived.Test.YtankoappneglcaaOpen2
import Derived.Test.YtankoappneglcaaTax4
namespace Go.Proofs.Ytankoappneglcaa
set_option linter.unusedVariables false
open Go.ChangeShapes Go.WideShapes Go.Deep Go.RowKit
section
variable {H : Type} {enc : TypeId × Value → H} {w : World}
set_option maxRecDepth 100000
theorem open_step_t {b off : Nat} {cs : List Value} {m : Nat} {x : DataW H × List MemPlace} (hl : cs.length = 6) (hc : CellsAt w b off cs) (h : DataW.trod enc Try.prog w 0 (fun _ => true) true m 42 cs = some x) :
    ∃ a : St, RowAt stC w b off a := by
  obtain ⟨xs, n, _, _, _, hxs, hf⟩ := DataW.trod_struct Try.underlying42 h
  have f0 : DataW.trod enc Try.prog w 0 (fun _ => true) true n 40 ((cs.drop 0).take (Try.prog.cellsOf 40)) = xs[0]? := hf 0 _ rfl
  have f1 : DataW.trod enc Try.prog w 0 (fun _ => true) true n 2 ((cs.drop 5).take (Try.prog.cellsOf 2)) = xs[1]? := hf 1 _ rfl
  have hx2 : xs.length = 2 := by simpa using hxs
  rw [List.getElem?_eq_getElem (by omega)] at f0 f1
  match cs, hl with
  | [a0, a1, a2, a3, a4, a5], _ =>
    have g0 : DataW.trod enc Try.prog w 0 (fun _ => true) true n 40 [a0, a1, a2, a3, a4] = some (xs[0]'(by omega)) := by
      rw [show Try.prog.cellsOf 40 = 5 from by kernel_rfl] at f0
      exact f0
    have g1 : DataW.trod enc Try.prog w 0 (fun _ => true) true n 2 [a5] = some (xs[1]'(by omega)) := by
      rw [show Try.prog.cellsOf 2 = 1 from by kernel_rfl] at f1
      exact f1
    have hf0 := struct_cells Try.underlying40 (by kernel_rfl) rfl g0
    obtain ⟨u0, n0, y0, e0, t0⟩ := hf0 0 _ rfl
    obtain ⟨u1, n1, y1, e1, t1⟩ := hf0 1 _ rfl
    obtain ⟨u2, n2, y2, e2, t2⟩ := hf0 2 _ rfl
    obtain ⟨u3, n3, y3, e3, t3⟩ := hf0 3 _ rfl
    obtain ⟨u4, n4, y4, e4, t4⟩ := hf0 4 _ rfl
    obtain ⟨q0, rfl, _⟩ := cell_int Try.underlying3 t0
    obtain ⟨q1, rfl, _⟩ := cell_int Try.underlying3 t1
    obtain ⟨q2, rfl, _⟩ := cell_int Try.underlying2 t2
    obtain ⟨q3, rfl, _⟩ := cell_int Try.underlying3 t3
    obtain ⟨q4, rfl⟩ := cell_bool Try.underlying4 t4
    obtain ⟨q5, rfl, _⟩ := cell_int Try.underlying2 g1
    simp only [List.getElem?_cons_zero, List.getElem?_cons_succ, Option.some.injEq] at e0 e1 e2 e3 e4
    subst e0; subst e1; subst e2; subst e3; subst e4
    exact ⟨⟨⟨q0, q1, q2, q3, q4⟩, q5⟩, hc⟩
theorem open_steps {r : Reach} {b0 : Nat} {v : Value} {d : DataW H} {p : List MemPlace} (hv : Value.okWide Try.prog w r b0 27 v) (h : DataW.Trod enc Try.prog w 0 (fun _ => true) true 27 v d p) :
    ∃ A n c l, v = .slice A n c ∧ StSl w A n l := by
  obtain ⟨m, hm⟩ := trod_slice_arg Try.underlying27 hv h
  obtain ⟨A, n, c, l, rfl, _, _, hs⟩ := open_sl (RowAt stC) 6 st0 (by decide) Try.underlying27 (by kernel_rfl) (fun b off cs m x hb hl hc hx => open_step_t hl hc hx) hm
  exact ⟨A, n, c, l, rfl, hs⟩
end
end Go.Proofs.Ytankoappneglcaa
