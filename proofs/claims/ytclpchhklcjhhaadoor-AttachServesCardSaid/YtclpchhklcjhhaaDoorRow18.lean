/-
  Layer 18's laws, with their arguments as they come in. No conditions beyond those named.
-/
import Derived.Test.YtclpchhklcjhhaaDoorOpen2
import Derived.Test.YtclpchhklcjhhaaDoorLaw18d
namespace Go.Proofs.YtclpchhklcjhhaaDoor
set_option linter.unusedVariables false
open Go.ChangeShapes Go.WideShapes Go.Deep Go.RowKit
section
variable {H : Type} {enc : TypeId × Value → H} {w : World}
set_option maxRecDepth 100000
theorem open_state_t {b off : Nat} {cs : List Value} {m : Nat} {x : DataW H × List MemPlace} (hl : cs.length = 7) (hc : CellsAt w b off cs) (h : DataW.trod enc Tryd.prog w 0 (fun _ => true) true m 32 cs = some x) :
    ∃ a : Od, RowAt odC w b off a := by
  obtain ⟨xs, n, _, _, _, hxs, hf⟩ := DataW.trod_struct Tryd.underlying32 h
  have f0 : DataW.trod enc Tryd.prog w 0 (fun _ => true) true n 30 ((cs.drop 0).take (Tryd.prog.cellsOf 30)) = xs[0]? := hf 0 _ rfl
  have f1 : DataW.trod enc Tryd.prog w 0 (fun _ => true) true n 2 ((cs.drop 5).take (Tryd.prog.cellsOf 2)) = xs[1]? := hf 1 _ rfl
  have f2 : DataW.trod enc Tryd.prog w 0 (fun _ => true) true n 2 ((cs.drop 6).take (Tryd.prog.cellsOf 2)) = xs[2]? := hf 2 _ rfl
  have hx2 : xs.length = 3 := by simpa using hxs
  rw [List.getElem?_eq_getElem (by omega)] at f0 f1 f2
  match cs, hl with
  | [a0, a1, a2, a3, a4, a5, a6], _ =>
    have g0 : DataW.trod enc Tryd.prog w 0 (fun _ => true) true n 30 [a0, a1, a2, a3, a4] = some (xs[0]'(by omega)) := by
      rw [show Tryd.prog.cellsOf 30 = 5 from by kernel_rfl] at f0
      exact f0
    have g1 : DataW.trod enc Tryd.prog w 0 (fun _ => true) true n 2 [a5] = some (xs[1]'(by omega)) := by
      rw [show Tryd.prog.cellsOf 2 = 1 from by kernel_rfl] at f1
      exact f1
    have g2 : DataW.trod enc Tryd.prog w 0 (fun _ => true) true n 2 [a6] = some (xs[2]'(by omega)) := by
      rw [show Tryd.prog.cellsOf 2 = 1 from by kernel_rfl] at f2
      exact f2
    have hf0 := struct_cells Tryd.underlying30 (by kernel_rfl) rfl g0
    obtain ⟨u0, n0, y0, e0, t0⟩ := hf0 0 _ rfl
    obtain ⟨u1, n1, y1, e1, t1⟩ := hf0 1 _ rfl
    obtain ⟨u2, n2, y2, e2, t2⟩ := hf0 2 _ rfl
    obtain ⟨u3, n3, y3, e3, t3⟩ := hf0 3 _ rfl
    obtain ⟨u4, n4, y4, e4, t4⟩ := hf0 4 _ rfl
    obtain ⟨q0, rfl, _⟩ := cell_int Tryd.underlying3 t0
    obtain ⟨q1, rfl, _⟩ := cell_int Tryd.underlying3 t1
    obtain ⟨q2, rfl, _⟩ := cell_int Tryd.underlying2 t2
    obtain ⟨q3, rfl, _⟩ := cell_int Tryd.underlying3 t3
    obtain ⟨q4, rfl, _⟩ := cell_int Tryd.underlying2 t4
    obtain ⟨q5, rfl, _⟩ := cell_int Tryd.underlying2 g1
    obtain ⟨q6, rfl, _⟩ := cell_int Tryd.underlying2 g2
    simp only [List.getElem?_cons_zero, List.getElem?_cons_succ, Option.some.injEq] at e0 e1 e2 e3 e4
    subst e0; subst e1; subst e2; subst e3; subst e4
    exact ⟨⟨q0, q1, q2, q3, q4, q5, q6⟩, hc⟩
theorem open_states {r : Reach} {b0 : Nat} {v : Value} {d : DataW H} {p : List MemPlace} (hv : Value.okWide Tryd.prog w r b0 22 v) (h : DataW.Trod enc Tryd.prog w 0 (fun _ => true) true 22 v d p) :
    ∃ A n c l, v = .slice A n c ∧ OdSl w A n l := by
  obtain ⟨m, hm⟩ := trod_slice_arg Tryd.underlying22 hv h
  obtain ⟨A, n, c, l, rfl, _, _, hs⟩ := open_sl (RowAt odC) 7 od0 (by decide) Tryd.underlying22 (by kernel_rfl) (fun b off cs m x hb hl hc hx => open_state_t hl hc hx) hm
  exact ⟨A, n, c, l, rfl, hs⟩
end
theorem attachServes_row (net prot : Int) (A : Option Addr) (n c : Nat) (l : List Od) (w : World) (hn : (Lit.int .i64 net).wf = true) (hp : (Lit.int .i64 prot).wf = true) (hl : OdSl w A n l) (htab : Tab w) :
    Calls Tryd.prog 3 #[.int .i64 net, .int .i64 prot, .slice A n c] w fun e w' => e = .returned (.bool true) ∧ Below w.heap.size w w' := attachServes_walk net prot A n c l w hl htab ⟨wf_i64_bd hn, wf_i64_bd hp⟩
theorem attachProtects_row (net prot : Int) (A : Option Addr) (n c : Nat) (l : List Od) (w : World) (hn : (Lit.int .i64 net).wf = true) (hp : (Lit.int .i64 prot).wf = true) (hl : OdSl w A n l) (htab : Tab w) :
    Calls Tryd.prog 4 #[.int .i64 net, .int .i64 prot, .slice A n c] w fun e w' => e = .returned (.bool true) ∧ Below w.heap.size w w' := attachProtects_walk net prot A n c l w hl htab
theorem attachShort_row (net prot : Int) (A : Option Addr) (n c : Nat) (l : List Od) (w : World) (hn : (Lit.int .i64 net).wf = true) (hp : (Lit.int .i64 prot).wf = true) (hl : OdSl w A n l) (htab : Tab w) :
    Calls Tryd.prog 5 #[.int .i64 net, .int .i64 prot, .slice A n c] w fun e w' => e = .returned (.bool true) ∧ Below w.heap.size w w' := attachShort_walk net prot A n c l w hl htab
end Go.Proofs.YtclpchhklcjhhaaDoor
