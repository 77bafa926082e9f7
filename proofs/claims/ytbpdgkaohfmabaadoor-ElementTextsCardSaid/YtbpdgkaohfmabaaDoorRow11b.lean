/-
  Layer 11's laws over lists, with their arguments as they come in. No conditions beyond those named.
-/
import Derived.Test.YtbpdgkaohfmabaaDoorOpen2
import Derived.Test.YtbpdgkaohfmabaaDoorLaw11c
import Derived.Test.YtbpdgkaohfmabaaDoorLaw11d
import Derived.Test.YtbpdgkaohfmabaaDoorLaw11e
namespace Go.Proofs.YtbpdgkaohfmabaaDoor
set_option linter.unusedVariables false
open Go.ChangeShapes Go.WideShapes Go.Deep Go.RowKit
section
variable {H : Type} {enc : TypeId × Value → H} {w : World}
set_option maxRecDepth 100000
theorem open_elem_t {b off : Nat} {cs : List Value} {m : Nat} {x : DataW H × List MemPlace} (hl : cs.length = 3) (hc : CellsAt w b off cs) (h : DataW.trod enc Tryd.prog w 0 (fun _ => true) true m 23 cs = some x) :
    ∃ a : El, RowAt elC w b off a := by
  match cs, hl with
  | [a0, a1, a2], _ =>
    have hf := struct_cells Tryd.underlying23 (by kernel_rfl) rfl h
    obtain ⟨u0, n0, y0, e0, t0⟩ := hf 0 _ rfl
    obtain ⟨u1, n1, y1, e1, t1⟩ := hf 1 _ rfl
    obtain ⟨u2, n2, y2, e2, t2⟩ := hf 2 _ rfl
    obtain ⟨q0, rfl, _⟩ := cell_string Tryd.underlying9 t0
    obtain ⟨q1, rfl, _⟩ := cell_int Tryd.underlying2 t1
    obtain ⟨q2, rfl, _⟩ := cell_int Tryd.underlying2 t2
    simp only [List.getElem?_cons_zero, List.getElem?_cons_succ, Option.some.injEq] at e0 e1 e2
    subst e0; subst e1; subst e2
    exact ⟨⟨q0, q1, q2⟩, hc⟩
theorem open_els {r : Reach} {b0 : Nat} {v : Value} {d : DataW H} {p : List MemPlace} (hv : Value.okWide Tryd.prog w r b0 36 v) (h : DataW.Trod enc Tryd.prog w 0 (fun _ => true) true 36 v d p) :
    ∃ A n c l, v = .slice A n c ∧ ElSl w A n l := by
  obtain ⟨m, hm⟩ := trod_slice_arg Tryd.underlying36 hv h
  obtain ⟨A, n, c, l, rfl, _, _, hs⟩ := open_sl (RowAt elC) 3 el0 (by decide) Tryd.underlying36 (by kernel_rfl) (fun b off cs m x hb hl hc hx => open_elem_t hl hc hx) hm
  exact ⟨A, n, c, l, rfl, hs⟩
def StAt (w : World) (b off : Nat) (s : ByteArray) : Prop := RowAt stC w b off s ∧ s.size ≤ 9223372036854775807
theorem open_sts {r : Reach} {b0 : Nat} {v : Value} {d : DataW H} {p : List MemPlace} (hv : Value.okWide Tryd.prog w r b0 30 v) (h : DataW.Trod enc Tryd.prog w 0 (fun _ => true) true 30 v d p) :
    ∃ A n c l, v = .slice A n c ∧ StSl w A n l ∧ ∀ k, k < n → (l.getD k st0).size ≤ 9223372036854775807 := by
  obtain ⟨m, hm⟩ := trod_slice_arg Tryd.underlying30 hv h
  obtain ⟨A, n, c, l, rfl, _, _, h1, h2, h3⟩ := open_sl StAt 1 st0 (by decide) Tryd.underlying30 (by kernel_rfl) (fun b off cs m x hb hl hc hx => by
    match cs, hl with
    | [a0], _ =>
      obtain ⟨s, rfl, hs⟩ := cell_string Tryd.underlying9 hx
      exact ⟨s, hc, hs⟩) hm
  refine ⟨A, n, c, l, rfl, ⟨h1, h2, fun hn => ?_⟩, fun k hk => ?_⟩
  · obtain ⟨b, off, hA, hlt, hat⟩ := h3 hn
    exact ⟨b, off, hA, hlt, fun k hk => (hat k hk).1⟩
  · obtain ⟨b, off, hA, hlt, hat⟩ := h3 (by omega)
    exact (hat k hk).2
theorem open_str {r : Reach} {b0 : Nat} {v : Value} {d : DataW H} {p : List MemPlace} (hv : Value.okWide Tryd.prog w r b0 9 v) (h : DataW.Trod enc Tryd.prog w 0 (fun _ => true) true 9 v d p) :
    ∃ s, v = .string s ∧ s.size ≤ 9223372036854775807 := by
  obtain ⟨s, rfl, _, _, hs⟩ := Go.ChangeMaps.open_string Tryd.underlying9 hv h
  exact ⟨s, rfl, by unfold maxLen at hs; exact hs⟩
end
theorem elementParses_row (A : Option Addr) (n c : Nat) (l : List ByteArray) (w : World) (h : StSl w A n l ∧ ∀ k, k < n → (l.getD k st0).size ≤ 9223372036854775807) (htab : Tab w) :
    Calls Tryd.prog 4 #[.slice A n c] w fun e w' => e = .returned (.bool true) ∧ Below w.heap.size w w' := elementParses_walk A n c l w h.1 h.2 htab
theorem elementSums_row (A : Option Addr) (n c : Nat) (l : List El) (w : World) (h : ElSl w A n l) (htab : Tab w) :
    Calls Tryd.prog 5 #[.slice A n c] w fun e w' => e = .returned (.bool true) ∧ Below w.heap.size w w' := elementSums_walk A n c l w h htab
theorem elementChange_row (A : Option Addr) (n c : Nat) (l : List El) (s : ByteArray) (a : Int) (w : World) (h : ElSl w A n l) (hs : s.size ≤ 9223372036854775807) (htab : Tab w) :
    Calls Tryd.prog 6 #[.slice A n c, .string s, .int .i64 a] w fun e w' => e = .returned (.bool true) ∧ Below w.heap.size w w' := elementChange_walk A n c l s a w h htab
end Go.Proofs.YtbpdgkaohfmabaaDoor
