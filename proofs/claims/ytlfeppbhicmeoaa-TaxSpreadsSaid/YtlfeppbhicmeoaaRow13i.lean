/-
  The law TaxSpreads of layer 13, with its arguments as they come in. No conditions.
-/
import Derived.Test.YtlfeppbhicmeoaaRow13
import Derived.Test.YtlfeppbhicmeoaaLaw13i
namespace Go.Proofs.Ytlfeppbhicmeoaa
set_option linter.unusedVariables false
open Go.ChangeShapes Go.WideShapes Go.Deep Go.RowKit
section
variable {H : Type} {enc : TypeId × Value → H} {w : World}
set_option maxRecDepth 100000
theorem open_i64s {r : Reach} {b0 : Nat} {v : Value} {d : DataW H} {p : List MemPlace} (hv : Value.okWide Try.prog w r b0 28 v) (h : DataW.Trod enc Try.prog w 0 (fun _ => true) true 28 v d p) :
    ∃ A n c l, v = .slice A n c ∧ I64Sl w A n l := by
  obtain ⟨m, hm⟩ := trod_slice_arg Try.underlying28 hv h
  obtain ⟨A, n, c, l, rfl, h1, h2, h3, h4, h5⟩ := open_sl (fun w b off (a : Int) => w.cell? ⟨b, off, none⟩ = some (.int .i64 a)) 1 0 (by decide) Try.underlying28 (by kernel_rfl) (fun b off cs m x hb hl hc hx => by
    match cs, hl with
    | [u], _ =>
      obtain ⟨q, rfl, _⟩ := cell_int Try.underlying2 hx
      exact ⟨q, hc 0 _ rfl⟩) hm
  refine ⟨A, n, c, l, rfl, h3, h4, fun h0 => ?_⟩
  obtain ⟨b, off, hA, hlt, hat⟩ := h5 h0
  exact ⟨b, off, hA, hlt, fun k hk => by have := hat k hk; rwa [Nat.mul_one] at this⟩
end
theorem taxSpreads_row (sch : List (List Bd)) (cts : List Ct) (kds : List Kd) (As Ac Ak : Option Addr) (ns cs nc cc nk ck : Nat) (lim rnd : Int) (s k a f : Int) (al : Bool) (A : Option Addr) (n c : Nat) (l : List Int) (w : World) (h : TbIn w sch cts kds As Ac Ak ns cs nc cc nk ck) (_ : True) (hl : I64Sl w A n l) :
    Calls Try.prog 8 #[.agg #[.slice As ns cs, .slice Ac nc cc, .slice Ak nk ck, .int .i64 lim, .int .i64 rnd], .agg #[.int .i64 s, .int .i64 k, .int .i64 a, .int .i64 f, .bool al], .slice A n c] w fun e w' => e = .returned (.bool true) ∧ Below w.heap.size w w' :=
  taxSpreads_walk sch cts kds As Ac Ak A ns cs nc cc nk ck n c lim rnd s k a f al l w h.s h.c h.cc h.k h.ck hl
end Go.Proofs.Ytlfeppbhicmeoaa
