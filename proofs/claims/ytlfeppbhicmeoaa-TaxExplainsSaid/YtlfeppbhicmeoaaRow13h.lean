/-
  The law TaxExplains of layer 13, with its arguments as they come in. No conditions.
-/
import Derived.Test.YtlfeppbhicmeoaaRow13
import Derived.Test.YtlfeppbhicmeoaaLaw13h
namespace Go.Proofs.Ytlfeppbhicmeoaa
set_option linter.unusedVariables false
open Go.RowKit
theorem taxExplains_row (sch : List (List Bd)) (cts : List Ct) (kds : List Kd) (As Ac Ak : Option Addr) (ns cs nc cc nk ck : Nat) (lim rnd : Int) (s k a f : Int) (al : Bool) (x n d : Int) (w : World) (h : TbIn w sch cts kds As Ac Ak ns cs nc cc nk ck) (_ : True) (hx : -9223372036854775808 ≤ x ∧ x ≤ 9223372036854775807) :
    Calls Try.prog 9 #[.agg #[.slice As ns cs, .slice Ac nc cc, .slice Ak nk ck, .int .i64 lim, .int .i64 rnd], .agg #[.int .i64 s, .int .i64 k, .int .i64 a, .int .i64 f, .bool al], .agg #[.int .i64 x, .int .i64 n, .int .i64 d]] w fun e w' => e = .returned (.bool true) ∧ Below w.heap.size w w' :=
  taxExplains_walk sch cts kds As Ac Ak ns cs nc cc nk ck lim rnd s k a f al x n d w h.s h.c h.cc h.k h.ck hx
end Go.Proofs.Ytlfeppbhicmeoaa
