/-
  The law SocialDue of layer 15, with its arguments as they come in. No conditions.
-/
import Derived.Test.YtpheeblpfcipaaaRow15
import Derived.Test.YtpheeblpfcipaaaLaw15c
namespace Go.Proofs.Ytpheeblpfcipaaa
set_option linter.unusedVariables false
open Go.RowKit
theorem socialDue_row (sch : List (List Bd)) (cts : List Ct) (kds : List Kd) (As Ac Ak : Option Addr) (ns cs nc cc nk ck : Nat) (lim rnd : Int) (i x : Int) (w : World) (h : TbIn w sch cts kds As Ac Ak ns cs nc cc nk ck) :
    Calls Try.prog 3 #[.agg #[.slice As ns cs, .slice Ac nc cc, .slice Ak nk ck, .int .i64 lim, .int .i64 rnd], .int .i64 i, .int .i64 x] w fun e w' => e = .returned (.bool true) ∧ Below w.heap.size w w' :=
  socialDue_walk sch cts kds As Ac Ak ns cs nc cc nk ck lim rnd i x w h.s h.c h.cc h.k h.ck
end Go.Proofs.Ytpheeblpfcipaaa
