/-
  The law SocialYear of layer 15, with its arguments as they come in. No conditions.
-/
import Derived.Test.YtpheeblpfcipaaaRow15
import Derived.Test.YtpheeblpfcipaaaLaw15f
namespace Go.Proofs.Ytpheeblpfcipaaa
set_option linter.unusedVariables false
open Go.RowKit
theorem socialYear_row (sch : List (List Bd)) (cts : List Ct) (kds : List Kd) (As Ac Ak : Option Addr) (ns cs nc cc nk ck : Nat) (lim rnd : Int) (A : Option Addr) (n c : Nat) (l : List Bs) (w : World) (h : TbIn w sch cts kds As Ac Ak ns cs nc cc nk ck) (hl : BsSl w A n l) :
    Calls Try.prog 6 #[.agg #[.slice As ns cs, .slice Ac nc cc, .slice Ak nk ck, .int .i64 lim, .int .i64 rnd], .slice A n c] w fun e w' => e = .returned (.bool true) ∧ Below w.heap.size w w' :=
  socialYear_walk sch cts kds l As Ac Ak A ns cs nc cc nk ck n c lim rnd w h.s h.c h.cc h.k h.ck hl
end Go.Proofs.Ytpheeblpfcipaaa
