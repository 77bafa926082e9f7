/-
  Layer 11's laws ElementChecks and ElementTexts, with their arguments as they come in. No conditions beyond those named.
-/
import Derived.Test.YtbpdgkaohfmabaaDoorRow11
import Derived.Test.YtbpdgkaohfmabaaDoorRow11b
import Derived.Test.YtbpdgkaohfmabaaDoorOpenT
import Derived.Test.YtbpdgkaohfmabaaDoorLaw11f
import Derived.Test.YtbpdgkaohfmabaaDoorLaw11g
namespace Go.Proofs.YtbpdgkaohfmabaaDoor
set_option linter.unusedVariables false
open Go.RowKit
theorem elementChecks_row (sch : List (List Bd)) (cts : List Ct) (kds : List Kd) (As Ac Ak : Option Addr) (ns cs nc cc nk ck : Nat) (lim rnd : Int) (A : Option Addr) (n c : Nat) (L : List El) (w : World) (h : TbIn w sch cts kds As Ac Ak ns cs nc cc nk ck) (hl : ElSl w A n L) (htab : Tab w) :
    Calls Tryd.prog 7 #[.agg #[.slice As ns cs, .slice Ac nc cc, .slice Ak nk ck, .int .i64 lim, .int .i64 rnd], .slice A n c] w fun e w' => e = .returned (.bool true) ∧ Below w.heap.size w w' :=
  elementChecks_walk kds As Ac Ak ns cs nc cc nk ck lim rnd A n c L w h.k hl htab
theorem elementTexts_row (k : ByteArray) (a u : Int) (w : World) (h : k.size ≤ 9223372036854775807 ∧ (-9223372036854775808 ≤ a ∧ a ≤ 9223372036854775807) ∧ (-9223372036854775808 ≤ u ∧ u ≤ 9223372036854775807)) (htab : Tab w) (htab2 : TabS w) :
    Calls Tryd.prog 8 #[.agg #[.string k, .int .i64 a, .int .i64 u]] w fun e w' => e = .returned (.bool true) ∧ Below w.heap.size w w' := elementTexts_walk k a u w h.1 htab htab2
end Go.Proofs.YtbpdgkaohfmabaaDoor
