/-
  The law WholeTax, with its arguments as they come in. No conditions beyond those named.
-/
import Derived.Test.YtankoappneglcaaOpenT
import Derived.Test.YtankoappneglcaaOpenI
import Derived.Test.YtankoappneglcaaOpenS
import Derived.Test.YtankoappneglcaaTop07
namespace Go.Proofs.Ytankoappneglcaa
set_option linter.unusedVariables false
open Go.ChangeShapes Go.WideShapes Go.Deep Go.RowKit
theorem wholeTax_row (sch : List (List Bd)) (cts : List Ct) (kds : List Kd) (As Ac Ak : Option Addr) (ns cs nc cc nk ck : Nat) (lim rnd : Int) (A : Option Addr) (n c : Nat) (l : List St) (B : Option Addr) (m e : Nat) (ch : List Int) (w : World) (ht : TbIn w sch cts kds As Ac Ak ns cs nc cc nk ck) (hl : StSl w A n l) (hx : I64Sl w B m ch) :
    Calls Try.prog 3 #[.agg #[.slice As ns cs, .slice Ac nc cc, .slice Ak nk ck, .int .i64 lim, .int .i64 rnd], .slice A n c, .slice B m e] w fun e w' => e = .returned (.bool true) ∧ Below w.heap.size w w' :=
  wholeTax_walk sch cts kds As Ac Ak A B ns cs nc cc nk ck n c m e lim rnd l ch w ht.s ht.c ht.cc ht.k ht.ck hl hx
end Go.Proofs.Ytankoappneglcaa
