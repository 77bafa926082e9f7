/-
  Layer 17's laws, with their arguments as they come in: OrderTook. No conditions beyond those named.
-/
import Derived.Test.YtfhbnojhmeodiaaDoorOpen17
import Derived.Test.YtfhbnojhmeodiaaDoorLaw17d
namespace Go.Proofs.YtfhbnojhmeodiaaDoor
set_option linter.unusedVariables false
open Go.ChangeShapes Go.WideShapes Go.Deep Go.RowKit
theorem orderTook_row (A : Option Addr) (n c : Nat) (l : List Od) (B : Option Addr) (m c' : Nat) (ts : List Tk) (w : World) (hl : OrSl w A n l) (ht : TkSl w B m ts) (htab : Tab w) :
    Calls Tryd.prog 5 #[.slice A n c, .slice B m c'] w fun e w' => e = .returned (.bool true) ∧ Below w.heap.size w w' := orderTook_walk A n c l B m c' ts w hl ht
end Go.Proofs.YtfhbnojhmeodiaaDoor
