/-
  Layer 18's laws, with their arguments as they come in: AttachBooks. No conditions beyond those named.
-/
import Derived.Test.YtfhbnojhmeodiaaDoorOpen17
import Derived.Test.YtfhbnojhmeodiaaDoorOpenI
import Derived.Test.YtfhbnojhmeodiaaDoorLaw18f
namespace Go.Proofs.YtfhbnojhmeodiaaDoor
set_option linter.unusedVariables false
open Go.ChangeShapes Go.WideShapes Go.Deep Go.RowKit
theorem attachBooks_row (A : Option Addr) (n c : Nat) (l : List Od) (B : Option Addr) (m c' : Nat) (L : List Int) (prot : Int) (w : World) (hl : OrSl w A n l) (ht : I64Sl w B m L) (htab : Tab w) :
    Calls Tryd.prog 3 #[.slice A n c, .slice B m c', .int .i64 prot] w fun e w' => e = .returned (.bool true) ∧ Below w.heap.size w w' := attachBooks_walk A n c l B m c' L prot w hl ht htab
end Go.Proofs.YtfhbnojhmeodiaaDoor
