/-
  Layer 7's laws, with their arguments as they come in. No conditions beyond those named.
-/
import Derived.Test.YtohdmfedappenaaDoorLaw07b
import Derived.Test.YtohdmfedappenaaDoorLaw07c
import Derived.Test.YtohdmfedappenaaDoorLaw07d
import Derived.Test.YtohdmfedappenaaDoorLaw07e
import Derived.Test.YtohdmfedappenaaDoorHanded
namespace Go.Proofs.YtohdmfedappenaaDoor
set_option linter.unusedVariables false
open Go.RowKit
theorem wordInts_row (s : ByteArray) (w : World) (h : s.size ≤ 9223372036854775807) (hm : ML w) :
    Calls Tryd.prog 5 #[.string s] w fun e w' => e = .returned (.bool true) ∧ Below w.heap.size w w' := wordInts_walk s w h hm
theorem wordQuotes_row (s : ByteArray) (w : World) (h : s.size ≤ 9223372036854775807) (hm : ML w) :
    Calls Tryd.prog 4 #[.string s] w fun e w' => e = .returned (.bool true) ∧ Below w.heap.size w w' := wordQuotes_walk s w h hm
theorem wordNames_row (s : ByteArray) (w : World) (h : s.size ≤ 9223372036854775807) (hm : ML w) :
    Calls Tryd.prog 6 #[.string s] w fun e w' => e = .returned (.bool true) ∧ Below w.heap.size w w' := wordNames_walk s w h hm
theorem wordLines_row (s : ByteArray) (w : World) (h : s.size ≤ 9223372036854775807) (hm : ML w) :
    Calls Tryd.prog 7 #[.string s] w fun e w' => e = .returned (.bool true) ∧ Below w.heap.size w w' := wordLines_walk s w h hm
end Go.Proofs.YtohdmfedappenaaDoor
