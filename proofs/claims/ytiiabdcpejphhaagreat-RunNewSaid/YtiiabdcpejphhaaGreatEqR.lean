/-
  Contracts of slices.Equal at rows of structs of whole numbers. Conditions as named.
-/
import Derived.Test.YtiiabdcpejphhaaGreatSame
import Derived.Test.YtiiabdcpejphhaaGreatSlM
import Derived.Deep.QuietTactic
import Derived.BigQuiet
import Derived.Laws.StructEq
import Derived.Deep.RegionHeld3
namespace Go.Proofs.YtiiabdcpejphhaaGreat
set_option linter.unusedVariables false
open Go.RowKit
end Go.Proofs.YtiiabdcpejphhaaGreat
