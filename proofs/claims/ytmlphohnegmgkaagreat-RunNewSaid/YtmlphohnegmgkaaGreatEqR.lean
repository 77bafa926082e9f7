/-
  Contracts of slices.Equal at rows of structs of whole numbers. Conditions as named.
-/
import Derived.Test.YtmlphohnegmgkaaGreatSame
import Derived.Test.YtmlphohnegmgkaaGreatSlM
import Derived.Deep.QuietTactic
import Derived.BigQuiet
import Derived.Laws.StructEq
import Derived.Deep.RegionHeld3
namespace Go.Proofs.YtmlphohnegmgkaaGreat
set_option linter.unusedVariables false
set_option linter.unusedSimpArgs false
open Go.RowKit
end Go.Proofs.YtmlphohnegmgkaaGreat
