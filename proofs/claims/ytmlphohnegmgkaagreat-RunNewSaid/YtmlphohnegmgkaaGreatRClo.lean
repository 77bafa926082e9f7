/-
  Contract of an employee's Clone. Conditions as named.
-/
import Derived.Test.YtmlphohnegmgkaaGreatRNew
namespace Go.Proofs.YtmlphohnegmgkaaGreat
set_option linter.unusedVariables false
set_option linter.unusedSimpArgs false
open Go.RowKit
--%
end Go.Proofs.YtmlphohnegmgkaaGreat
