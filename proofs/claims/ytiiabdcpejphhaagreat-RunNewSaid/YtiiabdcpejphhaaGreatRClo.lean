/-
  Contract of an employee's Clone. Conditions as named.
-/
import Derived.Test.YtiiabdcpejphhaaGreatRNew
namespace Go.Proofs.YtiiabdcpejphhaaGreat
set_option linter.unusedVariables false
open Go.RowKit
--%
end Go.Proofs.YtiiabdcpejphhaaGreat
