/-
  Contracts of the reference of layer 5 (bands). Conditions as named.
-/
import Derived.Test.YtpheeblpfcipaaaBand
namespace Go.Proofs.Ytpheeblpfcipaaa
set_option linter.unusedVariables false
open Go.RowKit
--%%
end Go.Proofs.Ytpheeblpfcipaaa
