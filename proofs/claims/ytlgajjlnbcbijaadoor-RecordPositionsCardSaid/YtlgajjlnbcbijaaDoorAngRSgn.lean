/-
  Contract: the signed angle of a letter and digits, by the reference.
-/
import Derived.Test.YtlgajjlnbcbijaaDoorAngSgn
namespace Go.Proofs.YtlgajjlnbcbijaaDoor
open Go.RowKit
set_option linter.unusedVariables false
set_option linter.unusedSimpArgs false

end Go.Proofs.YtlgajjlnbcbijaaDoor
