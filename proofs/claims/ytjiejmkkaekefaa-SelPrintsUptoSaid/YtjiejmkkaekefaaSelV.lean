
import Derived.Test.YtjiejmkkaekefaaSelC


/-
  The place of what is wrong: no nearer than where it was begun, no farther than the end.
-/
namespace Go.Proofs.Ytjiejmkkaekefaa.PureS
set_option linter.unusedVariables false
set_option linter.unusedSimpArgs false
open Go.RowKit Go.Proofs.Ytjiejmkkaekefaa.PA Go.Proofs.YtjiejmkkaekefaaW.PrintWords Go.Proofs.YtjiejmkkaekefaaW.PrintLast Go.Proofs.YtjiejmkkaekefaaW.PrintMore Go.Proofs.YtjiejmkkaekefaaH
end Go.Proofs.Ytjiejmkkaekefaa.PureS
