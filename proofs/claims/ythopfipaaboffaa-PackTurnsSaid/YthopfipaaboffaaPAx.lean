-- Written by wip/hprint/hprint.py (a program of this session, over the print): not typed by hand
import Derived.Test.YthopfipaaboffaaPAx0
import Derived.Test.YthopfipaaboffaaPAx1
import Derived.Test.YthopfipaaboffaaPAx2
import Derived.Test.YthopfipaaboffaaPAx3
import Derived.Test.YthopfipaaboffaaPAx4
import Derived.Test.YthopfipaaboffaaPAx5
namespace Go.Proofs.Ythopfipaaboffaa.PA
open Go.RowKit Go.Proofs.YthopfipaaboffaaW.PrintWords Go.Proofs.YthopfipaaboffaaW.PrintLast Go.Proofs.YthopfipaaboffaaW.PrintMore
attribute [local go_sem] max2_int min2_int max_two min_two max_three min_three max_four min_four   -- for this text's walks alone
open Go.Proofs.YthopfipaaboffaaH
set_option linter.unusedVariables false
set_option linter.unusedSimpArgs false

end Go.Proofs.Ythopfipaaboffaa.PA
