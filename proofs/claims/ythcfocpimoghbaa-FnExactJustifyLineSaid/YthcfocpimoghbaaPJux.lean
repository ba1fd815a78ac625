-- Written by a program of this session (xprint).
import Derived.Test.YthcfocpimoghbaaPJux0
import Derived.Test.YthcfocpimoghbaaPJux1
import Derived.Test.YthcfocpimoghbaaPJux2
import Derived.Test.YthcfocpimoghbaaPJux3
import Derived.Test.YthcfocpimoghbaaPJux4
import Derived.Test.YthcfocpimoghbaaPJux5
import Derived.Test.YthcfocpimoghbaaPJux6
import Derived.Test.YthcfocpimoghbaaPJux7
namespace Go.Proofs.Ythcfocpimoghbaa.PJu
open Go.RowKit Go.Proofs.YthcfocpimoghbaaW.PrintWords Go.Proofs.YthcfocpimoghbaaW.PrintLast Go.Proofs.YthcfocpimoghbaaW.PrintMore
attribute [local go_sem] max2_int min2_int max_two min_two max_three min_three max_four min_four   -- for this text's walks alone
set_option linter.unusedVariables false
set_option linter.unusedSimpArgs false

end Go.Proofs.Ythcfocpimoghbaa.PJu
