-- Written by a program of this session (xprint).
import Derived.Test.YthcfocpimoghbaaPWbx0
import Derived.Test.YthcfocpimoghbaaPWbx1
import Derived.Test.YthcfocpimoghbaaPWbx2
import Derived.Test.YthcfocpimoghbaaPWbx3
import Derived.Test.YthcfocpimoghbaaPWbx4
import Derived.Test.YthcfocpimoghbaaPWbx5
import Derived.Test.YthcfocpimoghbaaPWbx6
import Derived.Test.YthcfocpimoghbaaPWbx7
import Derived.Test.YthcfocpimoghbaaPWbx8
import Derived.Test.YthcfocpimoghbaaPWbx9
import Derived.Test.YthcfocpimoghbaaPWbx10
namespace Go.Proofs.Ythcfocpimoghbaa.PWb
open Go.RowKit Go.Proofs.YthcfocpimoghbaaW.PrintWords Go.Proofs.YthcfocpimoghbaaW.PrintLast Go.Proofs.YthcfocpimoghbaaW.PrintMore
attribute [local go_sem] max2_int min2_int max_two min_two max_three min_three max_four min_four   -- for this text's walks alone
set_option linter.unusedVariables false
set_option linter.unusedSimpArgs false

end Go.Proofs.Ythcfocpimoghbaa.PWb
