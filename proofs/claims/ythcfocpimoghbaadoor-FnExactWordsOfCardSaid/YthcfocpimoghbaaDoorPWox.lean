-- Written by a program of this session (xprint).
import Derived.Test.YthcfocpimoghbaaDoorPWox0
import Derived.Test.YthcfocpimoghbaaDoorPWox1
import Derived.Test.YthcfocpimoghbaaDoorPWox2
import Derived.Test.YthcfocpimoghbaaDoorPWox3
import Derived.Test.YthcfocpimoghbaaDoorPWox4
import Derived.Test.YthcfocpimoghbaaDoorPWox5
namespace Go.Proofs.YthcfocpimoghbaaDoor.PWo
open Go.RowKit Go.Proofs.YthcfocpimoghbaaDoorW.PrintWords Go.Proofs.YthcfocpimoghbaaDoorW.PrintLast Go.Proofs.YthcfocpimoghbaaDoorW.PrintMore
attribute [local go_sem] max2_int min2_int max_two min_two max_three min_three max_four min_four   -- for this text's walks alone
set_option linter.unusedVariables false
set_option linter.unusedSimpArgs false

end Go.Proofs.YthcfocpimoghbaaDoor.PWo
