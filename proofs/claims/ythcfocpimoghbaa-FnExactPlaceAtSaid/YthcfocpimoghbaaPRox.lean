-- Written by a program of this session (xprint).
import Derived.Test.YthcfocpimoghbaaPRox0
import Derived.Test.YthcfocpimoghbaaPRox1
import Derived.Test.YthcfocpimoghbaaPRox2
import Derived.Test.YthcfocpimoghbaaPRox3
import Derived.Test.YthcfocpimoghbaaPRox4
import Derived.Test.YthcfocpimoghbaaPRox5
import Derived.Test.YthcfocpimoghbaaPRox6
import Derived.Test.YthcfocpimoghbaaPRox7
import Derived.Test.YthcfocpimoghbaaPRox8
import Derived.Test.YthcfocpimoghbaaPRox9
namespace Go.Proofs.Ythcfocpimoghbaa.PRo
open Go.RowKit Go.Proofs.YthcfocpimoghbaaW.PrintWords Go.Proofs.YthcfocpimoghbaaW.PrintLast Go.Proofs.YthcfocpimoghbaaW.PrintMore
attribute [local go_sem] max2_int min2_int max_two min_two max_three min_three max_four min_four   -- for this text's walks alone
set_option linter.unusedVariables false
set_option linter.unusedSimpArgs false

end Go.Proofs.Ythcfocpimoghbaa.PRo
