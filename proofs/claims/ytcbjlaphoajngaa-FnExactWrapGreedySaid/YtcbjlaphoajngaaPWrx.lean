-- Written by a program of this session (xprint).
import Derived.Test.YtcbjlaphoajngaaPWrx0
import Derived.Test.YtcbjlaphoajngaaPWrx1
import Derived.Test.YtcbjlaphoajngaaPWrx2
import Derived.Test.YtcbjlaphoajngaaPWrx3
import Derived.Test.YtcbjlaphoajngaaPWrx4
import Derived.Test.YtcbjlaphoajngaaPWrx5
import Derived.Test.YtcbjlaphoajngaaPWrx6
import Derived.Test.YtcbjlaphoajngaaPWrx7
import Derived.Test.YtcbjlaphoajngaaPWrx8
namespace Go.Proofs.Ytcbjlaphoajngaa.PWr
open Go.RowKit Go.Proofs.YtcbjlaphoajngaaW.PrintWords Go.Proofs.YtcbjlaphoajngaaW.PrintLast Go.Proofs.YtcbjlaphoajngaaW.PrintMore
attribute [local go_sem] max2_int min2_int max_two min_two max_three min_three max_four min_four   -- for this text's walks alone
set_option linter.unusedVariables false
set_option linter.unusedSimpArgs false

end Go.Proofs.Ytcbjlaphoajngaa.PWr
