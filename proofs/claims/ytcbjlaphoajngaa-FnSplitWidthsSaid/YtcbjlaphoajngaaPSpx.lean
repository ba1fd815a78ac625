-- Written by a program of this session (xprint).
import Derived.Test.YtcbjlaphoajngaaPSpx0
import Derived.Test.YtcbjlaphoajngaaPSpx1
import Derived.Test.YtcbjlaphoajngaaPSpx2
import Derived.Test.YtcbjlaphoajngaaPSpx3
import Derived.Test.YtcbjlaphoajngaaPSpx4
import Derived.Test.YtcbjlaphoajngaaPSpx5
import Derived.Test.YtcbjlaphoajngaaPSpx6
namespace Go.Proofs.Ytcbjlaphoajngaa.PSp
open Go.RowKit Go.Proofs.YtcbjlaphoajngaaW.PrintWords Go.Proofs.YtcbjlaphoajngaaW.PrintLast Go.Proofs.YtcbjlaphoajngaaW.PrintMore
attribute [local go_sem] max2_int min2_int max_two min_two max_three min_three max_four min_four   -- for this text's walks alone
set_option linter.unusedVariables false
set_option linter.unusedSimpArgs false

end Go.Proofs.Ytcbjlaphoajngaa.PSp
