-- Written by a program of this session (xprint).
import Derived.Test.YtkcpimhohadjkaaPPex0
import Derived.Test.YtkcpimhohadjkaaPPex1
import Derived.Test.YtkcpimhohadjkaaPPex2
import Derived.Test.YtkcpimhohadjkaaPPex3
import Derived.Test.YtkcpimhohadjkaaPPex4
import Derived.Test.YtkcpimhohadjkaaPPex5
import Derived.Test.YtkcpimhohadjkaaPPex6
import Derived.Test.YtkcpimhohadjkaaPPex7
namespace Go.Proofs.Ytkcpimhohadjkaa.PPe
open Go.RowKit Go.Proofs.YtkcpimhohadjkaaW.PrintWords Go.Proofs.YtkcpimhohadjkaaW.PrintLast Go.Proofs.YtkcpimhohadjkaaW.PrintMore
attribute [local go_sem] max2_int min2_int max_two min_two max_three min_three max_four min_four   -- for this text's walks alone
set_option linter.unusedVariables false
set_option linter.unusedSimpArgs false

end Go.Proofs.Ytkcpimhohadjkaa.PPe
