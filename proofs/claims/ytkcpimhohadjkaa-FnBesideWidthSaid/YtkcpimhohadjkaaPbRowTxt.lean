/- The program's text of a row. -/
import Derived.Test.YtkcpimhohadjkaaPPbx0
import Derived.Test.YtkcpimhohadjkaaPPbx4
import Derived.Test.YtkcpimhohadjkaaPbLayout
import Derived.Test.YtkcpimhohadjkaaPbRepStr
namespace DocPure
open Go.RowKit Go.Proofs.Ytkcpimhohadjkaa.PPb Go.Proofs.YtkcpimhohadjkaaW.PrintWords

theorem impl_rowText_tells (r : Row) (h : 0 ≤ r.f0 ∧ r.f0 ≤ 400 ∧ r.f1.size < 2000) : impl_rowText.f r.f0 r.f1 = some (rowLine r) := by
  unfold impl_rowText.f rowLine
  by_cases h0 : r.f1.size = 0
  · rw [if_pos ((str_nil _).2 h0), if_pos h0]; rfl
  · rw [if_neg (fun e => h0 ((str_nil _).1 e)), if_neg h0, rep_tells _ h.1 (by omega), Option.bind_some, if_pos (by rw [spaces_size]; omega)]

end DocPure
