/- The program's padded, as a plain function. -/
import Derived.Test.YtkcpimhohadjkaaPPbx0
import Derived.Test.YtkcpimhohadjkaaPPbx4
import Derived.Test.YtkcpimhohadjkaaPbRepStr
namespace DocPure
open Go.RowKit Go.Proofs.Ytkcpimhohadjkaa.PPb Go.Proofs.YtkcpimhohadjkaaW.PrintWords

theorem padded_tells (s : ByteArray) (w : Int) (hs : s.size ≤ 1000000) (hw0 : -1000000 ≤ w) (hw : w ≤ 1000000) : impl_padded.f s w = some (padTo s w.toNat) := by
  unfold impl_padded.f
  have e : mx 0 (wrap64 (w - (s.size : Int))) = ((w.toNat - s.size : Nat) : Int) := by
    rw [wr64 (by omega) (by omega)]
    unfold mx
    split <;> omega
  rw [e, rep_tells _ (by omega) (by omega), Int.toNat_natCast, Option.bind_some, if_pos (by rw [spaces_size]; omega)]; rfl

end DocPure
