/- strings.Repeat of one space, as a plain function. -/
import Derived.Test.YtkcpimhohadjkaaPPbx0
import Derived.Test.YtkcpimhohadjkaaPPbx4
import Derived.Test.YtkcpimhohadjkaaPbBaseS
import Derived.Test.YtkcpimhohadjkaaPbLine
namespace DocPure
open Go.RowKit Go.Proofs.Ytkcpimhohadjkaa.PPb Go.Proofs.YtkcpimhohadjkaaW.PrintWords

theorem rep_space (n : Nat) : Go.Lib.repeatL ([32] : List UInt8) n = List.replicate n 32 := by
  induction n with
  | zero => rfl
  | succ n ih =>
    show 32 :: Go.Lib.repeatL [32] n = _
    rw [ih]; rfl

theorem rep_tells (n : Int) (h0 : 0 ≤ n) (hn : n ≤ 140737488355328) : strings_Repeat.f (⟨#[32]⟩ : ByteArray) n = some (spaces n.toNat) := by
  unfold strings_Repeat.f
  have e : (⟨#[32]⟩ : ByteArray).size = 1 := rfl
  rw [if_pos ⟨h0, by omega, by rw [e]; omega⟩]
  have e2 : (⟨#[32]⟩ : ByteArray).data.toList = [32] := rfl
  rw [e2, rep_space]; rfl

end DocPure
