/- The reference's spaces. -/
import Derived.Test.YtkcpimhohadjkaaPPbx0
import Derived.Test.YtkcpimhohadjkaaPPbx2
import Derived.Test.YtkcpimhohadjkaaPbBaseS
import Derived.Test.YtkcpimhohadjkaaPbLine
namespace DocPure
open Go.RowKit Go.Proofs.Ytkcpimhohadjkaa.PPb Go.Proofs.YtkcpimhohadjkaaW.PrintWords

theorem spaces_l0 (n : Nat) (hn : n ≤ 1099511627776) : ∀ (d i : Nat), i + d = n → Tells (fun k => spec_l2Spaces.l0 k (n : Int) (spaces i) (i : Int)) (spaces n)
  | 0, i, hd => by
    obtain rfl : i = n := by omega
    refine Tells.step (fun k => ?_) (Tells.pure _)
    simp only [spec_l2Spaces.l0]
    rw [if_neg (by omega)]
  | d + 1, i, hd => by
    have ih := spaces_l0 n hn d (i + 1) (by omega)
    have hw : wrap64 ((i : Int) + 1) = ((i + 1 : Nat) : Int) := by rw [wr64 (by omega) (by omega)]; rfl
    refine Tells.step (fun k => ?_) ih
    simp only [spec_l2Spaces.l0]
    rw [if_pos (by omega), if_pos (by rw [spaces_size]; omega), hw, ← spaces_one, spaces_add]

theorem spaces_tells (n : Int) (hn : n ≤ 1099511627776) : Tells (fun k => spec_l2Spaces.f k n) (spaces n.toNat) := by
  by_cases h : 0 ≤ n
  · obtain ⟨m, rfl⟩ := Int.eq_ofNat_of_zero_le h
    exact spaces_l0 m (by omega) m 0 (by omega)
  · rw [show n.toNat = 0 from by omega]
    refine Tells.step (fun k => ?_) (Tells.pure _)
    show spec_l2Spaces.l0 (k + 1) n (⟨#[]⟩ : ByteArray) 0 = _
    simp only [spec_l2Spaces.l0]
    rw [if_neg (by omega)]; rfl

end DocPure
