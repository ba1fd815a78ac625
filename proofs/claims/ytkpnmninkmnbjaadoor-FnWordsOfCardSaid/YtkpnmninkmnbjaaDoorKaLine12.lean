/- The reference's line of words. -/
import Derived.Test.YtkpnmninkmnbjaaDoorPKax0
import Derived.Test.YtkpnmninkmnbjaaDoorPKax10
import Derived.Test.YtkpnmninkmnbjaaDoorKaBaseS
import Derived.Test.YtkpnmninkmnbjaaDoorKaLine
import Derived.Test.YtkpnmninkmnbjaaDoorKaGreedy
namespace DocPure
open Go.RowKit Go.Proofs.YtkpnmninkmnbjaaDoor.PKa Go.Proofs.YtkpnmninkmnbjaaDoorW.PrintWords

theorem total_take_le (ws : List ByteArray) (i : Nat) : total (ws.take i) ≤ total ws := by
  have := total_append (ws.take i) (ws.drop i)
  rw [List.take_append_drop] at this
  omega

theorem line12_l0 (ws : List ByteArray) (hl : ws.length ≤ 1099511627776) (ht : total ws ≤ 1099511627776) : ∀ (d i : Nat), i + d = ws.length →
    Tells (fun k => spec_l12Line.l0 k ws (lineWith sp1 (ws.take i)) (i : Int)) (lineWith sp1 ws)
  | 0, i, hd => by
    rw [List.take_of_length_le (by omega)]
    refine Tells.step (fun k => ?_) (Tells.pure _)
    simp only [spec_l12Line.l0]
    rw [if_neg (by omega)]
  | d + 1, i, hd => by
    have ih := line12_l0 ws hl ht d (i + 1) (by omega)
    have hw : wrap64 ((i : Int) + 1) = ((i + 1 : Nat) : Int) := by rw [wr64 (by omega) (by omega)]; rfl
    have ht1 := total_take_le ws (i + 1)
    have e1 : sp1.size = 1 := rfl
    rw [List.take_succ_eq_append_getElem (by omega)] at ih ht1
    rw [total_append, total_cons] at ht1
    refine Tells.step (fun k => ?_) ih
    simp only [spec_l12Line.l0]
    by_cases h0 : i = 0
    · subst h0
      have e : lineWith sp1 (ws.take 0) = ByteArray.empty := rfl
      have e2 : lineWith sp1 (ws.take 0 ++ [ws[0]'(by omega)]) = ws[0]'(by omega) := rfl
      rw [if_pos (by omega), if_neg (by omega), if_pos (by omega), rdS_get (by omega), e, e2, empty_append, if_pos (by show 0 + _ ≤ _; omega), hw]
    · have hne : ws.take i ≠ [] := by
        intro h
        have := congrArg List.length h
        rw [List.length_take, List.length_nil] at this
        omega
      have hs : (lineWith sp1 (ws.take i)).size ≤ 4398046511104 := by
        cases hx : ws.take i with
        | nil => exact absurd hx hne
        | cons x xs =>
          rw [lineWith_size]
          have h1 := total_take_le ws i
          have h2 : (ws.take i).length ≤ ws.length := by rw [List.length_take]; omega
          rw [hx, total_cons] at h1
          rw [hx, List.length_cons] at h2
          rw [e1]; omega
      rw [lineWith_snoc sp1 hne] at *
      rw [if_pos (by omega), if_pos (by omega), if_pos (by omega), if_pos (by omega), rdS_get (by omega), if_pos, hw, ByteArray.append_assoc]
      · rfl
      · rw [ByteArray.size_append]
        show _ + 1 + _ ≤ _
        omega

theorem line12 (ws : List ByteArray) (hl : ws.length ≤ 1099511627776) (ht : total ws ≤ 1099511627776) : Tells (fun k => spec_l12Line.f k ws) (lineWith sp1 ws) :=
  line12_l0 ws hl ht ws.length 0 (by omega)

end DocPure
