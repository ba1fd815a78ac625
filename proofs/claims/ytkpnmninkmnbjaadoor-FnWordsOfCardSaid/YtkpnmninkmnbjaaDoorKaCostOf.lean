/- What lines cost: the printed WrapCost of the program and of the reference are the plain one. -/
import Derived.Test.YtkpnmninkmnbjaaDoorPKax0
import Derived.Test.YtkpnmninkmnbjaaDoorPKax7
import Derived.Test.YtkpnmninkmnbjaaDoorKaWrapWords
import Derived.Test.YtkpnmninkmnbjaaDoorKaBestLink
namespace DocPure
open Go.RowKit Go.Proofs.YtkpnmninkmnbjaaDoor.PKa Go.Proofs.YtkpnmninkmnbjaaDoorW.PrintWords

def wrapCost (ls : List ByteArray) (w : Int) : Int × Bool := if ((wordsOf ls).2 && okWidth w) = true then (costLines w ls, true) else (0, false)

theorem cost_drop (w : Int) (ls : List ByteArray) (i : Nat) (h : i < ls.length) : costLines w (ls.drop i) = lineCost ((ls[i]'h).size : Int) w (decide (i + 1 = ls.length)) + costLines w (ls.drop (i + 1)) := by
  rw [List.drop_eq_getElem_cons h]
  show lineCost _ w (decide (ls.drop (i + 1) = [])) + _ = _
  congr 2
  refine decide_eq_decide.2 ⟨fun e => ?_, fun e => List.drop_of_length_le (by omega)⟩
  have := congrArg List.length e
  rw [List.length_drop, List.length_nil] at this
  omega

theorem costLines_nonneg (w : Int) : ∀ ls : List ByteArray, 0 ≤ costLines w ls
  | [] => Int.le_refl _
  | l :: ls => by
    have h1 := costLines_nonneg w ls
    have h2 := lineCost_nonneg (l.size : Int) w (decide (ls = []))
    show 0 ≤ lineCost _ w _ + costLines w ls
    omega

theorem sum_step {w sum : Int} {ls : List ByteArray} {i : Nat} (hs : ∀ l ∈ ls, l.size ≤ 300) (hl : ls.length ≤ 18) (h0 : 0 ≤ w) (h1 : w ≤ 200) (hi : i < ls.length) (g0 : 0 ≤ sum) (g1 : sum ≤ 10000000 * i) :
    0 ≤ sum + lineCost ((ls[i]'hi).size : Int) w (decide (i + 1 = ls.length)) ∧ sum + lineCost ((ls[i]'hi).size : Int) w (decide (i + 1 = ls.length)) ≤ 10000000 * ((i + 1 : Nat) : Int) ∧
    wrap64 (sum + lineCost ((ls[i]'hi).size : Int) w (decide (i + 1 = ls.length))) = sum + lineCost ((ls[i]'hi).size : Int) w (decide (i + 1 = ls.length)) := by
  have hsz := hs (ls[i]'hi) (List.getElem_mem _)
  have hc := lineCost_le (a := ((ls[i]'hi).size : Int)) (b := decide (i + 1 = ls.length)) (by omega) (by omega) h0 h1
  have hn := lineCost_nonneg ((ls[i]'hi).size : Int) w (decide (i + 1 = ls.length))
  generalize lineCost ((ls[i]'hi).size : Int) w (decide (i + 1 = ls.length)) = c at hc hn
  exact ⟨by omega, by omega, wr64 (by omega) (by omega)⟩

theorem impl_cost_l0 (w : Int) (ls : List ByteArray) (hl : ls.length ≤ 18) (hs : ∀ l ∈ ls, l.size ≤ 300) (h0 : 0 ≤ w) (h1 : w ≤ 200) : ∀ (d i : Nat) (sum : Int), i + d = ls.length → 0 ≤ sum → sum ≤ 10000000 * i →
    Tells (fun k => impl_WrapCost.l0 k ls w sum ls (ls.length : Int) (i : Int)) (sum + costLines w (ls.drop i), true)
  | 0, i, sum, hd, g0, g1 => by
    rw [List.drop_of_length_le (by omega)]
    refine Tells.step (fun k => ?_) (Tells.pure _)
    simp only [impl_WrapCost.l0]
    rw [if_neg (by omega)]
    show some (sum, true) = some (sum + 0, true)
    rw [Int.add_zero]
  | d + 1, i, sum, hd, g0, g1 => by
    have hi : i < ls.length := by omega
    have hsz := hs (ls[i]'hi) (List.getElem_mem _)
    obtain ⟨s0, s1, s2⟩ := sum_step hs hl h0 h1 hi g0 g1
    have ih := impl_cost_l0 w ls hl hs h0 h1 d (i + 1) _ (by omega) s0 s1
    have ew : wrap64 ((i : Int) + 1) = ((i + 1 : Nat) : Int) := by rw [wr64 (by omega) (by omega)]; rfl
    have el : ((i : Int) == wrap64 ((ls.length : Int) - 1)) = decide (i + 1 = ls.length) := by
      rw [wr64 (by omega) (by omega)]
      show decide ((i : Int) = (ls.length : Int) - 1) = _
      exact decide_eq_decide.2 (by omega)
    rw [cost_drop w ls i hi, ← Int.add_assoc]
    refine Tells.step (fun k => ?_) ih
    simp only [impl_WrapCost.l0]
    rw [if_pos (by omega), if_pos (by omega), if_pos (by omega), rdS_get (by omega), el, impl_lineCost_tells (by omega) (by omega) h0 h1, Option.bind_some, s2, ew]

theorem lineCost_fits {a w : Int} (h : ¬ a > w) : lineCost a w true = 0 := by
  unfold lineCost
  rw [if_neg h, if_pos rfl]

theorem lineCost_over {a w : Int} (h : a > w) : lineCost a w true = lineCost a w false := by
  unfold lineCost
  rw [if_pos h, if_pos h]

theorem spec_cost_l0 (w : Int) (ls : List ByteArray) (hl : ls.length ≤ 18) (hs : ∀ l ∈ ls, l.size ≤ 300) (h0 : 0 ≤ w) (h1 : w ≤ 200) : ∀ (d i : Nat) (sum : Int), i + d = ls.length → 0 ≤ sum → sum ≤ 10000000 * i →
    Tells (fun k => spec_l12Lines.l0 k ls w sum (i : Int)) (sum + costLines w (ls.drop i))
  | 0, i, sum, hd, g0, g1 => by
    rw [List.drop_of_length_le (by omega)]
    refine Tells.step (fun k => ?_) (Tells.pure _)
    simp only [spec_l12Lines.l0]
    rw [if_neg (by omega)]
    show some sum = some (sum + 0)
    rw [Int.add_zero]
  | d + 1, i, sum, hd, g0, g1 => by
    have hi : i < ls.length := by omega
    have hsz := hs (ls[i]'hi) (List.getElem_mem _)
    obtain ⟨s0, s1, s2⟩ := sum_step hs hl h0 h1 hi g0 g1
    have ih := spec_cost_l0 w ls hl hs h0 h1 d (i + 1) _ (by omega) s0 s1
    have ew : wrap64 ((i : Int) + 1) = ((i + 1 : Nat) : Int) := by rw [wr64 (by omega) (by omega)]; rfl
    rw [cost_drop w ls i hi, ← Int.add_assoc]
    refine Tells.step (fun k => ?_) ih
    simp only [spec_l12Lines.l0]
    rw [if_pos (by omega), ew, rdS_get (by omega)]
    by_cases hlast : i + 1 = ls.length
    · rw [decide_eq_true hlast] at s2 ⊢
      rw [if_neg (by omega), if_pos (by omega)]
      by_cases hw : ((ls[i]'hi).size : Int) > w
      · rw [lineCost_over hw] at s2 ⊢
        rw [if_pos hw, spec_cost_tells (by omega) (by omega) h0 h1, Option.bind_some, s2]
      · rw [lineCost_fits hw, if_neg hw, Int.add_zero]
    · rw [decide_eq_false hlast] at s2 ⊢
      rw [if_pos (by omega), if_pos (by omega), spec_cost_tells (by omega) (by omega) h0 h1, Option.bind_some, s2]

theorem okWidth_iff (w : Int) : okWidth w = true ↔ 0 ≤ w ∧ w ≤ 200 := by
  unfold okWidth
  rw [Bool.and_eq_true, decide_eq_true_iff, decide_eq_true_iff]

theorem cost_no {ls : List ByteArray} {w : Int} (h : ¬ ((wordsOf ls).2 = true ∧ 0 ≤ w ∧ w ≤ 200)) : wrapCost ls w = (0, false) := by
  unfold wrapCost
  rw [if_neg]
  rw [Bool.and_eq_true, okWidth_iff]; exact h

theorem impl_cost (ls : List ByteArray) (w : Int) (h : Lines ls) : Tells (fun k => impl_WrapCost.f k ls w) (wrapCost ls w) := by
  unfold impl_WrapCost.f
  refine Tells.bind (impl_wordsOf ls h) ?_
  by_cases ho : (wordsOf ls).2 = true
  · refine Tells.iteT ho ?_
    by_cases h0 : 0 ≤ w
    · refine Tells.iteF (by omega) ?_
      by_cases h1 : w ≤ 200
      · obtain ⟨hl, hs⟩ := line_small ho
        have hc := impl_cost_l0 w ls hl hs h0 h1 ls.length 0 0 (by omega) (by omega) (by omega)
        rw [List.drop_zero, Int.zero_add] at hc
        have e : wrapCost ls w = (costLines w ls, true) := by
          unfold wrapCost
          rw [if_pos]
          rw [Bool.and_eq_true, okWidth_iff]; exact ⟨ho, h0, h1⟩
        rw [e]
        refine Tells.step (fun k => by simp only [impl_WrapCost.j0]; rw [if_neg (by rw [decide_eq_true_iff]; omega)]) ?_
        exact hc
      · rw [cost_no (fun q => h1 q.2.2)]
        exact Tells.step (fun k => by simp only [impl_WrapCost.j0]; rw [if_pos (by rw [decide_eq_true_iff]; omega)]) (Tells.pure _)
    · rw [cost_no (fun q => h0 q.2.1)]
      exact Tells.iteT (by omega) (Tells.step (fun k => by simp only [impl_WrapCost.j0]; rw [if_pos trivial]) (Tells.pure _))
  · rw [cost_no (fun q => ho q.1)]
    exact Tells.iteF ho (Tells.step (fun k => by simp only [impl_WrapCost.j0]; rw [if_pos trivial]) (Tells.pure _))

theorem spec_cost (ls : List ByteArray) (w : Int) (h : Lines ls) : Tells (fun k => spec_WrapCost.f k ls w) (wrapCost ls w) := by
  unfold spec_WrapCost.f
  refine Tells.bind (spec_wordsOf ls h) ?_
  by_cases ho : (wordsOf ls).2 = true
  · refine Tells.iteT ho ?_
    by_cases h0 : 0 ≤ w
    · refine Tells.iteF (by omega) ?_
      by_cases h1 : w ≤ 200
      · obtain ⟨hl, hs⟩ := line_small ho
        have hc := spec_cost_l0 w ls hl hs h0 h1 ls.length 0 0 (by omega) (by omega) (by omega)
        rw [List.drop_zero, Int.zero_add] at hc
        have e : wrapCost ls w = (costLines w ls, true) := by
          unfold wrapCost
          rw [if_pos]
          rw [Bool.and_eq_true, okWidth_iff]; exact ⟨ho, h0, h1⟩
        rw [e]
        exact Tells.iteF (by omega) (Tells.bind hc (Tells.pure _))
      · rw [cost_no (fun q => h1 q.2.2)]
        exact Tells.iteT (by omega) (Tells.pure _)
    · rw [cost_no (fun q => h0 q.2.1)]
      exact Tells.iteT (by omega) (Tells.pure _)
  · rw [cost_no (fun q => ho q.1)]
    exact Tells.iteF ho (Tells.pure _)

theorem cost_wrap {ws ls : List ByteArray} {w : Int} (h : IsWrap ws ls) (ho : (wordsOk ws && okWidth w) = true) : wrapCost ls w = (costLines w ls, true) := by
  have hok := (Bool.and_eq_true _ _).mp ho
  unfold wrapCost
  rw [wordsOf_wrap h hok.1, if_pos]
  exact (Bool.and_eq_true _ _).mpr ⟨rfl, hok.2⟩

end DocPure
