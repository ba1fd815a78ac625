/- Which words and widths can be wrapped. -/
import Derived.Test.YtkpnmninkmnbjaaDoorPKax0
import Derived.Test.YtkpnmninkmnbjaaDoorPKax2
import Derived.Test.YtkpnmninkmnbjaaDoorPKax4
import Derived.Test.YtkpnmninkmnbjaaDoorKaWordsOk
namespace DocPure
open Go.RowKit Go.Proofs.YtkpnmninkmnbjaaDoor.PKa Go.Proofs.YtkpnmninkmnbjaaDoorW.PrintWords

def okWidth (w : Int) : Bool := decide (0 ≤ w) && decide (w ≤ 200)

theorem impl_wrapOk_tells (ws : List ByteArray) (w : Int) (hs : Small ws) : Tells (fun k => impl_wrapOk.f k ws w) (wordsOk ws && okWidth w) := by
  unfold impl_wrapOk.f
  refine Tells.bind (impl_words ws hs) ?_
  refine Tells.of fun k => ?_
  unfold okWidth
  cases wordsOk ws with
  | false => rfl
  | true =>
    rw [if_pos rfl, Bool.true_and]
    by_cases h : 0 ≤ w
    · rw [if_pos h, decide_eq_true h, Bool.true_and]
    · rw [if_neg h, decide_eq_false h, Bool.false_and]

theorem spec_wrapOk_tells (ws : List ByteArray) (w : Int) (hs : Small ws) : Tells (fun k => spec_l12Right.f k ws w) (wordsOk ws && okWidth w) := by
  unfold spec_l12Right.f
  refine Tells.bind (spec_words ws hs) ?_
  refine Tells.of fun k => ?_
  unfold okWidth
  cases wordsOk ws with
  | false => rfl
  | true =>
    rw [if_pos rfl, Bool.true_and]
    by_cases h : 0 ≤ w
    · rw [if_pos h, decide_eq_true h, Bool.true_and]
    · rw [if_neg h, decide_eq_false h, Bool.false_and]

theorem ok_parts {ws : List ByteArray} {w : Int} (h : (wordsOk ws && okWidth w) = true) : ws.length ≤ 18 ∧ (∀ s ∈ ws, 1 ≤ s.size ∧ s.size ≤ 12) ∧ 0 ≤ w ∧ w ≤ 200 := by
  rw [Bool.and_eq_true] at h
  obtain ⟨h1, h2⟩ := words_small h.1
  have := h.2
  unfold okWidth at this
  rw [Bool.and_eq_true, decide_eq_true_eq, decide_eq_true_eq] at this
  exact ⟨h1, h2, this.1, this.2⟩

end DocPure
