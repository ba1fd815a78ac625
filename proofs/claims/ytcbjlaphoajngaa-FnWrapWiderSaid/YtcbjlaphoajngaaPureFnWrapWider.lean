/- Wider pages have no more lines, for every input. -/
import Derived.Test.YtcbjlaphoajngaaPWrx
import Derived.Test.YtcbjlaphoajngaaWrGreedy1
import Derived.Test.YtcbjlaphoajngaaWrDaTexts
import Derived.Test.YtcbjlaphoajngaaWrDrawWords
namespace DocPure
open Go.RowKit Go.Proofs.Ytcbjlaphoajngaa.PWr Go.Proofs.YtcbjlaphoajngaaW.PrintWords

theorem Drawn.small {ws : List ByteArray} (h : Drawn ws) : Small ws := ⟨by have := h.len; omega, fun s hs => by have := h.sz s hs; omega⟩

theorem lawWrapWider (l : List Int) (hl : ∀ x ∈ l, (Go.Lit.int .u8 x).wf = true) (hs : l.length ≤ 1048576) : Tells (fun k => laws_FnWrapWider.f k l) true := by
  obtain ⟨ws, w, hd, hD, hw0, hw1⟩ := drawCase hl
  have hsm := hD.small
  have hq := wrapGreedy_len ws w
  refine Tells.congr (fun k => by unfold laws_FnWrapWider.f; rw [if_neg (by omega)]) ?_
  refine Tells.bind (r := (ws, w)) (by unfold spec_DrawWrapGreedy.f; exact Tells.bind hd (Tells.pure _)) ?_
  refine Tells.bind (impl_greedy ws w hsm) (Tells.bind (spec_greedy ws w hsm) (Tells.bind (daTexts _ _ (by omega)) ?_))
  simp only [decide_true, if_true, bne_self_eq_false]
  refine Tells.congr (fun k => if_neg (by decide)) ?_
  by_cases ho : (wordsOk ws && okWidth w) = true
  · have e1 : wrapGreedy ws w = (greedy w [] ws, true) := by unfold wrapGreedy; rw [if_pos ho]
    rw [e1]
    refine Tells.step (fun k => by simp only [laws_FnWrapWider.j0]; rw [if_neg (by decide), wr64 (by omega) (by omega)]) ?_
    refine Tells.bind (impl_greedy ws (w + 1) hsm) ?_
    by_cases ho' : (wordsOk ws && okWidth (w + 1)) = true
    · have e2 : wrapGreedy ws (w + 1) = (greedy (w + 1) [] ws, true) := by unfold wrapGreedy; rw [if_pos ho']
      rw [e2]
      have := greedy_wider (width := w) (wide := w + 1) (by omega) ws
      refine Tells.of fun k => ?_
      show some (decide (((greedy (w + 1) [] ws).length : Int) ≤ ((greedy w [] ws).length : Int))) = some true
      rw [decide_eq_true (by omega)]
    · have e2 : wrapGreedy ws (w + 1) = ([], false) := by unfold wrapGreedy; rw [if_neg ho']
      rw [e2]
      exact Tells.of fun k => rfl
  · have e1 : wrapGreedy ws w = ([], false) := by unfold wrapGreedy; rw [if_neg ho]
    rw [e1]
    refine Tells.step (fun k => by simp only [laws_FnWrapWider.j0]; rw [if_pos (by decide)]) (Tells.bind (daTexts _ _ (by simp)) ?_)
    exact Tells.of fun k => rfl

end DocPure
namespace Go.Proofs.Ytcbjlaphoajngaa.Pure
open Go.RowKit Go.Proofs.Ytcbjlaphoajngaa.PWr Go.Proofs.YtcbjlaphoajngaaW.PrintWords Go.Proofs.YtcbjlaphoajngaaW.PrintLast

theorem FnWrapWider : laws_FnWrapWider.Pure := by
  intro l _ _ hl
  by_cases h : l.length ≤ 1048576
  · exact (DocPure.lawWrapWider l hl h).ex
  · exact ⟨0, by unfold laws_FnWrapWider.f; rw [if_pos (by omega)]⟩

end Go.Proofs.Ytcbjlaphoajngaa.Pure
