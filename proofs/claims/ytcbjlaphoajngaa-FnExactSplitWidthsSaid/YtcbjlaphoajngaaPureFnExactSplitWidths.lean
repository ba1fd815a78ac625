/- impl's SplitWidths returns what the reference's returns, for all arguments of at most 1048576 numbers (beyond that the law answers true at once). -/
import Derived.Test.YtcbjlaphoajngaaPSpx3
import Derived.Test.YtcbjlaphoajngaaSpLink
import Derived.Test.YtcbjlaphoajngaaSpInts
namespace DocPure
open Go.RowKit Go.Proofs.Ytcbjlaphoajngaa.PSp Go.Proofs.YtcbjlaphoajngaaW.PrintWords

theorem spSplit_len (need : List Int) (w : Int) : (spSplit need w).1.length ≤ 20 := by
  by_cases h : okSplit need w = true
  · have := (split_fair h).len
    have := (okSplit_iff.1 h).2.1
    omega
  · unfold spSplit; rw [if_neg h]; simp

theorem exactSplit (l : List Int) (a : Int) (hl : l.length ≤ 1048576) : Tells (fun k => laws_FnExactSplitWidths.f k l a) true := by
  have hs := spSplit_len l a
  have hi := impl_split l a
  refine Tells.congr (fun k => by unfold laws_FnExactSplitWidths.f; rw [if_neg (by omega)]) ?_
  refine Tells.bind (toInts l hl) (Tells.bind (spec_split l a (by omega)) (Tells.bind (toInts l hl) (Tells.bind hi (Tells.bind (eqInts _ _ (by omega)) ?_))))
  simp only [decide_true, if_true, bne_self_eq_false]
  refine Tells.step (fun k => by simp only [laws_FnExactSplitWidths.j0]; rw [if_neg (by decide)]) ?_
  refine Tells.bind (toInts l hl) (Tells.bind (eqInts _ _ hl) ?_)
  simp only [decide_true, if_true]
  refine Tells.bind (markInts l hl) ?_
  refine Tells.iteF (by simp only []; omega) (Tells.bind (eqInts _ _ (by omega)) ?_)
  simp only [decide_true, if_true, bne_self_eq_false]
  refine Tells.step (fun k => by simp only [laws_FnExactSplitWidths.j1]; rw [if_neg (by decide)]) ?_
  refine Tells.bind (markInts _ (by omega)) (Tells.bind (heldInts _ (by omega)) ?_)
  refine Tells.iteF (by omega) (Tells.iteT rfl (Tells.bind (toInts l hl) (Tells.bind hi (Tells.bind (eqInts _ _ (by omega)) ?_))))
  simp only [decide_true, if_true, bne_self_eq_false]
  refine Tells.step (fun k => by simp only [laws_FnExactSplitWidths.j2]; rw [if_neg (by decide)]) ?_
  refine Tells.bind (heldInts _ (by omega)) (Tells.iteF (by omega) (Tells.iteT rfl (Tells.pure true)))

end DocPure
namespace Go.Proofs.Ytcbjlaphoajngaa.Pure
open Go.RowKit Go.Proofs.Ytcbjlaphoajngaa.PSp Go.Proofs.YtcbjlaphoajngaaW.PrintWords Go.Proofs.YtcbjlaphoajngaaW.PrintLast

theorem FnExactSplitWidths : laws_FnExactSplitWidths.Pure := by
  intro l a _ _ _ _
  by_cases h : l.length ≤ 1048576
  · exact (DocPure.exactSplit l a h).ex
  · exact ⟨0, by unfold laws_FnExactSplitWidths.f; rw [if_pos (by omega)]⟩

end Go.Proofs.Ytcbjlaphoajngaa.Pure
