/- The program's WrapGreedy returns what the reference's returns, for all lists of words and all widths. -/
import Derived.Test.YtcbjlaphoajngaaPWrx
import Derived.Test.YtcbjlaphoajngaaWrGreedy1
import Derived.Test.YtcbjlaphoajngaaWrStrs
import Derived.Test.YtcbjlaphoajngaaWrMarkStrs
namespace DocPure
open Go.RowKit Go.Proofs.Ytcbjlaphoajngaa.PWr Go.Proofs.YtcbjlaphoajngaaW.PrintWords

theorem lawExactGreedy (l : List ByteArray) (w : Int) (hl : l.length ≤ 9223372036854775807) (hm : ∀ s ∈ l, s.size ≤ 9223372036854775807) : Tells (fun k => laws_FnExactWrapGreedy.f k l w) true := by
  obtain ⟨r, hr, hp⟩ := szStrs l hl hm 1048576 (by omega) (by omega)
  unfold laws_FnExactWrapGreedy.f
  refine Tells.bind hr ?_
  rcases hp with hp | ⟨h0, h1, h2, h3⟩
  · exact Tells.iteT hp (Tells.pure _)
  · have hsm : Small l := ⟨by omega, fun s hs => by have := h3 s hs; omega⟩
    have hi := impl_greedy l w hsm
    have hq := wrapGreedy_len l w
    refine Tells.iteF (by omega) (Tells.bind (toStrs l h2) (Tells.bind (spec_greedy l w hsm) (Tells.bind (toStrs l h2) (Tells.bind hi (Tells.bind (eqStrs _ _ (by omega)) ?_)))))
    simp only [decide_true, if_true, bne_self_eq_false]
    refine Tells.step (fun k => by simp only [laws_FnExactWrapGreedy.j0]; rw [if_neg (by decide)]) ?_
    refine Tells.bind (toStrs l h2) (Tells.bind (eqStrs _ _ h2) ?_)
    simp only [decide_true, if_true]
    refine Tells.bind (markStrs l 1 (by omega) (by omega)) ?_
    refine Tells.iteF (by simp only []; omega) (Tells.bind (eqStrs _ _ (by omega)) ?_)
    simp only [decide_true, if_true, bne_self_eq_false]
    refine Tells.step (fun k => by simp only [laws_FnExactWrapGreedy.j1]; rw [if_neg (by decide)]) ?_
    refine Tells.bind (markStrs _ 1 (by omega) (by omega)) (Tells.bind (heldStrs _ 1 (by omega) (by omega)) ?_)
    refine Tells.iteF (by omega) (Tells.iteT rfl (Tells.bind (toStrs l h2) (Tells.bind hi (Tells.bind (eqStrs _ _ (by omega)) ?_))))
    simp only [decide_true, if_true, bne_self_eq_false]
    refine Tells.step (fun k => by simp only [laws_FnExactWrapGreedy.j2]; rw [if_neg (by decide)]) ?_
    refine Tells.bind (heldStrs _ 1 (by omega) (by omega)) (Tells.iteF (by omega) (Tells.iteT rfl (Tells.pure true)))

end DocPure
namespace Go.Proofs.Ytcbjlaphoajngaa.Pure
open Go.Proofs.Ytcbjlaphoajngaa.PWr

theorem FnExactWrapGreedy : ∀ (l : List ByteArray), (l.length ≤ maxLen ∧ ∀ s ∈ l, s.size ≤ maxLen) → ∀ (w : Int), (Lit.int .i64 w).wf = true → ∃ k, laws_FnExactWrapGreedy.f k l w = some true :=
  fun l h w _ => (DocPure.lawExactGreedy l w h.1 h.2).ex

end Go.Proofs.Ytcbjlaphoajngaa.Pure
