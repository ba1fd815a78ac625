/- The program's WrapBest returns what the reference's returns, for all lists of words and all widths. -/
import Derived.Test.YthcfocpimoghbaaPWbx0
import Derived.Test.YthcfocpimoghbaaPWbx9
import Derived.Test.YthcfocpimoghbaaWbBestSpec
import Derived.Test.YthcfocpimoghbaaWbStrs
import Derived.Test.YthcfocpimoghbaaWbMarkStrs
namespace DocPure
open Go.RowKit Go.Proofs.Ythcfocpimoghbaa.PWb Go.Proofs.YthcfocpimoghbaaW.PrintWords

theorem wrapBest_len (ws : List ByteArray) (w : Int) : (wrapBest ws w).1.length ≤ 18 := by
  unfold wrapBest
  cases h : (wordsOk ws && okWidth w) with
  | false => simp
  | true =>
    have h1 := linesTo_len w ws.length ws
    have h2 := (ok_parts h).1
    show (linesTo w ws.length ws).length ≤ 18
    omega

theorem lawExactBest (l : List ByteArray) (w : Int) (hl : l.length ≤ 9223372036854775807) (hm : ∀ s ∈ l, s.size ≤ 9223372036854775807) : Tells (fun k => laws_FnExactWrapBest.f k l w) true := by
  obtain ⟨r, hr, hp⟩ := szStrs l hl hm 1048576 (by omega) (by omega)
  unfold laws_FnExactWrapBest.f
  refine Tells.bind hr ?_
  rcases hp with hp | ⟨h0, h1, h2, h3⟩
  · exact Tells.iteT hp (Tells.pure _)
  · have hsm : Small l := ⟨by omega, fun s hs => by have := h3 s hs; omega⟩
    have hi := impl_best l w hsm
    have hq := wrapBest_len l w
    refine Tells.iteF (by omega) (Tells.bind (toStrs l h2) (Tells.bind (spec_best l w hsm) (Tells.bind (toStrs l h2) (Tells.bind hi (Tells.bind (eqStrs _ _ (by omega)) ?_)))))
    simp only [decide_true, if_true, bne_self_eq_false]
    refine Tells.step (fun k => by simp only [laws_FnExactWrapBest.j0]; rw [if_neg (by decide)]) ?_
    refine Tells.bind (toStrs l h2) (Tells.bind (eqStrs _ _ h2) ?_)
    simp only [decide_true, if_true]
    refine Tells.bind (markStrs l 1 (by omega) (by omega)) ?_
    refine Tells.iteF (by simp only []; omega) (Tells.bind (eqStrs _ _ (by omega)) ?_)
    simp only [decide_true, if_true, bne_self_eq_false]
    refine Tells.step (fun k => by simp only [laws_FnExactWrapBest.j1]; rw [if_neg (by decide)]) ?_
    refine Tells.bind (markStrs _ 1 (by omega) (by omega)) (Tells.bind (heldStrs _ 1 (by omega) (by omega)) ?_)
    refine Tells.iteF (by omega) (Tells.iteT rfl (Tells.bind (toStrs l h2) (Tells.bind hi (Tells.bind (eqStrs _ _ (by omega)) ?_))))
    simp only [decide_true, if_true, bne_self_eq_false]
    refine Tells.step (fun k => by simp only [laws_FnExactWrapBest.j2]; rw [if_neg (by decide)]) ?_
    refine Tells.bind (heldStrs _ 1 (by omega) (by omega)) (Tells.iteF (by omega) (Tells.iteT rfl (Tells.pure true)))

end DocPure
namespace Go.Proofs.Ythcfocpimoghbaa.Pure
open Go.Proofs.Ythcfocpimoghbaa.PWb

theorem FnExactWrapBest : ∀ (l : List ByteArray), (l.length ≤ maxLen ∧ ∀ s ∈ l, s.size ≤ maxLen) → ∀ (w : Int), (Lit.int .i64 w).wf = true → ∃ k, laws_FnExactWrapBest.f k l w = some true :=
  fun l h w _ => (DocPure.lawExactBest l w h.1 h.2).ex

end Go.Proofs.Ythcfocpimoghbaa.Pure
