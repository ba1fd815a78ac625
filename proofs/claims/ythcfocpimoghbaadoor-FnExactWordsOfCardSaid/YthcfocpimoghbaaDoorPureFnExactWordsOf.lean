/- The program's WordsOf returns what the reference's returns, for all lists of lines. -/
import Derived.Test.YthcfocpimoghbaaDoorPWox0
import Derived.Test.YthcfocpimoghbaaDoorPWox5
import Derived.Test.YthcfocpimoghbaaDoorWoWordsOf
import Derived.Test.YthcfocpimoghbaaDoorWoStrs
import Derived.Test.YthcfocpimoghbaaDoorWoMarkStrs
namespace DocPure
open Go.RowKit Go.Proofs.YthcfocpimoghbaaDoor.PWo Go.Proofs.YthcfocpimoghbaaDoorW.PrintWords

theorem lawExactWordsOf (l : List ByteArray) (hl : l.length ≤ 9223372036854775807) (hm : ∀ s ∈ l, s.size ≤ 9223372036854775807) : Tells (fun k => laws_FnExactWordsOf.f k l) true := by
  obtain ⟨r, hr, hp⟩ := szStrs l hl hm 1048576 (by omega) (by omega)
  unfold laws_FnExactWordsOf.f
  refine Tells.bind hr ?_
  rcases hp with hp | ⟨h0, h1, h2, h3⟩
  · exact Tells.iteT hp (Tells.pure _)
  · have hL : Lines l := ⟨h2, h3⟩
    have hi := impl_wordsOf l hL
    have hq := wordsOf_len l
    refine Tells.iteF (by omega) (Tells.bind (toStrs l h2) (Tells.bind (spec_wordsOf l hL) (Tells.bind (toStrs l h2) (Tells.bind hi (Tells.bind (eqStrs _ _ (by omega)) ?_)))))
    simp only [decide_true, if_true, bne_self_eq_false]
    refine Tells.step (fun k => by simp only [laws_FnExactWordsOf.j0]; rw [if_neg (by decide)]) ?_
    refine Tells.bind (toStrs l h2) (Tells.bind (eqStrs _ _ h2) ?_)
    simp only [decide_true, if_true]
    refine Tells.bind (markStrs l 1 (by omega) (by omega)) ?_
    refine Tells.iteF (by simp only []; omega) (Tells.bind (eqStrs _ _ (by omega)) ?_)
    simp only [decide_true, if_true, bne_self_eq_false]
    refine Tells.step (fun k => by simp only [laws_FnExactWordsOf.j1]; rw [if_neg (by decide)]) ?_
    refine Tells.bind (markStrs _ 1 (by omega) (by omega)) (Tells.bind (heldStrs _ 1 (by omega) (by omega)) ?_)
    refine Tells.iteF (by omega) (Tells.iteT rfl (Tells.bind (toStrs l h2) (Tells.bind hi (Tells.bind (eqStrs _ _ (by omega)) ?_))))
    simp only [decide_true, if_true, bne_self_eq_false]
    refine Tells.step (fun k => by simp only [laws_FnExactWordsOf.j2]; rw [if_neg (by decide)]) ?_
    refine Tells.bind (heldStrs _ 1 (by omega) (by omega)) (Tells.iteF (by omega) (Tells.iteT rfl (Tells.pure true)))

end DocPure
namespace Go.Proofs.YthcfocpimoghbaaDoor.Pure
open Go.Proofs.YthcfocpimoghbaaDoor.PWo

theorem FnExactWordsOf : ∀ (l : List ByteArray), (l.length ≤ maxLen ∧ ∀ s ∈ l, s.size ≤ maxLen) → ∃ k, laws_FnExactWordsOf.f k l = some true :=
  fun l h => (DocPure.lawExactWordsOf l h.1 h.2).ex

end Go.Proofs.YthcfocpimoghbaaDoor.Pure
