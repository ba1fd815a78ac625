/- The program's OffsetOf returns what the reference's returns, for all pages and places. -/
import Derived.Test.YthcfocpimoghbaaPRox0
import Derived.Test.YthcfocpimoghbaaPRox5
import Derived.Test.YthcfocpimoghbaaPRox8
import Derived.Test.YthcfocpimoghbaaRoRowsHelp
import Derived.Test.YthcfocpimoghbaaRoOffset
namespace DocPure
open Go.RowKit Go.Proofs.Ythcfocpimoghbaa.PRo Go.Proofs.YthcfocpimoghbaaW.PrintWords

theorem lawExactOffset (l : List S62) (a b : Int) (hl : l.length ≤ 9223372036854775807) (hm : ∀ s ∈ l, s.f1.size ≤ 9223372036854775807) : Tells (fun k => laws_FnExactOffsetOf.f k l a b) true := by
  obtain ⟨r, hr, hp⟩ := szRows l hl hm 1048576 (by omega) (by omega)
  unfold laws_FnExactOffsetOf.f
  refine Tells.bind hr ?_
  rcases hp with hp | ⟨h0, h1, h2, h3⟩
  · exact Tells.iteT hp (Tells.pure _)
  · have hsm := toRows_small l h2 h3
    refine Tells.iteF (by omega) (Tells.bind (toRows l h2) ?_)
    simp only [laws_toPlace.f, Option.bind_some]
    refine Tells.bind (spec_offset _ hsm a b) (Tells.bind (toRows l h2) (Tells.bind (impl_offset _ hsm a b) (Tells.iteT rfl ?_)))
    simp only [bne_self_eq_false]
    refine Tells.step (fun k => by simp only [laws_FnExactOffsetOf.j0]; rw [if_neg (by decide)]) ?_
    exact Tells.bind (toRows l h2) (Tells.bind (eqRows _ (by rw [List.length_map]; exact h2)) (Tells.iteT rfl (Tells.pure true)))

end DocPure
namespace Go.Proofs.Ythcfocpimoghbaa.Pure
open Go.Proofs.Ythcfocpimoghbaa.PRo

theorem FnExactOffsetOf : ∀ (l : List S62), (l.length ≤ maxLen ∧ ∀ s ∈ l, (Lit.int .i64 s.f0).wf = true ∧ s.f1.size ≤ maxLen) → ∀ (a b : Int), ((Lit.int .i64 a).wf = true ∧ (Lit.int .i64 b).wf = true) → ∃ k, laws_FnExactOffsetOf.f k l a b = some true :=
  fun l h a b _ => (DocPure.lawExactOffset l a b h.1 (fun s hs => (h.2 s hs).2)).ex

end Go.Proofs.Ythcfocpimoghbaa.Pure
