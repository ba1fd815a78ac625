/- The program's PlaceAt returns what the reference's returns, for all pages and offsets. -/
import Derived.Test.YthcfocpimoghbaaPRox0
import Derived.Test.YthcfocpimoghbaaPRox9
import Derived.Test.YthcfocpimoghbaaRoRowsHelp
import Derived.Test.YthcfocpimoghbaaRoOffset
namespace DocPure
open Go.RowKit Go.Proofs.Ythcfocpimoghbaa.PRo Go.Proofs.YthcfocpimoghbaaW.PrintWords

theorem eqPlace_same (a b : Int) : laws_eqPlace.f a b a b = some true := by
  unfold laws_eqPlace.f
  rw [if_pos rfl, if_pos rfl]

theorem lawExactPlace (l : List S62) (n : Int) (hn : n ≤ 9223372036854775807) (hl : l.length ≤ 9223372036854775807) (hm : ∀ s ∈ l, s.f1.size ≤ 9223372036854775807) : Tells (fun k => laws_FnExactPlaceAt.f k l n) true := by
  obtain ⟨r, hr, hp⟩ := szRows l hl hm 1048576 (by omega) (by omega)
  unfold laws_FnExactPlaceAt.f
  refine Tells.bind hr ?_
  rcases hp with hp | ⟨h0, h1, h2, h3⟩
  · exact Tells.iteT hp (Tells.pure _)
  · have hsm := toRows_small l h2 h3
    refine Tells.iteF (by omega) (Tells.bind (toRows l h2) ?_)
    refine Tells.bind (spec_place _ hsm n hn) (Tells.bind (toRows l h2) (Tells.bind (impl_place _ hsm n hn) ?_))
    simp only [eqPlace_same, Option.bind_some, if_true, bne_self_eq_false]
    refine Tells.step (fun k => by simp only [laws_FnExactPlaceAt.j0]; rw [if_neg (by decide)]) ?_
    exact Tells.bind (toRows l h2) (Tells.bind (eqRows _ (by rw [List.length_map]; exact h2)) (Tells.iteT rfl (Tells.pure true)))

end DocPure
namespace Go.Proofs.Ythcfocpimoghbaa.Pure
open Go.Proofs.Ythcfocpimoghbaa.PRo

theorem FnExactPlaceAt : ∀ (l : List S62), (l.length ≤ maxLen ∧ ∀ s ∈ l, (Lit.int .i64 s.f0).wf = true ∧ s.f1.size ≤ maxLen) → ∀ (n : Int), (Lit.int .i64 n).wf = true → ∃ k, laws_FnExactPlaceAt.f k l n = some true :=
  fun l h n hn => (DocPure.lawExactPlace l n (by simp only [Go.Lit.wf, Bool.and_eq_true, decide_eq_true_eq] at hn; exact hn.2) h.1 (fun s hs => (h.2 s hs).2)).ex

end Go.Proofs.Ythcfocpimoghbaa.Pure
