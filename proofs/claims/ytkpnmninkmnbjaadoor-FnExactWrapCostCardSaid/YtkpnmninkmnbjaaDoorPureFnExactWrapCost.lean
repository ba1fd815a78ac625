/- The program's WrapCost returns what the reference's returns, for all lists of lines and all widths. -/
import Derived.Test.YtkpnmninkmnbjaaDoorPKax0
import Derived.Test.YtkpnmninkmnbjaaDoorPKax8
import Derived.Test.YtkpnmninkmnbjaaDoorKaCostOf
import Derived.Test.YtkpnmninkmnbjaaDoorKaStrs
namespace DocPure
open Go.RowKit Go.Proofs.YtkpnmninkmnbjaaDoor.PKa Go.Proofs.YtkpnmninkmnbjaaDoorW.PrintWords

theorem lawExactWrapCost (l : List ByteArray) (w : Int) (hl : l.length ≤ 9223372036854775807) (hm : ∀ s ∈ l, s.size ≤ 9223372036854775807) : Tells (fun k => laws_FnExactWrapCost.f k l w) true := by
  obtain ⟨r, hr, hp⟩ := szStrs l hl hm 1048576 (by omega) (by omega)
  unfold laws_FnExactWrapCost.f
  refine Tells.bind hr ?_
  rcases hp with hp | ⟨h0, h1, h2, h3⟩
  · exact Tells.iteT hp (Tells.pure _)
  · have hL : Lines l := ⟨h2, h3⟩
    refine Tells.iteF (by omega) (Tells.bind (toStrs l h2) (Tells.bind (spec_cost l w hL) (Tells.bind (toStrs l h2) (Tells.bind (impl_cost l w hL) (Tells.iteT rfl ?_)))))
    refine Tells.step (fun k => by simp only [laws_FnExactWrapCost.j0]; rw [if_neg (by rw [bne_self_eq_false]; decide)]) ?_
    exact Tells.bind (toStrs l h2) (Tells.bind (eqStrs _ _ h2) (Tells.iteT (decide_eq_true rfl) (Tells.pure true)))

end DocPure
namespace Go.Proofs.YtkpnmninkmnbjaaDoor.Pure
open Go.RowKit Go.Proofs.YtkpnmninkmnbjaaDoor.PKa

theorem FnExactWrapCost : ∀ (l : List ByteArray), (l.length ≤ maxLen ∧ ∀ s ∈ l, s.size ≤ maxLen) → ∀ (w : Int), (Go.Lit.int .i64 w).wf = true → ∃ k, laws_FnExactWrapCost.f k l w = some true :=
  fun l h w _ => (DocPure.lawExactWrapCost l w h.1 h.2).ex

end Go.Proofs.YtkpnmninkmnbjaaDoor.Pure
