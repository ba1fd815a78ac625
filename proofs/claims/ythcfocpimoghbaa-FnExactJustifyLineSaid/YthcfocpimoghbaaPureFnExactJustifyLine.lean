/- The program's JustifyLine returns what the reference's returns, for all lists of words and all widths. -/
import Derived.Test.YthcfocpimoghbaaPJux0
import Derived.Test.YthcfocpimoghbaaPJux5
import Derived.Test.YthcfocpimoghbaaJuJust
import Derived.Test.YthcfocpimoghbaaJuStrs
namespace DocPure
open Go.RowKit Go.Proofs.Ythcfocpimoghbaa.PJu Go.Proofs.YthcfocpimoghbaaW.PrintWords

theorem lawExactJustify (l : List ByteArray) (w : Int) (hl : l.length ≤ 9223372036854775807) (hm : ∀ s ∈ l, s.size ≤ 9223372036854775807) : Tells (fun k => laws_FnExactJustifyLine.f k l w) true := by
  obtain ⟨r, hr, hp⟩ := szStrs l hl hm 1048576 (by omega) (by omega)
  unfold laws_FnExactJustifyLine.f
  refine Tells.bind hr ?_
  rcases hp with hp | ⟨h0, h1, h2, h3⟩
  · exact Tells.iteT hp (Tells.pure _)
  · have hsm : Small l := ⟨by omega, fun s hs => by have := h3 s hs; omega⟩
    have ht := total_bound l h3
    have ht2 : total l ≤ 1099511627776 := Nat.le_trans ht (Nat.mul_le_mul (Nat.le_refl 1048576) h2)
    refine Tells.iteF (by omega) (Tells.bind (toStrs l h2) (Tells.bind (spec_just l w hsm h2 ht2) (Tells.bind (toStrs l h2) (Tells.bind (impl_just l w hsm h2 ht2) ?_))))
    refine Tells.iteT rfl ?_
    simp only [bne_self_eq_false]
    refine Tells.step (fun k => by simp only [laws_FnExactJustifyLine.j0]; rw [if_neg (by decide)]) ?_
    refine Tells.bind (toStrs l h2) (Tells.bind (eqStrs _ _ h2) ?_)
    simp only [decide_true, if_true]
    exact Tells.pure _

end DocPure
namespace Go.Proofs.Ythcfocpimoghbaa.Pure
open Go.Proofs.Ythcfocpimoghbaa.PJu

theorem FnExactJustifyLine : ∀ (l : List ByteArray), (l.length ≤ maxLen ∧ ∀ s ∈ l, s.size ≤ maxLen) → ∀ (w : Int), (Lit.int .i64 w).wf = true → ∃ k, laws_FnExactJustifyLine.f k l w = some true :=
  fun l h w _ => (DocPure.lawExactJustify l w h.1 h.2).ex

end Go.Proofs.Ythcfocpimoghbaa.Pure
