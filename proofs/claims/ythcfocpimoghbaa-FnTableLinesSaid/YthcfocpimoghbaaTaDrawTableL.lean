/- What the reference draws for the lines of a table. -/
import Derived.Test.YthcfocpimoghbaaPTax0
import Derived.Test.YthcfocpimoghbaaPTax2
import Derived.Test.YthcfocpimoghbaaTaDrawTable
namespace DocPure
open Go.RowKit Go.Proofs.Ythcfocpimoghbaa.PTa Go.Proofs.YthcfocpimoghbaaW.PrintWords

theorem drawLines {l : List Int} (hl : ∀ x ∈ l, (Go.Lit.int .u8 x).wf = true) : ∃ cells gap, Tells (fun k => spec_DrawTableLines.f k l) (cells, gap) ∧ DrawnT cells ∧ -1 ≤ gap ∧ gap ≤ 11 := by
  obtain ⟨b, hb, ho⟩ := open_code hl
  obtain ⟨cells, p, h, hd, h0, h1⟩ := drawTable hb
  obtain ⟨g, hg, h'⟩ := num_tells hb (p := p) h0 (by omega) [1, 2, 0, 3, 11, (-1)] (by decide)
  have hr : -1 ≤ g ∧ g ≤ 11 := by simp at hg; omega
  refine ⟨cells, g, ?_, hd, hr.1, hr.2⟩
  refine Tells.congr (fun k => by unfold spec_DrawTableLines.f; rw [ho, Option.bind_some]) ?_
  exact Tells.bind h (Tells.bind h' (Tells.pure _))

end DocPure
