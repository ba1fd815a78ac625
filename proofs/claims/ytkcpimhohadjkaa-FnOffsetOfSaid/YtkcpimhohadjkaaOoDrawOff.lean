/- What the reference draws for OffsetOf. -/
import Derived.Test.YtkcpimhohadjkaaPOox0
import Derived.Test.YtkcpimhohadjkaaPOox10
import Derived.Test.YtkcpimhohadjkaaOoDocDraw
namespace DocPure
open Go.RowKit Go.Proofs.Ytkcpimhohadjkaa.POo Go.Proofs.YtkcpimhohadjkaaW.PrintWords

theorem drawOffsetOf {l : List Int} (hl : ∀ x ∈ l, (Go.Lit.int .u8 x).wf = true) : ∃ (rows : List Row) (a c : Int), Tells (fun k => spec_DrawOffsetOf.f k l) (rows, a, c) ∧ SmallR rows := by
  obtain ⟨b, hb, ho⟩ := open_code hl
  obtain ⟨rows, q, hr, hs, q0, q1⟩ := draw2_tells hb 0 (by omega) (by omega)
  obtain ⟨n, hn, hnt⟩ := num_tells hb (p := q) q0 (by omega) [0, 1, 2, (-1), 0] (by decide)
  obtain ⟨m, hm, hmt⟩ := num_tells hb (p := q + 1) (by omega) (by omega) [0, 1, 2, 3, (-1), 50] (by decide)
  refine ⟨rows, n, m, ?_, hs⟩
  refine Tells.congr (fun k => by unfold spec_DrawOffsetOf.f; rw [ho, Option.bind_some]) ?_
  exact Tells.bind hr (Tells.bind hnt (Tells.bind hmt (Tells.of fun k => rfl)))

end DocPure
