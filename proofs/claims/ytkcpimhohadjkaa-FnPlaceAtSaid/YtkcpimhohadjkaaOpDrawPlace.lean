/- What the reference draws for PlaceAt and OffsetOf. -/
import Derived.Test.YtkcpimhohadjkaaPOpx0
import Derived.Test.YtkcpimhohadjkaaPOpx9
import Derived.Test.YtkcpimhohadjkaaOpDocDraw
namespace DocPure
open Go.RowKit Go.Proofs.Ytkcpimhohadjkaa.POp Go.Proofs.YtkcpimhohadjkaaW.PrintWords

theorem drawPlaceAt {l : List Int} (hl : ∀ x ∈ l, (Go.Lit.int .u8 x).wf = true) : ∃ (rows : List Row) (n : Int), Tells (fun k => spec_DrawPlaceAt.f k l) (rows, n) ∧ SmallR rows ∧ -1 ≤ n ∧ n ≤ 200 := by
  obtain ⟨b, hb, ho⟩ := open_code hl
  obtain ⟨rows, q, hr, hs, q0, q1⟩ := draw2_tells hb 0 (by omega) (by omega)
  obtain ⟨n, hn, hnt⟩ := num_tells hb (p := q) q0 (by omega) [0, 1, 3, 5, 9, (-1), 200] (by decide)
  have hnr : -1 ≤ n ∧ n ≤ 200 := by simp at hn; omega
  refine ⟨rows, n, ?_, hs, hnr.1, hnr.2⟩
  refine Tells.congr (fun k => by unfold spec_DrawPlaceAt.f; rw [ho, Option.bind_some]) ?_
  exact Tells.bind hr (Tells.bind hnt (Tells.of fun k => rfl))

end DocPure
