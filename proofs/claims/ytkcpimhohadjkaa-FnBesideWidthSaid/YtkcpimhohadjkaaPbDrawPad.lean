/- What the reference draws for PadLines. -/
import Derived.Test.YtkcpimhohadjkaaPPbx0
import Derived.Test.YtkcpimhohadjkaaPPbx12
import Derived.Test.YtkcpimhohadjkaaPbDocDraw
import Derived.Test.YtkcpimhohadjkaaPbPadRows
namespace DocPure
open Go.RowKit Go.Proofs.Ytkcpimhohadjkaa.PPb Go.Proofs.YtkcpimhohadjkaaW.PrintWords

theorem drawPad {l : List Int} (hl : ∀ x ∈ l, (Go.Lit.int .u8 x).wf = true) : ∃ (rows : List Row) (w : Int), Tells (fun k => spec_DrawPadLines.f k l) (rows, w) ∧ SmallR rows ∧ -1 ≤ w ∧ w ≤ 2600 := by
  obtain ⟨b, hb, ho⟩ := open_code hl
  obtain ⟨rows, q, hr, hs, q0, q1⟩ := draw2_tells hb 0 (by omega) (by omega)
  obtain ⟨n, hn, hnt⟩ := num_tells hb (p := q) q0 (by omega) [0, 2, 5, (-1), 200] (by decide)
  have hnr : -1 ≤ n ∧ n ≤ 200 := by simp at hn; omega
  have hw := widthOf_le rows
  have e : wrap64 (((widthOf rows : Nat) : Int) + n) = (widthOf rows : Int) + n := wr64 (by omega) (by omega)
  refine ⟨rows, (widthOf rows : Int) + n, ?_, hs, by omega, by omega⟩
  refine Tells.congr (fun k => by unfold spec_DrawPadLines.f; rw [ho, Option.bind_some]) ?_
  refine Tells.bind hr (Tells.bind (spec_width rows hs) (Tells.bind hnt (Tells.of fun k => ?_)))
  show some (rows, wrap64 (((widthOf rows : Nat) : Int) + n)) = _
  rw [e]

end DocPure
