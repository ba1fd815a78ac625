/- What the reference draws for dividing widths. -/
import Derived.Test.YtcbjlaphoajngaaPSpx
import Derived.Test.YtcbjlaphoajngaaSpPick
import Derived.Test.YtcbjlaphoajngaaSplit
namespace DocPure
open Go.RowKit Go.Proofs.Ytcbjlaphoajngaa.PSp Go.Proofs.YtcbjlaphoajngaaW.PrintWords

theorem drawSplit_l0 {b : List Int} (hb : Code b) : ∀ (n : Nat) (acc : List Int) (p : Int), n ≤ 10 → acc.length + n ≤ 10 → 0 ≤ p → p + n < 1000 →
    ∃ need w, Tells (fun k => spec_DrawSplitWidths.l0 k acc (n : Int) b p) (need, w) ∧ need.length ≤ 10
  | 0, acc, p, h1, h2, h3, h4 => by
    obtain ⟨w, -, hw⟩ := num_tells hb h3 (by omega) [12, 20, 5, 30, 0, 100, (-1)] (by decide)
    refine ⟨acc, w, ?_, by omega⟩
    refine Tells.step (fun k => by simp only [spec_DrawSplitWidths.l0]; rw [if_neg (by omega)]) ?_
    exact Tells.bind hw (Tells.pure _)
  | n + 1, acc, p, h1, h2, h3, h4 => by
    obtain ⟨x, -, hx⟩ := num_tells hb h3 (by omega) [3, 10, 0, 7, 20, 1, 201] (by decide)
    obtain ⟨need, w, h, hl⟩ := drawSplit_l0 hb n (acc ++ [x]) (p + 1) (by omega) (by simp; omega) (by omega) (by omega)
    refine ⟨need, w, ?_, hl⟩
    refine Tells.step (fun k => by simp only [spec_DrawSplitWidths.l0]; rw [if_pos (by omega), wr64 (n := ((n + 1 : Nat) : Int) - 1) (by omega) (by omega), show ((n + 1 : Nat) : Int) - 1 = n from by omega]) ?_
    exact Tells.bind hx (Tells.iteT (by omega) h)

theorem drawSplit {l : List Int} (hl : ∀ x ∈ l, (Go.Lit.int .u8 x).wf = true) : ∃ need w, Tells (fun k => spec_DrawSplitWidths.f k l) (need, w) ∧ need.length ≤ 10 := by
  obtain ⟨b, hb, ho⟩ := open_code hl
  obtain ⟨n, hn, h⟩ := num_tells hb (p := 0) (by omega) (by omega) [3, 2, 4, 1, 0] (by decide)
  have hr : 0 ≤ n ∧ n ≤ 4 := by simp at hn; omega
  obtain ⟨need, w, h', hlen⟩ := drawSplit_l0 hb n.toNat [] (0 + 1) (by omega) (by simp; omega) (by omega) (by omega)
  rw [show ((n.toNat : Nat) : Int) = n from by omega] at h'
  refine ⟨need, w, ?_, hlen⟩
  refine Tells.congr (fun k => by unfold spec_DrawSplitWidths.f; rw [ho, Option.bind_some]) ?_
  exact Tells.bind h h'

theorem spSplit_len (need : List Int) (w : Int) : (spSplit need w).1.length ≤ 20 := by
  by_cases h : okSplit need w = true
  · have := (split_fair h).len
    have := (okSplit_iff.1 h).2.1
    omega
  · unfold spSplit; rw [if_neg h]; simp

end DocPure
