/- The program's PadLines returns what the reference's returns, for all pages and widths. -/
import Derived.Test.YtkcpimhohadjkaaPPex0
import Derived.Test.YtkcpimhohadjkaaPPex7
import Derived.Test.YtkcpimhohadjkaaPePadRows
import Derived.Test.YtkcpimhohadjkaaPeRowsHelp
import Derived.Test.YtkcpimhohadjkaaPeStrs1
import Derived.Test.YtkcpimhohadjkaaPeMarkRows
namespace DocPure
open Go.RowKit Go.Proofs.Ytkcpimhohadjkaa.PPe Go.Proofs.YtkcpimhohadjkaaW.PrintWords

theorem lawExactPad (l : List S69) (w : Int) (hl : l.length ≤ 9223372036854775807) (hm : ∀ s ∈ l, s.f1.size ≤ 9223372036854775807) : Tells (fun k => laws_FnExactPadLines.f k l w) true := by
  obtain ⟨r, hr, hp⟩ := szRows l hl hm 1048576 (by omega) (by omega)
  unfold laws_FnExactPadLines.f
  refine Tells.bind hr ?_
  rcases hp with hp | ⟨h0, h1, h2, h3⟩
  · exact Tells.iteT hp (Tells.pure _)
  · have hsm := toRows_small l h2 h3
    have hlm : (l.map toR).length ≤ 1048576 := by rw [List.length_map]; exact h2
    have hq := padLines_len (l.map toR) w
    have hi := impl_pad _ hsm w
    obtain ⟨t', hmk⟩ := markRows (l.map toR) hlm
    refine Tells.iteF (by omega) (Tells.bind (toRows l h2) (Tells.bind (spec_pad _ hsm w) (Tells.bind (toRows l h2) (Tells.bind hi (Tells.bind (eqStrs _ _ (by omega)) ?_)))))
    simp only [decide_true, if_true, bne_self_eq_false]
    refine Tells.step (fun k => by simp only [laws_FnExactPadLines.j0]; rw [if_neg (by decide)]) ?_
    refine Tells.bind (toRows l h2) (Tells.bind (eqRows _ hlm) (Tells.iteT rfl (Tells.bind hmk ?_)))
    refine Tells.iteF (by simp only []; omega) (Tells.bind (eqStrs _ _ (by omega)) ?_)
    simp only [decide_true, if_true, bne_self_eq_false]
    refine Tells.step (fun k => by simp only [laws_FnExactPadLines.j1]; rw [if_neg (by decide)]) ?_
    refine Tells.bind (markStrs _ 1 (by omega) (by omega)) (Tells.bind (heldStrs _ 1 (by omega) (by omega)) ?_)
    refine Tells.iteF (by omega) (Tells.iteT rfl (Tells.bind (toRows l h2) (Tells.bind hi (Tells.bind (eqStrs _ _ (by omega)) ?_))))
    simp only [decide_true, if_true, bne_self_eq_false]
    refine Tells.step (fun k => by simp only [laws_FnExactPadLines.j2]; rw [if_neg (by decide)]) ?_
    refine Tells.bind (heldStrs _ 1 (by omega) (by omega)) (Tells.iteF (by omega) (Tells.iteT rfl (Tells.pure true)))

end DocPure
namespace Go.Proofs.Ytkcpimhohadjkaa.Pure
open Go.Proofs.Ytkcpimhohadjkaa.PPe

theorem FnExactPadLines : ∀ (l : List S69), (l.length ≤ maxLen ∧ ∀ s ∈ l, (Lit.int .i64 s.f0).wf = true ∧ s.f1.size ≤ maxLen) → ∀ (w : Int), (Lit.int .i64 w).wf = true → ∃ k, laws_FnExactPadLines.f k l w = some true :=
  fun l h w _ => (DocPure.lawExactPad l w h.1 (fun s hs => (h.2 s hs).2)).ex

end Go.Proofs.Ytkcpimhohadjkaa.Pure
