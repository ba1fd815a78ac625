/- A page can be padded just to the widths from its own one on, for every input. -/
import Derived.Test.YtkcpimhohadjkaaPPwx0
import Derived.Test.YtkcpimhohadjkaaPPwx10
import Derived.Test.YtkcpimhohadjkaaPwDrawPad
import Derived.Test.YtkcpimhohadjkaaPwDaTexts
namespace DocPure
open Go.RowKit Go.Proofs.Ytkcpimhohadjkaa.PPw Go.Proofs.YtkcpimhohadjkaaW.PrintWords

theorem padLines_ok {rows : List Row} (hv : layoutOk rows = true) (w : Int) : (padLines rows w).2 = decide ((widthOf rows : Int) ≤ w ∧ w ≤ 200) ∧ ((padLines rows w).2 = true → (padLines rows w).1.length = rows.length) := by
  unfold padLines padOk
  rw [hv, Bool.true_and]
  by_cases h : (widthOf rows : Int) ≤ w ∧ w ≤ 200
  · rw [decide_eq_true h, if_pos rfl]
    exact ⟨rfl, fun _ => by show (padded rows w).length = _; unfold padded; rw [List.length_map]⟩
  · rw [decide_eq_false h, if_neg (by decide)]
    exact ⟨rfl, fun q => by cases q⟩

theorem lawPadWide (l : List Int) (hl : ∀ x ∈ l, (Go.Lit.int .u8 x).wf = true) (hs : l.length ≤ 1048576) : Tells (fun k => laws_FnPadWide.f k l) true := by
  obtain ⟨rows, w, hd, hsm, hw0, hw1⟩ := drawPad hl
  have hlen := padLines_len rows w
  refine Tells.congr (fun k => by unfold laws_FnPadWide.f; rw [if_neg (by omega)]) ?_
  refine Tells.bind hd (Tells.bind (impl_pad rows hsm w) (Tells.bind (spec_pad rows hsm w) (Tells.bind (daTexts _ _ (by omega)) ?_)))
  simp only [decide_true, if_true, bne_self_eq_false]
  refine Tells.iteF (by decide) (Tells.bind (impl_layout rows hsm) ?_)
  by_cases hv : layoutOk rows = true
  · rw [hv]
    have hw := widthOf_le rows
    obtain ⟨a1, a2⟩ := padLines_ok hv w
    obtain ⟨b1, b2⟩ := padLines_ok hv (widthOf rows : Int)
    refine Tells.step (fun k => by simp only [laws_FnPadWide.j0]; rw [if_neg (by decide)]) (Tells.bind (impl_width rows hsm) (Tells.bind (impl_pad rows hsm (widthOf rows : Int)) ?_))
    have eb : decide ((widthOf rows : Int) ≤ (widthOf rows : Int) ∧ (widthOf rows : Int) ≤ 200) = decide ((widthOf rows : Int) ≤ 200) := decide_eq_decide.2 (by omega)
    rw [eb] at b1
    have fin : Tells (fun _ => if w ≥ (widthOf rows : Int) then some ((padLines rows w).2 == decide (w ≤ 200)) else some ((padLines rows w).2 == false)) true := by
      rw [a1]
      by_cases hge : w ≥ (widthOf rows : Int)
      · rw [if_pos hge, decide_eq_decide.2 (show ((widthOf rows : Int) ≤ w ∧ w ≤ 200) ↔ w ≤ 200 by omega), beq_self_eq_true]
        exact Tells.pure _
      · rw [if_neg hge, decide_eq_false (by omega)]
        exact Tells.pure _
    have e1 : ((padLines rows (widthOf rows : Int)).2 == decide ((widthOf rows : Int) ≤ 200)) = true := by rw [b1, beq_self_eq_true]
    refine Tells.iteT e1 ?_
    by_cases hb : (padLines rows (widthOf rows : Int)).2 = true
    · exact Tells.iteT hb (Tells.iteT (by have := b2 hb; omega) fin)
    · exact Tells.iteF hb fin
  · rw [Bool.not_eq_true] at hv
    rw [hv]
    refine Tells.step (fun k => by simp only [laws_FnPadWide.j0]; rw [if_pos (by decide)]) (Tells.bind (daTexts _ _ (by omega)) ?_)
    simp only [decide_true, if_true]
    exact Tells.of fun k => by rw [beq_self_eq_true]

end DocPure
namespace Go.Proofs.Ytkcpimhohadjkaa.Pure
open Go.RowKit Go.Proofs.Ytkcpimhohadjkaa.PPw Go.Proofs.YtkcpimhohadjkaaW.PrintWords Go.Proofs.YtkcpimhohadjkaaW.PrintLast

theorem FnPadWide : laws_FnPadWide.Pure := by
  intro l _ _ hl
  by_cases h : l.length ≤ 1048576
  · exact (DocPure.lawPadWide l hl h).ex
  · exact ⟨0, by unfold laws_FnPadWide.f; rw [if_pos (by omega)]⟩

end Go.Proofs.Ytkcpimhohadjkaa.Pure
