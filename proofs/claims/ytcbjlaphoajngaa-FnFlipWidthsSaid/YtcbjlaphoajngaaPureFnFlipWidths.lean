/- Flipping keeps cells, for every input: the widest column of the flipped table is as wide as that of the table. -/
import Derived.Test.YtcbjlaphoajngaaPFwx0
import Derived.Test.YtcbjlaphoajngaaPFwx2
import Derived.Test.YtcbjlaphoajngaaPFwx7
import Derived.Test.YtcbjlaphoajngaaPFwx8
import Derived.Test.YtcbjlaphoajngaaFwFlip
import Derived.Test.YtcbjlaphoajngaaFwColWI
import Derived.Test.YtcbjlaphoajngaaFwDaTexts
import Derived.Test.YtcbjlaphoajngaaFwDrawTable
namespace DocPure
open Go.RowKit Go.Proofs.Ytcbjlaphoajngaa.PFw Go.Proofs.YtcbjlaphoajngaaW.PrintWords

theorem drawFlip {l : List Int} (hl : ∀ x ∈ l, (Go.Lit.int .u8 x).wf = true) : ∃ cells, Tells (fun k => spec_DrawFlipCells.f k l) cells ∧ DrawnT cells := by
  obtain ⟨b, hb, ho⟩ := open_code hl
  obtain ⟨cells, p, h, hd, -, -⟩ := drawTable hb
  refine ⟨cells, ?_, hd⟩
  refine Tells.congr (fun k => by unfold spec_DrawFlipCells.f; rw [ho, Option.bind_some]) ?_
  exact Tells.bind h (Tells.pure _)

theorem most_l0 (l : List Int) (hl : l.length ≤ 1000) : ∀ (d i : Nat) (m : Int), i + d = l.length →
    Tells (fun k => laws_daMost.l0 k l m (i : Int)) ((l.drop i).foldl max m)
  | 0, i, m, hd => by
    rw [List.drop_of_length_le (by omega)]
    refine Tells.step (fun k => ?_) (Tells.pure _)
    simp only [laws_daMost.l0]
    rw [if_neg (by omega)]; rfl
  | d + 1, i, m, hd => by
    have ih := most_l0 l hl d (i + 1) (max m (l[i]'(by omega))) (by omega)
    have hw : wrap64 ((i : Int) + 1) = ((i + 1 : Nat) : Int) := by rw [wr64 (by omega) (by omega)]; rfl
    rw [List.drop_eq_getElem_cons (by omega), List.foldl_cons]
    refine Tells.step (fun k => ?_) ih
    simp only [laws_daMost.l0]
    rw [if_pos (by omega), if_pos (by omega), rd_get (by omega), hw]
    by_cases h : l[i]'(by omega) > m
    · rw [if_pos h, Int.max_eq_right (by omega)]
    · rw [if_neg h, Int.max_eq_left (by omega)]

theorem most (l : List Int) (hl : l.length ≤ 1000) : Tells (fun k => laws_daMost.f k l) (maxL l) := most_l0 l hl l.length 0 0 (by omega)

theorem lawFlipWidths (l : List Int) (hl : ∀ x ∈ l, (Go.Lit.int .u8 x).wf = true) (hs : l.length ≤ 1048576) : Tells (fun k => laws_FnFlipWidths.f k l) true := by
  obtain ⟨cells, hd, hD⟩ := drawFlip hl
  have hsm := hD.small
  refine Tells.congr (fun k => by unfold laws_FnFlipWidths.f; rw [if_neg (by omega)]) ?_
  refine Tells.bind hd (Tells.bind (impl_flip cells hsm) (Tells.bind (spec_flip cells hsm) (Tells.iteT rfl ?_)))
  rw [bne_self_eq_false]
  refine Tells.congr (fun k => if_neg (by decide)) ?_
  by_cases ho : tableOk cells = true
  · have e1 : flipCells cells = (flipT cells, true) := by unfold flipCells; rw [if_pos ho]
    have ho' := flip_table ho
    have w1 : columnWidths cells = (widthsT cells, true) := by unfold columnWidths; rw [if_pos ho]
    have w2 : columnWidths (flipT cells) = (widthsT (flipT cells), true) := by unfold columnWidths; rw [if_pos ho']
    obtain ⟨hr, h1, h2, h3⟩ := table_rect ho
    have hc := hr.cols
    have hfl := flip_len cells
    have hfc := flip_cols hr
    have l1 := widths_len cells
    have l2 := widths_len (flipT cells)
    have c1 := impl_colw cells hsm
    have c2 := impl_colw (flipT cells) (table_small ho')
    rw [w1] at c1
    rw [w2] at c2
    rw [e1]
    refine Tells.step (fun k => by simp only [laws_FnFlipWidths.j0]; rw [if_neg (by decide)]) ?_
    refine Tells.bind c1 (Tells.bind c2 (Tells.iteT rfl (Tells.iteT rfl (Tells.iteT (by first | omega | (simp only []; omega)) (Tells.iteT (by first | omega | (simp only []; omega)) ?_)))))
    refine Tells.bind (most _ (by first | omega | (simp only []; omega))) (Tells.bind (most _ (by first | omega | (simp only []; omega))) ?_)
    refine Tells.iteT (flip_widths hr).symm (Tells.iteT (by first | omega | (simp only []; omega)) (Tells.iteT (by first | omega | (simp only []; omega)) ?_))
    have hfr : rd_L3 (flipT cells) 0 = colAt cells 0 := flip_row hc
    simp only [hfr]
    refine Tells.bind (daTexts _ _ (by simp [colAt]; omega)) (Tells.of fun k => ?_)
    rw [decide_eq_true rfl]
  · have e1 : flipCells cells = ([], false) := by unfold flipCells; rw [if_neg ho]
    rw [e1]
    refine Tells.step (fun k => by simp only [laws_FnFlipWidths.j0]; rw [if_pos (by decide)]) ?_
    exact Tells.of fun k => rfl

end DocPure
namespace Go.Proofs.Ytcbjlaphoajngaa.Pure
open Go.RowKit Go.Proofs.Ytcbjlaphoajngaa.PFw Go.Proofs.YtcbjlaphoajngaaW.PrintWords Go.Proofs.YtcbjlaphoajngaaW.PrintLast

theorem FnFlipWidths : laws_FnFlipWidths.Pure := by
  intro l _ _ hl
  by_cases h : l.length ≤ 1048576
  · exact (DocPure.lawFlipWidths l hl h).ex
  · exact ⟨0, by unfold laws_FnFlipWidths.f; rw [if_pos (by omega)]⟩

end Go.Proofs.Ytcbjlaphoajngaa.Pure
