/- Flipping is undone, for every input. -/
import Derived.Test.YtcbjlaphoajngaaPCex0
import Derived.Test.YtcbjlaphoajngaaPCex1
import Derived.Test.YtcbjlaphoajngaaPCex2
import Derived.Test.YtcbjlaphoajngaaPCex8
import Derived.Test.YtcbjlaphoajngaaCeFlip
import Derived.Test.YtcbjlaphoajngaaCeDaTexts
import Derived.Test.YtcbjlaphoajngaaCeDrawTable
namespace DocPure
open Go.RowKit Go.Proofs.Ytcbjlaphoajngaa.PCe Go.Proofs.YtcbjlaphoajngaaW.PrintWords

theorem drawFlip {l : List Int} (hl : ∀ x ∈ l, (Go.Lit.int .u8 x).wf = true) : ∃ cells, Tells (fun k => spec_DrawFlipCells.f k l) cells ∧ DrawnT cells := by
  obtain ⟨b, hb, ho⟩ := open_code hl
  obtain ⟨cells, p, h, hd, -, -⟩ := drawTable hb
  refine ⟨cells, ?_, hd⟩
  refine Tells.congr (fun k => by unfold spec_DrawFlipCells.f; rw [ho, Option.bind_some]) ?_
  exact Tells.bind h (Tells.pure _)

theorem flipLaw_l0 (cells x4 x6 : Cells) (h1 : cells.length ≤ 20) (hrow : ∀ r ∈ cells, r.length ≤ 20)
    (hend : Tells (fun k => if 0 < (cells.length : Int) then (if (x4.length : Int) = ((rd_L3 cells 0).length : Int) then (if 0 < (x4.length : Int) then (if 0 < (x6.length : Int) then ((laws_daTexts.f k (rd_L3 x4 0) (rd_L3 x6 0)).bind fun t => (some t)) else (none)) else (none)) else (some false)) else (none)) true) :
    ∀ (d i : Nat), i + d = cells.length → Tells (fun k => laws_FnFlipCells.l0 k cells x4 x6 cells (i : Int)) true
  | 0, i, hd => by
    refine Tells.step (fun k => ?_) hend
    simp only [laws_FnFlipCells.l0]
    rw [if_neg (by omega)]
  | d + 1, i, hd => by
    have ih := flipLaw_l0 cells x4 x6 h1 hrow hend d (i + 1) (by omega)
    have hw : wrap64 ((i : Int) + 1) = ((i + 1 : Nat) : Int) := by rw [wr64 (by omega) (by omega)]; rfl
    have hr := hrow _ (List.getElem_mem (l := cells) (n := i) (by omega))
    refine Tells.step (fun k => by simp only [laws_FnFlipCells.l0]; rw [if_pos (by omega), if_pos (by omega), if_pos (by omega), rd_row (by omega), hw]) ?_
    refine Tells.bind (daTexts _ _ (by omega)) ?_
    exact Tells.congr (fun k => if_pos (decide_eq_true rfl)) ih

theorem lawFlipCells (l : List Int) (hl : ∀ x ∈ l, (Go.Lit.int .u8 x).wf = true) (hs : l.length ≤ 1048576) : Tells (fun k => laws_FnFlipCells.f k l) true := by
  obtain ⟨cells, hd, hD⟩ := drawFlip hl
  have hsm := hD.small
  refine Tells.congr (fun k => by unfold laws_FnFlipCells.f; rw [if_neg (by omega)]) ?_
  refine Tells.bind hd (Tells.bind (impl_flip cells hsm) (Tells.bind (spec_flip cells hsm) (Tells.iteT rfl ?_)))
  rw [bne_self_eq_false]
  refine Tells.congr (fun k => if_neg (by decide)) ?_
  by_cases ho : tableOk cells = true
  · have e1 : flipCells cells = (flipT cells, true) := by unfold flipCells; rw [if_pos ho]
    have e2 : flipCells (flipT cells) = (cells, true) := by unfold flipCells; rw [if_pos (flip_table ho), flip_flip (table_rect ho).1]
    obtain ⟨hr, h1, h2, h3⟩ := table_rect ho
    have hc := hr.cols
    have hrows := hr.rows
    have hfl := flip_len cells
    rw [e1]
    refine Tells.step (fun k => by simp only [laws_FnFlipCells.j0]; rw [if_neg (by decide)]) ?_
    have hif := impl_flip (flipT cells) (table_small (flip_table ho))
    rw [e2] at hif
    refine Tells.bind hif ?_
    simp only [if_true, bne_self_eq_false]
    refine Tells.step (fun k => by simp only [laws_FnFlipCells.j1]; rw [if_neg (by decide)]) ?_
    refine flipLaw_l0 cells (flipT cells) (flipT cells) h1 (fun r hm => by have := hr.row r hm; omega) ?_ cells.length 0 (by omega)
    have hcol : (rd_L3 cells 0).length = colsOf cells := rfl
    have hfr : rd_L3 (flipT cells) 0 = colAt cells 0 := flip_row hc
    refine Tells.iteT (by omega) (Tells.iteT (by omega) (Tells.iteT (by omega) (Tells.iteT (by omega) ?_)))
    rw [hfr]
    refine Tells.bind (daTexts _ _ (by simp [colAt]; omega)) (Tells.of fun k => ?_)
    rw [decide_eq_true rfl]
  · have e1 : flipCells cells = ([], false) := by unfold flipCells; rw [if_neg ho]
    rw [e1]
    refine Tells.step (fun k => by simp only [laws_FnFlipCells.j0]; rw [if_pos (by decide)]) ?_
    exact Tells.of fun k => rfl

end DocPure
namespace Go.Proofs.Ytcbjlaphoajngaa.Pure
open Go.RowKit Go.Proofs.Ytcbjlaphoajngaa.PCe Go.Proofs.YtcbjlaphoajngaaW.PrintWords Go.Proofs.YtcbjlaphoajngaaW.PrintLast

theorem FnFlipCells : laws_FnFlipCells.Pure := by
  intro l _ _ hl
  by_cases h : l.length ≤ 1048576
  · exact (DocPure.lawFlipCells l hl h).ex
  · exact ⟨0, by unfold laws_FnFlipCells.f; rw [if_pos (by omega)]⟩

end Go.Proofs.Ytcbjlaphoajngaa.Pure
