/- The printed ColumnWidths of the reference is the plain one. -/
import Derived.Test.YthcfocpimoghbaaPTax0
import Derived.Test.YthcfocpimoghbaaPTax8
import Derived.Test.YthcfocpimoghbaaTaColWI
namespace DocPure
open Go.RowKit Go.Proofs.Ythcfocpimoghbaa.PTa Go.Proofs.YthcfocpimoghbaaW.PrintWords

theorem spec_colw_l1 {cells : Cells} (hr : Rect cells) (h1 : cells.length ≤ 20) (h2 : colsOf cells ≤ 20) (i : Nat) (hi : i < cells.length) (q : List Int)
    (hq : Tells (fun k => spec_l13Widths.l0 k cells (partW cells (i + 1) 0) (wrap64 ((i : Int) + 1))) q) : ∀ (d j : Nat), j + d = colsOf cells →
    Tells (fun k => spec_l13Widths.l1 k cells (partW cells i j) (i : Int) (j : Int)) q
  | 0, j, hd => by
    have hl := hr.row _ (List.getElem_mem hi)
    obtain rfl : j = colsOf cells := by omega
    rw [partW_all]
    refine Tells.step (fun k => ?_) hq
    simp only [spec_l13Widths.l1]
    rw [if_pos (by omega), if_pos (by omega), rd_row hi, if_neg (by omega)]
  | d + 1, j, hd => by
    have hl := hr.row _ (List.getElem_mem hi)
    have ih := spec_colw_l1 hr h1 h2 i hi q hq d (j + 1) (by omega)
    have hw : wrap64 ((j : Int) + 1) = ((j + 1 : Nat) : Int) := by rw [wr64 (by omega) (by omega)]; rfl
    have hp := partW_len cells i j
    refine Tells.step (fun k => ?_) ih
    simp only [spec_l13Widths.l1]
    rw [if_pos (by omega), if_pos (by omega), rd_row hi, if_pos (by omega), if_pos (by omega), if_pos (by omega), hw, partW_rd (by omega), rdS_get (by omega), Int.toNat_natCast]
    have hc : cellIn (cells[i]) j = (cells[i])[j]'(by omega) := cellIn_get (by omega)
    by_cases hg : (((cells[i])[j]'(by omega)).size : Int) > wUpto cells i j
    · rw [if_pos hg, partW_step hi _ (by rw [hc]; omega)]
    · rw [if_neg hg, partW_same hi (by rw [hc]; omega)]

theorem spec_colw_l0 {cells : Cells} (hr : Rect cells) (h1 : cells.length ≤ 20) (h2 : colsOf cells ≤ 20) : ∀ (d i : Nat), i + d = cells.length →
    Tells (fun k => spec_l13Widths.l0 k cells (partW cells i 0) (i : Int)) (widthsT cells)
  | 0, i, hd => by
    obtain rfl : i = cells.length := by omega
    rw [partW_end]
    refine Tells.step (fun k => ?_) (Tells.pure _)
    simp only [spec_l13Widths.l0]
    rw [if_neg (by omega)]
  | d + 1, i, hd => by
    have ih := spec_colw_l0 hr h1 h2 d (i + 1) (by omega)
    have hw : wrap64 ((i : Int) + 1) = ((i + 1 : Nat) : Int) := by rw [wr64 (by omega) (by omega)]; rfl
    refine Tells.step (fun k => ?_) (spec_colw_l1 hr h1 h2 i (by omega) _ (by rw [hw]; exact ih) (colsOf cells) 0 (by omega))
    simp only [spec_l13Widths.l0]
    rw [if_pos (by omega)]; rfl

theorem spec_widths {cells : Cells} (hr : Rect cells) (h1 : cells.length ≤ 20) (h2 : colsOf cells ≤ 20) : Tells (fun k => spec_l13Widths.f k cells) (widthsT cells) := by
  have h3 := hr.rows
  have := spec_colw_l0 hr h1 h2 cells.length 0 (by omega)
  rw [partW_zero] at this
  refine Tells.congr (fun k => ?_) this
  have hcol : (rd_L3 cells 0).length = colsOf cells := rfl
  unfold spec_l13Widths.f
  rw [if_pos (by omega), hcol, if_pos (by omega), if_pos (by omega), Int.toNat_natCast]; rfl

end DocPure
