/- The printed ColumnWidths of the program and of the reference are the plain one. -/
import Derived.Test.YthcfocpimoghbaaPTax0
import Derived.Test.YthcfocpimoghbaaPTax4
import Derived.Test.YthcfocpimoghbaaTaTableOk
import Derived.Test.YthcfocpimoghbaaTab
namespace DocPure
open Go.RowKit Go.Proofs.Ythcfocpimoghbaa.PTa Go.Proofs.YthcfocpimoghbaaW.PrintWords

def columnWidths (cells : Cells) : List Int × Bool := if tableOk cells then (widthsT cells, true) else ([], false)

/-- The width of column c in the first m rows. -/
def wUpto (cells : Cells) (m c : Nat) : Int := maxL (sizesOf ((cells.take m).map fun r => cellIn r c))

theorem wUpto_succ {cells : Cells} {i : Nat} (h : i < cells.length) (c : Nat) : wUpto cells (i + 1) c = max (wUpto cells i c) ((cellIn (cells[i]) c).size : Int) := by
  unfold wUpto sizesOf maxL
  rw [List.take_succ_eq_append_getElem h, List.map_append, List.map_append, List.foldl_append]; rfl

theorem wUpto_zero (cells : Cells) (c : Nat) : wUpto cells 0 c = 0 := rfl

def partW (cells : Cells) (i j : Nat) : List Int := tab (colsOf cells) fun c => wUpto cells (if c < j then i + 1 else i) c

theorem partW_all (cells : Cells) (i : Nat) : partW cells i (colsOf cells) = partW cells (i + 1) 0 :=
  tab_congr fun c hc => by rw [if_pos hc, if_neg (by omega)]

theorem partW_end (cells : Cells) : partW cells cells.length 0 = widthsT cells :=
  tab_congr fun c _ => by rw [if_neg (by omega)]; unfold wUpto colW colAt; rw [List.take_of_length_le (Nat.le_refl _)]

theorem partW_zero (cells : Cells) : partW cells 0 0 = List.replicate (colsOf cells) 0 := by
  rw [tab_rep]
  exact tab_congr fun c _ => by rw [if_neg (by omega), wUpto_zero]

theorem partW_step {cells : Cells} {i j : Nat} (hi : i < cells.length) (v : Int) (hv : v = max (wUpto cells i j) ((cellIn (cells[i]) j).size : Int)) : (partW cells i j).set j v = partW cells i (j + 1) := by
  unfold partW
  rw [tab_set]
  refine tab_congr fun c hc => ?_
  by_cases e : c = j
  · subst e
    rw [if_pos rfl, if_pos (by omega), wUpto_succ hi, hv]
  · rw [if_neg e]
    by_cases e2 : c < j
    · rw [if_pos e2, if_pos (by omega)]
    · rw [if_neg e2, if_neg (by omega)]

theorem partW_same {cells : Cells} {i j : Nat} (hi : i < cells.length) (h : wUpto cells i j = max (wUpto cells i j) ((cellIn (cells[i]) j).size : Int)) : partW cells i j = partW cells i (j + 1) := by
  unfold partW
  refine tab_congr fun c hc => ?_
  by_cases e : c = j
  · subst e
    rw [if_neg (by omega), if_pos (by omega), wUpto_succ hi]; exact h
  · by_cases e2 : c < j
    · rw [if_pos e2, if_pos (by omega)]
    · rw [if_neg e2, if_neg (by omega)]

theorem partW_len (cells : Cells) (i j : Nat) : (partW cells i j).length = colsOf cells := tab_len _ _

theorem partW_rd {cells : Cells} {i j : Nat} (h : j < colsOf cells) : rd (partW cells i j) (j : Int) = wUpto cells i j := by
  rw [rd_get (by rw [partW_len]; exact h)]
  unfold partW
  rw [tab_get, if_neg (by omega)]

theorem impl_colw_l1 {cells : Cells} (hr : Rect cells) (h1 : cells.length ≤ 20) (h2 : colsOf cells ≤ 20) (i : Nat) (hi : i < cells.length) (q : List Int × Bool)
    (hq : Tells (fun k => impl_ColumnWidths.l0 k (partW cells (i + 1) 0) cells (cells.length : Int) (wrap64 ((i : Int) + 1))) q) : ∀ (d j : Nat), j + d = colsOf cells →
    Tells (fun k => impl_ColumnWidths.l1 k (partW cells i j) cells (cells.length : Int) (i : Int) (cells[i]) ((cells[i]).length : Int) (j : Int)) q
  | 0, j, hd => by
    have hl := hr.row _ (List.getElem_mem hi)
    obtain rfl : j = colsOf cells := by omega
    rw [partW_all]
    refine Tells.step (fun k => ?_) hq
    simp only [impl_ColumnWidths.l1]
    rw [if_neg (by omega)]
  | d + 1, j, hd => by
    have hl := hr.row _ (List.getElem_mem hi)
    have ih := impl_colw_l1 hr h1 h2 i hi q hq d (j + 1) (by omega)
    have hw : wrap64 ((j : Int) + 1) = ((j + 1 : Nat) : Int) := by rw [wr64 (by omega) (by omega)]; rfl
    have hp := partW_len cells i j
    refine Tells.step (fun k => ?_) ih
    simp only [impl_ColumnWidths.l1]
    rw [if_pos (by omega), if_pos (by omega), if_pos (by omega), if_pos (by omega), hw, partW_rd (by omega), rdS_get (by omega), Int.toNat_natCast, partW_step hi _ (by unfold mx; rw [cellIn_get (by omega)]; split <;> omega)]

theorem impl_colw_l0 {cells : Cells} (hr : Rect cells) (h1 : cells.length ≤ 20) (h2 : colsOf cells ≤ 20) : ∀ (d i : Nat), i + d = cells.length →
    Tells (fun k => impl_ColumnWidths.l0 k (partW cells i 0) cells (cells.length : Int) (i : Int)) (widthsT cells, true)
  | 0, i, hd => by
    obtain rfl : i = cells.length := by omega
    rw [partW_end]
    refine Tells.step (fun k => ?_) (Tells.pure _)
    simp only [impl_ColumnWidths.l0]
    rw [if_neg (by omega)]
  | d + 1, i, hd => by
    have ih := impl_colw_l0 hr h1 h2 d (i + 1) (by omega)
    have hw : wrap64 ((i : Int) + 1) = ((i + 1 : Nat) : Int) := by rw [wr64 (by omega) (by omega)]; rfl
    refine Tells.step (fun k => ?_) (impl_colw_l1 hr h1 h2 i (by omega) _ (by rw [hw]; exact ih) (colsOf cells) 0 (by omega))
    simp only [impl_ColumnWidths.l0]
    rw [if_pos (by omega), if_pos (by omega), if_pos (by omega), rd_row (by omega)]; rfl

theorem impl_colw (cells : Cells) (hs : SmallT cells) : Tells (fun k => impl_ColumnWidths.f k cells) (columnWidths cells) := by
  unfold impl_ColumnWidths.f columnWidths
  refine Tells.bind (impl_table cells hs) ?_
  cases h : tableOk cells with
  | false => exact Tells.of fun k => rfl
  | true =>
    obtain ⟨hr, h1, h2, -⟩ := table_rect h
    have h3 := hr.rows
    have := impl_colw_l0 hr h1 h2 cells.length 0 (by omega)
    rw [partW_zero] at this
    refine Tells.congr (fun k => ?_) this
    have hcol : (rd_L3 cells 0).length = colsOf cells := rfl
    rw [if_pos rfl, if_pos (by omega), hcol, if_pos (by omega), if_pos (by omega), Int.toNat_natCast]; rfl

end DocPure
