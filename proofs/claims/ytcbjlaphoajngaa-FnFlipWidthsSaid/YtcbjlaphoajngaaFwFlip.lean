/- The printed FlipCells of the program and of the reference are the plain one. -/
import Derived.Test.YtcbjlaphoajngaaPFwx0
import Derived.Test.YtcbjlaphoajngaaPFwx4
import Derived.Test.YtcbjlaphoajngaaPFwx7
import Derived.Test.YtcbjlaphoajngaaFwTableOk
import Derived.Test.YtcbjlaphoajngaaTab
namespace DocPure
open Go.RowKit Go.Proofs.Ytcbjlaphoajngaa.PFw Go.Proofs.YtcbjlaphoajngaaW.PrintWords

def flipCells (cells : Cells) : Cells × Bool := if tableOk cells then (flipT cells, true) else ([], false)

def upto (cells : Cells) (m c : Nat) : List ByteArray := (cells.take m).map fun r => cellIn r c

theorem upto_succ {cells : Cells} {i : Nat} (h : i < cells.length) (c : Nat) : upto cells (i + 1) c = upto cells i c ++ [cellIn (cells[i]) c] := by
  unfold upto
  rw [List.take_succ_eq_append_getElem h, List.map_append]; rfl

theorem upto_len {cells : Cells} {m : Nat} (h : m ≤ cells.length) (c : Nat) : (upto cells m c).length = m := by
  unfold upto
  rw [List.length_map, List.length_take]; omega

def partFlip (cells : Cells) (i j : Nat) : Cells := tab (colsOf cells) fun c => upto cells (if c < j then i + 1 else i) c

theorem partFlip_all (cells : Cells) (i : Nat) : partFlip cells i (colsOf cells) = partFlip cells (i + 1) 0 :=
  tab_congr fun c hc => by rw [if_pos hc, if_neg (by omega)]

theorem partFlip_end (cells : Cells) : partFlip cells cells.length 0 = flipT cells :=
  tab_congr fun c _ => by rw [if_neg (by omega)]; unfold upto colAt; rw [List.take_of_length_le (Nat.le_refl _)]

theorem impl_flip_l1 {cells : Cells} (hr : Rect cells) (h1 : cells.length ≤ 20) (h2 : colsOf cells ≤ 20) (i : Nat) (hi : i < cells.length) (q : Cells × Bool)
    (hq : Tells (fun k => impl_FlipCells.l0 k (partFlip cells (i + 1) 0) cells (cells.length : Int) (wrap64 ((i : Int) + 1))) q) : ∀ (d j : Nat), j + d = colsOf cells →
    Tells (fun k => impl_FlipCells.l1 k (partFlip cells i j) cells (cells.length : Int) (i : Int) (cells[i]) ((cells[i]).length : Int) (j : Int)) q
  | 0, j, hd => by
    have hl := hr.row _ (List.getElem_mem hi)
    obtain rfl : j = colsOf cells := by omega
    rw [partFlip_all]
    refine Tells.step (fun k => ?_) hq
    simp only [impl_FlipCells.l1]
    rw [if_neg (by omega)]
  | d + 1, j, hd => by
    have hl := hr.row _ (List.getElem_mem hi)
    have ih := impl_flip_l1 hr h1 h2 i hi q hq d (j + 1) (by omega)
    have hw : wrap64 ((j : Int) + 1) = ((j + 1 : Nat) : Int) := by rw [wr64 (by omega) (by omega)]; rfl
    have hp : (partFlip cells i j).length = colsOf cells := tab_len _ _
    have hrow : rd_L3 (partFlip cells i j) (j : Int) = upto cells i j := by
      rw [rd_row (by omega)]
      unfold partFlip
      rw [tab_get, if_neg (by omega)]
    have hu := upto_len (cells := cells) (m := i) (by omega) j
    refine Tells.step (fun k => ?_) ih
    simp only [impl_FlipCells.l1]
    rw [if_pos (by omega), if_pos (by omega), if_pos (by omega), if_pos (by omega), hrow, if_pos (by omega), hw, Int.toNat_natCast, rdS_get (by omega)]
    congr 1
    unfold partFlip
    rw [tab_set]
    refine tab_congr fun c hc => ?_
    by_cases e : c = j
    · subst e
      rw [if_pos rfl, if_pos (by omega), upto_succ hi, cellIn_get (by omega)]
    · rw [if_neg e]
      by_cases e2 : c < j
      · rw [if_pos e2, if_pos (by omega)]
      · rw [if_neg e2, if_neg (by omega)]

theorem impl_flip_l0 {cells : Cells} (hr : Rect cells) (h1 : cells.length ≤ 20) (h2 : colsOf cells ≤ 20) : ∀ (d i : Nat), i + d = cells.length →
    Tells (fun k => impl_FlipCells.l0 k (partFlip cells i 0) cells (cells.length : Int) (i : Int)) (flipT cells, true)
  | 0, i, hd => by
    obtain rfl : i = cells.length := by omega
    rw [partFlip_end]
    refine Tells.step (fun k => ?_) (Tells.pure _)
    simp only [impl_FlipCells.l0]
    rw [if_neg (by omega)]
  | d + 1, i, hd => by
    have ih := impl_flip_l0 hr h1 h2 d (i + 1) (by omega)
    have hw : wrap64 ((i : Int) + 1) = ((i + 1 : Nat) : Int) := by rw [wr64 (by omega) (by omega)]; rfl
    refine Tells.step (fun k => ?_) (impl_flip_l1 hr h1 h2 i (by omega) _ (by rw [hw]; exact ih) (colsOf cells) 0 (by omega))
    simp only [impl_FlipCells.l0]
    rw [if_pos (by omega), if_pos (by omega), if_pos (by omega), rd_row (by omega)]; rfl

theorem impl_flip (cells : Cells) (hs : SmallT cells) : Tells (fun k => impl_FlipCells.f k cells) (flipCells cells) := by
  unfold impl_FlipCells.f flipCells
  refine Tells.bind (impl_table cells hs) ?_
  cases h : tableOk cells with
  | false => exact Tells.of fun k => rfl
  | true =>
    obtain ⟨hr, h1, h2, -⟩ := table_rect h
    have h3 := hr.rows
    have e : partFlip cells 0 0 = List.replicate (colsOf cells) [] := by
      rw [tab_rep]
      exact tab_congr fun c _ => rfl
    have := impl_flip_l0 hr h1 h2 cells.length 0 (by omega)
    rw [e] at this
    refine Tells.congr (fun k => ?_) this
    have hcol : (rd_L3 cells 0).length = colsOf cells := rfl
    rw [if_pos rfl, if_pos (by omega), hcol, if_pos (by omega), if_pos (by omega), Int.toNat_natCast]; rfl

theorem spec_flip_l1 {cells : Cells} (hr : Rect cells) (h1 : cells.length ≤ 20) (h2 : colsOf cells ≤ 20) (acc : Cells) (hacc : acc.length ≤ 20) (c : Nat) (hc : c < colsOf cells) (q : Cells × Bool)
    (hq : Tells (fun k => spec_FlipCells.l0 k cells (acc ++ [colAt cells c]) (wrap64 ((c : Int) + 1))) q) : ∀ (d i : Nat), i + d = cells.length →
    Tells (fun k => spec_FlipCells.l1 k cells acc (c : Int) (upto cells i c) (i : Int)) q
  | 0, i, hd => by
    obtain rfl : i = cells.length := by omega
    have e : upto cells cells.length c = colAt cells c := by unfold upto colAt; rw [List.take_of_length_le (Nat.le_refl _)]
    rw [e]
    refine Tells.step (fun k => ?_) hq
    simp only [spec_FlipCells.l1]
    rw [if_neg (by omega), if_pos (by omega)]
  | d + 1, i, hd => by
    have hl := hr.row _ (List.getElem_mem (l := cells) (n := i) (by omega))
    have ih := spec_flip_l1 hr h1 h2 acc hacc c hc q hq d (i + 1) (by omega)
    have hw : wrap64 ((i : Int) + 1) = ((i + 1 : Nat) : Int) := by rw [wr64 (by omega) (by omega)]; rfl
    have hu := upto_len (cells := cells) (m := i) (by omega) c
    refine Tells.step (fun k => ?_) ih
    simp only [spec_FlipCells.l1]
    rw [if_pos (by omega), if_pos (by omega), if_pos (by omega), rd_row (by omega), if_pos (by omega), if_pos (by omega), hw, rdS_get (by omega), upto_succ (by omega), cellIn_get (by omega)]

theorem spec_flip_l0 {cells : Cells} (hr : Rect cells) (h1 : cells.length ≤ 20) (h2 : colsOf cells ≤ 20) : ∀ (d c : Nat), c + d = colsOf cells →
    Tells (fun k => spec_FlipCells.l0 k cells ((flipT cells).take c) (c : Int)) (flipT cells, true)
  | 0, c, hd => by
    have hf := flip_len cells
    have h3 := hr.rows
    have hcol : (rd_L3 cells 0).length = colsOf cells := rfl
    rw [List.take_of_length_le (by omega)]
    refine Tells.step (fun k => ?_) (Tells.pure _)
    simp only [spec_FlipCells.l0]
    rw [if_pos (by omega), hcol, if_neg (by omega)]
  | d + 1, c, hd => by
    have hf := flip_len cells
    have h3 := hr.rows
    have hcol : (rd_L3 cells 0).length = colsOf cells := rfl
    have ih := spec_flip_l0 hr h1 h2 d (c + 1) (by omega)
    have hw : wrap64 ((c : Int) + 1) = ((c + 1 : Nat) : Int) := by rw [wr64 (by omega) (by omega)]; rfl
    have e : (flipT cells).take (c + 1) = (flipT cells).take c ++ [colAt cells c] := by
      rw [List.take_succ_eq_append_getElem (by omega)]
      congr 2
      simp [flipT]
    rw [e] at ih
    refine Tells.step (fun k => ?_) (spec_flip_l1 hr h1 h2 ((flipT cells).take c) (by rw [List.length_take]; omega) c (by omega) _ (by rw [hw]; exact ih) cells.length 0 (by omega))
    simp only [spec_FlipCells.l0]
    rw [if_pos (by omega), hcol, if_pos (by omega)]; rfl

theorem spec_flip (cells : Cells) (hs : SmallT cells) : Tells (fun k => spec_FlipCells.f k cells) (flipCells cells) := by
  unfold spec_FlipCells.f flipCells
  refine Tells.congr (fun k => Option.bind_some _ _) (Tells.bind (spec_table cells hs) ?_)
  cases h : tableOk cells with
  | false => exact Tells.of fun k => rfl
  | true =>
    obtain ⟨hr, h1, h2, -⟩ := table_rect h
    exact Tells.congr (fun k => if_pos rfl) (spec_flip_l0 hr h1 h2 (colsOf cells) 0 (by omega))

end DocPure
