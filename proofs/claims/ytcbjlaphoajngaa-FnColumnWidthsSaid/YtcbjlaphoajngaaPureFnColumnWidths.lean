/- Columns are wide enough, for every input: no cell is wider than its column, and some cell is as wide. -/
import Derived.Test.YtcbjlaphoajngaaPCex0
import Derived.Test.YtcbjlaphoajngaaPCex10
import Derived.Test.YtcbjlaphoajngaaPCex8
import Derived.Test.YtcbjlaphoajngaaCeColW2
import Derived.Test.YtcbjlaphoajngaaCeDaInts
import Derived.Test.YtcbjlaphoajngaaCeDrawTable
namespace DocPure
open Go.RowKit Go.Proofs.Ytcbjlaphoajngaa.PCe Go.Proofs.YtcbjlaphoajngaaW.PrintWords

theorem drawColumns {l : List Int} (hl : ∀ x ∈ l, (Go.Lit.int .u8 x).wf = true) : ∃ cells, Tells (fun k => spec_DrawColumnWidths.f k l) cells ∧ DrawnT cells := by
  obtain ⟨b, hb, ho⟩ := open_code hl
  obtain ⟨cells, p, h, hd, -, -⟩ := drawTable hb
  refine ⟨cells, ?_, hd⟩
  refine Tells.congr (fun k => by unfold spec_DrawColumnWidths.f; rw [ho, Option.bind_some]) ?_
  exact Tells.bind h (Tells.pure _)

section
variable {cells : Cells} (hr : Rect cells) (h1 : cells.length ≤ 20) (h2 : colsOf cells ≤ 20)

theorem colLaw_l1 {cells : Cells} (hr : Rect cells) (h1 : cells.length ≤ 20) (h2 : colsOf cells ≤ 20) (c : Nat) (hc : c < colsOf cells)
    (hq : Tells (fun k => laws_FnColumnWidths.l0 k cells (widthsT cells) (wrap64 ((c : Int) + 1))) true) : ∀ (d i : Nat) (some_ : Bool), i + d = cells.length →
    (some_ = true ∨ ∃ j, i ≤ j ∧ j < cells.length ∧ ((cellIn (rowAt cells j) c).size : Int) = colW cells c) →
    Tells (fun k => laws_FnColumnWidths.l1 k cells (widthsT cells) (c : Int) some_ (i : Int)) true
  | 0, i, s, hd, he => by
    have e : s = true := by
      rcases he with h | ⟨j, g1, g2, _⟩
      · exact h
      · omega
    subst e
    refine Tells.step (fun k => ?_) hq
    simp only [laws_FnColumnWidths.l1]
    rw [if_neg (by omega), if_pos trivial]
  | d + 1, i, s, hd, he => by
    have hl := hr.row _ (List.getElem_mem (l := cells) (n := i) (by omega))
    have hw : wrap64 ((i : Int) + 1) = ((i + 1 : Nat) : Int) := by rw [wr64 (by omega) (by omega)]; rfl
    have hwl := widths_len cells
    have hrd : rd (widthsT cells) (c : Int) = colW cells c := by rw [rd_get (by omega), widths_get]
    have hle := size_le_colW (cells := cells) (i := i) (k := c) (by omega)
    rw [rowAt_get (by omega), cellIn_get (by omega)] at hle
    by_cases hs : s = true
    · subst hs
      have ih := colLaw_l1 hr h1 h2 c hc hq d (i + 1) true (by omega) (.inl rfl)
      refine Tells.step (fun k => ?_) ih
      simp only [laws_FnColumnWidths.l1]
      rw [if_pos (by omega), if_pos (by omega), if_pos (by omega), rd_row (by omega), if_pos (by omega), if_pos (by omega), hrd, rdS_get (by omega), if_neg (by omega), if_pos trivial, hw]
    · have ih := colLaw_l1 hr h1 h2 c hc hq d (i + 1) ((((cells[i]'(by omega))[c]'(by omega)).size : Int) == colW cells c) (by omega) (by
        rcases he with h | ⟨j, g1, g2, g3⟩
        · exact absurd h hs
        · by_cases e : j = i
          · subst e
            rw [rowAt_get (by omega), cellIn_get (by omega)] at g3
            exact .inl (beq_iff_eq.2 g3)
          · exact .inr ⟨j, by omega, g2, g3⟩)
      refine Tells.step (fun k => ?_) ih
      simp only [laws_FnColumnWidths.l1]
      rw [if_pos (by omega), if_pos (by omega), if_pos (by omega), rd_row (by omega), if_pos (by omega), if_pos (by omega), hrd, rdS_get (by omega), if_neg (by omega), if_neg hs, hw]

theorem colLaw_l0 {cells : Cells} (hr : Rect cells) (h1 : cells.length ≤ 20) (h2 : colsOf cells ≤ 20) : ∀ (d c : Nat), c + d = colsOf cells →
    Tells (fun k => laws_FnColumnWidths.l0 k cells (widthsT cells) (c : Int)) true
  | 0, c, hd => by
    have hwl := widths_len cells
    have h3 := hr.rows
    have hcol : (rd_L3 cells 0).length = colsOf cells := rfl
    refine Tells.step (fun k => ?_) (Tells.pure _)
    simp only [laws_FnColumnWidths.l0]
    rw [if_neg (by omega), if_pos (by omega), beq_iff_eq.2 (by omega)]
  | d + 1, c, hd => by
    have ih := colLaw_l0 hr h1 h2 d (c + 1) (by omega)
    have hwl := widths_len cells
    have hw : wrap64 ((c : Int) + 1) = ((c + 1 : Nat) : Int) := by rw [wr64 (by omega) (by omega)]; rfl
    obtain ⟨j, hj, he⟩ := colW_some hr.rows c
    refine Tells.step (fun k => ?_) (colLaw_l1 hr h1 h2 c (by omega) (by rw [hw]; exact ih) cells.length 0 false (by omega) (.inr ⟨j, by omega, hj, he⟩))
    simp only [laws_FnColumnWidths.l0]
    rw [if_pos (by omega)]; rfl
end

theorem lawColumnWidths (l : List Int) (hl : ∀ x ∈ l, (Go.Lit.int .u8 x).wf = true) (hs : l.length ≤ 1048576) : Tells (fun k => laws_FnColumnWidths.f k l) true := by
  obtain ⟨cells, hd, hD⟩ := drawColumns hl
  have hsm := hD.small
  have hlen : (columnWidths cells).1.length ≤ 20 := by
    unfold columnWidths
    by_cases ho : tableOk cells = true
    · rw [if_pos ho]; have := (table_rect ho).2.2.1; have := widths_len cells; show (widthsT cells).length ≤ 20; omega
    · rw [if_neg ho]; simp
  refine Tells.congr (fun k => by unfold laws_FnColumnWidths.f; rw [if_neg (by omega)]) ?_
  refine Tells.bind hd (Tells.bind (impl_colw cells hsm) (Tells.bind (spec_colw cells hsm) (Tells.bind (daInts _ _ (by omega)) ?_)))
  simp only [decide_true, if_true, bne_self_eq_false]
  refine Tells.congr (fun k => if_neg (by decide)) ?_
  by_cases ho : tableOk cells = true
  · have e1 : columnWidths cells = (widthsT cells, true) := by unfold columnWidths; rw [if_pos ho]
    obtain ⟨hr, h1, h2, h3⟩ := table_rect ho
    rw [e1]
    exact Tells.step (fun k => by simp only [laws_FnColumnWidths.j0]; rw [if_neg (by decide)]; rfl) (colLaw_l0 hr h1 h2 (colsOf cells) 0 (by omega))
  · have e1 : columnWidths cells = ([], false) := by unfold columnWidths; rw [if_neg ho]
    rw [e1]
    refine Tells.step (fun k => by simp only [laws_FnColumnWidths.j0]; rw [if_pos (by decide)]) (Tells.bind (daInts _ _ (by simp)) ?_)
    exact Tells.of fun k => rfl

end DocPure
namespace Go.Proofs.Ytcbjlaphoajngaa.Pure
open Go.RowKit Go.Proofs.Ytcbjlaphoajngaa.PCe Go.Proofs.YtcbjlaphoajngaaW.PrintWords Go.Proofs.YtcbjlaphoajngaaW.PrintLast

theorem FnColumnWidths : laws_FnColumnWidths.Pure := by
  intro l _ _ hl
  by_cases h : l.length ≤ 1048576
  · exact (DocPure.lawColumnWidths l hl h).ex
  · exact ⟨0, by unfold laws_FnColumnWidths.f; rw [if_pos (by omega)]⟩

end Go.Proofs.Ytcbjlaphoajngaa.Pure
