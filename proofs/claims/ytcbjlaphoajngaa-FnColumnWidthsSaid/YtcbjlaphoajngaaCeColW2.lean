/- The reference's ColumnWidths. -/
import Derived.Test.YtcbjlaphoajngaaPCex0
import Derived.Test.YtcbjlaphoajngaaPCex9
import Derived.Test.YtcbjlaphoajngaaCeColW
namespace DocPure
open Go.RowKit Go.Proofs.Ytcbjlaphoajngaa.PCe Go.Proofs.YtcbjlaphoajngaaW.PrintWords

theorem spec_colw (cells : Cells) (hs : SmallT cells) : Tells (fun k => spec_ColumnWidths.f k cells) (columnWidths cells) := by
  unfold spec_ColumnWidths.f columnWidths
  refine Tells.bind (spec_table cells hs) ?_
  cases h : tableOk cells with
  | false => exact Tells.of fun k => rfl
  | true =>
    obtain ⟨hr, h1, h2, -⟩ := table_rect h
    exact Tells.congr (fun k => if_pos rfl) (Tells.bind (spec_widths hr h1 h2) (Tells.pure _))

end DocPure
