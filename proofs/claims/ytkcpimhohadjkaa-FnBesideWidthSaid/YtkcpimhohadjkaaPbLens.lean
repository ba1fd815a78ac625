/- How long each row is. -/
import Derived.Test.YtkcpimhohadjkaaPPbx0
import Derived.Test.YtkcpimhohadjkaaPPbx2
import Derived.Test.YtkcpimhohadjkaaPPbx4
import Derived.Test.YtkcpimhohadjkaaPbLayout
namespace DocPure
open Go.RowKit Go.Proofs.Ytkcpimhohadjkaa.PPb Go.Proofs.YtkcpimhohadjkaaW.PrintWords

def lens (rows : List Row) : List Nat := rows.map rowLen

def OkRows (rows : List Row) : Prop := ∀ r ∈ rows, 0 ≤ r.f0 ∧ r.f0 ≤ 400 ∧ r.f1.size < 2000

theorem lens_le {rows : List Row} (h : OkRows rows) : ∀ x ∈ lens rows, x ≤ 2400 := by
  intro x hx
  obtain ⟨r, hr, rfl⟩ := List.mem_map.1 hx
  exact rowLen_le (h r hr)

theorem lens_get {rows : List Row} {i : Nat} (h : i < rows.length) : (lens rows)[i]'(by rw [lens, List.length_map]; exact h) = rowLen (rows[i]'h) := by
  simp [lens]

theorem impl_rowLen_at {rows : List Row} (hr : OkRows rows) {i : Nat} (h : i < rows.length) : impl_rowLen.f (rd_T59 rows (i : Int)).f0 (rd_T59 rows (i : Int)).f1 = some (rowLen (rows[i]'h) : Int) := by
  rw [rd_rows h]
  exact impl_rowLen_tells _ (hr _ (List.getElem_mem _))

theorem spec_line_at {rows : List Row} (hr : OkRows rows) {i : Nat} (h : i < rows.length) : Tells (fun k => spec_l2Line.f k (rd_T59 rows (i : Int)).f0 (rd_T59 rows (i : Int)).f1) (rowLine (rows[i]'h)) := by
  rw [rd_rows h]
  exact spec_l2Line_tells _ (hr _ (List.getElem_mem _))

theorem lens_drop {rows : List Row} {i : Nat} (h : i < rows.length) : (lens rows).drop i = rowLen (rows[i]'h) :: (lens rows).drop (i + 1) := by
  rw [List.drop_eq_getElem_cons (by rw [lens, List.length_map]; exact h), lens_get h]

end DocPure
