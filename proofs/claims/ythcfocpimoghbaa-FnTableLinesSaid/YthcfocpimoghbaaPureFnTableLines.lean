/- Tables are aligned, for every input: each cell stands where its column begins, and each line ends behind its last column. -/
import Derived.Test.YthcfocpimoghbaaPTax0
import Derived.Test.YthcfocpimoghbaaPTax10
import Derived.Test.YthcfocpimoghbaaTaColWI
import Derived.Test.YthcfocpimoghbaaTaTableL
import Derived.Test.YthcfocpimoghbaaTaDaTexts
import Derived.Test.YthcfocpimoghbaaTaDrawTableL
namespace DocPure
open Go.RowKit Go.Proofs.Ythcfocpimoghbaa.PTa Go.Proofs.YthcfocpimoghbaaW.PrintWords

def atCol (cells : Cells) (gap : Nat) (r : List ByteArray) (k : Nat) : Nat := total ((partsOf cells r).take k) + k * gap

theorem alignLaw_l1 {cells : Cells} (h : tableOk cells = true) (gap : Nat) (hg : gap ≤ 10) (i : Nat) (hi : i < cells.length)
    (hq : Tells (fun k => laws_FnTableLines.l0 k cells (gap : Int) (tableL cells gap) (widthsT cells) true (wrap64 ((i : Int) + 1))) true) : ∀ (d j : Nat), j + d = colsOf cells →
    Tells (fun k => laws_FnTableLines.l1 k cells (gap : Int) (tableL cells gap) (widthsT cells) true (i : Int) (atCol cells gap (cells[i]) j : Int) (j : Int)) true
  | 0, j, hd => by
    obtain ⟨hr, h1, h2, h3⟩ := table_rect h
    have hl := tableL_len cells gap
    have hrow := hr.row _ (List.getElem_mem hi)
    have hc := hr.cols
    have hwl := widths_len cells
    have e1 : (tableL cells gap)[i]'(by omega) = tableLine cells gap (cells[i]) := by simp [tableL]
    have s1 := tableLine_size (cells := cells) (r := cells[i]) gap (by omega)
    have le1 := line_le h hi gap (by omega) 20
    rw [List.take_of_length_le (by rw [parts_len]; omega)] at le1
    have le1' : (tableLine cells gap (cells[i])).size ≤ 1000 := le1
    have ea : atCol cells gap (cells[i]) j = (tableLine cells gap (cells[i])).size + gap := by
      unfold atCol
      rw [List.take_of_length_le (by rw [parts_len]; omega), s1]
      obtain ⟨m, hm⟩ : ∃ m, (cells[i]).length = m + 1 := ⟨(cells[i]).length - 1, by omega⟩
      rw [show j = m + 1 from by omega, hm, Nat.succ_mul]
      simp only [Nat.add_sub_cancel]
      omega
    rw [ea]
    refine Tells.step (fun k => ?_) hq
    simp only [laws_FnTableLines.l1]
    rw [if_neg (by omega), if_pos (by omega), if_pos (by omega), rdS_get (by omega), e1, wr64 (n := _ - _) (by omega) (by omega), if_pos (by omega)]
  | d + 1, j, hd => by
    obtain ⟨hr, h1, h2, h3⟩ := table_rect h
    have hl := tableL_len cells gap
    have hrow := hr.row _ (List.getElem_mem hi)
    have hwl := widths_len cells
    have hp := parts_len cells (cells[i])
    have hw : ∀ _ : Unit, wrap64 ((j : Int) + 1) = ((j + 1 : Nat) : Int) := fun _ => by rw [wr64 (by omega) (by omega)]; rfl
    have hcw := colW_range h j (by omega)
    have hc := cellOk_size (h3 _ (List.getElem_mem hi) _ (List.getElem_mem (l := cells[i]) (n := j) (by omega)))
    have e1 : (tableL cells gap)[i]'(by omega) = tableLine cells gap (cells[i]) := by simp [tableL]
    have le1 := line_le h hi gap (by omega) 20
    rw [List.take_of_length_le (by rw [parts_len]; omega)] at le1
    have le1' : (tableLine cells gap (cells[i])).size ≤ 1000 := le1
    obtain ⟨A, R, hA, hAs⟩ := lineWith_at (spaces gap) (partsOf cells (cells[i])) j (by omega)
    rw [spaces_size] at hAs
    have e : (partsOf cells (cells[i]))[j]'(by omega) = padTo ((cells[i])[j]'(by omega)) (colW cells j).toNat := by
      unfold partsOf; rw [tab_get, cellIn_get (by omega)]
    have hps := part_size (cells := cells) (i := i) (k := j) hi (by omega)
    have hline : tableLine cells gap (cells[i]) = A ++ ((cells[i])[j]'(by omega) ++ (spaces ((colW cells j).toNat - ((cells[i])[j]'(by omega)).size) ++ R)) := by
      unfold tableLine
      rw [hA, e]
      unfold padTo
      simp only [ByteArray.append_assoc]
    have hat : atCol cells gap (cells[i]) j = A.size := hAs.symm
    have hsz : (tableLine cells gap (cells[i])).size = A.size + ((cells[i])[j]'(by omega)).size + ((spaces ((colW cells j).toNat - ((cells[i])[j]'(by omega)).size)) ++ R).size := by
      rw [hline]
      simp only [ByteArray.size_append]
      omega
    have hnext : atCol cells gap (cells[i]) (j + 1) = A.size + (colW cells j).toNat + gap := by
      have : atCol cells gap (cells[i]) (j + 1) = total ((partsOf cells (cells[i])).take (j + 1)) + (j + 1) * gap := rfl
      rw [this, List.take_succ_eq_append_getElem (by omega), total_append, total_cons, hps, Nat.succ_mul]
      unfold atCol at hat
      have z : total ([] : List ByteArray) = 0 := rfl
      omega
    have ih := alignLaw_l1 h gap hg i hi hq d (j + 1) (by omega)
    rw [hnext] at ih
    rw [hat]
    have hx : ∀ _ : Unit, wrap64 ((A.size : Int) + (((cells[i])[j]'(by omega)).size : Int)) = ((A.size + ((cells[i])[j]'(by omega)).size : Nat) : Int) := fun _ => by rw [wr64 (by omega) (by omega)]; rfl
    refine Tells.step (fun k => ?_) ih
    simp only [laws_FnTableLines.l1]
    rw [if_pos (by omega), if_pos (by omega), if_pos (by omega), if_pos (by omega), if_pos (by omega), rd_row hi, if_pos (by omega), rdS_get (by omega), rdS_get (by omega), e1, hx (), if_neg (by omega), if_pos (by omega), if_pos (by omega), if_pos (by omega), Int.toNat_natCast, Int.toNat_natCast,
      if_pos (by rw [hline, extract_mid]), hw (), rd_get (by omega), widths_get, wr64 (n := (A.size : Int) + _) (by omega) (by omega), wr64 (by omega) (by omega)]
    congr 1
    omega

theorem alignLaw_l0 {cells : Cells} (h : tableOk cells = true) (gap : Nat) (hg : gap ≤ 10) : ∀ (d i : Nat), i + d = cells.length →
    Tells (fun k => laws_FnTableLines.l0 k cells (gap : Int) (tableL cells gap) (widthsT cells) true (i : Int)) true
  | 0, i, hd => by
    have hl := tableL_len cells gap
    refine Tells.step (fun k => ?_) (Tells.pure _)
    simp only [laws_FnTableLines.l0]
    rw [if_neg (by omega), if_pos trivial, beq_iff_eq.2 (by omega)]
  | d + 1, i, hd => by
    obtain ⟨hr, h1, h2, h3⟩ := table_rect h
    have hl := tableL_len cells gap
    have hw : wrap64 ((i : Int) + 1) = ((i + 1 : Nat) : Int) := by rw [wr64 (by omega) (by omega)]; rfl
    have ih := alignLaw_l0 h gap hg d (i + 1) (by omega)
    have h0 : atCol cells gap (cells[i]'(by omega)) 0 = 0 := by simp [atCol, total]
    have hl1 := alignLaw_l1 h gap hg i (by omega) (by rw [hw]; exact ih) (colsOf cells) 0 (by omega)
    rw [h0] at hl1
    refine Tells.step (fun k => ?_) hl1
    simp only [laws_FnTableLines.l0]
    rw [if_pos (by omega)]; rfl

theorem lawTableLines (l : List Int) (hl : ∀ x ∈ l, (Go.Lit.int .u8 x).wf = true) (hs : l.length ≤ 1048576) : Tells (fun k => laws_FnTableLines.f k l) true := by
  obtain ⟨cells, gap, hd, hD, hg0, hg1⟩ := drawLines hl
  have hsm := hD.small
  have hlen := tableLines_len cells gap
  have hcol := impl_colw cells hsm
  refine Tells.congr (fun k => by unfold laws_FnTableLines.f; rw [if_neg (by omega)]) ?_
  refine Tells.bind hd (Tells.bind (impl_tl cells gap hcol) (Tells.bind (spec_tl cells gap hsm) (Tells.bind (daTexts _ _ (by omega)) ?_)))
  simp only [decide_true, if_true, bne_self_eq_false]
  refine Tells.congr (fun k => if_neg (by decide)) ?_
  by_cases ho : tableOk cells ∧ 0 ≤ gap ∧ gap ≤ 10
  · have e1 : tableLines cells gap = (tableL cells gap.toNat, true) := by unfold tableLines; rw [if_pos ho]
    have e2 : columnWidths cells = (widthsT cells, true) := by unfold columnWidths; rw [if_pos ho.1]
    rw [e1]
    rw [e2] at hcol
    refine Tells.step (fun k => by simp only [laws_FnTableLines.j0]; rw [if_neg (by decide)]) ?_
    refine Tells.bind hcol ?_
    have := alignLaw_l0 ho.1 gap.toNat (by omega) cells.length 0 (by omega)
    rw [show ((gap.toNat : Nat) : Int) = gap from by omega] at this
    exact this
  · have e1 : tableLines cells gap = ([], false) := by unfold tableLines; rw [if_neg ho]
    rw [e1]
    refine Tells.step (fun k => by simp only [laws_FnTableLines.j0]; rw [if_pos (by decide)]) (Tells.bind (daTexts _ _ (by simp)) ?_)
    exact Tells.of fun k => rfl

end DocPure
namespace Go.Proofs.Ythcfocpimoghbaa.Pure
open Go.RowKit Go.Proofs.Ythcfocpimoghbaa.PTa Go.Proofs.YthcfocpimoghbaaW.PrintWords Go.Proofs.YthcfocpimoghbaaW.PrintLast

theorem FnTableLines : laws_FnTableLines.Pure := by
  intro l _ _ hl
  by_cases h : l.length ≤ 1048576
  · exact (DocPure.lawTableLines l hl h).ex
  · exact ⟨0, by unfold laws_FnTableLines.f; rw [if_pos (by omega)]⟩

end Go.Proofs.Ythcfocpimoghbaa.Pure
