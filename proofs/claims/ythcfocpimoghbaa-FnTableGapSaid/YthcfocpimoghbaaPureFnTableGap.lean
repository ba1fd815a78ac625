/- Gaps are between columns, for every input: one more byte of gap makes each line longer by one byte for each two neighbours. -/
import Derived.Test.YthcfocpimoghbaaPTax0
import Derived.Test.YthcfocpimoghbaaPTax9
import Derived.Test.YthcfocpimoghbaaTaColWI
import Derived.Test.YthcfocpimoghbaaTaTableL
import Derived.Test.YthcfocpimoghbaaTaDaTexts
import Derived.Test.YthcfocpimoghbaaTaDrawTableL
namespace DocPure
open Go.RowKit Go.Proofs.Ythcfocpimoghbaa.PTa Go.Proofs.YthcfocpimoghbaaW.PrintWords

theorem gapLaw_l0 {cells : Cells} (h : tableOk cells = true) (gap : Nat) (hg : gap ≤ 9) : ∀ (d i : Nat), i + d = cells.length →
    Tells (fun k => laws_FnTableGap.l0 k cells (gap : Int) (tableL cells gap) (tableL cells (gap + 1)) true (i : Int)) true
  | 0, i, hd => by
    have hl := tableL_len cells (gap + 1)
    refine Tells.step (fun k => ?_) (Tells.pure _)
    simp only [laws_FnTableGap.l0]
    rw [if_neg (by omega), decide_eq_true (by omega)]; rfl
  | d + 1, i, hd => by
    obtain ⟨hr, h1, h2, h3⟩ := table_rect h
    have hl := tableL_len cells (gap + 1)
    have hl' := tableL_len cells gap
    have hrow := hr.row _ (List.getElem_mem (l := cells) (n := i) (by omega))
    have hc := hr.cols
    have ih := gapLaw_l0 h gap hg d (i + 1) (by omega)
    have hw : wrap64 ((i : Int) + 1) = ((i + 1 : Nat) : Int) := by rw [wr64 (by omega) (by omega)]; rfl
    have e1 : (tableL cells gap)[i]'(by omega) = tableLine cells gap (cells[i]'(by omega)) := by simp [tableL]
    have e2 : (tableL cells (gap + 1))[i]'(by omega) = tableLine cells (gap + 1) (cells[i]'(by omega)) := by simp [tableL]
    have s1 := tableLine_size (cells := cells) (r := cells[i]'(by omega)) gap (by omega)
    have s2 := tableLine_size (cells := cells) (r := cells[i]'(by omega)) (gap + 1) (by omega)
    have le1 := line_le h (i := i) (by omega) gap (by omega) 20
    rw [List.take_of_length_le (by rw [parts_len]; omega)] at le1
    have le1' : (tableLine cells gap (cells[i]'(by omega))).size ≤ 1000 := le1
    rw [Nat.mul_succ] at s2
    refine Tells.step (fun k => ?_) ih
    simp only [laws_FnTableGap.l0]
    rw [if_pos (by omega), if_pos (by omega), if_pos (by omega), if_pos (by omega), rdS_get (by omega), rdS_get (by omega), rd_row (by omega), e1, e2, wr64 (n := ((tableLine cells gap (cells[i]'(by omega))).size : Int) + _) (by omega) (by omega), wr64 (by omega) (by omega), if_pos (by omega), hw]

theorem lawTableGap (l : List Int) (hl : ∀ x ∈ l, (Go.Lit.int .u8 x).wf = true) (hs : l.length ≤ 1048576) : Tells (fun k => laws_FnTableGap.f k l) true := by
  obtain ⟨cells, gap, hd, hD, hg0, hg1⟩ := drawLines hl
  have hsm := hD.small
  have hlen := tableLines_len cells gap
  have hcol := impl_colw cells hsm
  refine Tells.congr (fun k => by unfold laws_FnTableGap.f; rw [if_neg (by omega)]) ?_
  refine Tells.bind hd (Tells.bind (impl_tl cells gap hcol) (Tells.bind (spec_tl cells gap hsm) (Tells.bind (daTexts _ _ (by omega)) ?_)))
  simp only [decide_true, if_true, bne_self_eq_false]
  refine Tells.congr (fun k => if_neg (by decide)) ?_
  by_cases ho : tableOk cells ∧ 0 ≤ gap ∧ gap ≤ 10
  · have e1 : tableLines cells gap = (tableL cells gap.toNat, true) := by unfold tableLines; rw [if_pos ho]
    rw [e1]
    refine Tells.step (fun k => by simp only [laws_FnTableGap.j0]; rw [if_neg (by decide), wr64 (by omega) (by omega)]) ?_
    refine Tells.bind (impl_tl cells (gap + 1) hcol) ?_
    by_cases h9 : gap ≤ 9
    · have e2 : tableLines cells (gap + 1) = (tableL cells (gap.toNat + 1), true) := by
        unfold tableLines
        rw [if_pos ⟨ho.1, by omega, by omega⟩, show (gap + 1).toNat = gap.toNat + 1 from by omega]
      rw [e2]
      have := gapLaw_l0 ho.1 gap.toNat (by omega) cells.length 0 (by omega)
      rw [show ((gap.toNat : Nat) : Int) = gap from by omega] at this
      exact this
    · have e2 : tableLines cells (gap + 1) = ([], false) := by
        unfold tableLines
        rw [if_neg (fun q => by omega)]
      rw [e2]
      refine Tells.step (fun k => ?_) (Tells.pure _)
      simp only [laws_FnTableGap.l0]
      rw [if_neg (by simp), decide_eq_false (by omega)]; rfl
  · have e1 : tableLines cells gap = ([], false) := by unfold tableLines; rw [if_neg ho]
    rw [e1]
    refine Tells.step (fun k => by simp only [laws_FnTableGap.j0]; rw [if_pos (by decide)]) (Tells.bind (daTexts _ _ (by simp)) ?_)
    exact Tells.of fun k => rfl

end DocPure
namespace Go.Proofs.Ythcfocpimoghbaa.Pure
open Go.RowKit Go.Proofs.Ythcfocpimoghbaa.PTa Go.Proofs.YthcfocpimoghbaaW.PrintWords Go.Proofs.YthcfocpimoghbaaW.PrintLast

theorem FnTableGap : laws_FnTableGap.Pure := by
  intro l _ _ hl
  by_cases h : l.length ≤ 1048576
  · exact (DocPure.lawTableGap l hl h).ex
  · exact ⟨0, by unfold laws_FnTableGap.f; rw [if_pos (by omega)]⟩

end Go.Proofs.Ythcfocpimoghbaa.Pure
