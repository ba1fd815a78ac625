/- Which cells are a table: the printed tests of the program and of the reference are one plain function. -/
import Derived.Test.YthcfocpimoghbaaPTax0
import Derived.Test.YthcfocpimoghbaaPTax4
import Derived.Test.YthcfocpimoghbaaPTax7
import Derived.Test.YthcfocpimoghbaaBaseS
import Derived.Test.YthcfocpimoghbaaTaText
import Derived.Test.YthcfocpimoghbaaTable
namespace DocPure
open Go.RowKit Go.Proofs.Ythcfocpimoghbaa.PTa Go.Proofs.YthcfocpimoghbaaW.PrintWords

def cellOk (c : ByteArray) : Bool := decide (c.size = 0) || textOk c

def rowOk (n : Nat) (r : List ByteArray) : Bool := decide (r.length = n) && decide (1 ≤ r.length) && decide (r.length ≤ 20) && r.all cellOk

def tableOk (cells : Cells) : Bool := decide (1 ≤ cells.length) && decide (cells.length ≤ 20) && cells.all (rowOk (colsOf cells))

structure SmallT (cells : Cells) : Prop where
  len : cells.length ≤ 9223372036854775806
  row : ∀ r ∈ cells, r.length ≤ 9223372036854775806 ∧ ∀ c ∈ r, c.size ≤ 9223372036854775806

theorem rd_row {cells : Cells} {i : Nat} (h : i < cells.length) : rd_L3 cells (i : Int) = cells[i] := by
  unfold rd_L3
  rw [Int.toNat_natCast, List.getD_eq_getElem?_getD, List.getElem?_eq_getElem h]; rfl

theorem rd_row0 {cells : Cells} : rd_L3 cells 0 = rowAt cells 0 := rfl

theorem empty_str (c : ByteArray) : c.toList = ([] : List UInt8) ↔ c.size = 0 := by
  rw [Go.ByteArray.toList_eq]
  constructor
  · intro h
    have : c.data.toList.length = 0 := by rw [h]; rfl
    rw [Array.length_toList] at this
    exact this
  · intro h
    refine List.eq_nil_of_length_eq_zero ?_
    rw [Array.length_toList]
    exact h

theorem impl_table_l1 (x0 cells : Cells) (i : Nat) (n : Int) (row : List ByteArray) (hl : row.length ≤ 20) (hs : ∀ c ∈ row, c.size ≤ 9223372036854775806) (r : Bool)
    (hr : Tells (fun k => impl_tableOk.l0 k x0 cells n (wrap64 ((i : Int) + 1))) r) : ∀ (d j : Nat), j + d = row.length →
    Tells (fun k => impl_tableOk.l1 k x0 cells n (i : Int) row (row.length : Int) (j : Int)) ((row.drop j).all cellOk && r)
  | 0, j, hd => by
    rw [List.drop_of_length_le (by omega)]
    show Tells _ (true && r)
    rw [Bool.true_and]
    refine Tells.step (fun k => ?_) hr
    simp only [impl_tableOk.l1]
    rw [if_neg (by omega)]
  | d + 1, j, hd => by
    have ih := impl_table_l1 x0 cells i n row hl hs r hr d (j + 1) (by omega)
    have hw : wrap64 ((j : Int) + 1) = ((j + 1 : Nat) : Int) := by rw [wr64 (by omega) (by omega)]; rfl
    have hc := hs _ (List.getElem_mem (l := row) (n := j) (by omega))
    rw [List.drop_eq_getElem_cons (by omega), List.all_cons]
    by_cases h0 : (row[j]'(by omega)).size = 0
    · have e : cellOk (row[j]'(by omega)) = true := by unfold cellOk; rw [decide_eq_true h0]; rfl
      rw [e, Bool.true_and]
      refine Tells.step (fun k => ?_) ih
      simp only [impl_tableOk.l1]
      rw [if_pos (by omega), if_pos (by omega), if_pos (by omega), rdS_get (by omega), if_pos ((empty_str _).2 h0), hw]
    · have e : cellOk (row[j]'(by omega)) = textOk (row[j]'(by omega)) := by unfold cellOk; rw [decide_eq_false h0]; rfl
      rw [e]
      refine Tells.step (fun k => by simp only [impl_tableOk.l1]; rw [if_pos (by omega), if_pos (by omega), if_pos (by omega), rdS_get (by omega), if_neg (fun q => h0 ((empty_str _).1 q)), hw]) ?_
      refine Tells.bind (impl_text _ hc) ?_
      cases textOk (row[j]'(by omega)) with
      | false => exact Tells.of fun k => rfl
      | true => exact Tells.congr (fun k => if_pos rfl) ih

theorem impl_table_l0 (cells : Cells) (hl : cells.length ≤ 20) (hs : SmallT cells) : ∀ (d i : Nat), i + d = cells.length →
    Tells (fun k => impl_tableOk.l0 k cells cells (cells.length : Int) (i : Int)) ((cells.drop i).all (rowOk (colsOf cells)))
  | 0, i, hd => by
    rw [List.drop_of_length_le (by omega)]
    refine Tells.step (fun k => ?_) (Tells.pure _)
    simp only [impl_tableOk.l0]
    rw [if_neg (by omega)]; rfl
  | d + 1, i, hd => by
    have ih := impl_table_l0 cells hl hs d (i + 1) (by omega)
    have hw : wrap64 ((i : Int) + 1) = ((i + 1 : Nat) : Int) := by rw [wr64 (by omega) (by omega)]; rfl
    have hrow := hs.row _ (List.getElem_mem (l := cells) (n := i) (by omega))
    have e0 : ∀ b : Bool, (∀ k, impl_tableOk.l0 (k + 1) cells cells (cells.length : Int) (i : Int) = impl_tableOk.j2 k cells (cells[i]'(by omega)) cells (cells.length : Int) (i : Int) b) →
        Tells (fun k => impl_tableOk.j2 k cells (cells[i]'(by omega)) cells (cells.length : Int) (i : Int) b) ((cells.drop i).all (rowOk (colsOf cells))) →
        Tells (fun k => impl_tableOk.l0 k cells cells (cells.length : Int) (i : Int)) ((cells.drop i).all (rowOk (colsOf cells))) := fun b h1 h2 => Tells.step h1 h2
    rw [List.drop_eq_getElem_cons (by omega), List.all_cons] at e0 ⊢
    have hcol : ((rd_L3 cells 0).length : Int) = (colsOf cells : Int) := rfl
    by_cases hg : (cells[i]'(by omega)).length = colsOf cells ∧ 1 ≤ (cells[i]'(by omega)).length ∧ (cells[i]'(by omega)).length ≤ 20
    · refine e0 false (fun k => ?_) ?_
      · simp only [impl_tableOk.l0]
        rw [if_pos (by omega), if_pos (by omega), if_pos (by omega), rd_row (by omega), if_neg (by omega), if_neg (by omega), if_pos (by omega), hcol, bne_eq_false_iff_eq.2 (by rw [hg.1])]
      · refine Tells.step (fun k => by simp only [impl_tableOk.j2]; rw [if_neg (by decide)]) ?_
        have e : rowOk (colsOf cells) (cells[i]'(by omega)) = (cells[i]'(by omega)).all cellOk := by
          unfold rowOk
          rw [decide_eq_true hg.1, decide_eq_true hg.2.1, decide_eq_true hg.2.2]; rfl
        rw [e]
        exact impl_table_l1 cells cells i _ _ hg.2.2 hrow.2 _ (by rw [hw]; exact ih) (cells[i]'(by omega)).length 0 (by omega)
    · have e : rowOk (colsOf cells) (cells[i]'(by omega)) = false := by
        unfold rowOk
        by_cases h1 : (cells[i]'(by omega)).length = colsOf cells
        · by_cases h2 : 1 ≤ (cells[i]'(by omega)).length
          · rw [decide_eq_false (p := (cells[i]'(by omega)).length ≤ 20) (fun h3 => hg ⟨h1, h2, h3⟩), Bool.and_false, Bool.false_and]
          · rw [decide_eq_false h2, Bool.and_false, Bool.false_and, Bool.false_and]
        · rw [decide_eq_false h1]; rfl
      rw [e, Bool.false_and] at e0 ⊢
      refine e0 true (fun k => ?_) (Tells.step (fun k => by simp only [impl_tableOk.j2]; rw [if_pos trivial]) (Tells.pure _))
      simp only [impl_tableOk.l0]
      rw [if_pos (by omega), if_pos (by omega), if_pos (by omega), rd_row (by omega)]
      by_cases h2 : ((cells[i]'(by omega)).length : Int) < 1
      · rw [if_pos h2]
      · rw [if_neg h2]
        by_cases h3 : ((cells[i]'(by omega)).length : Int) > 20
        · rw [if_pos h3]
        · rw [if_neg h3, if_pos (by omega), hcol, bne_iff_ne.2 (fun h1 => hg ⟨by omega, by omega, by omega⟩)]

theorem impl_table (cells : Cells) (hs : SmallT cells) : Tells (fun k => impl_tableOk.f k cells) (tableOk cells) := by
  by_cases h : 1 ≤ cells.length ∧ cells.length ≤ 20
  · have e : tableOk cells = cells.all (rowOk (colsOf cells)) := by unfold tableOk; rw [decide_eq_true h.1, decide_eq_true h.2]; rfl
    rw [e]
    refine Tells.congr (g' := fun k => impl_tableOk.j0 k cells false) (fun k => ?_) (Tells.step (fun k => by simp only [impl_tableOk.j0]; rw [if_neg (by decide)]; rfl) (impl_table_l0 cells h.2 hs cells.length 0 (by omega)))
    unfold impl_tableOk.f
    rw [if_neg (by omega), decide_eq_false (by omega)]
  · have e : tableOk cells = false := by
      unfold tableOk
      by_cases h1 : 1 ≤ cells.length
      · rw [decide_eq_false (p := cells.length ≤ 20) (fun h2 => h ⟨h1, h2⟩), Bool.and_false, Bool.false_and]
      · rw [decide_eq_false h1]; rfl
    rw [e]
    refine Tells.congr (g' := fun k => impl_tableOk.j0 k cells true) (fun k => ?_) (Tells.step (fun k => by simp only [impl_tableOk.j0]; rw [if_pos trivial]) (Tells.pure _))
    unfold impl_tableOk.f
    by_cases h1 : (cells.length : Int) < 1
    · rw [if_pos h1]
    · rw [if_neg h1, decide_eq_true (by omega)]

theorem spec_table_l1 (cells : Cells) (hn : cells.length ≤ 9223372036854775806) (i : Nat) (hi : i < cells.length) (hl : (cells[i]).length ≤ 20) (hs : ∀ c ∈ cells[i], c.size ≤ 9223372036854775806) (r : Bool)
    (hr : Tells (fun k => spec_l13Cells.l0 k cells (wrap64 ((i : Int) + 1))) r) : ∀ (d j : Nat), j + d = (cells[i]).length →
    Tells (fun k => spec_l13Cells.l1 k cells (i : Int) (j : Int)) (((cells[i]).drop j).all cellOk && r)
  | 0, j, hd => by
    rw [List.drop_of_length_le (by omega)]
    show Tells _ (true && r)
    rw [Bool.true_and]
    refine Tells.step (fun k => ?_) hr
    simp only [spec_l13Cells.l1]
    rw [if_pos (by omega), if_pos (by omega), rd_row hi, if_neg (by omega)]
  | d + 1, j, hd => by
    have ih := spec_table_l1 cells hn i hi hl hs r hr d (j + 1) (by omega)
    have hw : wrap64 ((j : Int) + 1) = ((j + 1 : Nat) : Int) := by rw [wr64 (by omega) (by omega)]; rfl
    have hc := hs _ (List.getElem_mem (l := cells[i]) (n := j) (by omega))
    rw [List.drop_eq_getElem_cons (by omega), List.all_cons]
    by_cases h0 : ((cells[i])[j]'(by omega)).size = 0
    · have e : cellOk ((cells[i])[j]'(by omega)) = true := by unfold cellOk; rw [decide_eq_true h0]; rfl
      rw [e, Bool.true_and]
      refine Tells.step (fun k => ?_) ih
      simp only [spec_l13Cells.l1]
      rw [if_pos (by omega), if_pos (by omega), rd_row hi, if_pos (by omega), if_pos (by omega), rdS_get (by omega), if_pos ((empty_str _).2 h0), hw]
    · have e : cellOk ((cells[i])[j]'(by omega)) = textOk ((cells[i])[j]'(by omega)) := by unfold cellOk; rw [decide_eq_false h0]; rfl
      rw [e]
      refine Tells.step (fun k => by simp only [spec_l13Cells.l1]; rw [if_pos (by omega), if_pos (by omega), rd_row hi, if_pos (by omega), if_pos (by omega), rdS_get (by omega), if_neg (fun q => h0 ((empty_str _).1 q)), hw]) ?_
      refine Tells.bind (spec_text _ hc) ?_
      cases textOk ((cells[i])[j]'(by omega)) with
      | false => exact Tells.of fun k => rfl
      | true => exact Tells.congr (fun k => if_pos rfl) ih

theorem spec_table_end (cells : Cells) (i : Nat) : Tells (fun k => spec_l13Cells.j1 k cells (i : Int) false) (decide (1 ≤ cells.length) && decide (cells.length ≤ 20)) := by
  refine Tells.step (fun k => ?_) (Tells.pure _)
  simp only [spec_l13Cells.j1]
  rw [if_neg (by decide)]
  by_cases h : 1 ≤ cells.length
  · rw [if_pos (by omega), decide_eq_true h, Bool.true_and]
    congr 1
    exact decide_eq_decide.2 (by omega)
  · rw [if_neg (by omega), decide_eq_false h]; rfl

theorem spec_table_l0 (cells : Cells) (hs : SmallT cells) : ∀ (d i : Nat), i + d = cells.length → i ≤ 21 →
    Tells (fun k => spec_l13Cells.l0 k cells (i : Int)) ((cells.drop i).all (rowOk (colsOf cells)) && (decide (1 ≤ cells.length) && decide (cells.length ≤ 20)))
  | 0, i, hd, h21 => by
    rw [List.drop_of_length_le (by omega)]
    show Tells _ (true && _)
    rw [Bool.true_and]
    refine Tells.step (fun k => ?_) (spec_table_end cells i)
    simp only [spec_l13Cells.l0]
    rw [if_neg (by omega)]
  | d + 1, i, hd, h21 => by
    have hn := hs.len
    have hrow := hs.row _ (List.getElem_mem (l := cells) (n := i) (by omega))
    by_cases hi : i ≤ 20
    · have ih := spec_table_l0 cells hs d (i + 1) (by omega) (by omega)
      have hw : wrap64 ((i : Int) + 1) = ((i + 1 : Nat) : Int) := by rw [wr64 (by omega) (by omega)]; rfl
      have hcol : ((rd_L3 cells 0).length : Int) = (colsOf cells : Int) := rfl
      refine Tells.step (g' := fun k => spec_l13Cells.j1 k cells (i : Int) true) (fun k => by simp only [spec_l13Cells.l0]; rw [if_pos (by omega), decide_eq_true (by omega)]) ?_
      rw [List.drop_eq_getElem_cons (by omega), List.all_cons]
      by_cases hg : (cells[i]'(by omega)).length = colsOf cells ∧ 1 ≤ (cells[i]'(by omega)).length ∧ (cells[i]'(by omega)).length ≤ 20
      · refine Tells.step (g' := fun k => spec_l13Cells.j2 k cells (i : Int) false) (fun k => ?_) (Tells.step (fun k => by simp only [spec_l13Cells.j2]; rw [if_neg (by decide)]) ?_)
        · simp only [spec_l13Cells.j1]
          rw [if_pos trivial, if_pos (by omega), if_pos (by omega), if_pos (by omega), rd_row (by omega), hcol, if_pos (by omega), if_neg (by omega), decide_eq_false (by omega)]
        · have e : rowOk (colsOf cells) (cells[i]'(by omega)) = (cells[i]'(by omega)).all cellOk := by
            unfold rowOk
            rw [decide_eq_true hg.1, decide_eq_true hg.2.1, decide_eq_true hg.2.2]; rfl
          rw [e, Bool.and_assoc]
          exact spec_table_l1 cells hn i (by omega) hg.2.2 hrow.2 _ (by rw [hw]; exact ih) (cells[i]'(by omega)).length 0 (by omega)
      · have e : rowOk (colsOf cells) (cells[i]'(by omega)) = false := by
          unfold rowOk
          by_cases h1 : (cells[i]'(by omega)).length = colsOf cells
          · by_cases h2 : 1 ≤ (cells[i]'(by omega)).length
            · rw [decide_eq_false (p := (cells[i]'(by omega)).length ≤ 20) (fun h3 => hg ⟨h1, h2, h3⟩), Bool.and_false, Bool.false_and]
            · rw [decide_eq_false h2, Bool.and_false, Bool.false_and, Bool.false_and]
          · rw [decide_eq_false h1]; rfl
        rw [e, Bool.false_and, Bool.false_and]
        refine Tells.step (g' := fun k => spec_l13Cells.j2 k cells (i : Int) true) (fun k => ?_) (Tells.step (fun k => by simp only [spec_l13Cells.j2]; rw [if_pos trivial]) (Tells.pure _))
        simp only [spec_l13Cells.j1]
        rw [if_pos trivial, if_pos (by omega), if_pos (by omega), if_pos (by omega), rd_row (by omega), hcol]
        by_cases h1 : ((cells[i]'(by omega)).length : Int) = (colsOf cells : Int)
        · rw [if_pos h1]
          by_cases h2 : ((cells[i]'(by omega)).length : Int) < 1
          · rw [if_pos h2]
          · rw [if_neg h2, decide_eq_true]
            have := fun h3 => hg ⟨by omega, by omega, h3⟩
            omega
        · rw [if_neg h1]
    · rw [decide_eq_false (p := cells.length ≤ 20) (by omega), Bool.and_false, Bool.and_false]
      have := spec_table_end cells i
      rw [decide_eq_false (p := cells.length ≤ 20) (by omega), Bool.and_false] at this
      refine Tells.step (fun k => by simp only [spec_l13Cells.l0]; rw [if_pos (by omega), decide_eq_false (by omega)]) this

theorem spec_table (cells : Cells) (hs : SmallT cells) : Tells (fun k => spec_l13Cells.f k cells) (tableOk cells) := by
  have e : tableOk cells = (cells.all (rowOk (colsOf cells)) && (decide (1 ≤ cells.length) && decide (cells.length ≤ 20))) := by unfold tableOk; rw [Bool.and_comm]
  rw [e]
  exact spec_table_l0 cells hs cells.length 0 (by omega) (by omega)

theorem table_rect {cells : Cells} (h : tableOk cells = true) : Rect cells ∧ cells.length ≤ 20 ∧ colsOf cells ≤ 20 ∧ ∀ r ∈ cells, ∀ c ∈ r, cellOk c = true := by
  unfold tableOk at h
  simp only [Bool.and_eq_true, decide_eq_true_eq, List.all_eq_true] at h
  obtain ⟨⟨h1, h2⟩, h3⟩ := h
  have each : ∀ r ∈ cells, r.length = colsOf cells ∧ 1 ≤ r.length ∧ r.length ≤ 20 ∧ ∀ c ∈ r, cellOk c = true := fun r hr => by
    have := h3 r hr
    unfold rowOk at this
    simp only [Bool.and_eq_true, decide_eq_true_eq, List.all_eq_true] at this
    exact ⟨this.1.1.1, this.1.1.2, this.1.2, this.2⟩
  have r0 := each _ (rowAt_mem (cells := cells) (i := 0) (by omega))
  exact ⟨⟨h1, r0.2.1, fun r hr => (each r hr).1⟩, h2, r0.2.2.1, fun r hr => (each r hr).2.2.2⟩

theorem rect_table {cells : Cells} (h : Rect cells) (h1 : cells.length ≤ 20) (h2 : colsOf cells ≤ 20) (h3 : ∀ r ∈ cells, ∀ c ∈ r, cellOk c = true) : tableOk cells = true := by
  unfold tableOk
  simp only [Bool.and_eq_true, decide_eq_true_eq, List.all_eq_true]
  refine ⟨⟨h.rows, h1⟩, fun r hr => ?_⟩
  have := h.row r hr
  have := h.cols
  unfold rowOk
  simp only [Bool.and_eq_true, decide_eq_true_eq, List.all_eq_true]
  exact ⟨⟨⟨by omega, by omega⟩, by omega⟩, h3 r hr⟩

theorem cellOk_size {c : ByteArray} (h : cellOk c = true) : c.size ≤ 12 := by
  unfold cellOk textOk at h
  simp only [Bool.or_eq_true, Bool.and_eq_true, decide_eq_true_eq] at h
  omega

theorem flip_table {cells : Cells} (h : tableOk cells = true) : tableOk (flipT cells) = true := by
  obtain ⟨hr, h1, h2, h3⟩ := table_rect h
  exact rect_table (flip_rect hr) (by rw [flip_len]; exact h2) (by rw [flip_cols hr]; exact h1) (flip_cells hr h3)

theorem table_small {cells : Cells} (h : tableOk cells = true) : SmallT cells := by
  obtain ⟨hr, h1, h2, h3⟩ := table_rect h
  exact ⟨by omega, fun r hm => ⟨by have := hr.row r hm; omega, fun c hc => by have := cellOk_size (h3 r hm c hc); omega⟩⟩

end DocPure
