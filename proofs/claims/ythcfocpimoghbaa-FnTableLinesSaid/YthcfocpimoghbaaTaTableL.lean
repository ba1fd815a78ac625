/- The printed TableLines of the program and of the reference are the plain one. -/
import Derived.Test.YthcfocpimoghbaaPTax0
import Derived.Test.YthcfocpimoghbaaPTax4
import Derived.Test.YthcfocpimoghbaaPTax5
import Derived.Test.YthcfocpimoghbaaPTax8
import Derived.Test.YthcfocpimoghbaaTaColWS
import Derived.Test.YthcfocpimoghbaaTaSpaces
import Derived.Test.YthcfocpimoghbaaTaJoinStr
import Derived.Test.YthcfocpimoghbaaTaPadded
import Derived.Test.YthcfocpimoghbaaTableLine
namespace DocPure
open Go.RowKit Go.Proofs.Ythcfocpimoghbaa.PTa Go.Proofs.YthcfocpimoghbaaW.PrintWords

def tableLines (cells : Cells) (gap : Int) : List ByteArray × Bool := if tableOk cells ∧ 0 ≤ gap ∧ gap ≤ 10 then (tableL cells gap.toNat, true) else ([], false)

theorem colW_range {cells : Cells} (h : tableOk cells = true) (k : Nat) (hk : k < colsOf cells) : 0 ≤ colW cells k ∧ colW cells k ≤ 12 := by
  obtain ⟨hr, h1, h2, h3⟩ := table_rect h
  refine ⟨maxL_nonneg _, ?_⟩
  obtain ⟨i, hi, he⟩ := colW_some hr.rows k
  have hl := hr.row _ (List.getElem_mem hi)
  rw [← he, rowAt_get hi, cellIn_get (by omega)]
  have := cellOk_size (h3 _ (List.getElem_mem hi) _ (List.getElem_mem (l := cells[i]) (n := k) (by omega)))
  omega

theorem total_le {n : Nat} : ∀ (ws : List ByteArray), (∀ w ∈ ws, w.size ≤ n) → total ws ≤ n * ws.length
  | [], _ => by simp [total]
  | w :: ws, h => by
    have := total_le (n := n) ws fun x hx => h x (List.mem_cons_of_mem _ hx)
    have := h w (List.mem_cons_self ..)
    rw [total_cons, List.length_cons, Nat.mul_succ]; omega

theorem parts_le {cells : Cells} (h : tableOk cells = true) {i : Nat} (hi : i < cells.length) : ∀ w ∈ partsOf cells (cells[i]), w.size ≤ 12 := by
  intro w hw
  obtain ⟨k, hk, rfl⟩ := List.getElem_of_mem hw
  rw [parts_len] at hk
  rw [part_size hi hk]
  obtain ⟨hr, -, -, -⟩ := table_rect h
  have hl := hr.row _ (List.getElem_mem hi)
  have := colW_range h k (by omega)
  omega

theorem line_le {cells : Cells} (h : tableOk cells = true) {i : Nat} (hi : i < cells.length) (gap : Nat) (hg : gap ≤ 11) (m : Nat) : (lineWith (spaces gap) ((partsOf cells (cells[i])).take m)).size ≤ 1000 := by
  obtain ⟨hr, h1, h2, -⟩ := table_rect h
  have hl := hr.row _ (List.getElem_mem hi)
  cases hp : (partsOf cells (cells[i])).take m with
  | nil => show 0 ≤ 1000; omega
  | cons x xs =>
    rw [lineWith_size, spaces_size]
    have ht := total_le (n := 12) (x :: xs) fun w hw => parts_le h hi w (List.mem_of_mem_take (by rw [hp]; exact hw))
    have hlen : (x :: xs).length ≤ 20 := by
      rw [← hp, List.length_take, parts_len]; omega
    rw [total_cons, List.length_cons] at ht
    rw [List.length_cons] at hlen
    have : xs.length * gap ≤ 20 * 11 := Nat.mul_le_mul (by omega) hg
    omega

theorem impl_tl_l1 {cells : Cells} (h : tableOk cells = true) (gap : Nat) (hg : gap ≤ 11) (acc : List ByteArray) (hacc : acc.length ≤ 20) (i : Nat) (hi : i < cells.length) (q : List ByteArray × Bool)
    (hq : Tells (fun k => impl_TableLines.l0 k (gap : Int) (widthsT cells) (acc ++ [tableLine cells gap (cells[i])]) cells (cells.length : Int) (wrap64 ((i : Int) + 1))) q) : ∀ (d j : Nat), j + d = (cells[i]).length →
    Tells (fun k => impl_TableLines.l1 k (gap : Int) (widthsT cells) acc ((partsOf cells (cells[i])).take j) cells (cells.length : Int) (i : Int) (cells[i]) ((cells[i]).length : Int) (j : Int)) q
  | 0, j, hd => by
    obtain ⟨hr, h1, h2, -⟩ := table_rect h
    have hl := hr.row _ (List.getElem_mem hi)
    have hp := parts_len cells (cells[i])
    have hle := line_le h hi gap hg j
    rw [List.take_of_length_le (by omega)] at hle ⊢
    refine Tells.step (fun k => ?_) hq
    simp only [impl_TableLines.l1]
    rw [if_neg (by omega), rep_tells _ (by omega) (by omega), Int.toNat_natCast, Option.bind_some, join_tells _ _ (by omega) (by omega), Option.bind_some, if_pos (by omega)]; rfl
  | d + 1, j, hd => by
    obtain ⟨hr, h1, h2, h3⟩ := table_rect h
    have hl := hr.row _ (List.getElem_mem hi)
    have hp := parts_len cells (cells[i])
    have hwl := widths_len cells
    have hw : ∀ _ : Unit, wrap64 ((j : Int) + 1) = ((j + 1 : Nat) : Int) := fun _ => by rw [wr64 (by omega) (by omega)]; rfl
    have hcw := colW_range h j (by omega)
    have hc := cellOk_size (h3 _ (List.getElem_mem hi) _ (List.getElem_mem (l := cells[i]) (n := j) (by omega)))
    have ih := impl_tl_l1 h gap hg acc hacc i hi q hq d (j + 1) (by omega)
    rw [List.take_succ_eq_append_getElem (by omega)] at ih
    have e : (partsOf cells (cells[i]))[j]'(by omega) = padTo ((cells[i])[j]'(by omega)) (colW cells j).toNat := by
      unfold partsOf; rw [tab_get, cellIn_get (by omega)]
    rw [e] at ih
    refine Tells.step (fun k => ?_) ih
    simp only [impl_TableLines.l1]
    rw [if_pos (by omega), if_pos (by omega), if_pos (by omega), if_pos (by omega), rdS_get (by omega), rd_get (by omega), widths_get, padded_tells _ _ (by omega) (by omega) (by omega), Option.bind_some, if_pos (by rw [List.length_take]; omega), hw ()]

theorem impl_tl_l0 {cells : Cells} (h : tableOk cells = true) (gap : Nat) (hg : gap ≤ 11) : ∀ (d i : Nat), i + d = cells.length →
    Tells (fun k => impl_TableLines.l0 k (gap : Int) (widthsT cells) ((tableL cells gap).take i) cells (cells.length : Int) (i : Int)) (tableL cells gap, true)
  | 0, i, hd => by
    have hl : (tableL cells gap).length = cells.length := by simp [tableL]
    rw [List.take_of_length_le (by omega)]
    refine Tells.step (fun k => ?_) (Tells.pure _)
    simp only [impl_TableLines.l0]
    rw [if_neg (by omega)]
  | d + 1, i, hd => by
    obtain ⟨hr, h1, h2, h3⟩ := table_rect h
    have hl : (tableL cells gap).length = cells.length := by simp [tableL]
    have hw : wrap64 ((i : Int) + 1) = ((i + 1 : Nat) : Int) := by rw [wr64 (by omega) (by omega)]; rfl
    have ih := impl_tl_l0 h gap hg d (i + 1) (by omega)
    rw [List.take_succ_eq_append_getElem (by omega)] at ih
    have e : (tableL cells gap)[i]'(by omega) = tableLine cells gap (cells[i]'(by omega)) := by simp [tableL]
    rw [e] at ih
    refine Tells.step (fun k => ?_) (impl_tl_l1 h gap hg ((tableL cells gap).take i) (by rw [List.length_take]; omega) i (by omega) _ (by rw [hw]; exact ih) (cells[i]'(by omega)).length 0 (by omega))
    simp only [impl_TableLines.l0]
    rw [if_pos (by omega), if_pos (by omega), if_pos (by omega), rd_row (by omega)]; rfl

theorem impl_tl (cells : Cells) (gap : Int) (hcol : Tells (fun k => impl_ColumnWidths.f k cells) (columnWidths cells)) : Tells (fun k => impl_TableLines.f k cells gap) (tableLines cells gap) := by
  unfold impl_TableLines.f tableLines
  refine Tells.bind hcol ?_
  unfold columnWidths
  by_cases h : tableOk cells = true
  · simp only [if_pos h, if_true]
    by_cases hg : 0 ≤ gap ∧ gap ≤ 10
    · rw [if_pos ⟨h, hg⟩]
      have := impl_tl_l0 h gap.toNat (by omega) cells.length 0 (by omega)
      rw [show ((gap.toNat : Nat) : Int) = gap from by omega] at this
      refine Tells.congr (g' := fun k => impl_TableLines.j0 k cells gap (widthsT cells) false) (fun k => ?_) (Tells.step (fun k => by simp only [impl_TableLines.j0]; rw [if_neg (by decide)]; rfl) this)
      rw [if_neg (by omega), decide_eq_false (by omega)]
    · rw [if_neg (fun q => hg q.2)]
      refine Tells.congr (g' := fun k => impl_TableLines.j0 k cells gap (widthsT cells) true) (fun k => ?_) (Tells.step (fun k => by simp only [impl_TableLines.j0]; rw [if_pos trivial]) (Tells.pure _))
      by_cases h1 : gap < 0
      · rw [if_pos h1]
      · rw [if_neg h1, decide_eq_true (by omega)]
  · rw [if_neg h, if_neg (fun q => h q.1)]
    refine Tells.congr (g' := fun k => impl_TableLines.j0 k cells gap [] true) (fun k => ?_) (Tells.step (fun k => by simp only [impl_TableLines.j0]; rw [if_pos trivial]) (Tells.pure _))
    simp only [Bool.false_eq_true, if_false]

theorem spec_tl_l1 {cells : Cells} (h : tableOk cells = true) (gap : Nat) (hg : gap ≤ 11) (acc : List ByteArray) (hacc : acc.length ≤ 20) (i : Nat) (hi : i < cells.length) (q : List ByteArray × Bool)
    (hq : Tells (fun k => spec_TableLines.l0 k cells (gap : Int) (acc ++ [tableLine cells gap (cells[i])]) (widthsT cells) (wrap64 ((i : Int) + 1))) q) : ∀ (d j : Nat), j + d = (cells[i]).length →
    Tells (fun k => spec_TableLines.l1 k cells (gap : Int) acc (widthsT cells) (i : Int) (lineWith (spaces gap) ((partsOf cells (cells[i])).take j)) (j : Int)) q
  | 0, j, hd => by
    obtain ⟨hr, h1, h2, -⟩ := table_rect h
    have hp := parts_len cells (cells[i])
    rw [List.take_of_length_le (by omega)]
    refine Tells.step (fun k => ?_) hq
    simp only [spec_TableLines.l1]
    rw [if_pos (by omega), if_pos (by omega), rd_row hi, if_neg (by omega), if_pos (by omega)]; rfl
  | d + 1, j, hd => by
    obtain ⟨hr, h1, h2, h3⟩ := table_rect h
    have hl := hr.row _ (List.getElem_mem hi)
    have hp := parts_len cells (cells[i])
    have hwl := widths_len cells
    have hw : ∀ _ : Unit, wrap64 ((j : Int) + 1) = ((j + 1 : Nat) : Int) := fun _ => by rw [wr64 (by omega) (by omega)]; rfl
    have hcw := colW_range h j (by omega)
    have hc := cellOk_size (h3 _ (List.getElem_mem hi) _ (List.getElem_mem (l := cells[i]) (n := j) (by omega)))
    have hle := line_le h hi gap hg j
    have ih := spec_tl_l1 h gap hg acc hacc i hi q hq d (j + 1) (by omega)
    rw [List.take_succ_eq_append_getElem (by omega)] at ih
    have e : (partsOf cells (cells[i]))[j]'(by omega) = padTo ((cells[i])[j]'(by omega)) (colW cells j).toNat := by
      unfold partsOf; rw [tab_get, cellIn_get (by omega)]
    rw [e] at ih
    have hsp : ∀ _ : Unit, wrap64 (colW cells j - (((cells[i])[j]'(by omega)).size : Int)) = (((colW cells j).toNat : Int) - (((cells[i])[j]'(by omega)).size : Int)) := fun _ => by rw [wr64 (by omega) (by omega)]; omega
    have htn : ((((colW cells j).toNat : Int) - (((cells[i])[j]'(by omega)).size : Int))).toNat = (colW cells j).toNat - ((cells[i])[j]'(by omega)).size := by omega
    by_cases h0 : j = 0
    · subst h0
      refine Tells.step (fun k => by simp only [spec_TableLines.l1]; rw [if_pos (by omega), if_pos (by omega), rd_row hi, if_pos (by omega), if_neg (by omega), if_pos (by omega), rdS_get (by omega), if_pos (by show 0 + _ ≤ _; omega), if_pos (by omega), rd_get (by omega), widths_get, hsp ()]) ?_
      refine Tells.bind (spaces_tells _ (by omega)) ?_
      rw [htn]
      refine Tells.congr (fun k => ?_) ih
      have e0 : lineWith (spaces gap) ((partsOf cells (cells[i])).take 0) = ByteArray.empty := rfl
      rw [e0, empty_append, if_pos (by rw [spaces_size]; omega), hw ()]; rfl
    · have hne : (partsOf cells (cells[i])).take j ≠ [] := by
        intro hh
        have := congrArg List.length hh
        rw [List.length_take, List.length_nil] at this
        omega
      rw [lineWith_snoc _ hne] at ih
      refine Tells.step (fun k => by simp only [spec_TableLines.l1]; rw [if_pos (by omega), if_pos (by omega), rd_row hi, if_pos (by omega), if_pos (by omega)]) ?_
      refine Tells.bind (spaces_tells _ (by omega)) ?_
      rw [Int.toNat_natCast]
      refine Tells.congr (fun k => by rw [if_pos (by rw [spaces_size]; omega), if_pos (by omega), rdS_get (by omega), if_pos (by rw [ByteArray.size_append, spaces_size]; omega), if_pos (by omega), rd_get (by omega), widths_get, hsp ()]) ?_
      refine Tells.bind (spaces_tells _ (by omega)) ?_
      rw [htn]
      refine Tells.congr (fun k => ?_) ih
      rw [if_pos (by rw [ByteArray.size_append, ByteArray.size_append, spaces_size, spaces_size]; omega), hw ()]
      unfold padTo
      simp only [ByteArray.append_assoc]

theorem spec_tl_l0 {cells : Cells} (h : tableOk cells = true) (gap : Nat) (hg : gap ≤ 11) : ∀ (d i : Nat), i + d = cells.length →
    Tells (fun k => spec_TableLines.l0 k cells (gap : Int) ((tableL cells gap).take i) (widthsT cells) (i : Int)) (tableL cells gap, true)
  | 0, i, hd => by
    have hl : (tableL cells gap).length = cells.length := by simp [tableL]
    rw [List.take_of_length_le (by omega)]
    refine Tells.step (fun k => ?_) (Tells.pure _)
    simp only [spec_TableLines.l0]
    rw [if_neg (by omega)]
  | d + 1, i, hd => by
    obtain ⟨hr, h1, h2, h3⟩ := table_rect h
    have hl : (tableL cells gap).length = cells.length := by simp [tableL]
    have hw : wrap64 ((i : Int) + 1) = ((i + 1 : Nat) : Int) := by rw [wr64 (by omega) (by omega)]; rfl
    have ih := spec_tl_l0 h gap hg d (i + 1) (by omega)
    rw [List.take_succ_eq_append_getElem (by omega)] at ih
    have e : (tableL cells gap)[i]'(by omega) = tableLine cells gap (cells[i]'(by omega)) := by simp [tableL]
    rw [e] at ih
    refine Tells.step (fun k => ?_) (spec_tl_l1 h gap hg ((tableL cells gap).take i) (by rw [List.length_take]; omega) i (by omega) _ (by rw [hw]; exact ih) (cells[i]'(by omega)).length 0 (by omega))
    simp only [spec_TableLines.l0]
    rw [if_pos (by omega)]; rfl

theorem spec_tl (cells : Cells) (gap : Int) (hs : SmallT cells) : Tells (fun k => spec_TableLines.f k cells gap) (tableLines cells gap) := by
  unfold spec_TableLines.f tableLines
  refine Tells.congr (fun k => Option.bind_some _ _) (Tells.bind (spec_table cells hs) ?_)
  by_cases h : tableOk cells = true
  · obtain ⟨hr, h1, h2, h3⟩ := table_rect h
    by_cases hg : 0 ≤ gap ∧ gap ≤ 10
    · rw [if_pos ⟨h, hg⟩]
      have := spec_tl_l0 h gap.toNat (by omega) cells.length 0 (by omega)
      rw [show ((gap.toNat : Nat) : Int) = gap from by omega] at this
      refine Tells.congr (g' := fun k => spec_TableLines.j0 k cells gap [] false) (fun k => ?_) (Tells.step (fun k => by simp only [spec_TableLines.j0]; rw [if_neg (by decide)]) (Tells.bind (spec_widths hr h1 h2) this))
      rw [if_pos h, if_neg (by omega), decide_eq_false (by omega)]
    · rw [if_neg (fun q => hg q.2)]
      refine Tells.congr (g' := fun k => spec_TableLines.j0 k cells gap [] true) (fun k => ?_) (Tells.step (fun k => by simp only [spec_TableLines.j0]; rw [if_pos trivial]) (Tells.pure _))
      rw [if_pos h]
      by_cases h1 : gap < 0
      · rw [if_pos h1]
      · rw [if_neg h1, decide_eq_true (by omega)]
  · rw [if_neg (fun q => h q.1)]
    refine Tells.congr (g' := fun k => spec_TableLines.j0 k cells gap [] true) (fun k => ?_) (Tells.step (fun k => by simp only [spec_TableLines.j0]; rw [if_pos trivial]) (Tells.pure _))
    rw [if_neg h]

theorem tableL_len (cells : Cells) (gap : Nat) : (tableL cells gap).length = cells.length := by simp [tableL]

theorem tableLines_len (cells : Cells) (gap : Int) : (tableLines cells gap).1.length ≤ 20 := by
  unfold tableLines
  by_cases h : tableOk cells ∧ 0 ≤ gap ∧ gap ≤ 10
  · rw [if_pos h]
    have := (table_rect h.1).2.1
    show (tableL cells gap.toNat).length ≤ 20
    rw [tableL_len]; exact this
  · rw [if_neg h]; simp

end DocPure
