/- Which pages of rows are valid; how long a row is. The printed functions of the program and of the reference are the plain ones. -/
import Derived.Test.YtkcpimhohadjkaaPPbx0
import Derived.Test.YtkcpimhohadjkaaPPbx2
import Derived.Test.YtkcpimhohadjkaaPPbx4
import Derived.Test.YtkcpimhohadjkaaPbRowText
import Derived.Test.YtkcpimhohadjkaaPbSpaces
namespace DocPure
open Go.RowKit Go.Proofs.Ytkcpimhohadjkaa.PPb Go.Proofs.YtkcpimhohadjkaaW.PrintWords

abbrev Row := S59

theorem rd_rows {l : List Row} {i : Nat} (h : i < l.length) : rd_T59 l (i : Int) = l[i] := by
  unfold rd_T59
  rw [Int.toNat_natCast, List.getD_eq_getElem?_getD, List.getElem?_eq_getElem h]; rfl

def rowOk (r : Row) : Bool := decide (0 ≤ r.f0) && decide (r.f0 ≤ 400) && (rowText r.f1 && decide (r.f1.size < 2000))

def headOk : List Row → Bool
  | [] => true
  | r :: _ => decide (r.f0 = 0)

def layoutOk (rows : List Row) : Bool := decide (1 ≤ rows.length) && decide (rows.length ≤ 200) && headOk rows && rows.all rowOk

structure SmallR (rows : List Row) : Prop where
  len : rows.length ≤ 9223372036854775806
  sz : ∀ r ∈ rows, r.f1.size ≤ 9223372036854775806

theorem rowOk_parts {r : Row} (h : rowOk r = true) : 0 ≤ r.f0 ∧ r.f0 ≤ 400 ∧ r.f1.size < 2000 := by
  unfold rowOk at h
  rw [Bool.and_eq_true, Bool.and_eq_true, Bool.and_eq_true] at h
  exact ⟨of_decide_eq_true h.1.1, of_decide_eq_true h.1.2, of_decide_eq_true h.2.2⟩

theorem layout_parts {rows : List Row} (h : layoutOk rows = true) : 1 ≤ rows.length ∧ rows.length ≤ 200 ∧ ∀ r ∈ rows, 0 ≤ r.f0 ∧ r.f0 ≤ 400 ∧ r.f1.size < 2000 := by
  unfold layoutOk at h
  rw [Bool.and_eq_true, Bool.and_eq_true, Bool.and_eq_true] at h
  exact ⟨of_decide_eq_true h.1.1.1, of_decide_eq_true h.1.1.2, fun r hr => rowOk_parts (List.all_eq_true.1 h.2 r hr)⟩

theorem impl_layout_l0 (rows : List Row) (hs : SmallR rows) : ∀ (d i : Nat), i + d = rows.length → Tells (fun k => impl_LayoutValid.l0 k rows (rows.length : Int) (i : Int)) ((rows.drop i).all rowOk)
  | 0, i, hd => by
    rw [List.drop_of_length_le (by omega)]
    refine Tells.step (fun k => ?_) (Tells.pure _)
    simp only [impl_LayoutValid.l0]
    rw [if_neg (by omega)]; rfl
  | d + 1, i, hd => by
    have hl := hs.len
    have hw : ∀ _ : Unit, wrap64 ((i : Int) + 1) = ((i + 1 : Nat) : Int) := fun _ => by rw [wr64 (by omega) (by omega)]; rfl
    have ih := impl_layout_l0 rows hs d (i + 1) (by omega)
    have e : rd_T59 rows (i : Int) = rows[i]'(by omega) := rd_rows (by omega)
    have hz := hs.sz (rows[i]'(by omega)) (List.getElem_mem _)
    rw [List.drop_eq_getElem_cons (show i < rows.length by omega), List.all_cons]
    by_cases h0 : (rows[i]'(by omega)).f0 < 0
    · have er : rowOk (rows[i]'(by omega)) = false := by unfold rowOk; rw [decide_eq_false (by omega)]; rfl
      rw [er, Bool.false_and]
      refine Tells.step (fun k => ?_) (Tells.pure _)
      simp only [impl_LayoutValid.l0]
      rw [if_pos (by omega), if_pos (by omega), if_pos (by omega), e, if_pos h0]
    by_cases h1 : (rows[i]'(by omega)).f0 > 400
    · have er : rowOk (rows[i]'(by omega)) = false := by unfold rowOk; rw [decide_eq_false (show ¬ (rows[i]'(by omega)).f0 ≤ 400 by omega), Bool.and_false]; rfl
      rw [er, Bool.false_and]
      refine Tells.step (fun k => ?_) (Tells.pure _)
      simp only [impl_LayoutValid.l0]
      rw [if_pos (by omega), if_pos (by omega), if_pos (by omega), e, if_neg h0, if_pos h1]
    have er : rowOk (rows[i]'(by omega)) = (rowText (rows[i]'(by omega)).f1 && decide ((rows[i]'(by omega)).f1.size < 2000)) := by
      unfold rowOk
      rw [decide_eq_true (show 0 ≤ (rows[i]'(by omega)).f0 by omega), decide_eq_true (show (rows[i]'(by omega)).f0 ≤ 400 by omega), Bool.true_and, Bool.true_and]
    rw [er]
    refine Tells.step (fun k => by simp only [impl_LayoutValid.l0]; rw [if_pos (by omega), if_pos (by omega), if_pos (by omega), e, if_neg h0, if_neg h1]) ?_
    refine Tells.bind (impl_rowBytes_tells _ hz) ?_
    by_cases ht : rowText (rows[i]'(by omega)).f1 = true
    · rw [ht, Bool.true_and]
      refine Tells.iteT rfl ?_
      by_cases h2 : (rows[i]'(by omega)).f1.size < 2000
      · rw [decide_eq_true h2, Bool.true_and]
        exact Tells.iteF (by omega) (Tells.congr (fun k => by rw [hw ()]) ih)
      · rw [decide_eq_false h2, Bool.false_and]
        exact Tells.iteT (by omega) (Tells.pure _)
    · rw [Bool.not_eq_true] at ht
      rw [ht, Bool.false_and, Bool.false_and]
      exact Tells.iteF (by decide) (Tells.pure _)

theorem impl_layout (rows : List Row) (hs : SmallR rows) : Tells (fun k => impl_LayoutValid.f k rows) (layoutOk rows) := by
  unfold impl_LayoutValid.f layoutOk
  by_cases h1 : rows.length < 1
  · rw [decide_eq_false (show ¬ 1 ≤ rows.length by omega), Bool.false_and, Bool.false_and, Bool.false_and]
    exact Tells.congr (fun k => if_pos (by omega)) (Tells.step (fun k => by simp only [impl_LayoutValid.j0]; rw [if_pos trivial]) (Tells.pure _))
  · rw [decide_eq_true (show 1 ≤ rows.length by omega), Bool.true_and]
    refine Tells.congr (fun k => if_neg (by omega)) ?_
    by_cases h2 : rows.length > 200
    · rw [decide_eq_false (show ¬ rows.length ≤ 200 by omega), Bool.false_and, Bool.false_and]
      exact Tells.congr (fun k => if_pos (by omega)) (Tells.step (fun k => by simp only [impl_LayoutValid.j0]; rw [if_pos trivial]) (Tells.pure _))
    · rw [decide_eq_true (show rows.length ≤ 200 by omega), Bool.true_and]
      have hl0 := impl_layout_l0 rows hs rows.length 0 (by omega)
      rw [List.drop_zero] at hl0
      have e : rd_T59 rows 0 = rows[0]'(by omega) := rd_rows (i := 0) (by omega)
      have eh : headOk rows = decide ((rows[0]'(by omega)).f0 = 0) := by
        cases rows with
        | nil => simp at h1
        | cons r rs => rfl
      rw [eh]
      refine Tells.congr (fun k => by rw [if_neg (by omega), if_pos (by omega), e]) ?_
      by_cases h3 : (rows[0]'(by omega)).f0 = 0
      · rw [decide_eq_true h3, Bool.true_and, h3]
        exact Tells.step (fun k => by simp only [impl_LayoutValid.j0]; rw [if_neg (by decide)]; rfl) hl0
      · rw [decide_eq_false h3, Bool.false_and, bne_iff_ne.2 h3]
        exact Tells.step (fun k => by simp only [impl_LayoutValid.j0]; rw [if_pos trivial]) (Tells.pure _)

def headAt (i : Nat) (rows : List Row) : Bool := decide (i ≠ 0) || headOk rows

theorem spec_layout_l0 (rows : List Row) (hs : SmallR rows) : ∀ (d i : Nat), i + d = rows.length → i ≤ 201 → Tells (fun k => spec_LayoutValid.l0 k rows (i : Int)) ((headAt i rows && (rows.drop i).all rowOk) && (decide (1 ≤ rows.length) && decide (rows.length ≤ 200)))
  | 0, i, hd, h2 => by
    have eh : headAt i rows = true := by
      unfold headAt
      by_cases h0 : i = 0
      · have : rows = [] := List.eq_nil_of_length_eq_zero (by omega)
        subst this
        simp [headOk]
      · rw [decide_eq_true h0]; rfl
    rw [List.drop_of_length_le (by omega), eh, List.all_nil, Bool.true_and, Bool.true_and]
    refine Tells.step (g' := fun k => spec_LayoutValid.j1 k rows (i : Int) false) (fun k => by simp only [spec_LayoutValid.l0]; rw [if_neg (by omega)]) (Tells.step (fun k => ?_) (Tells.pure _))
    simp only [spec_LayoutValid.j1]
    rw [if_neg (by decide)]
    by_cases h1 : 1 ≤ rows.length
    · rw [if_pos (by omega), decide_eq_true h1, Bool.true_and, decide_eq_decide.2 (show ((rows.length : Int) ≤ 200 ↔ rows.length ≤ 200) by omega)]
    · rw [if_neg (by omega), decide_eq_false h1, Bool.false_and]
  | d + 1, i, hd, h2 => by
    have hl := hs.len
    by_cases h20 : i ≤ 200
    · have hw : ∀ _ : Unit, wrap64 ((i : Int) + 1) = ((i + 1 : Nat) : Int) := fun _ => by rw [wr64 (by omega) (by omega)]; rfl
      have ih := spec_layout_l0 rows hs d (i + 1) (by omega) (by omega)
      have eh1 : headAt (i + 1) rows = true := by unfold headAt; rw [decide_eq_true (by omega)]; rfl
      rw [eh1, Bool.true_and] at ih
      have e : rd_T59 rows (i : Int) = rows[i]'(by omega) := rd_rows (by omega)
      have hz := hs.sz (rows[i]'(by omega)) (List.getElem_mem _)
      rw [List.drop_eq_getElem_cons (show i < rows.length by omega), List.all_cons]
      refine Tells.step (g' := fun k => spec_LayoutValid.j1 k rows (i : Int) true) (fun k => by simp only [spec_LayoutValid.l0]; rw [if_pos (by omega), decide_eq_true (by omega)]) ?_
      by_cases h0 : (rows[i]'(by omega)).f0 < 0
      · have er : rowOk (rows[i]'(by omega)) = false := by unfold rowOk; rw [decide_eq_false (by omega)]; rfl
        rw [er, Bool.false_and, Bool.and_false, Bool.false_and]
        refine Tells.step (fun k => ?_) (Tells.pure _)
        simp only [spec_LayoutValid.j1]
        rw [if_pos trivial, if_pos (by omega), if_pos (by omega), e, if_pos h0]
      by_cases h1 : (rows[i]'(by omega)).f0 > 400
      · have er : rowOk (rows[i]'(by omega)) = false := by unfold rowOk; rw [decide_eq_false (show ¬ (rows[i]'(by omega)).f0 ≤ 400 by omega), Bool.and_false]; rfl
        rw [er, Bool.false_and, Bool.and_false, Bool.false_and]
        refine Tells.step (fun k => ?_) (Tells.pure _)
        simp only [spec_LayoutValid.j1]
        rw [if_pos trivial, if_pos (by omega), if_pos (by omega), e, if_neg h0, if_pos h1]
      have er : rowOk (rows[i]'(by omega)) = (rowText (rows[i]'(by omega)).f1 && decide ((rows[i]'(by omega)).f1.size < 2000)) := by
        unfold rowOk
        rw [decide_eq_true (show 0 ≤ (rows[i]'(by omega)).f0 by omega), decide_eq_true (show (rows[i]'(by omega)).f0 ≤ 400 by omega), Bool.true_and, Bool.true_and]
      have fin : Tells (fun k => (spec_l2Text.f k (rows[i]'(by omega)).f1).bind fun t => if t = true then spec_LayoutValid.l0 k rows (wrap64 ((i : Int) + 1)) else some false) (rowOk (rows[i]'(by omega)) && (rows.drop (i + 1)).all rowOk && (decide (1 ≤ rows.length) && decide (rows.length ≤ 200))) := by
        rw [er]
        refine Tells.bind (spec_l2Text_tells _ hz) ?_
        by_cases ht : (rowText (rows[i]'(by omega)).f1 && decide ((rows[i]'(by omega)).f1.size < 2000)) = true
        · rw [ht, Bool.true_and]
          exact Tells.iteT rfl (Tells.congr (fun k => by rw [hw ()]) ih)
        · rw [Bool.not_eq_true] at ht
          rw [ht, Bool.false_and, Bool.false_and]
          exact Tells.iteF (by decide) (Tells.pure _)
      by_cases hi : i = 0
      · subst hi
        have eh : headAt 0 rows = decide ((rows[0]'(by omega)).f0 = 0) := by
          cases rows with
          | nil => simp at hd
          | cons r rs => simp [headAt, headOk]
        rw [eh]
        by_cases h3 : (rows[0]'(by omega)).f0 = 0
        · rw [decide_eq_true h3, Bool.true_and]
          refine Tells.step (fun k => ?_) fin
          simp only [spec_LayoutValid.j1]
          rw [if_pos trivial, if_pos (by omega), if_pos (by omega), e, if_neg h0, if_neg h1, if_pos (by omega), if_pos h3]
        · rw [decide_eq_false h3, Bool.false_and, Bool.false_and]
          refine Tells.step (fun k => ?_) (Tells.pure _)
          simp only [spec_LayoutValid.j1]
          rw [if_pos trivial, if_pos (by omega), if_pos (by omega), e, if_neg h0, if_neg h1, if_pos (by omega), if_neg h3]
      · have eh : headAt i rows = true := by unfold headAt; rw [decide_eq_true hi]; rfl
        rw [eh, Bool.true_and]
        refine Tells.step (fun k => ?_) fin
        simp only [spec_LayoutValid.j1]
        rw [if_pos trivial, if_pos (by omega), if_pos (by omega), e, if_neg h0, if_neg h1, if_neg (by omega)]
    · rw [decide_eq_false (show ¬ rows.length ≤ 200 by omega), Bool.and_false, Bool.and_false]
      refine Tells.step (g' := fun k => spec_LayoutValid.j1 k rows (i : Int) false) (fun k => by simp only [spec_LayoutValid.l0]; rw [if_pos (by omega), decide_eq_false (by omega)]) (Tells.step (fun k => ?_) (Tells.pure _))
      simp only [spec_LayoutValid.j1]
      rw [if_neg (by decide), if_pos (by omega), decide_eq_false (by omega)]

theorem spec_layout (rows : List Row) (hs : SmallR rows) : Tells (fun k => spec_LayoutValid.f k rows) (layoutOk rows) := by
  have h := spec_layout_l0 rows hs rows.length 0 (by omega) (by omega)
  rw [List.drop_zero] at h
  have e : layoutOk rows = ((headAt 0 rows && rows.all rowOk) && (decide (1 ≤ rows.length) && decide (rows.length ≤ 200))) := by
    have e0 : headAt 0 rows = headOk rows := by simp [headAt]
    rw [e0]
    unfold layoutOk
    cases decide (1 ≤ rows.length) <;> cases decide (rows.length ≤ 200) <;> cases headOk rows <;> cases rows.all rowOk <;> rfl
  rw [e]
  exact h

/-- A row's text: its spaces and its own, or nothing. -/
def rowLine (r : Row) : ByteArray := if r.f1.size = 0 then ByteArray.empty else spaces r.f0.toNat ++ r.f1

def rowLen (r : Row) : Nat := if r.f1.size = 0 then 0 else r.f0.toNat + r.f1.size

theorem rowLine_size (r : Row) : (rowLine r).size = rowLen r := by
  unfold rowLine rowLen
  split
  · rfl
  · rw [ByteArray.size_append, spaces_size]

theorem rowLen_le {r : Row} (h : 0 ≤ r.f0 ∧ r.f0 ≤ 400 ∧ r.f1.size < 2000) : rowLen r ≤ 2400 := by
  unfold rowLen
  split <;> omega

theorem str_nil (c : ByteArray) : c.toList = ([] : List UInt8) ↔ c.size = 0 := by
  rw [Go.ByteArray.toList_eq, ← size_data]
  exact List.length_eq_zero_iff.symm

theorem impl_rowLen_tells (r : Row) (h : 0 ≤ r.f0 ∧ r.f0 ≤ 400 ∧ r.f1.size < 2000) : impl_rowLen.f r.f0 r.f1 = some (rowLen r : Int) := by
  unfold impl_rowLen.f rowLen
  by_cases h0 : r.f1.size = 0
  · rw [if_pos ((str_nil _).2 h0), if_pos h0]; rfl
  · rw [if_neg (fun e => h0 ((str_nil _).1 e)), if_neg h0, wr64 (by omega) (by omega)]
    congr 1
    omega

theorem spec_l2Line_tells (r : Row) (h : 0 ≤ r.f0 ∧ r.f0 ≤ 400 ∧ r.f1.size < 2000) : Tells (fun k => spec_l2Line.f k r.f0 r.f1) (rowLine r) := by
  unfold spec_l2Line.f rowLine
  by_cases h0 : r.f1.size = 0
  · rw [if_pos h0]
    exact Tells.congr (fun k => if_pos ((str_nil _).2 h0)) (Tells.of fun k => rfl)
  · rw [if_neg h0]
    refine Tells.congr (fun k => if_neg (fun e => h0 ((str_nil _).1 e))) ?_
    refine Tells.bind (spaces_tells r.f0 (by omega)) (Tells.iteT (by rw [spaces_size]; omega) (Tells.pure _))

end DocPure
