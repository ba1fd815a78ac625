/- A line of a table: its cells, each padded to the width of its column, with a gap between each two of them. Plain. -/
import Derived.Test.YthcfocpimoghbaaLine
import Derived.Test.YthcfocpimoghbaaTable
import Derived.Test.YthcfocpimoghbaaTab
namespace DocPure

theorem glue_prefix (sep : ByteArray) : ∀ (ws : List ByteArray) (acc : ByteArray), ∃ R, glue sep acc ws = acc ++ R
  | [], acc => ⟨ByteArray.empty, by rw [append_empty]; rfl⟩
  | w :: ws, acc => by
    obtain ⟨R, h⟩ := glue_prefix sep ws (acc ++ (sep ++ w))
    refine ⟨(sep ++ w) ++ R, ?_⟩
    show glue sep (acc ++ (sep ++ w)) ws = _
    rw [h, ByteArray.append_assoc]

/-- Where a part stands in a line. -/
theorem lineWith_at (sep : ByteArray) (ps : List ByteArray) (k : Nat) (h : k < ps.length) :
    ∃ A R, lineWith sep ps = A ++ (ps[k] ++ R) ∧ A.size = total (ps.take k) + k * sep.size := by
  have hd : ps = ps.take k ++ ps[k] :: ps.drop (k + 1) := by
    rw [← List.drop_eq_getElem_cons h, List.take_append_drop]
  cases hk : ps.take k with
  | nil =>
    have k0 : k = 0 := by
      have := congrArg List.length hk
      rw [List.length_take, List.length_nil] at this
      omega
    subst k0
    rw [hk, List.nil_append] at hd
    obtain ⟨R, hR⟩ := glue_prefix sep (ps.drop 1) (ps[0])
    refine ⟨ByteArray.empty, R, ?_, by simp [total]⟩
    rw [empty_append, ← hR]
    conv => lhs; rw [hd]
    rfl
  | cons x xs =>
    rw [hk] at hd
    obtain ⟨R, hR⟩ := glue_prefix sep (ps.drop (k + 1)) (glue sep x xs ++ (sep ++ ps[k]))
    refine ⟨glue sep x xs ++ sep, R, ?_, ?_⟩
    · have e : lineWith sep ps = glue sep (glue sep x xs ++ (sep ++ ps[k])) (ps.drop (k + 1)) := by
        conv => lhs; rw [hd]
        show glue sep x (xs ++ ps[k] :: ps.drop (k + 1)) = _
        rw [glue_append]; rfl
      rw [e, hR]
      simp only [ByteArray.append_assoc]
    · rw [ByteArray.size_append, glue_size, total_cons]
      have : k = xs.length + 1 := by
        have := congrArg List.length hk
        rw [List.length_take, List.length_cons] at this
        omega
      subst this
      rw [Nat.succ_mul]; omega

def partsOf (cells : Cells) (r : List ByteArray) : List ByteArray := tab r.length fun k => padTo (cellIn r k) (colW cells k).toNat

def tableLine (cells : Cells) (gap : Nat) (r : List ByteArray) : ByteArray := lineWith (spaces gap) (partsOf cells r)

def tableL (cells : Cells) (gap : Nat) : List ByteArray := cells.map (tableLine cells gap)

theorem parts_len (cells : Cells) (r : List ByteArray) : (partsOf cells r).length = r.length := tab_len _ _

theorem part_size {cells : Cells} {i k : Nat} (hi : i < cells.length) (hk : k < (cells[i]).length) : ((partsOf cells (cells[i]))[k]'(by rw [parts_len]; exact hk)).size = (colW cells k).toNat := by
  unfold partsOf
  rw [tab_get]
  refine padTo_size ?_
  have := size_le_colW (cells := cells) (i := i) (k := k) hi
  rw [rowAt_get hi] at this
  omega

theorem tableLine_size {cells : Cells} {r : List ByteArray} (gap : Nat) (h : 1 ≤ r.length) : (tableLine cells gap r).size = total (partsOf cells r) + (r.length - 1) * gap := by
  unfold tableLine
  have hl := parts_len cells r
  cases hp : partsOf cells r with
  | nil => rw [hp] at hl; simp at hl; omega
  | cons x xs =>
    rw [hp] at hl
    rw [lineWith_size, spaces_size, total_cons]
    simp only [List.length_cons] at hl
    rw [show r.length - 1 = xs.length from by omega]

end DocPure
