/- Texts put together with another one between each two of them; spaces. Plain. -/
namespace DocPure

def glue (sep : ByteArray) : ByteArray → List ByteArray → ByteArray
  | acc, [] => acc
  | acc, w :: ws => glue sep (acc ++ (sep ++ w)) ws

def lineWith (sep : ByteArray) : List ByteArray → ByteArray
  | [] => ByteArray.empty
  | w :: ws => glue sep w ws

theorem glue_data (sep : ByteArray) : ∀ (ws : List ByteArray) (acc : ByteArray), (glue sep acc ws).data.toList = acc.data.toList ++ (ws.map fun w => sep.data.toList ++ w.data.toList).flatten
  | [], acc => by simp [glue]
  | w :: ws, acc => by
    unfold glue
    rw [glue_data sep ws]
    simp [ByteArray.data_append]

theorem glue_append (sep : ByteArray) : ∀ (xs ys : List ByteArray) (acc : ByteArray), glue sep acc (xs ++ ys) = glue sep (glue sep acc xs) ys
  | [], _, _ => rfl
  | x :: xs, ys, acc => by
    show glue sep (acc ++ (sep ++ x)) (xs ++ ys) = _
    rw [glue_append sep xs ys]; rfl

theorem lineWith_snoc (sep : ByteArray) {ws : List ByteArray} (h : ws ≠ []) (w : ByteArray) : lineWith sep (ws ++ [w]) = lineWith sep ws ++ (sep ++ w) := by
  cases ws with
  | nil => exact absurd rfl h
  | cons x xs =>
    show glue sep x (xs ++ [w]) = _
    rw [glue_append]; rfl

def total (ws : List ByteArray) : Nat := (ws.map ByteArray.size).sum

theorem total_append (a b : List ByteArray) : total (a ++ b) = total a + total b := by simp [total]

theorem total_cons (a : ByteArray) (b : List ByteArray) : total (a :: b) = a.size + total b := by simp [total]

theorem glue_size (sep : ByteArray) : ∀ (ws : List ByteArray) (acc : ByteArray), (glue sep acc ws).size = acc.size + total ws + ws.length * sep.size
  | [], acc => by simp [glue, total]
  | w :: ws, acc => by
    unfold glue
    rw [glue_size sep ws, ByteArray.size_append, ByteArray.size_append, total_cons, List.length_cons, Nat.succ_mul]
    omega

theorem lineWith_size (sep w : ByteArray) (ws : List ByteArray) : (lineWith sep (w :: ws)).size = w.size + total ws + ws.length * sep.size := glue_size sep ws w

def spaces (n : Nat) : ByteArray := ⟨(List.replicate n (32 : UInt8)).toArray⟩

theorem spaces_size (n : Nat) : (spaces n).size = n := by simp [spaces, ByteArray.size]

theorem spaces_data (n : Nat) : (spaces n).data.toList = List.replicate n 32 := by simp [spaces]

theorem bytes_eq {a b : ByteArray} (h : a.data.toList = b.data.toList) : a = b := ByteArray.ext (Array.toList_inj.1 h)

theorem spaces_add (m n : Nat) : spaces m ++ spaces n = spaces (m + n) := by
  refine bytes_eq ?_
  rw [ByteArray.data_append, Array.toList_append, spaces_data, spaces_data, spaces_data, List.replicate_append_replicate]

theorem spaces_zero : spaces 0 = ByteArray.empty := rfl

theorem spaces_one : spaces 1 = ⟨#[32]⟩ := rfl

theorem append_empty (a : ByteArray) : a ++ ByteArray.empty = a := by
  refine bytes_eq ?_
  rw [ByteArray.data_append, Array.toList_append]
  show _ ++ [] = _
  rw [List.append_nil]

theorem empty_append (a : ByteArray) : ByteArray.empty ++ a = a := by
  refine bytes_eq ?_
  rw [ByteArray.data_append, Array.toList_append]; rfl

/-- A text with spaces behind it, up to a width. -/
def padTo (s : ByteArray) (n : Nat) : ByteArray := s ++ spaces (n - s.size)

theorem padTo_size {s : ByteArray} {n : Nat} (h : s.size ≤ n) : (padTo s n).size = n := by
  unfold padTo
  rw [ByteArray.size_append, spaces_size]; omega

theorem size_data (s : ByteArray) : s.data.toList.length = s.size := by rw [Array.length_toList]; rfl

theorem extract_data (s : ByteArray) (a b : Nat) : (s.extract a b).data.toList = (s.data.toList.take b).drop a := by
  rw [ByteArray.data_extract, Array.toList_extract]
  simp [List.drop_take]

/-- The front of a text put together is its first part; what is behind is the second one. -/
theorem extract_front (a b : ByteArray) : (a ++ b).extract 0 a.size = a := by
  refine bytes_eq ?_
  rw [extract_data, ByteArray.data_append, Array.toList_append, List.drop_zero, ← size_data, List.take_left]

theorem extract_back (a b : ByteArray) : (a ++ b).extract a.size (a ++ b).size = b := by
  refine bytes_eq ?_
  rw [extract_data, ← size_data, ← size_data, List.take_of_length_le (Nat.le_refl _), ByteArray.data_append, Array.toList_append, List.drop_left]

theorem extract_mid (a b c : ByteArray) : (a ++ (b ++ c)).extract a.size (a.size + b.size) = b := by
  refine bytes_eq ?_
  rw [extract_data, ByteArray.data_append, ByteArray.data_append, Array.toList_append, Array.toList_append, ← size_data, ← size_data]
  rw [← List.append_assoc, List.take_left' (by simp), List.drop_left]

end DocPure
