/- Offsets of lines in a text: each line's bytes and one for its newline. Plain. -/
namespace DocPure

/-- The bytes in front of a line: each line before it and its newline. -/
def offs (ls : List Nat) (i : Nat) : Nat := ((ls.take i).map (· + 1)).sum

theorem offs_zero (ls : List Nat) : offs ls 0 = 0 := by simp [offs]

theorem offs_succ (ls : List Nat) {i : Nat} (h : i < ls.length) : offs ls (i + 1) = offs ls i + (ls[i] + 1) := by
  unfold offs
  rw [List.take_succ_eq_append_getElem h, List.map_append, List.sum_append]
  simp

theorem offs_le (ls : List Nat) (m : Nat) (h : ∀ x ∈ ls, x ≤ m) : ∀ i, i ≤ ls.length → offs ls i ≤ i * (m + 1)
  | 0, _ => by simp [offs]
  | i + 1, hi => by
    have ih := offs_le ls m h i (by omega)
    have hx := h (ls[i]'(by omega)) (List.getElem_mem _)
    rw [offs_succ ls (by omega), Nat.succ_mul]
    omega

/-- The place of an offset: the first line, from line i on, that has as many bytes. -/
def placeFrom (i : Nat) : Int → List Nat → Int × Int × Bool
  | _, [] => (0, 0, false)
  | n, x :: xs => if n ≤ x then ((i : Int), n, true) else placeFrom (i + 1) (n - x - 1) xs

end DocPure
