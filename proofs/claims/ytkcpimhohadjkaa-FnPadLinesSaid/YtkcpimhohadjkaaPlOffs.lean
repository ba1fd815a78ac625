/- Offsets of lines in a text: each line's bytes and one for its newline. Plain. -/
namespace DocPure

/-- The bytes in front of a line: each line before it and its newline. -/
def offs (ls : List Nat) (i : Nat) : Nat := ((ls.take i).map (· + 1)).sum

theorem offs_zero (ls : List Nat) : offs ls 0 = 0 := by simp [offs]

theorem offs_succ (ls : List Nat) {i : Nat} (h : i < ls.length) : offs ls (i + 1) = offs ls i + (ls[i] + 1) := by
  unfold offs
  rw [List.take_succ_eq_append_getElem h, List.map_append, List.sum_append]
  simp

theorem offs_le (ls : List Nat) (m : Nat) (h : ∀ x ∈ ls, x ≤ m) : ∀ i, i ≤ ls.length → offs ls i ≤ i * (m + 1)
  | 0, _ => by simp [offs]
  | i + 1, hi => by
    have ih := offs_le ls m h i (by omega)
    have hx := h (ls[i]'(by omega)) (List.getElem_mem _)
    rw [offs_succ ls (by omega), Nat.succ_mul]
    omega

/-- The place of an offset: the first line, from line i on, that has as many bytes. -/
def placeFrom (i : Nat) : Int → List Nat → Int × Int × Bool
  | _, [] => (0, 0, false)
  | n, x :: xs => if n ≤ x then ((i : Int), n, true) else placeFrom (i + 1) (n - x - 1) xs

theorem offs_mono (ls : List Nat) : ∀ (d i : Nat), i + d ≤ ls.length → offs ls i + d ≤ offs ls (i + d)
  | 0, i, _ => Nat.le_refl _
  | d + 1, i, h => by
    have ih := offs_mono ls d i (by omega)
    have := offs_succ ls (i := i + d) (by omega)
    rw [show i + (d + 1) = i + d + 1 from rfl, this]
    omega

theorem offs_cons (x : Nat) (xs : List Nat) (j : Nat) : offs (x :: xs) (j + 1) = x + 1 + offs xs j := by
  unfold offs
  rw [List.take_succ_cons, List.map_cons, List.sum_cons]

/-- The place of an offset that lies in the lines. -/
theorem place_in : ∀ (ls : List Nat) (i : Nat) (m : Int), 0 ≤ m → m < (offs ls ls.length : Int) →
    ∃ (j : Nat) (hj : j < ls.length) (b : Int), placeFrom i m ls = (((i + j : Nat) : Int), b, true) ∧ 0 ≤ b ∧ b ≤ (ls[j] : Nat) ∧ m = (offs ls j : Int) + b
  | [], i, m, h0, h1 => by
    have : offs [] 0 = 0 := rfl
    simp only [List.length_nil, this] at h1
    omega
  | x :: xs, i, m, h0, h1 => by
    unfold placeFrom
    by_cases h : m ≤ (x : Int)
    · rw [if_pos h]
      exact ⟨0, by simp, m, rfl, h0, h, by rw [offs_zero]; omega⟩
    · rw [if_neg h]
      rw [List.length_cons, offs_cons] at h1
      obtain ⟨j, hj, b, e, b0, b1, hm⟩ := place_in xs (i + 1) (m - x - 1) (by omega) (by omega)
      refine ⟨j + 1, by simpa using hj, b, ?_, b0, by simpa using b1, ?_⟩
      · rw [e, show i + 1 + j = i + (j + 1) from by omega]
      · rw [offs_cons]; omega

/-- An offset behind the lines has no place. -/
theorem place_out : ∀ (ls : List Nat) (i : Nat) (m : Int), (offs ls ls.length : Int) ≤ m → placeFrom i m ls = (0, 0, false)
  | [], i, m, _ => rfl
  | x :: xs, i, m, h => by
    rw [List.length_cons, offs_cons] at h
    unfold placeFrom
    rw [if_neg (by omega)]
    exact place_out xs (i + 1) (m - x - 1) (by omega)

/-- There is one place of an offset. -/
theorem place_one (ls : List Nat) {j j' : Nat} (hj : j < ls.length) (hj' : j' < ls.length) {b b' : Int} (h0 : 0 ≤ b) (h1 : b ≤ (ls[j] : Nat)) (h0' : 0 ≤ b') (h1' : b' ≤ (ls[j'] : Nat))
    (e : (offs ls j : Int) + b = (offs ls j' : Int) + b') : j = j' := by
  have s := offs_succ ls hj
  have s' := offs_succ ls hj'
  rcases Nat.lt_trichotomy j j' with h | h | h
  · have := offs_mono ls (j' - (j + 1)) (j + 1) (by omega)
    rw [show j + 1 + (j' - (j + 1)) = j' from by omega] at this
    omega
  · exact h
  · have := offs_mono ls (j - (j' + 1)) (j' + 1) (by omega)
    rw [show j' + 1 + (j - (j' + 1)) = j from by omega] at this
    omega

end DocPure
