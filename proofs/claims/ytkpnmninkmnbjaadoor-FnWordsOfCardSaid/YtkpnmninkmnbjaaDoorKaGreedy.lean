/- Greedy lines: each word is added to the last line if it fits there, or begins a new one. Plain. -/
namespace DocPure

def sp1 : ByteArray := ⟨#[32]⟩

/-- The last line, or nothing. -/
def lastOf (out : List ByteArray) : ByteArray := out.getD (out.length - 1) ByteArray.empty

def greedyStep (width : Int) (out : List ByteArray) (w : ByteArray) : List ByteArray :=
  if 1 ≤ out.length ∧ ((lastOf out).size : Int) + 1 + w.size ≤ width then out.set (out.length - 1) (lastOf out ++ (sp1 ++ w)) else out ++ [w]

def greedy (width : Int) : List ByteArray → List ByteArray → List ByteArray
  | out, [] => out
  | out, w :: ws => greedy width (greedyStep width out w) ws

theorem greedyStep_len (width : Int) (out : List ByteArray) (w : ByteArray) : 1 ≤ (greedyStep width out w).length ∧ (greedyStep width out w).length ≤ out.length + 1 := by
  unfold greedyStep
  split
  · rw [List.length_set]; omega
  · rw [List.length_append]; simp

theorem greedy_len (width : Int) : ∀ (ws out : List ByteArray), (greedy width out ws).length ≤ out.length + ws.length
  | [], out => by simp [greedy]
  | w :: ws, out => by
    have h := greedy_len width ws (greedyStep width out w)
    have := greedyStep_len width out w
    unfold greedy
    simp only [List.length_cons]
    omega

/-- All lines are short: n words of at most 12 bytes each have made them. -/
def Short (n : Nat) (out : List ByteArray) : Prop := ∀ l ∈ out, l.size ≤ 13 * n

theorem lastOf_short {n : Nat} {out : List ByteArray} (h : Short n out) : (lastOf out).size ≤ 13 * n := by
  unfold lastOf
  rw [List.getD_eq_getElem?_getD]
  cases e : out[out.length - 1]? with
  | none => exact Nat.zero_le _
  | some l => exact h l (List.mem_of_getElem? e)

theorem greedyStep_short {n : Nat} {width : Int} {out : List ByteArray} {w : ByteArray} (h : Short n out) (hw : w.size ≤ 12) : Short (n + 1) (greedyStep width out w) := by
  have hl := lastOf_short h
  intro l hm
  unfold greedyStep at hm
  split at hm
  · rcases List.mem_or_eq_of_mem_set hm with hm | rfl
    · have := h l hm; omega
    · have e : sp1.size = 1 := rfl
      rw [ByteArray.size_append, ByteArray.size_append, e]; omega
  · rcases List.mem_append.1 hm with hm | hm
    · have := h l hm; omega
    · rw [List.mem_singleton.1 hm]; omega

/-- Wider pages have no more lines: what holds after each word. -/
def NoMore (a b : List ByteArray) : Prop := b.length < a.length ∨ (b.length = a.length ∧ (lastOf b).size ≤ (lastOf a).size)

theorem lastOf_set (out : List ByteArray) (x : ByteArray) (h : 1 ≤ out.length) : lastOf (out.set (out.length - 1) x) = x := by
  unfold lastOf
  rw [List.length_set, List.getD_eq_getElem?_getD, List.getElem?_set_self (by omega)]; rfl

theorem lastOf_snoc (out : List ByteArray) (x : ByteArray) : lastOf (out ++ [x]) = x := by
  unfold lastOf
  rw [List.length_append, List.getD_eq_getElem?_getD]
  simp

theorem noMore_step {width wide : Int} (hw : width ≤ wide) {a b : List ByteArray} (w : ByteArray) (h : NoMore a b) : NoMore (greedyStep width a w) (greedyStep wide b w) := by
  have e : sp1.size = 1 := rfl
  unfold NoMore at h ⊢
  unfold greedyStep
  by_cases ha : 1 ≤ a.length ∧ ((lastOf a).size : Int) + 1 + w.size ≤ width
  · rw [if_pos ha]
    by_cases hb : 1 ≤ b.length ∧ ((lastOf b).size : Int) + 1 + w.size ≤ wide
    · rw [if_pos hb, List.length_set, List.length_set, lastOf_set a _ ha.1, lastOf_set b _ hb.1]
      simp only [ByteArray.size_append, e]
      omega
    · rw [if_neg hb, List.length_set, List.length_append, lastOf_set a _ ha.1, lastOf_snoc, ByteArray.size_append, ByteArray.size_append, e]
      simp only [List.length_cons, List.length_nil]
      rcases h with h | ⟨h1, h2⟩
      · omega
      · exact absurd ⟨by omega, by omega⟩ hb
  · rw [if_neg ha]
    by_cases hb : 1 ≤ b.length ∧ ((lastOf b).size : Int) + 1 + w.size ≤ wide
    · rw [if_pos hb, List.length_set, List.length_append]
      simp only [List.length_cons, List.length_nil]
      omega
    · rw [if_neg hb, List.length_append, List.length_append, lastOf_snoc, lastOf_snoc]
      simp only [List.length_cons, List.length_nil]
      omega

theorem greedy_noMore {width wide : Int} (hw : width ≤ wide) : ∀ (ws a b : List ByteArray), NoMore a b → NoMore (greedy width a ws) (greedy wide b ws)
  | [], _, _, h => h
  | w :: ws, _, _, h => greedy_noMore hw ws _ _ (noMore_step hw w h)

theorem greedy_wider {width wide : Int} (hw : width ≤ wide) (ws : List ByteArray) : (greedy wide [] ws).length ≤ (greedy width [] ws).length := by
  have := greedy_noMore hw ws [] [] (.inr ⟨rfl, Nat.le_refl _⟩)
  unfold NoMore at this
  omega

end DocPure
