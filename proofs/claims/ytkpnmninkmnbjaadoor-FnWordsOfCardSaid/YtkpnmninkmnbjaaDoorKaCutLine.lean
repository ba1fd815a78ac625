/- A line of words is cut into them; a text is the line of its pieces. Plain. -/
import Derived.Test.YtkpnmninkmnbjaaDoorKaCut
import Derived.Test.YtkpnmninkmnbjaaDoorKaBest
namespace DocPure

/-- A text without spaces. -/
def NoSp (s : ByteArray) : Prop := 32 ∉ s.data.toList

theorem line_bytes (x : ByteArray) (xs : List ByteArray) : (lineWith sp1 (x :: xs)).data.toList = x.data.toList ++ (xs.map fun w => 32 :: w.data.toList).flatten := by
  show (glue sp1 x xs).data.toList = _
  rw [glue_data]; rfl

theorem cutL_line : ∀ (xs : List ByteArray) (x : ByteArray), NoSp x → (∀ s ∈ xs, NoSp s) → cutL [] (x.data.toList ++ (xs.map fun w => 32 :: w.data.toList).flatten) = (x :: xs).map (·.data.toList)
  | [], x, hx, _ => by
    rw [List.map_nil, List.flatten_nil, List.append_nil, cutL_none _ [] hx]; rfl
  | y :: ys, x, hx, h => by
    rw [List.map_cons, List.flatten_cons, List.cons_append, cutL_hit _ [] _ hx, cutL_line ys y (h y (List.mem_cons_self ..)) (fun s hs => h s (List.mem_cons_of_mem _ hs))]; rfl

/-- A line is cut into its words. -/
theorem cut_line {us : List ByteArray} (h : us ≠ []) (hs : ∀ s ∈ us, NoSp s) : cutS (lineWith sp1 us) = us := by
  cases us with
  | nil => exact absurd rfl h
  | cons x xs =>
    unfold cutS
    rw [line_bytes, cutL_line xs x (hs x (List.mem_cons_self ..)) (fun s hx => hs s (List.mem_cons_of_mem _ hx)), List.map_map]
    exact bytes_back _

theorem cut_word {s : ByteArray} (h : NoSp s) : cutS s = [s] := cut_line (us := [s]) (by simp) (fun x hx => by rw [List.mem_singleton.1 hx]; exact h)

/-- How long a text is, by its pieces. -/
theorem cutL_total : ∀ (l cur : List UInt8), ((cutL cur l).map List.length).sum + (cutL cur l).length = cur.length + l.length + 1
  | [], cur => by simp [cutL]
  | b :: l, cur => by
    rw [cutL_cons]
    by_cases hb : b = 32
    · have ih := cutL_total l []
      rw [if_pos hb, List.map_cons, List.sum_cons, List.length_cons, List.length_cons]
      simp only [List.length_nil] at ih
      omega
    · have ih := cutL_total l (cur ++ [b])
      rw [List.length_append, List.length_singleton] at ih
      rw [if_neg hb, List.length_cons]; omega

theorem cutS_total (s : ByteArray) : total (cutS s) + (cutS s).length = s.size + 1 := by
  have h := cutL_total s.data.toList []
  rw [size_data] at h
  unfold cutS total
  rw [List.length_map, List.map_map]
  have e : (ByteArray.size ∘ fun l : List UInt8 => (⟨l.toArray⟩ : ByteArray)) = List.length := by
    funext l
    show (⟨l.toArray⟩ : ByteArray).size = _
    rw [← size_data]
  rw [e]
  simp only [List.length_nil] at h
  omega

/-- The pieces of lines of words are the words. -/
theorem wrap_pieces {s ls : List ByteArray} (h : IsWrap s ls) : (∀ x ∈ s, NoSp x) → (ls.map cutS).flatten = s := by
  induction h with
  | nil => intro _; rfl
  | @cons us rest ls hu hr ih =>
    intro hs
    rw [List.map_cons, List.flatten_cons, cut_line hu (fun x hx => hs x (List.mem_append_left _ hx)), ih (fun x hx => hs x (List.mem_append_right _ hx))]

theorem wrap_len {s ls : List ByteArray} (h : IsWrap s ls) : ls.length ≤ s.length := by
  induction h with
  | nil => exact Nat.le_refl _
  | @cons us rest ls hu hr ih =>
    have := List.length_pos_iff.2 hu
    rw [List.length_cons, List.length_append]; omega

/-- What lines cost is told from the front, too. -/
theorem cost_snoc (w : Int) : ∀ (ls : List ByteArray) (l : ByteArray), costLines w (ls ++ [l]) = (ls.map fun x => lineCost (x.size : Int) w false).sum + lineCost (l.size : Int) w true
  | [], l => by
    show lineCost _ w (decide (([] : List ByteArray) = [])) + 0 = 0 + _
    rw [decide_eq_true rfl]; omega
  | x :: xs, l => by
    have ih := cost_snoc w xs l
    show lineCost _ w (decide (xs ++ [l] = [])) + costLines w (xs ++ [l]) = _
    rw [ih, decide_eq_false (by simp), List.map_cons, List.sum_cons]; omega

end DocPure
