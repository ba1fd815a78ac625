/- The words of lines of words are the words. -/
import Derived.Test.YtkpnmninkmnbjaaDoorPKax0
import Derived.Test.YtkpnmninkmnbjaaDoorKaWordsOf
import Derived.Test.YtkpnmninkmnbjaaDoorKaCutLine
namespace DocPure
open Go.RowKit Go.Proofs.YtkpnmninkmnbjaaDoor.PKa Go.Proofs.YtkpnmninkmnbjaaDoorW.PrintWords

theorem noSp_text {s : ByteArray} (h : textOk s = true) : NoSp s := by
  unfold textOk at h
  rw [Bool.and_eq_true] at h
  intro hm
  have h1 := List.all_eq_true.1 h.2 32 hm
  exact absurd h1 (by decide)

theorem noSp_words {ws : List ByteArray} (h : wordsOk ws = true) : ∀ x ∈ ws, NoSp x := fun x hx => by
  unfold wordsOk at h
  rw [Bool.and_eq_true] at h
  exact noSp_text (List.all_eq_true.1 h.1 x hx)

theorem wordsOf_wrap {ws ls : List ByteArray} (h : IsWrap ws ls) (hw : wordsOk ws = true) : wordsOf ls = (ws, true) := by
  have e : piecesOf ls = ws := wrap_pieces h (noSp_words hw)
  have h1 := wrap_len h
  have h2 := (words_small hw).1
  unfold wordsOf
  rw [if_pos ⟨by omega, by rw [e]; exact hw⟩, e]

theorem total_words {ws : List ByteArray} : (∀ s ∈ ws, s.size ≤ 12) → total ws ≤ 12 * ws.length := by
  induction ws with
  | nil => intro _; exact Nat.le_refl _
  | cons x xs ih =>
    intro h
    have h1 := ih (fun s hs => h s (List.mem_cons_of_mem _ hs))
    have h2 := h x (List.mem_cons_self ..)
    rw [total_cons, List.length_cons]; omega

/-- A line of words that are valid is short. -/
theorem line_small {ls : List ByteArray} (h : (wordsOf ls).2 = true) : ls.length ≤ 18 ∧ ∀ l ∈ ls, l.size ≤ 300 := by
  unfold wordsOf at h
  by_cases hc : ls.length ≤ 18 ∧ wordsOk (piecesOf ls) = true
  · refine ⟨hc.1, fun l hl => ?_⟩
    obtain ⟨h1, h2⟩ := words_small hc.2
    have hm : ∀ x ∈ cutS l, x ∈ piecesOf ls := fun x hx => List.mem_flatten.2 ⟨cutS l, List.mem_map.2 ⟨l, hl, rfl⟩, hx⟩
    have ht := cutS_total l
    have hs : (cutS l).Sublist (piecesOf ls) := List.sublist_flatten_of_mem (List.mem_map.2 ⟨l, hl, rfl⟩)
    have hlen := hs.length_le
    have h12 := total_words (fun s hs => (h2 s (hm s hs)).2)
    omega
  · rw [if_neg hc] at h
    exact absurd h (by decide)

theorem wrap_small {ws ls : List ByteArray} (h : IsWrap ws ls) (hw : wordsOk ws = true) : ls.length ≤ 18 ∧ ∀ l ∈ ls, l.size ≤ 300 := line_small (by rw [wordsOf_wrap h hw])

theorem wrap_lines {ws ls : List ByteArray} (h : IsWrap ws ls) (hw : wordsOk ws = true) : Lines ls := by
  obtain ⟨h1, h2⟩ := wrap_small h hw
  exact ⟨by omega, fun s hs => by have := h2 s hs; omega⟩

/-- Valid words are lines of one word each. -/
theorem pieces_words : ∀ {ws : List ByteArray}, (∀ x ∈ ws, NoSp x) → piecesOf ws = ws
  | [], _ => rfl
  | x :: xs, h => by
    have ih := pieces_words (fun y hy => h y (List.mem_cons_of_mem _ hy)) (ws := xs)
    show cutS x ++ piecesOf xs = _
    rw [ih, cut_word (h x (List.mem_cons_self ..))]; rfl

theorem wordsOf_words {ws : List ByteArray} (hw : wordsOk ws = true) : wordsOf ws = (ws, true) := by
  have e := pieces_words (noSp_words hw)
  have h2 := (words_small hw).1
  unfold wordsOf
  rw [if_pos ⟨h2, by rw [e]; exact hw⟩, e]

end DocPure
