/- The words of a justified line, read back byte by byte. Plain. -/
import Derived.Test.YthcfocpimoghbaaJustEven
namespace DocPure

def one (b : UInt8) : ByteArray := ⟨#[b]⟩

/-- The texts ahead of a run of spaces, and the text under way. -/
def wordScan : List UInt8 → List ByteArray → ByteArray → List ByteArray × ByteArray
  | [], out, cur => (out, cur)
  | b :: bs, out, cur => if b = 32 then (if cur.size = 0 then wordScan bs out cur else wordScan bs (out ++ [cur]) ByteArray.empty) else wordScan bs out (cur ++ one b)

theorem word_empty (bs : List UInt8) (out : List ByteArray) : ∀ g : Nat, wordScan (List.replicate g 32 ++ bs) out ByteArray.empty = wordScan bs out ByteArray.empty
  | 0 => rfl
  | g + 1 => by
    rw [List.replicate_succ, List.cons_append]
    conv => lhs; unfold wordScan
    rw [if_pos rfl, if_pos (show ByteArray.empty.size = 0 from rfl)]
    exact word_empty bs out g

theorem word_gap (bs : List UInt8) (out : List ByteArray) {cur : ByteArray} (hc : 1 ≤ cur.size) {g : Nat} (hg : 1 ≤ g) : wordScan (List.replicate g 32 ++ bs) out cur = wordScan bs (out ++ [cur]) ByteArray.empty := by
  cases g with
  | zero => omega
  | succ g =>
    rw [List.replicate_succ, List.cons_append]
    conv => lhs; unfold wordScan
    rw [if_pos rfl, if_neg (by omega)]
    exact word_empty bs _ g

theorem word_bytes (bs : List UInt8) (out : List ByteArray) : ∀ (w : List UInt8) (cur : ByteArray), (∀ b ∈ w, b ≠ 32) → wordScan (w ++ bs) out cur = wordScan bs out (cur ++ ⟨w.toArray⟩)
  | [], cur, _ => by
    rw [show (⟨([] : List UInt8).toArray⟩ : ByteArray) = ByteArray.empty from rfl, append_empty]; rfl
  | b :: w, cur, h => by
    rw [List.cons_append]
    conv => lhs; unfold wordScan
    rw [if_neg (h b (List.mem_cons_self ..)), word_bytes bs out w _ fun c hc => h c (List.mem_cons_of_mem _ hc)]
    congr 1
    refine bytes_eq ?_
    rw [ByteArray.data_append, ByteArray.data_append, ByteArray.data_append, Array.toList_append, Array.toList_append, Array.toList_append, List.append_assoc]
    rfl

theorem word_tail (q r : Nat) : ∀ (ws : List ByteArray) (i : Nat) (out : List ByteArray) (cur : ByteArray), (∀ w ∈ ws, Clean w) → 1 ≤ cur.size →
    (wordScan (tailBytes q r i ws) out cur).1 ++ [(wordScan (tailBytes q r i ws) out cur).2] = out ++ cur :: ws
  | [], i, out, cur, _, _ => rfl
  | w :: ws, i, out, cur, h, hc => by
    have hw := h w (List.mem_cons_self ..)
    unfold tailBytes
    have hg : 1 ≤ gapAt q r i := by unfold gapAt; split <;> omega
    rw [word_gap _ _ hc hg, word_bytes _ _ _ _ hw.2, show (⟨w.data.toList.toArray⟩ : ByteArray) = w from bytes_eq rfl, empty_append, word_tail q r ws (i + 1) _ w (fun x hx => h x (List.mem_cons_of_mem _ hx)) hw.1, List.append_assoc]
    rfl

theorem word_line {ws : List ByteArray} {w : Nat} (h : ∀ x ∈ ws, Clean x) (h2 : 2 ≤ ws.length) :
    (wordScan (justT ws w).data.toList [] ByteArray.empty).1 ++ [(wordScan (justT ws w).data.toList [] ByteArray.empty).2] = ws := by
  cases ws with
  | nil => simp at h2
  | cons x xs =>
    have hx := h x (List.mem_cons_self ..)
    unfold justT
    simp only []
    rw [justFold_bytes, word_bytes _ _ _ _ hx.2, show (⟨x.data.toList.toArray⟩ : ByteArray) = x from bytes_eq rfl, empty_append, word_tail _ _ xs 0 [] x (fun y hy => h y (List.mem_cons_of_mem _ hy)) hx.1]
    rfl

theorem extract_one {s : ByteArray} {i : Nat} (h : i < s.size) : s.extract i (i + 1) = one (s[i]'h) := by
  refine bytes_eq ?_
  rw [extract_data]
  have hl : i < s.data.toList.length := by rw [size_data]; exact h
  rw [List.take_succ_eq_append_getElem hl, List.drop_append_of_le_length (by rw [List.length_take]; omega), List.drop_of_length_le (by rw [List.length_take]; omega)]
  rfl

end DocPure
