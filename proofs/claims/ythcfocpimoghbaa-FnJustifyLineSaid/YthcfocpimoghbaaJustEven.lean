/- The gaps of a justified line, read back byte by byte. Plain. -/
import Derived.Test.YthcfocpimoghbaaJustLine
namespace DocPure

/-- The least and the greatest run of spaces ahead of another byte. -/
def evenScan : List UInt8 → Nat → Nat → Nat → Nat × Nat
  | [], m, M, _ => (m, M)
  | b :: bs, m, M, run => if b = 32 then evenScan bs m M (run + 1) else evenScan bs (if 0 < run ∧ run < m then run else m) (if M < run then run else M) 0

theorem even_spaces (bs : List UInt8) (m M : Nat) : ∀ (g run : Nat), evenScan (List.replicate g 32 ++ bs) m M run = evenScan bs m M (run + g)
  | 0, run => rfl
  | g + 1, run => by
    rw [List.replicate_succ, List.cons_append]
    conv => lhs; unfold evenScan
    rw [if_pos rfl, even_spaces bs m M g (run + 1), show run + 1 + g = run + (g + 1) from by omega]

theorem even_rest (bs : List UInt8) (m M : Nat) : ∀ (w : List UInt8), (∀ b ∈ w, b ≠ 32) → evenScan (w ++ bs) m M 0 = evenScan bs m M 0
  | [], _ => rfl
  | b :: w, h => by
    rw [List.cons_append]
    conv => lhs; unfold evenScan
    rw [if_neg (h b (List.mem_cons_self ..)), if_neg (by omega), if_neg (by omega)]
    exact even_rest bs m M w fun c hc => h c (List.mem_cons_of_mem _ hc)

theorem even_word (bs : List UInt8) (m M run : Nat) {w : List UInt8} (hw : 1 ≤ w.length) (h : ∀ b ∈ w, b ≠ 32) : evenScan (w ++ bs) m M run = evenScan bs (if 0 < run ∧ run < m then run else m) (if M < run then run else M) 0 := by
  cases w with
  | nil => simp at hw
  | cons b w =>
    rw [List.cons_append]
    conv => lhs; unfold evenScan
    rw [if_neg (h b (List.mem_cons_self ..))]
    exact even_rest bs _ _ w fun c hc => h c (List.mem_cons_of_mem _ hc)

def tailBytes (q r : Nat) : Nat → List ByteArray → List UInt8
  | _, [] => []
  | i, w :: ws => List.replicate (gapAt q r i) 32 ++ (w.data.toList ++ tailBytes q r (i + 1) ws)

theorem justFold_bytes (q r : Nat) : ∀ (ws : List ByteArray) (i : Nat) (acc : ByteArray), (justFold q r i acc ws).data.toList = acc.data.toList ++ tailBytes q r i ws
  | [], _, acc => by unfold justFold tailBytes; rw [List.append_nil]
  | w :: ws, i, acc => by
    unfold justFold tailBytes
    rw [justFold_bytes q r ws, ByteArray.data_append, ByteArray.data_append, Array.toList_append, Array.toList_append, spaces_data]
    simp only [List.append_assoc]

def Clean (w : ByteArray) : Prop := 1 ≤ w.size ∧ ∀ b ∈ w.data.toList, b ≠ 32

theorem even_tail (q r : Nat) : ∀ (ws : List ByteArray) (i m M : Nat), (∀ w ∈ ws, Clean w) → q + 1 ≤ m → M ≤ q + 2 →
    q + 1 ≤ (evenScan (tailBytes q r i ws) m M 0).1 ∧ (evenScan (tailBytes q r i ws) m M 0).2 ≤ q + 2
  | [], i, m, M, _, hm, hM => ⟨hm, hM⟩
  | w :: ws, i, m, M, h, hm, hM => by
    have hw := h w (List.mem_cons_self ..)
    unfold tailBytes
    have hg : q + 1 ≤ gapAt q r i ∧ gapAt q r i ≤ q + 2 := by unfold gapAt; split <;> omega
    rw [even_spaces, even_word _ _ _ _ (by rw [size_data]; exact hw.1) hw.2, Nat.zero_add]
    exact even_tail q r ws (i + 1) _ _ (fun x hx => h x (List.mem_cons_of_mem _ hx)) (by split <;> omega) (by split <;> omega)

theorem even_line {ws : List ByteArray} {w : Nat} (h : ∀ x ∈ ws, Clean x) (h2 : 2 ≤ ws.length) (hw : (lineWith sp1 ws).size ≤ w) :
    1 ≤ (evenScan (justT ws w).data.toList w 0 0).1 ∧ (evenScan (justT ws w).data.toList w 0 0).2 ≤ (evenScan (justT ws w).data.toList w 0 0).1 + 1 := by
  cases ws with
  | nil => simp at h2
  | cons x xs =>
    rw [List.length_cons] at h2
    have hx := h x (List.mem_cons_self ..)
    have e1 : sp1.size = 1 := rfl
    have hl := lineWith_size sp1 x xs
    rw [e1] at hl
    have hq := Nat.div_le_self (w - (lineWith sp1 (x :: xs)).size) xs.length
    unfold justT
    simp only []
    generalize (w - (lineWith sp1 (x :: xs)).size) / xs.length = q at hq ⊢
    generalize (w - (lineWith sp1 (x :: xs)).size) % xs.length = r
    rw [justFold_bytes, even_word _ _ _ _ (by rw [size_data]; exact hx.1) hx.2, if_neg (by omega), if_neg (by omega)]
    have := even_tail q r xs 0 w 0 (fun y hy => h y (List.mem_cons_of_mem _ hy)) (by omega) (by omega)
    omega

end DocPure
