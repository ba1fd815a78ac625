/- A justified line: the words, with gaps that differ by one at most. Plain. -/
import Derived.Test.YthcfocpimoghbaaLine
import Derived.Test.YthcfocpimoghbaaGreedy
namespace DocPure

def gapAt (q r i : Nat) : Nat := if i < r then q + 2 else q + 1

def justFold (q r : Nat) : Nat → ByteArray → List ByteArray → ByteArray
  | _, acc, [] => acc
  | i, acc, w :: ws => justFold q r (i + 1) (acc ++ (spaces (gapAt q r i) ++ w)) ws

theorem justFold_size (q r : Nat) : ∀ (ws : List ByteArray) (i : Nat) (acc : ByteArray), i ≤ r → r ≤ i + ws.length →
    (justFold q r i acc ws).size = acc.size + total ws + ws.length * (q + 1) + (r - i)
  | [], i, acc, h, h2 => by
    simp only [List.length_nil] at h2
    simp [justFold, total]; omega
  | w :: ws, i, acc, h, h2 => by
    rw [List.length_cons] at h2
    unfold justFold
    by_cases hr : i < r
    · rw [justFold_size q r ws (i + 1) _ (by omega) (by omega), ByteArray.size_append, ByteArray.size_append, spaces_size, total_cons, List.length_cons, Nat.succ_mul]
      unfold gapAt
      rw [if_pos hr]; omega
    · have hi : i = r := by omega
      subst hi
      have key : ∀ (ws : List ByteArray) (j : Nat) (acc : ByteArray), i ≤ j → (justFold q i j acc ws).size = acc.size + total ws + ws.length * (q + 1) := by
        intro ws
        induction ws with
        | nil => intro j acc _; simp [justFold, total]
        | cons x xs ih =>
          intro j acc hj
          unfold justFold
          rw [ih (j + 1) _ (by omega), ByteArray.size_append, ByteArray.size_append, spaces_size, total_cons, List.length_cons, Nat.succ_mul]
          unfold gapAt
          rw [if_neg (by omega)]; omega
      rw [key ws (i + 1) _ (by omega), ByteArray.size_append, ByteArray.size_append, spaces_size, total_cons, List.length_cons, Nat.succ_mul]
      unfold gapAt
      rw [if_neg (by omega)]; omega

theorem total_bound {n : Nat} : ∀ (ws : List ByteArray), (∀ w ∈ ws, w.size ≤ n) → total ws ≤ n * ws.length
  | [], _ => by simp [total]
  | w :: ws, h => by
    have := total_bound (n := n) ws fun x hx => h x (List.mem_cons_of_mem _ hx)
    have := h w (List.mem_cons_self ..)
    rw [total_cons, List.length_cons, Nat.mul_succ]; omega

theorem line_total (ws : List ByteArray) : (lineWith sp1 ws).size ≤ total ws + ws.length := by
  cases ws with
  | nil => exact Nat.zero_le _
  | cons x xs =>
    have e1 : sp1.size = 1 := rfl
    rw [lineWith_size, total_cons, List.length_cons, e1]; omega

/-- The justified line of at least two words whose plain line is no longer than w. -/
def justT (ws : List ByteArray) (w : Nat) : ByteArray :=
  match ws with
  | [] => ByteArray.empty
  | x :: xs => justFold ((w - (lineWith sp1 ws).size) / xs.length) ((w - (lineWith sp1 ws).size) % xs.length) 0 x xs

theorem justT_size {ws : List ByteArray} {w : Nat} (h : 2 ≤ ws.length) (hw : (lineWith sp1 ws).size ≤ w) : (justT ws w).size = w := by
  cases ws with
  | nil => simp at h
  | cons x xs =>
    rw [List.length_cons] at h
    have e1 : sp1.size = 1 := rfl
    have hl := lineWith_size sp1 x xs
    have hd := Nat.div_add_mod (w - (lineWith sp1 (x :: xs)).size) xs.length
    have hm := Nat.mod_lt (w - (lineWith sp1 (x :: xs)).size) (show xs.length > 0 by omega)
    unfold justT
    rw [justFold_size _ _ xs 0 x (by omega) (by omega), Nat.mul_succ]
    rw [e1] at hl
    omega

end DocPure
