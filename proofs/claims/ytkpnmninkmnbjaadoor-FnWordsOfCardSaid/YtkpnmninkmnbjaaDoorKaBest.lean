/- The least uneven lines of words: a table from the end, the lines out of it; no other lines cost less. Plain. -/
import Derived.Test.YtkpnmninkmnbjaaDoorKaLine
import Derived.Test.YtkpnmninkmnbjaaDoorKaGreedy
namespace DocPure

/-- What a line of so many bytes costs. -/
def lineCost (size width : Int) (last : Bool) : Int :=
  if size > width then 10000 * (size - width) else if last then 0 else (width - size) * (width - size)

/-- What the first words cost as a line. -/
def lc (w : Int) (s : List ByteArray) (j : Nat) : Int := lineCost ((lineWith sp1 (s.take j)).size : Int) w (decide (j = s.length))

def costAt (t : List (Int × Nat)) (i : Nat) : Int := (t.getD i (0, 0)).1

def manyAt (t : List (Int × Nat)) (i : Nat) : Nat := (t.getD i (0, 0)).2

def pickTo (w : Int) (s : List ByteArray) (t : List (Int × Nat)) : Nat → Int × Nat
  | 0 => (lc w s 1 + costAt t 0, 1)
  | m + 1 => if lc w s (m + 2) + costAt t (m + 1) < (pickTo w s t m).1 then (lc w s (m + 2) + costAt t (m + 1), m + 2) else pickTo w s t m

def tab (w : Int) : List ByteArray → List (Int × Nat)
  | [] => [(0, 0)]
  | x :: xs => pickTo w (x :: xs) (tab w xs) xs.length :: tab w xs

def bc (w : Int) (s : List ByteArray) : Int := costAt (tab w s) 0

def bn (w : Int) (s : List ByteArray) : Nat := manyAt (tab w s) 0

theorem tab_len (w : Int) : ∀ s : List ByteArray, (tab w s).length = s.length + 1
  | [] => rfl
  | x :: xs => by simp [tab, tab_len w xs]

theorem tab_drop (w : Int) : ∀ (s : List ByteArray) (j : Nat), j ≤ s.length → (tab w s).drop j = tab w (s.drop j)
  | s, 0, _ => by simp
  | [], j + 1, h => by simp at h
  | x :: xs, j + 1, h => by
    show (tab w xs).drop j = tab w (xs.drop j)
    exact tab_drop w xs j (by simpa using h)

theorem getD_drop {α : Type} (l : List α) (j : Nat) (d : α) : (l.drop j).getD 0 d = l.getD j d := by
  rw [List.getD_eq_getElem?_getD, List.getD_eq_getElem?_getD, List.getElem?_drop, Nat.add_zero]

theorem costAt_tab (w : Int) (s : List ByteArray) (j : Nat) (h : j ≤ s.length) : costAt (tab w s) j = bc w (s.drop j) := by
  unfold bc costAt
  rw [← tab_drop w s j h, getD_drop]

theorem manyAt_tab (w : Int) (s : List ByteArray) (j : Nat) (h : j ≤ s.length) : manyAt (tab w s) j = bn w (s.drop j) := by
  unfold bn manyAt
  rw [← tab_drop w s j h, getD_drop]

theorem pickTo_le (w : Int) (s : List ByteArray) (t : List (Int × Nat)) : ∀ (m j : Nat), 1 ≤ j → j ≤ m + 1 → (pickTo w s t m).1 ≤ lc w s j + costAt t (j - 1)
  | 0, j, h1, h2 => by
    obtain rfl : j = 1 := by omega
    exact Int.le_refl _
  | m + 1, j, h1, h2 => by
    have ih := pickTo_le w s t m
    unfold pickTo
    rcases Nat.lt_or_ge j (m + 2) with h | h
    · have := ih j h1 (by omega)
      split
      · show _ + _ ≤ _
        omega
      · exact this
    · obtain rfl : j = m + 2 := by omega
      split
      · exact Int.le_refl _
      · show _ ≤ lc w s (m + 2) + costAt t (m + 1)
        omega

theorem pickTo_eq (w : Int) (s : List ByteArray) (t : List (Int × Nat)) : ∀ (m : Nat), 1 ≤ (pickTo w s t m).2 ∧ (pickTo w s t m).2 ≤ m + 1 ∧ (pickTo w s t m).1 = lc w s (pickTo w s t m).2 + costAt t ((pickTo w s t m).2 - 1)
  | 0 => ⟨Nat.le_refl _, Nat.le_refl _, rfl⟩
  | m + 1 => by
    obtain ⟨h1, h2, h3⟩ := pickTo_eq w s t m
    unfold pickTo
    split
    · exact ⟨by show 1 ≤ m + 2; omega, by show m + 2 ≤ _; omega, rfl⟩
    · exact ⟨h1, by omega, h3⟩

theorem bc_nil (w : Int) : bc w [] = 0 := rfl

theorem bc_le (w : Int) {s : List ByteArray} {j : Nat} (h1 : 1 ≤ j) (h2 : j ≤ s.length) : bc w s ≤ lc w s j + bc w (s.drop j) := by
  cases s with
  | nil => simp at h2; omega
  | cons x xs =>
    have h := pickTo_le w (x :: xs) (tab w xs) xs.length j h1 (by simpa using h2)
    rw [costAt_tab w xs (j - 1) (by simp at h2; omega)] at h
    obtain ⟨i, rfl⟩ : ∃ i, j = i + 1 := ⟨j - 1, by omega⟩
    exact h

theorem bn_eq (w : Int) {s : List ByteArray} (h : s ≠ []) : 1 ≤ bn w s ∧ bn w s ≤ s.length ∧ bc w s = lc w s (bn w s) + bc w (s.drop (bn w s)) := by
  cases s with
  | nil => exact absurd rfl h
  | cons x xs =>
    obtain ⟨h1, h2, h3⟩ := pickTo_eq w (x :: xs) (tab w xs) xs.length
    have e1 : bn w (x :: xs) = (pickTo w (x :: xs) (tab w xs) xs.length).2 := rfl
    have e2 : bc w (x :: xs) = (pickTo w (x :: xs) (tab w xs) xs.length).1 := rfl
    rw [← e1, ← e2] at h3
    rw [← e1] at h1 h2
    refine ⟨h1, by simpa using h2, ?_⟩
    rw [costAt_tab w xs _ (by omega)] at h3
    obtain ⟨i, hi⟩ : ∃ i, bn w (x :: xs) = i + 1 := ⟨bn w (x :: xs) - 1, by omega⟩
    rw [hi] at h3 ⊢
    exact h3

/-- The lines, so many at most. -/
def linesTo (w : Int) : Nat → List ByteArray → List ByteArray
  | 0, _ => []
  | _ + 1, [] => []
  | n + 1, x :: xs => lineWith sp1 ((x :: xs).take (bn w (x :: xs))) :: linesTo w n ((x :: xs).drop (bn w (x :: xs)))

def bestLines (w : Int) (s : List ByteArray) : List ByteArray := linesTo w s.length s

theorem linesTo_more (w : Int) : ∀ (n m : Nat) (s : List ByteArray), s.length ≤ n → s.length ≤ m → linesTo w n s = linesTo w m s
  | 0, 0, s, _, _ => rfl
  | 0, m + 1, s, h, _ => by
    obtain rfl : s = [] := List.eq_nil_of_length_eq_zero (by omega)
    rfl
  | n + 1, 0, s, _, h => by
    obtain rfl : s = [] := List.eq_nil_of_length_eq_zero (by omega)
    rfl
  | n + 1, m + 1, [], _, _ => rfl
  | n + 1, m + 1, x :: xs, h, h' => by
    have h1 := (bn_eq w (s := x :: xs) (by simp)).1
    simp only [List.length_cons] at h h'
    unfold linesTo
    rw [linesTo_more w n m _ (by simp; omega) (by simp; omega)]

theorem best_cons (w : Int) {s : List ByteArray} (h : s ≠ []) : bestLines w s = lineWith sp1 (s.take (bn w s)) :: bestLines w (s.drop (bn w s)) := by
  cases s with
  | nil => exact absurd rfl h
  | cons x xs =>
    have h1 := (bn_eq w (s := x :: xs) (by simp)).1
    unfold bestLines
    show _ :: linesTo w xs.length _ = _
    rw [linesTo_more w xs.length _ _ (by simp; omega) (Nat.le_refl _)]

theorem linesTo_len (w : Int) : ∀ (n : Nat) (s : List ByteArray), (linesTo w n s).length ≤ n
  | 0, _ => by simp [linesTo]
  | _ + 1, [] => by simp [linesTo]
  | n + 1, x :: xs => by
    show (_ :: linesTo w n _).length ≤ _
    rw [List.length_cons]
    have := linesTo_len w n ((x :: xs).drop (bn w (x :: xs)))
    omega

/-- Lines that words can be wrapped in. -/
inductive IsWrap : List ByteArray → List ByteArray → Prop
  | nil : IsWrap [] []
  | cons {us rest ls : List ByteArray} (h : us ≠ []) (hr : IsWrap rest ls) : IsWrap (us ++ rest) (lineWith sp1 us :: ls)

theorem IsWrap.nil_of {s : List ByteArray} (h : IsWrap s []) : s = [] := by cases h; rfl

theorem IsWrap.lines_nil {ls : List ByteArray} (h : IsWrap [] ls) : ls = [] := by
  generalize e : ([] : List ByteArray) = s at h
  cases h with
  | nil => rfl
  | cons h hr => exact absurd (List.append_eq_nil_iff.1 e.symm).1 h

theorem best_wrap (w : Int) : ∀ (n : Nat) (s : List ByteArray), s.length ≤ n → IsWrap s (bestLines w s)
  | 0, s, h => by
    obtain rfl : s = [] := List.eq_nil_of_length_eq_zero (by omega)
    exact IsWrap.nil
  | n + 1, s, h => by
    by_cases hs : s = []
    · subst hs; exact IsWrap.nil
    · obtain ⟨h1, h2, -⟩ := bn_eq w hs
      rw [best_cons w hs]
      have ih := best_wrap w n (s.drop (bn w s)) (by rw [List.length_drop]; omega)
      have := IsWrap.cons (us := s.take (bn w s)) (by
        intro e
        have := congrArg List.length e
        rw [List.length_take, List.length_nil] at this
        omega) ih
      rwa [List.take_append_drop] at this

theorem bestLines_wrap (w : Int) (s : List ByteArray) : IsWrap s (bestLines w s) := best_wrap w s.length s (Nat.le_refl _)

/-- What lines cost; the last one costs nothing if it fits. -/
def costLines (w : Int) : List ByteArray → Int
  | [] => 0
  | l :: ls => lineCost (l.size : Int) w (decide (ls = [])) + costLines w ls

theorem lc_take (w : Int) {us rest ls : List ByteArray} (hr : IsWrap rest ls) : lc w (us ++ rest) us.length = lineCost ((lineWith sp1 us).size : Int) w (decide (ls = [])) := by
  unfold lc
  rw [List.take_left']
  · congr 1
    refine decide_eq_decide.2 ⟨fun e => ?_, fun e => ?_⟩
    · rw [List.length_append] at e
      have : rest = [] := List.eq_nil_of_length_eq_zero (by omega)
      subst this
      exact hr.lines_nil
    · subst e
      have := hr.nil_of
      subst this
      rw [List.append_nil]
  · rfl

theorem bc_least (w : Int) {s ls : List ByteArray} (h : IsWrap s ls) : bc w s ≤ costLines w ls := by
  induction h with
  | nil => exact Int.le_refl _
  | @cons us rest ls hu hr ih =>
    have hp : 1 ≤ us.length := List.length_pos_iff.2 hu
    have h1 := bc_le w (s := us ++ rest) (j := us.length) hp (by rw [List.length_append]; omega)
    rw [List.drop_left' rfl, lc_take w hr] at h1
    unfold costLines
    omega

theorem best_cost (w : Int) : ∀ (n : Nat) (s : List ByteArray), s.length ≤ n → costLines w (bestLines w s) = bc w s
  | 0, s, h => by
    obtain rfl : s = [] := List.eq_nil_of_length_eq_zero (by omega)
    rfl
  | n + 1, s, h => by
    by_cases hs : s = []
    · subst hs; rfl
    · obtain ⟨h1, h2, h3⟩ := bn_eq w hs
      have ih := best_cost w n (s.drop (bn w s)) (by rw [List.length_drop]; omega)
      have hw := bestLines_wrap w (s.drop (bn w s))
      have e := lc_take w (us := s.take (bn w s)) hw
      rw [List.take_append_drop, List.length_take, Nat.min_eq_left h2] at e
      rw [best_cons w hs, h3, e]
      unfold costLines
      rw [ih]

theorem bestLines_cost (w : Int) (s : List ByteArray) : costLines w (bestLines w s) = bc w s := best_cost w s.length s (Nat.le_refl _)

theorem lineCost_nonneg (n w : Int) (b : Bool) : 0 ≤ lineCost n w b := by
  unfold lineCost
  split
  · omega
  · split
    · exact Int.le_refl _
    · exact Int.mul_nonneg (by omega) (by omega)

theorem bc_nonneg (w : Int) : ∀ (n : Nat) (s : List ByteArray), s.length ≤ n → 0 ≤ bc w s
  | 0, s, h => by
    obtain rfl : s = [] := List.eq_nil_of_length_eq_zero (by omega)
    exact Int.le_refl _
  | n + 1, s, h => by
    by_cases hs : s = []
    · subst hs; exact Int.le_refl _
    · obtain ⟨h1, h2, h3⟩ := bn_eq w hs
      have ih := bc_nonneg w n (s.drop (bn w s)) (by rw [List.length_drop]; omega)
      have := lineCost_nonneg ((lineWith sp1 (s.take (bn w s))).size : Int) w (decide (bn w s = s.length))
      rw [h3]
      unfold lc
      omega

/-- Words that each fit in a narrow page cost little. -/
theorem bc_small (w : Int) (h0 : 0 ≤ w) (h20 : w ≤ 20) : ∀ (s : List ByteArray), (∀ x ∈ s, (x.size : Int) ≤ w) → bc w s ≤ 400 * s.length
  | [], _ => by simp [bc_nil]
  | x :: xs, h => by
    have ih := bc_small w h0 h20 xs (fun y hy => h y (List.mem_cons_of_mem _ hy))
    have h1 := bc_le w (s := x :: xs) (j := 1) (Nat.le_refl _) (by simp)
    have hx := h x (List.mem_cons_self ..)
    have e : lineWith sp1 ((x :: xs).take 1) = x := rfl
    have hl : lc w (x :: xs) 1 ≤ 400 := by
      unfold lc
      rw [e]
      unfold lineCost
      rw [if_neg (by omega)]
      split
      · omega
      · have a : w - (x.size : Int) ≤ 20 := by omega
        have b : 0 ≤ w - (x.size : Int) := by omega
        calc (w - (x.size : Int)) * (w - (x.size : Int)) ≤ 20 * 20 := Int.mul_le_mul a a b (by omega)
          _ = 400 := rfl
    have e2 : (x :: xs).drop 1 = xs := rfl
    rw [e2] at h1
    simp only [List.length_cons]
    omega

theorem best_fits (w : Int) (h0 : 0 ≤ w) (h20 : w ≤ 20) : ∀ (n : Nat) (s : List ByteArray), s.length ≤ n → s.length ≤ 18 → (∀ x ∈ s, (x.size : Int) ≤ w) → ∀ l ∈ bestLines w s, (l.size : Int) ≤ w
  | 0, s, h, _, _ => by
    obtain rfl : s = [] := List.eq_nil_of_length_eq_zero (by omega)
    intro l hl
    cases hl
  | n + 1, s, h, h18, hx => by
    by_cases hs : s = []
    · subst hs
      intro l hl
      cases hl
    · obtain ⟨h1, h2, h3⟩ := bn_eq w hs
      have hb := bc_small w h0 h20 s hx
      have hn := bc_nonneg w _ (s.drop (bn w s)) (Nat.le_refl _)
      have ih := best_fits w h0 h20 n (s.drop (bn w s)) (by rw [List.length_drop]; omega) (by rw [List.length_drop]; omega) (fun y hy => hx y (List.mem_of_mem_drop hy))
      rw [best_cons w hs]
      intro l hl
      rcases List.mem_cons.1 hl with rfl | hl
      · rcases Int.lt_or_le w ((lineWith sp1 (s.take (bn w s))).size : Int) with q | q
        · exfalso
          have : lc w s (bn w s) ≥ 10000 := by
            unfold lc lineCost
            rw [if_pos q]
            omega
          omega
        · exact q
      · exact ih l hl

/-! ### Greedy lines are the fewest -/

theorem greedy_append (w : Int) : ∀ (a b out : List ByteArray), greedy w out (a ++ b) = greedy w (greedy w out a) b
  | [], _, _ => rfl
  | x :: a, b, out => by
    show greedy w (greedyStep w out x) (a ++ b) = _
    rw [greedy_append w a b]; rfl

theorem greedy_keep (w : Int) : ∀ (us out : List ByteArray), 1 ≤ out.length → ((lastOf out).size : Int) + total us + us.length ≤ w → (greedy w out us).length = out.length
  | [], _, _, _ => rfl
  | x :: us, out, h1, h2 => by
    rw [total_cons, List.length_cons] at h2
    have e1 : sp1.size = 1 := rfl
    have e : greedyStep w out x = out.set (out.length - 1) (lastOf out ++ (sp1 ++ x)) := by
      unfold greedyStep
      rw [if_pos ⟨h1, by omega⟩]
    show (greedy w (greedyStep w out x) us).length = _
    rw [e, greedy_keep w us _ (by rw [List.length_set]; exact h1) (by rw [lastOf_set _ _ h1, ByteArray.size_append, ByteArray.size_append, e1]; omega), List.length_set]

theorem greedy_one (w : Int) : ∀ (us out : List ByteArray), us ≠ [] → ((total us : Nat) : Int) + us.length ≤ w + 1 → (greedy w out us).length ≤ out.length + 1
  | [], _, h, _ => absurd rfl h
  | x :: us, out, _, h2 => by
    rw [total_cons, List.length_cons] at h2
    show (greedy w (greedyStep w out x) us).length ≤ _
    by_cases hc : 1 ≤ out.length ∧ ((lastOf out).size : Int) + 1 + x.size ≤ w
    · have e : greedyStep w out x = out.set (out.length - 1) (lastOf out ++ (sp1 ++ x)) := by
        unfold greedyStep
        rw [if_pos hc]
      by_cases hu : us = []
      · subst hu
        show (greedyStep w out x).length ≤ _
        rw [e, List.length_set]; omega
      · have := greedy_one w us (greedyStep w out x) hu (by omega)
        rw [e, List.length_set] at this
        rw [e]; exact this
    · have e : greedyStep w out x = out ++ [x] := by
        unfold greedyStep
        rw [if_neg hc]
      rw [e, greedy_keep w us _ (by rw [List.length_append]; simp) (by rw [lastOf_snoc]; omega), List.length_append]
      exact Nat.le_refl _

theorem greedy_few (w : Int) {s ls : List ByteArray} (h : IsWrap s ls) : (∀ l ∈ ls, (l.size : Int) ≤ w) → ∀ out : List ByteArray, (greedy w out s).length ≤ out.length + ls.length := by
  induction h with
  | nil => intro _ out; exact Nat.le_refl _
  | @cons us rest ls hu hr ih =>
    intro hf out
    rw [greedy_append]
    have h1 := hf _ (List.mem_cons_self ..)
    have h2 : ((total us : Nat) : Int) + us.length ≤ w + 1 := by
      cases us with
      | nil => exact absurd rfl hu
      | cons x xs =>
        have e1 : sp1.size = 1 := rfl
        rw [lineWith_size, e1] at h1
        rw [total_cons, List.length_cons]
        omega
    have h3 := greedy_one w us out hu h2
    have h4 := ih (fun l hl => hf l (List.mem_cons_of_mem _ hl)) (greedy w out us)
    rw [List.length_cons]
    omega

/-! ### Greedy lines are lines of the words -/

theorem IsWrap.snoc {s ls : List ByteArray} (h : IsWrap s ls) (w : ByteArray) : IsWrap (s ++ [w]) (ls ++ [w]) := by
  induction h with
  | nil => exact IsWrap.cons (us := [w]) (by simp) IsWrap.nil
  | @cons us rest ls hu hr ih =>
    rw [List.append_assoc]
    exact IsWrap.cons hu ih

theorem IsWrap.add {s ls : List ByteArray} (h : IsWrap s ls) (w : ByteArray) : ls ≠ [] → IsWrap (s ++ [w]) (ls.set (ls.length - 1) (lastOf ls ++ (sp1 ++ w))) := by
  induction h with
  | nil => intro hn; exact absurd rfl hn
  | @cons us rest ls hu hr ih =>
    intro _
    rw [List.append_assoc]
    by_cases hl : ls = []
    · subst hl
      have := hr.nil_of
      subst this
      have e : lastOf [lineWith sp1 us] = lineWith sp1 us := rfl
      rw [e, List.nil_append]
      show IsWrap (us ++ [w]) [lineWith sp1 us ++ (sp1 ++ w)]
      rw [← lineWith_snoc sp1 hu]
      have := IsWrap.cons (us := us ++ [w]) (by simp) IsWrap.nil
      rwa [List.append_nil] at this
    · have hp : 1 ≤ ls.length := List.length_pos_iff.2 hl
      have e : lastOf (lineWith sp1 us :: ls) = lastOf ls := by
        unfold lastOf
        rw [List.length_cons, Nat.add_sub_cancel]
        obtain ⟨m, hm⟩ : ∃ m, ls.length = m + 1 := ⟨ls.length - 1, by omega⟩
        rw [hm]; rfl
      have e2 : (lineWith sp1 us :: ls).set ((lineWith sp1 us :: ls).length - 1) (lastOf ls ++ (sp1 ++ w)) = lineWith sp1 us :: ls.set (ls.length - 1) (lastOf ls ++ (sp1 ++ w)) := by
        rw [List.length_cons, Nat.add_sub_cancel]
        obtain ⟨m, hm⟩ : ∃ m, ls.length = m + 1 := ⟨ls.length - 1, by omega⟩
        rw [hm]; rfl
      rw [e, e2]
      exact IsWrap.cons hu (ih hl)

theorem greedy_wrap (w : Int) : ∀ (ws pre out : List ByteArray), IsWrap pre out → IsWrap (pre ++ ws) (greedy w out ws)
  | [], pre, out, h => by rw [List.append_nil]; exact h
  | x :: ws, pre, out, h => by
    have hs : IsWrap (pre ++ [x]) (greedyStep w out x) := by
      unfold greedyStep
      split
      · rename_i hc
        exact h.add x (List.ne_nil_of_length_pos hc.1)
      · exact h.snoc x
    have := greedy_wrap w ws (pre ++ [x]) (greedyStep w out x) hs
    rw [List.append_assoc] at this
    exact this

end DocPure
