/- Greedy lines as groups of words: no first word of a line fits in the line before. Plain. -/
import Derived.Test.YtkpnmninkmnbjaaDoorKaBest
namespace DocPure

abbrev lineOf (g : List ByteArray) : ByteArray := lineWith sp1 g

def firstOf (g : List ByteArray) : ByteArray := g.headD ByteArray.empty

/-- The first word of a group does not fit in the line before. -/
def NoFit (w : Int) (a b : List ByteArray) : Prop := w < ((lineOf a).size : Int) + 1 + (firstOf b).size

def Full (w : Int) : List (List ByteArray) → Prop
  | [] => True
  | [_] => True
  | a :: b :: t => NoFit w a b ∧ Full w (b :: t)

theorem full_snoc (w : Int) : ∀ (init : List (List ByteArray)) (a b : List ByteArray), Full w (init ++ [a]) → NoFit w a b → Full w (init ++ [a] ++ [b])
  | [], _, _, _, h => ⟨h, trivial⟩
  | [_], _, _, hf, h => ⟨hf.1, h, trivial⟩
  | _ :: y :: t, a, b, hf, h => ⟨hf.1, full_snoc w (y :: t) a b hf.2 h⟩

theorem full_last (w : Int) (a a' : List ByteArray) (h : firstOf a' = firstOf a) : ∀ (init : List (List ByteArray)), Full w (init ++ [a]) → Full w (init ++ [a'])
  | [], _ => trivial
  | [x], hf => by
    have h1 : NoFit w x a := hf.1
    refine ⟨?_, trivial⟩
    unfold NoFit at h1 ⊢
    rw [h]; exact h1
  | _ :: y :: t, hf => ⟨hf.1, full_last w a a' h (y :: t) hf.2⟩

theorem full_get (w : Int) : ∀ (gs : List (List ByteArray)) (i : Nat) (h : i + 1 < gs.length), Full w gs → NoFit w (gs[i]'(by omega)) (gs[i + 1]'h)
  | _ :: _ :: _, 0, _, hf => hf.1
  | _ :: b :: t, i + 1, h, hf => full_get w (b :: t) i (by simpa using h) hf.2
  | [_], i, h, _ => by simp at h
  | [], i, h, _ => by simp at h

/-- What greedy lines are made of. -/
structure Groups (w : Int) (pre out : List ByteArray) (gs : List (List ByteArray)) : Prop where
  lines : out = gs.map lineOf
  words : gs.flatten = pre
  ne : ∀ g ∈ gs, g ≠ []
  full : Full w gs

theorem lastOf_snocs (init : List ByteArray) (a : ByteArray) : lastOf (init ++ [a]) = a := lastOf_snoc init a

theorem groups_step (w : Int) {pre out : List ByteArray} {gs : List (List ByteArray)} (h : Groups w pre out gs) (x : ByteArray) : ∃ gs', Groups w (pre ++ [x]) (greedyStep w out x) gs' := by
  obtain ⟨rfl, rfl, hne, hf⟩ := h
  rcases List.eq_nil_or_concat gs with rfl | ⟨init, a, rfl⟩
  · refine ⟨[[x]], rfl, by simp, (fun g hg => by rw [List.mem_singleton.1 hg]; simp), trivial⟩
  · rw [List.concat_eq_append] at *
    have ha : a ≠ [] := hne a (by simp)
    have hl : lastOf ((init ++ [a]).map lineOf) = lineOf a := by rw [List.map_append, List.map_singleton, lastOf_snoc]
    have hlen : ((init ++ [a]).map lineOf).length = init.length + 1 := by simp
    unfold greedyStep
    rw [hl, hlen]
    by_cases hc : 1 ≤ init.length + 1 ∧ ((lineOf a).size : Int) + 1 + x.size ≤ w
    · rw [if_pos hc]
      refine ⟨init ++ [a ++ [x]], ?_, by simp, fun g hg => ?_, full_last w a (a ++ [x]) ?_ init hf⟩
      · rw [Nat.add_sub_cancel, List.map_append, List.map_singleton, List.set_append_right _ _ (by simp)]
        have e : init.length - (init.map lineOf).length = 0 := by simp
        rw [e, List.set_cons_zero, List.map_append, List.map_singleton]
        show _ = _ ++ [lineWith sp1 (a ++ [x])]
        rw [lineWith_snoc sp1 ha]
      · rcases List.mem_append.1 hg with hg | hg
        · exact hne g (List.mem_append_left _ hg)
        · rw [List.mem_singleton.1 hg]; simp
      · cases a with
        | nil => exact absurd rfl ha
        | cons b t => rfl
    · rw [if_neg hc]
      refine ⟨init ++ [a] ++ [[x]], by simp [lineWith, glue], by simp, fun g hg => ?_, full_snoc w init a [x] hf ?_⟩
      · rcases List.mem_append.1 hg with hg | hg
        · exact hne g hg
        · rw [List.mem_singleton.1 hg]; simp
      · unfold NoFit
        show w < ((lineOf a).size : Int) + 1 + x.size
        omega

theorem groups_all (w : Int) : ∀ (ws pre out : List ByteArray) (gs : List (List ByteArray)), Groups w pre out gs → ∃ gs', Groups w (pre ++ ws) (greedy w out ws) gs'
  | [], pre, out, gs, h => ⟨gs, by rw [List.append_nil]; exact h⟩
  | x :: ws, pre, out, gs, h => by
    obtain ⟨gs1, h1⟩ := groups_step w h x
    obtain ⟨gs2, h2⟩ := groups_all w ws (pre ++ [x]) (greedyStep w out x) gs1 h1
    refine ⟨gs2, ?_⟩
    rw [List.append_assoc] at h2
    exact h2

/-- Greedy lines: groups of words, each line's first word too long for the line before. -/
theorem greedy_groups (w : Int) (ws : List ByteArray) : ∃ gs, Groups w ws (greedy w [] ws) gs := by
  obtain ⟨gs, h⟩ := groups_all w ws [] [] [] ⟨rfl, rfl, (fun g hg => by cases hg), trivial⟩
  exact ⟨gs, h⟩

end DocPure
