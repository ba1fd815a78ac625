/- A row that is filled place by place. Plain. -/
namespace DocPure

def tab {α : Type} (n : Nat) (f : Nat → α) : List α := (List.range n).map f

theorem tab_len {α : Type} (n : Nat) (f : Nat → α) : (tab n f).length = n := by simp [tab]

theorem tab_get {α : Type} {n : Nat} {f : Nat → α} {j : Nat} (h : j < (tab n f).length) : (tab n f)[j] = f j := by simp [tab]

theorem tab_congr {α : Type} {n : Nat} {f g : Nat → α} (h : ∀ c, c < n → f c = g c) : tab n f = tab n g :=
  List.map_congr_left fun c hc => h c (List.mem_range.1 hc)

theorem tab_set {α : Type} (n : Nat) (f : Nat → α) (j : Nat) (v : α) : (tab n f).set j v = tab n (fun c => if c = j then v else f c) := by
  refine List.ext_getElem (by simp [tab]) fun i h1 h2 => ?_
  rw [List.getElem_set, tab_get, tab_get]
  by_cases e : j = i
  · rw [if_pos e, if_pos e.symm]
  · rw [if_neg e, if_neg (fun q => e q.symm)]

theorem tab_rep {α : Type} (n : Nat) (a : α) : List.replicate n a = tab n (fun _ => a) := by
  refine List.ext_getElem (by simp [tab]) fun i h1 h2 => ?_
  rw [List.getElem_replicate, tab_get]

theorem tab_zero {α : Type} (f : Nat → α) : tab 0 f = [] := rfl

end DocPure
