/- 'Tells g r': with enough rounds g tells r, and goes on telling it. Plain. -/
namespace DocPure

def Tells {α : Type} (g : Nat → Option α) (r : α) : Prop := ∃ n, ∀ k, n ≤ k → g k = some r

theorem Tells.pure {α : Type} (r : α) : Tells (fun _ => some r) r := ⟨0, fun _ _ => rfl⟩

theorem Tells.of {α : Type} {g : Nat → Option α} {r : α} (h : ∀ k, g k = some r) : Tells g r := ⟨0, fun k _ => h k⟩

theorem Tells.congr {α : Type} {g g' : Nat → Option α} {r : α} (h : ∀ k, g k = g' k) (e : Tells g' r) : Tells g r := by
  obtain ⟨n, hn⟩ := e
  exact ⟨n, fun k hk => (h k).trans (hn k hk)⟩

theorem Tells.step {α : Type} {g g' : Nat → Option α} {r : α} (h : ∀ k, g (k + 1) = g' k) (e : Tells g' r) : Tells g r := by
  obtain ⟨n, hn⟩ := e
  refine ⟨n + 1, fun k hk => ?_⟩
  obtain ⟨m, rfl⟩ : ∃ m, k = m + 1 := ⟨k - 1, by omega⟩
  exact (h m).trans (hn m (by omega))

theorem Tells.bind {α β : Type} {g : Nat → Option α} {f : Nat → α → Option β} {r : α} {q : β} (h : Tells g r) (h' : Tells (fun k => f k r) q) : Tells (fun k => (g k).bind (f k)) q := by
  obtain ⟨n, hn⟩ := h
  obtain ⟨m, hm⟩ := h'
  refine ⟨n + m, fun k hk => ?_⟩
  show (g k).bind (f k) = some q
  rw [hn k (by omega)]
  exact hm k (by omega)

theorem Tells.ex {α : Type} {g : Nat → Option α} {r : α} (h : Tells g r) : ∃ k, g k = some r := by
  obtain ⟨n, hn⟩ := h
  exact ⟨n, hn n (Nat.le_refl n)⟩

theorem Tells.iteT {α : Type} {c : Prop} [Decidable c] {g g' : Nat → Option α} {r : α} (hc : c) (h : Tells g r) : Tells (fun k => if c then g k else g' k) r :=
  Tells.congr (fun _ => if_pos hc) h

theorem Tells.iteF {α : Type} {c : Prop} [Decidable c] {g g' : Nat → Option α} {r : α} (hc : ¬ c) (h : Tells g' r) : Tells (fun k => if c then g k else g' k) r :=
  Tells.congr (fun _ => if_neg hc) h

end DocPure
