/- Texts cut at each space. Plain, over lists of bytes; the library's split is the same. -/
import Derived.Test.YtkpnmninkmnbjaaDoorKaLine
import Derived.Lib.Split
import Derived.Lib.SplitLaws
import Derived.Lib.IndexBytes
namespace DocPure

/-- The pieces between spaces: the current one, and what is left. -/
def cutL : List UInt8 → List UInt8 → List (List UInt8)
  | cur, [] => [cur]
  | cur, b :: l => if b = 32 then cur :: cutL [] l else cutL (cur ++ [b]) l

theorem cutL_cons (cur : List UInt8) (b : UInt8) (l : List UInt8) : cutL cur (b :: l) = if b = 32 then cur :: cutL [] l else cutL (cur ++ [b]) l := rfl

theorem cutL_none : ∀ (l cur : List UInt8), 32 ∉ l → cutL cur l = [cur ++ l]
  | [], cur, _ => by simp [cutL]
  | b :: l, cur, h => by
    have hb : b ≠ 32 := fun e => h (by rw [e]; exact List.mem_cons_self ..)
    rw [cutL_cons, if_neg hb, cutL_none l _ (fun q => h (List.mem_cons_of_mem _ q)), List.append_assoc]; rfl

theorem cutL_hit : ∀ (a cur b : List UInt8), 32 ∉ a → cutL cur (a ++ 32 :: b) = (cur ++ a) :: cutL [] b
  | [], cur, b, _ => by
    show cutL cur (32 :: b) = _
    rw [cutL_cons, if_pos rfl, List.append_nil]
  | x :: a, cur, b, h => by
    have hx : x ≠ 32 := fun e => h (by rw [e]; exact List.mem_cons_self ..)
    show cutL cur (x :: (a ++ 32 :: b)) = _
    rw [cutL_cons, if_neg hx, cutL_hit a _ b (fun q => h (List.mem_cons_of_mem _ q)), List.append_assoc]; rfl

theorem cutL_len : ∀ (l cur : List UInt8), (cutL cur l).length ≤ l.length + 1
  | [], cur => by simp [cutL]
  | b :: l, cur => by
    unfold cutL
    split
    · rw [List.length_cons, List.length_cons]
      have := cutL_len l []
      omega
    · have := cutL_len l (cur ++ [b])
      rw [List.length_cons]; omega

/-- Where the first space is. -/
theorem first_space : ∀ l : List UInt8, (Go.Lib.index l [32] = -1 ∧ 32 ∉ l) ∨ ∃ a b, l = a ++ 32 :: b ∧ 32 ∉ a ∧ Go.Lib.index l [32] = (a.length : Int)
  | [] => .inl ⟨rfl, by simp⟩
  | x :: l => by
    by_cases hx : x = 32
    · subst hx
      refine .inr ⟨[], l, rfl, by simp, ?_⟩
      rw [Go.Lib.index_one]
      unfold Go.Lib.indexByte
      rw [if_pos (by decide)]; rfl
    · have e : Go.Lib.index (x :: l) [32] = if Go.Lib.index l [32] == -1 then -1 else Go.Lib.index l [32] + 1 := by
        rw [Go.Lib.index_one, Go.Lib.index_one]
        show (if x == 32 then 0 else _) = _
        rw [if_neg (by simpa using hx)]
      rcases first_space l with ⟨h1, h2⟩ | ⟨a, b, h1, h2, h3⟩
      · refine .inl ⟨by rw [e, h1]; rfl, ?_⟩
        intro q
        rcases List.mem_cons.1 q with q | q
        · exact hx q.symm
        · exact h2 q
      · refine .inr ⟨x :: a, b, by rw [h1]; rfl, ?_, ?_⟩
        · intro q
          rcases List.mem_cons.1 q with q | q
          · exact hx q.symm
          · exact h2 q
        · rw [e, h3, if_neg (by simp), List.length_cons]; omega

theorem split_cut : ∀ (n : Nat) (l : List UInt8) (k : Nat), l.length ≤ n → l.count 32 ≤ k → Go.Lib.splitK [32] 0 k l = cutL [] l
  | n, l, 0, hn, hk => by
    have h : 32 ∉ l := fun q => by have := List.count_pos_iff.2 q; omega
    rw [cutL_none l [] h]; rfl
  | n, l, k + 1, hn, hk => by
    rcases first_space l with ⟨h1, h2⟩ | ⟨a, b, h1, h2, h3⟩
    · unfold Go.Lib.splitK
      rw [h1, cutL_none l [] h2]; rfl
    · unfold Go.Lib.splitK
      rw [h3, if_neg (by simp), h1, cutL_hit a [] b h2]
      have e1 : (a ++ 32 :: b).take ((a.length : Int).toNat + 0) = a := by
        rw [Int.toNat_natCast, Nat.add_zero, List.take_left]
      have e2 : (a ++ 32 :: b).drop ((a.length : Int).toNat + ([32] : List UInt8).length) = b := by
        rw [Int.toNat_natCast, List.length_singleton, ← List.drop_drop, List.drop_left]; rfl
      rw [e1, e2]
      rw [h1, List.length_append, List.length_cons] at hn
      rw [h1, List.count_append, List.count_cons_self] at hk
      rw [split_cut (n - 1) b k (by omega) (by omega)]; rfl
termination_by n _ k => (k, n)

/-- The pieces of a text. -/
def cutS (s : ByteArray) : List ByteArray := (cutL [] s.data.toList).map fun l => ⟨l.toArray⟩

theorem cutS_len (s : ByteArray) : (cutS s).length ≤ s.size + 1 := by
  unfold cutS
  rw [List.length_map, ← size_data]
  exact cutL_len _ _

theorem bytes_back (l : List ByteArray) : (l.map fun b => (⟨b.data.toList.toArray⟩ : ByteArray)) = l := by
  induction l with
  | nil => rfl
  | cons x xs ih =>
    rw [List.map_cons, ih]

/-- The library's split at one space. -/
theorem split_space (s : ByteArray) : Go.Lib.splitB ⟨#[32]⟩ 0 (Go.Lib.countB s ⟨#[32]⟩) s = cutS s := by
  have h := Go.Lib.splitB_data ⟨#[32]⟩ 0 (Go.Lib.countB s ⟨#[32]⟩) s
  have e : (⟨#[32]⟩ : ByteArray).data.toList = [32] := rfl
  have hc : s.data.toList.count 32 ≤ Go.Lib.countB s ⟨#[32]⟩ := by
    show _ ≤ Go.Lib.count s.data.toList [32]
    rw [Go.Lib.count_one]
    exact Nat.le_refl _
  rw [e, split_cut s.data.toList.length s.data.toList _ (Nat.le_refl _) hc] at h
  unfold cutS
  rw [← h, List.map_map]
  exact (bytes_back _).symm

end DocPure
