/- The words of lines: the printed WordsOf of the program and of the reference are the plain one. -/
import Derived.Test.YtkpnmninkmnbjaaDoorPKax0
import Derived.Test.YtkpnmninkmnbjaaDoorPKax6
import Derived.Test.YtkpnmninkmnbjaaDoorPKax7
import Derived.Test.YtkpnmninkmnbjaaDoorKaWordsOk
import Derived.Test.YtkpnmninkmnbjaaDoorKaCut
namespace DocPure
open Go.RowKit Go.Proofs.YtkpnmninkmnbjaaDoor.PKa Go.Proofs.YtkpnmninkmnbjaaDoorW.PrintWords

def toBA (l : List UInt8) : ByteArray := ⟨l.toArray⟩

theorem ba_extract (s : ByteArray) (a b : Nat) : toBA ((s.data.toList.take b).drop a) = s.extract a b := by
  refine bytes_eq ?_
  rw [extract_data]; rfl

theorem cut_l0 (s : ByteArray) (hs : s.size ≤ 1099511627776) : ∀ (d i a : Nat) (out : List ByteArray), i + d = s.size → a ≤ i → out.length ≤ i →
    Tells (fun k => spec_l15Cut.l0 k s 32 out (a : Int) (i : Int)) (out ++ (cutL ((s.data.toList.take i).drop a) (s.data.toList.drop i)).map toBA)
  | 0, i, a, out, hd, ha, ho => by
    rw [List.drop_of_length_le (show s.data.toList.length ≤ i by rw [size_data]; omega)]
    have e : wrap64 ((i : Int) + 1) = ((i + 1 : Nat) : Int) := by rw [wr64 (by omega) (by omega)]; rfl
    refine Tells.step (g' := fun k => spec_l15Cut.l0 k s 32 (out ++ [s.extract a i]) ((i + 1 : Nat) : Int) ((i + 1 : Nat) : Int)) (fun k => ?_) (Tells.step (fun k => ?_) (Tells.pure _))
    · simp only [spec_l15Cut.l0]
      rw [if_pos (by omega), if_pos (by omega), if_pos (by omega), if_pos (by omega), if_pos (by omega), e, Int.toNat_natCast, Int.toNat_natCast]
    · simp only [spec_l15Cut.l0]
      rw [if_neg (by omega)]
      show some (out ++ [s.extract a i]) = some (out ++ [toBA ((s.data.toList.take i).drop a)])
      rw [ba_extract]
  | d + 1, i, a, out, hd, ha, ho => by
    have hi : i < s.size := by omega
    have e : wrap64 ((i : Int) + 1) = ((i + 1 : Nat) : Int) := by rw [wr64 (by omega) (by omega)]; rfl
    have hb := bt_get (s := s) (i := i) hi
    have hdr : s.data.toList.drop i = (s[i]'hi) :: s.data.toList.drop (i + 1) := List.drop_eq_getElem_cons (by rw [size_data]; exact hi)
    rw [hdr, cutL_cons]
    by_cases h : s[i]'hi = 32
    · have ih := cut_l0 s hs d (i + 1) (i + 1) (out ++ [s.extract a i]) (by omega) (by omega) (by rw [List.length_append, List.length_singleton]; omega)
      rw [List.drop_of_length_le (show (s.data.toList.take (i + 1)).length ≤ i + 1 by rw [List.length_take]; omega), List.append_assoc] at ih
      rw [if_pos h, List.map_cons, ba_extract]
      refine Tells.step (fun k => ?_) ih
      simp only [spec_l15Cut.l0]
      rw [if_pos (by omega), if_neg (by omega), if_pos (by omega), if_pos (by omega), hb, if_pos (by rw [h]; rfl), if_pos (by omega), if_pos (by omega), if_pos (by omega), e, Int.toNat_natCast, Int.toNat_natCast]
    · have hne : ¬ (((s[i]'hi).toNat : Int) = 32) := fun q => h (UInt8.toNat_inj.1 (show (s[i]'hi).toNat = 32 by omega))
      have ih := cut_l0 s hs d (i + 1) a out (by omega) (by omega) (by omega)
      have et : (s.data.toList.take (i + 1)).drop a = (s.data.toList.take i).drop a ++ [s[i]'hi] := by
        have hl : i < s.data.toList.length := by rw [size_data]; exact hi
        rw [List.take_succ_eq_append_getElem hl, List.drop_append_of_le_length (by rw [List.length_take]; omega)]; rfl
      rw [et] at ih
      rw [if_neg h]
      refine Tells.step (fun k => ?_) ih
      simp only [spec_l15Cut.l0]
      rw [if_pos (by omega), if_neg (by omega), if_pos (by omega), if_pos (by omega), hb, if_neg hne, e]

theorem cut_tells (s : ByteArray) (hs : s.size ≤ 1099511627776) : Tells (fun k => spec_l15Cut.f k s 32) (cutS s) := by
  have h := cut_l0 s hs s.size 0 0 [] (by omega) (by omega) (by simp)
  rw [List.drop_zero, List.drop_zero, List.take_zero, List.nil_append] at h
  exact h

theorem split_tells (s : ByteArray) (hs : s.size ≤ 1048576) : strings_Split.f s ⟨#[32]⟩ = some (cutS s) := by
  unfold strings_Split.f
  rw [if_pos ⟨rfl, by omega⟩, split_space]

theorem cutL_sz : ∀ (l cur : List UInt8) (x : List UInt8), x ∈ cutL cur l → x.length ≤ cur.length + l.length
  | [], cur, x, h => by
    rw [List.mem_singleton.1 h]; simp
  | b :: l, cur, x, h => by
    rw [cutL_cons] at h
    by_cases hb : b = 32
    · rw [if_pos hb] at h
      rcases List.mem_cons.1 h with rfl | h
      · omega
      · have := cutL_sz l [] x h
        simp only [List.length_nil] at this
        rw [List.length_cons]; omega
    · rw [if_neg hb] at h
      have := cutL_sz l _ x h
      rw [List.length_append, List.length_singleton] at this
      rw [List.length_cons]; omega

theorem cutS_sz (s x : ByteArray) (h : x ∈ cutS s) : x.size ≤ s.size := by
  obtain ⟨l, hl, rfl⟩ := List.mem_map.1 h
  have := cutL_sz _ _ l hl
  rw [size_data] at this
  have e : (⟨l.toArray⟩ : ByteArray).size = l.length := by rw [← size_data]
  rw [e]
  simpa using this

def piecesOf (lines : List ByteArray) : List ByteArray := (lines.map cutS).flatten

theorem pieces_snoc (a : List ByteArray) (b : ByteArray) : piecesOf (a ++ [b]) = piecesOf a ++ cutS b := by
  unfold piecesOf
  simp

/-- Lines that are short enough. -/
structure Lines (ls : List ByteArray) : Prop where
  len : ls.length ≤ 1048576
  sz : ∀ s ∈ ls, s.size ≤ 1048576

theorem pieces_len : ∀ (ls : List ByteArray), (∀ s ∈ ls, s.size ≤ 1048576) → (piecesOf ls).length ≤ ls.length * 1048577
  | [], _ => by simp [piecesOf]
  | s :: ls, h => by
    have ih := pieces_len ls (fun x hx => h x (List.mem_cons_of_mem _ hx))
    have h1 := cutS_len s
    have h2 := h s (List.mem_cons_self ..)
    show (cutS s ++ piecesOf ls).length ≤ _
    rw [List.length_append, List.length_cons, Nat.succ_mul]; omega

theorem pieces_sz {ls : List ByteArray} (h : ∀ s ∈ ls, s.size ≤ 1048576) (x : ByteArray) (hx : x ∈ piecesOf ls) : x.size ≤ 1048576 := by
  unfold piecesOf at hx
  rw [List.mem_flatten] at hx
  obtain ⟨p, hp, hxp⟩ := hx
  obtain ⟨s, hs, rfl⟩ := List.mem_map.1 hp
  exact Nat.le_trans (cutS_sz s x hxp) (h s hs)

theorem pieces_take_le (ls : List ByteArray) (i : Nat) : (piecesOf (ls.take i)).length ≤ (piecesOf ls).length := by
  have e : piecesOf ls = piecesOf (ls.take i) ++ piecesOf (ls.drop i) := by
    unfold piecesOf
    rw [← List.flatten_append, ← List.map_append, List.take_append_drop]
  rw [e, List.length_append]; omega

def wordsOf (ls : List ByteArray) : List ByteArray × Bool := if ls.length ≤ 18 ∧ wordsOk (piecesOf ls) = true then (piecesOf ls, true) else ([], false)

theorem impl_wordsOf_l0 (ls : List ByteArray) (hl : ls.length ≤ 18) (hs : ∀ s ∈ ls, s.size ≤ 1048576) : ∀ (d i : Nat), i + d = ls.length →
    Tells (fun k => impl_WordsOf.l0 k (piecesOf (ls.take i)) ls (ls.length : Int) (i : Int)) (wordsOf ls)
  | 0, i, hd => by
    have hp := pieces_len ls hs
    have hp2 : ls.length * 1048577 ≤ 18 * 1048577 := Nat.mul_le_mul hl (Nat.le_refl _)
    have hw := impl_words (piecesOf ls) ⟨by omega, fun s hm => by have := pieces_sz hs s hm; omega⟩
    rw [List.take_of_length_le (by omega)]
    refine Tells.step (fun k => by simp only [impl_WordsOf.l0]; rw [if_neg (by omega)]) (Tells.bind hw ?_)
    by_cases h : wordsOk (piecesOf ls) = true
    · have e : wordsOf ls = (piecesOf ls, true) := by unfold wordsOf; rw [if_pos ⟨hl, h⟩]
      rw [h, e]
      exact Tells.of fun k => rfl
    · have e : wordsOf ls = ([], false) := by unfold wordsOf; rw [if_neg (fun q => h q.2)]
      rw [Bool.not_eq_true] at h
      rw [h, e]
      exact Tells.of fun k => rfl
  | d + 1, i, hd => by
    have ih := impl_wordsOf_l0 ls hl hs d (i + 1) (by omega)
    have hsi := hs (ls[i]'(by omega)) (List.getElem_mem _)
    have hp := pieces_len ls hs
    have hp2 : ls.length * 1048577 ≤ 18 * 1048577 := Nat.mul_le_mul hl (Nat.le_refl _)
    have hp3 := pieces_take_le ls (i + 1)
    have e : ls.take (i + 1) = ls.take i ++ [ls[i]'(by omega)] := List.take_succ_eq_append_getElem (by omega)
    rw [e, pieces_snoc] at ih
    rw [e, pieces_snoc, List.length_append] at hp3
    have er : rdOf ByteArray.empty ls (i : Int) = ls[i]'(by omega) := rdS_get (by omega)
    have ew : ∀ _ : Unit, wrap64 ((i : Int) + 1) = ((i + 1 : Nat) : Int) := fun _ => by rw [wr64 (by omega) (by omega)]; rfl
    refine Tells.step (fun k => ?_) ih
    simp only [impl_WordsOf.l0]
    rw [if_pos (by omega), if_pos (by omega), if_pos (by omega), er, split_tells _ hsi, Option.bind_some, if_pos (by omega), ew ()]

theorem impl_wordsOf (ls : List ByteArray) (h : Lines ls) : Tells (fun k => impl_WordsOf.f k ls) (wordsOf ls) := by
  unfold impl_WordsOf.f
  by_cases hl : ls.length ≤ 18
  · exact Tells.iteF (by omega) (impl_wordsOf_l0 ls hl h.sz ls.length 0 (by omega))
  · have e : wordsOf ls = ([], false) := by unfold wordsOf; rw [if_neg (fun q => hl q.1)]
    rw [e]
    exact Tells.iteT (by omega) (Tells.of fun k => rfl)

theorem wordsOf_many {ls : List ByteArray} (h : 18 < (piecesOf ls).length) : wordsOf ls = ([], false) := by
  unfold wordsOf
  rw [if_neg]
  intro q
  have := (words_small q.2).1
  omega

theorem spec_wordsOf_l0 (ls : List ByteArray) (h : Lines ls) : ∀ (d i : Nat), i + d = ls.length → i ≤ 20 → (piecesOf (ls.take i)).length ≤ i * 20 →
    Tells (fun k => spec_WordsOf.l0 k ls (piecesOf (ls.take i)) (i : Int)) (wordsOf ls)
  | 0, i, hd, hi, hp => by
    refine Tells.step (fun k => by simp only [spec_WordsOf.l0]; rw [if_neg (by omega)]) ?_
    rw [List.take_of_length_le (by omega)] at hp ⊢
    by_cases hl : ls.length ≤ 18
    · have hw := spec_words (piecesOf ls) ⟨by omega, fun s hm => by have := pieces_sz h.sz s hm; omega⟩
      refine Tells.step (fun k => by simp only [spec_WordsOf.j1]; rw [if_neg (by decide), if_neg (by omega)]) (Tells.bind hw ?_)
      by_cases hk : wordsOk (piecesOf ls) = true
      · have e : wordsOf ls = (piecesOf ls, true) := by unfold wordsOf; rw [if_pos ⟨hl, hk⟩]
        rw [hk, e]
        exact Tells.of fun k => rfl
      · have e : wordsOf ls = ([], false) := by unfold wordsOf; rw [if_neg (fun q => hk q.2)]
        rw [Bool.not_eq_true] at hk
        rw [hk, e]
        exact Tells.of fun k => rfl
    · have e : wordsOf ls = ([], false) := by unfold wordsOf; rw [if_neg (fun q => hl q.1)]
      rw [e]
      exact Tells.step (fun k => by simp only [spec_WordsOf.j1]; rw [if_neg (by decide), if_pos (by omega)]) (Tells.of fun k => rfl)
  | d + 1, i, hd, hi, hp => by
    by_cases h20 : i < 20
    · have hsi := h.sz (ls[i]'(by omega)) (List.getElem_mem _)
      have er : rdOf ByteArray.empty ls (i : Int) = ls[i]'(by omega) := rdS_get (by omega)
      have ew : ∀ _ : Unit, wrap64 ((i : Int) + 1) = ((i + 1 : Nat) : Int) := fun _ => by rw [wr64 (by omega) (by omega)]; rfl
      have e : ls.take (i + 1) = ls.take i ++ [ls[i]'(by omega)] := List.take_succ_eq_append_getElem (by omega)
      have hp3 := pieces_take_le ls (i + 1)
      rw [e, pieces_snoc, List.length_append] at hp3
      refine Tells.step (fun k => by simp only [spec_WordsOf.l0]; rw [if_pos (by omega), decide_eq_true (by omega)]) ?_
      refine Tells.step (fun k => by simp only [spec_WordsOf.j1]; rw [if_pos trivial, if_pos (by omega), if_pos (by omega), er]) (Tells.bind (cut_tells _ (by omega)) ?_)
      by_cases hm : (cutS (ls[i]'(by omega))).length > 20
      · rw [wordsOf_many (by omega)]
        exact Tells.iteT (by omega) (Tells.of fun k => rfl)
      · have ih := spec_wordsOf_l0 ls h d (i + 1) (by omega) (by omega) (by rw [e, pieces_snoc, List.length_append]; omega)
        rw [e, pieces_snoc] at ih
        exact Tells.iteF (by omega) (Tells.iteT (by omega) (Tells.congr (fun k => by rw [ew ()]) ih))
    · have e : wordsOf ls = ([], false) := by unfold wordsOf; rw [if_neg (fun q => by have := q.1; omega)]
      rw [e]
      refine Tells.step (fun k => by simp only [spec_WordsOf.l0]; rw [if_pos (by omega), decide_eq_false (by omega)]) ?_
      exact Tells.step (fun k => by simp only [spec_WordsOf.j1]; rw [if_neg (by decide), if_pos (by omega)]) (Tells.of fun k => rfl)

theorem spec_wordsOf (ls : List ByteArray) (h : Lines ls) : Tells (fun k => spec_WordsOf.f k ls) (wordsOf ls) := by
  unfold spec_WordsOf.f
  exact spec_wordsOf_l0 ls h ls.length 0 (by omega) (by omega) (by simp [piecesOf])

theorem wordsOf_len (ls : List ByteArray) : (wordsOf ls).1.length ≤ 18 := by
  unfold wordsOf
  split
  · rename_i h
    exact (words_small h.2).1
  · simp

end DocPure
