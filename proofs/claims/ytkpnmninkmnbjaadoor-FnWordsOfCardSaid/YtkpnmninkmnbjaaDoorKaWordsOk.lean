/- Which words can be wrapped: the printed WordsValid of the program and of the reference are one plain function. -/
import Derived.Test.YtkpnmninkmnbjaaDoorPKax0
import Derived.Test.YtkpnmninkmnbjaaDoorPKax2
import Derived.Test.YtkpnmninkmnbjaaDoorPKax4
import Derived.Test.YtkpnmninkmnbjaaDoorKaBaseS
import Derived.Test.YtkpnmninkmnbjaaDoorKaText
namespace DocPure
open Go.RowKit Go.Proofs.YtkpnmninkmnbjaaDoor.PKa Go.Proofs.YtkpnmninkmnbjaaDoorW.PrintWords

def wordsOk (ws : List ByteArray) : Bool := ws.all textOk && decide (ws.length ≤ 18)

/-- What the laws' inputs are: short enough for all numbers. -/
structure Small (ws : List ByteArray) : Prop where
  len : ws.length ≤ 9223372036854775806
  sz : ∀ s ∈ ws, s.size ≤ 9223372036854775806

theorem impl_words_l0 (ws : List ByteArray) (hs : Small ws) : ∀ (d i : Nat), i + d = ws.length →
    Tells (fun k => impl_WordsValid.l0 k ws ws (ws.length : Int) (i : Int)) ((ws.drop i).all textOk && decide (ws.length ≤ 18))
  | 0, i, hd => by
    rw [List.drop_of_length_le (by omega)]
    refine Tells.step (fun k => ?_) (Tells.pure _)
    simp only [impl_WordsValid.l0]
    rw [if_neg (by omega)]
    show some _ = some (true && _)
    rw [Bool.true_and]
    congr 1
    exact decide_eq_decide.2 (by omega)
  | d + 1, i, hd => by
    have hl := hs.len
    have ih := impl_words_l0 ws hs d (i + 1) (by omega)
    have ht := impl_text (ws[i]'(by omega)) (hs.sz _ (List.getElem_mem _))
    refine Tells.step (fun k => by simp only [impl_WordsValid.l0]; rw [if_pos (by omega), if_pos (by omega), if_pos (by omega), rdS_get (by omega)]) ?_
    refine Tells.bind ht ?_
    rw [List.drop_eq_getElem_cons (by omega), List.all_cons]
    cases h : textOk (ws[i]'(by omega)) with
    | false => exact Tells.of fun k => rfl
    | true =>
      rw [Bool.true_and]
      refine Tells.congr (fun k => ?_) ih
      rw [if_pos rfl, wr64 (by omega) (by omega)]; rfl

theorem impl_words (ws : List ByteArray) (hs : Small ws) : Tells (fun k => impl_WordsValid.f k ws) (wordsOk ws) :=
  impl_words_l0 ws hs ws.length 0 (by omega)

theorem spec_words_l0 (ws : List ByteArray) (hs : Small ws) : ∀ (d i : Nat), i + d = ws.length → i ≤ 20 →
    Tells (fun k => spec_WordsValid.l0 k ws (i : Int)) ((ws.drop i).all textOk && decide (ws.length ≤ 18))
  | 0, i, hd, h20 => by
    rw [List.drop_of_length_le (by omega)]
    refine Tells.step (g' := fun k => spec_WordsValid.j1 k ws (i : Int) false) (fun k => ?_) (Tells.step (fun k => ?_) (Tells.pure _))
    · simp only [spec_WordsValid.l0]
      rw [if_neg (by omega)]
    · simp only [spec_WordsValid.j1]
      rw [if_neg (by decide)]
      show some _ = some (true && _)
      rw [Bool.true_and]
      congr 1
      exact decide_eq_decide.2 (by omega)
  | d + 1, i, hd, h20 => by
    have hl := hs.len
    by_cases hi : i < 20
    · have ih := spec_words_l0 ws hs d (i + 1) (by omega) (by omega)
      have ht := spec_text (ws[i]'(by omega)) (hs.sz _ (List.getElem_mem _))
      refine Tells.step (g' := fun k => spec_WordsValid.j1 k ws (i : Int) true) (fun k => ?_) (Tells.step (fun k => by simp only [spec_WordsValid.j1]; rw [if_pos trivial, if_pos (by omega), if_pos (by omega), rdS_get (by omega)]) ?_)
      · simp only [spec_WordsValid.l0]
        rw [if_pos (by omega), decide_eq_true (by omega)]
      refine Tells.bind ht ?_
      rw [List.drop_eq_getElem_cons (by omega), List.all_cons]
      cases h : textOk (ws[i]'(by omega)) with
      | false => exact Tells.of fun k => rfl
      | true =>
        rw [Bool.true_and]
        refine Tells.congr (fun k => ?_) ih
        rw [if_pos rfl, wr64 (by omega) (by omega)]; rfl
    · rw [decide_eq_false (p := ws.length ≤ 18) (by omega), Bool.and_false]
      refine Tells.step (g' := fun k => spec_WordsValid.j1 k ws (i : Int) false) (fun k => ?_) (Tells.step (fun k => ?_) (Tells.pure _))
      · simp only [spec_WordsValid.l0]
        rw [if_pos (by omega), decide_eq_false (by omega)]
      · simp only [spec_WordsValid.j1]
        rw [if_neg (by decide)]
        rw [decide_eq_false (by omega)]

theorem spec_words (ws : List ByteArray) (hs : Small ws) : Tells (fun k => spec_WordsValid.f k ws) (wordsOk ws) :=
  spec_words_l0 ws hs ws.length 0 (by omega) (by omega)

theorem words_small {ws : List ByteArray} (h : wordsOk ws = true) : ws.length ≤ 18 ∧ ∀ s ∈ ws, 1 ≤ s.size ∧ s.size ≤ 12 := by
  unfold wordsOk at h
  rw [Bool.and_eq_true, decide_eq_true_eq, List.all_eq_true] at h
  refine ⟨h.2, fun s hs => ?_⟩
  have := h.1 s hs
  unfold textOk at this
  rw [Bool.and_eq_true, Bool.and_eq_true, decide_eq_true_eq, decide_eq_true_eq] at this
  exact this.1

end DocPure
