/- Which texts a document can have: the printed TextValid of the program and of the reference are one plain function. -/
import Derived.Test.YtkpnmninkmnbjaaDoorPKax0
import Derived.Test.YtkpnmninkmnbjaaDoorPKax1
import Derived.Test.YtkpnmninkmnbjaaDoorPKax2
import Derived.Test.YtkpnmninkmnbjaaDoorPKax3
import Derived.Test.YtkpnmninkmnbjaaDoorKaBase
namespace DocPure
open Go.RowKit Go.Proofs.YtkpnmninkmnbjaaDoor.PKa Go.Proofs.YtkpnmninkmnbjaaDoorW.PrintWords

def okB (c : Int) : Prop := (97 ≤ c ∧ c ≤ 122) ∨ (48 ≤ c ∧ c ≤ 57) ∨ c = 44 ∨ c = 58 ∨ c = 61 ∨ c = 123 ∨ c = 125 ∨ c = 40 ∨ c = 41 ∨ c = 91 ∨ c = 93

instance (c : Int) : Decidable (okB c) := by unfold okB; infer_instance

def bytesOk (s : ByteArray) : Bool := s.data.toList.all fun b => decide (okB b.toNat)

def textOk (s : ByteArray) : Bool := decide (1 ≤ s.size) && decide (s.size ≤ 12) && bytesOk s

def okFrom (s : ByteArray) (i : Nat) : Bool := (s.data.toList.drop i).all fun b => decide (okB b.toNat)

theorem okFrom_end (s : ByteArray) {i : Nat} (h : s.size ≤ i) : okFrom s i = true := by
  unfold okFrom
  rw [List.drop_of_length_le (by simpa using h)]; rfl

theorem okFrom_step (s : ByteArray) {i : Nat} (h : i < s.size) : okFrom s i = (decide (okB (bt s i)) && okFrom s (i + 1)) := by
  unfold okFrom
  rw [List.drop_eq_getElem_cons (by simpa using h), List.all_cons, bt_get h]
  rfl

theorem punct (c : Int) (h0 : 0 ≤ c) (h1 : c ≤ 255) : (Go.Lib.indexByte (⟨#[44, 58, 61, 123, 125, 40, 41, 91, 93]⟩ : ByteArray).data.toList c.toNat.toUInt8 ≥ 0) ↔ (c = 44 ∨ c = 58 ∨ c = 61 ∨ c = 123 ∨ c = 125 ∨ c = 40 ∨ c = 41 ∨ c = 91 ∨ c = 93) := by
  have key : ∀ n : Nat, n < 256 → ((Go.Lib.indexByte (⟨#[44, 58, 61, 123, 125, 40, 41, 91, 93]⟩ : ByteArray).data.toList n.toUInt8 ≥ 0) ↔ (n = 44 ∨ n = 58 ∨ n = 61 ∨ n = 123 ∨ n = 125 ∨ n = 40 ∨ n = 41 ∨ n = 91 ∨ n = 93)) := by decide +kernel
  have := key c.toNat (by omega)
  rw [this]
  omega

theorem impl_text_l0 (s : ByteArray) (hs : s.size ≤ 9223372036854775806) : ∀ (d i : Nat), i + d = s.size →
    Tells (fun k => impl_TextValid.l0 k s (i : Int)) (decide (1 ≤ s.size) && decide (s.size ≤ 12) && okFrom s i)
  | 0, i, hd => by
    rw [okFrom_end s (by omega), Bool.and_true]
    refine Tells.step (fun k => ?_) (Tells.pure _)
    simp only [impl_TextValid.l0]
    rw [if_neg (by omega)]
    by_cases h : s.size ≥ 1
    · rw [if_pos (by omega), decide_eq_true (p := 1 ≤ s.size) h, Bool.true_and]
      congr 1
      exact decide_eq_decide.2 (by omega)
    · rw [if_neg (by omega), decide_eq_false (p := 1 ≤ s.size) h]; rfl
  | d + 1, i, hd => by
    have ih := impl_text_l0 s hs d (i + 1) (by omega)
    rw [okFrom_step s (by omega)]
    have hr := bt_range s i
    have hp := punct (bt s i) hr.1 hr.2
    have hw : wrap64 ((i : Int) + 1) = ((i + 1 : Nat) : Int) := by rw [wr64 (by omega) (by omega)]; rfl
    by_cases hok : okB (bt s i)
    · rw [decide_eq_true hok, Bool.true_and]
      refine Tells.step (fun k => ?_) ih
      simp only [impl_TextValid.l0, strings_IndexByte.f, Option.bind_some, hw, hp]
      rw [if_pos (by omega), if_pos (by omega)]
      unfold okB at hok
      repeat' (with_reducible refine ite_eq (fun _ => ?_) (fun _ => ?_))
      all_goals first | with_reducible rfl | (exfalso; omega)
    · rw [decide_eq_false hok, Bool.false_and, Bool.and_false]
      refine Tells.step (fun k => ?_) (Tells.pure _)
      simp only [impl_TextValid.l0, strings_IndexByte.f, Option.bind_some, hw, hp]
      rw [if_pos (by omega), if_pos (by omega)]
      unfold okB at hok
      repeat' (with_reducible refine ite_eq (fun _ => ?_) (fun _ => ?_))
      all_goals first | with_reducible rfl | (exfalso; omega)

theorem impl_text (s : ByteArray) (hs : s.size ≤ 9223372036854775806) : Tells (fun k => impl_TextValid.f k s) (textOk s) :=
  impl_text_l0 s hs s.size 0 (by omega)

theorem spec_text_l0 (s : ByteArray) (hs : s.size ≤ 9223372036854775806) : ∀ (d i : Nat), i + d = s.size →
    Tells (fun k => spec_TextValid.l0 k s (i : Int)) (okFrom s i)
  | 0, i, hd => by
    rw [okFrom_end s (by omega)]
    refine Tells.step (fun k => ?_) (Tells.pure _)
    simp only [spec_TextValid.l0]
    rw [if_neg (by omega)]
  | d + 1, i, hd => by
    have ih := spec_text_l0 s hs d (i + 1) (by omega)
    rw [okFrom_step s (by omega)]
    have hw : wrap64 ((i : Int) + 1) = ((i + 1 : Nat) : Int) := by rw [wr64 (by omega) (by omega)]; rfl
    by_cases hok : okB (bt s i)
    · rw [decide_eq_true hok, Bool.true_and]
      refine Tells.step (fun k => ?_) ih
      simp only [spec_TextValid.l0, hw, ite_self]
      rw [if_pos (by omega), if_pos (by omega)]
      unfold okB at hok
      repeat' (with_reducible refine ite_eq (fun _ => ?_) (fun _ => ?_))
      all_goals first | with_reducible rfl | (exfalso; omega)
    · rw [decide_eq_false hok, Bool.false_and]
      refine Tells.step (fun k => ?_) (Tells.pure _)
      simp only [spec_TextValid.l0, hw, ite_self]
      rw [if_pos (by omega), if_pos (by omega)]
      unfold okB at hok
      repeat' (with_reducible refine ite_eq (fun _ => ?_) (fun _ => ?_))
      all_goals first | with_reducible rfl | (exfalso; omega)

theorem spec_text (s : ByteArray) (hs : s.size ≤ 9223372036854775806) : Tells (fun k => spec_TextValid.f k s) (textOk s) := by
  by_cases h : 1 ≤ s.size ∧ s.size ≤ 12
  · have e : textOk s = okFrom s 0 := by unfold textOk; rw [decide_eq_true h.1, decide_eq_true h.2]; rfl
    rw [e]
    refine Tells.congr (g' := fun k => spec_TextValid.j0 k s false) (fun k => ?_) (Tells.step (fun k => ?_) (spec_text_l0 s hs s.size 0 (by omega)))
    · unfold spec_TextValid.f
      rw [if_neg (by omega), decide_eq_false (by omega)]
    · simp only [spec_TextValid.j0]
      rw [if_neg (by decide)]; rfl
  · have e : textOk s = false := by
      unfold textOk
      by_cases h1 : 1 ≤ s.size
      · rw [decide_eq_false (p := s.size ≤ 12) (fun h2 => h ⟨h1, h2⟩), Bool.and_false, Bool.false_and]
      · rw [decide_eq_false h1]; rfl
    rw [e]
    refine Tells.congr (g' := fun k => spec_TextValid.j0 k s true) (fun k => ?_) (Tells.step (fun k => ?_) (Tells.pure _))
    · unfold spec_TextValid.f
      by_cases h1 : (s.size : Int) < 1
      · rw [if_pos h1]
      · rw [if_neg h1, decide_eq_true (by omega)]
    · simp only [spec_TextValid.j0]
      rw [if_pos trivial]

end DocPure
