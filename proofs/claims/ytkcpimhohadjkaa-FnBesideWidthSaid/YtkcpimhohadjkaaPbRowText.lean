/- Rows of a laid-out page: which are valid, how long each is, its text. The printed LayoutValid of the program and of the reference are the plain one. -/
import Derived.Test.YtkcpimhohadjkaaPPbx0
import Derived.Test.YtkcpimhohadjkaaPPbx2
import Derived.Test.YtkcpimhohadjkaaPPbx3
import Derived.Test.YtkcpimhohadjkaaPbText
import Derived.Test.YtkcpimhohadjkaaPbOne
namespace DocPure
open Go.RowKit Go.Proofs.Ytkcpimhohadjkaa.PPb Go.Proofs.YtkcpimhohadjkaaW.PrintWords

def rowB (b : UInt8) : Bool := decide (b = 32) || decide (okB b.toNat)

def rowText (s : ByteArray) : Bool := s.data.toList.all rowB

theorem textOk_one (b : UInt8) : textOk (one b) = decide (okB b.toNat) := by
  show (decide (1 ≤ 1) && decide (1 ≤ 12) && ([b].all fun c => decide (okB c.toNat))) = _
  simp

theorem all_step (s : ByteArray) {i : Nat} (h : i < s.size) : (s.data.toList.drop i).all rowB = (rowB (s[i]'h) && (s.data.toList.drop (i + 1)).all rowB) := by
  rw [List.drop_eq_getElem_cons (by rw [size_data]; exact h), List.all_cons]; rfl

theorem byte_32 {b : UInt8} : ((b.toNat : Int) = 32) ↔ b = 32 := by
  constructor
  · intro q
    exact UInt8.toNat_inj.1 (show b.toNat = 32 by omega)
  · rintro rfl; rfl

theorem impl_rowBytes_l0 (s : ByteArray) (hs : s.size ≤ 9223372036854775806) : ∀ (d i : Nat), i + d = s.size → Tells (fun k => impl_rowBytes.l0 k s (i : Int)) ((s.data.toList.drop i).all rowB)
  | 0, i, hd => by
    rw [List.drop_of_length_le (by rw [size_data]; omega)]
    refine Tells.step (fun k => ?_) (Tells.pure _)
    simp only [impl_rowBytes.l0]
    rw [if_neg (by omega)]; rfl
  | d + 1, i, hd => by
    have hw : ∀ _ : Unit, wrap64 ((i : Int) + 1) = ((i + 1 : Nat) : Int) := fun _ => by rw [wr64 (by omega) (by omega)]; rfl
    have hb := bt_get (s := s) (i := i) (by omega)
    have ih := impl_rowBytes_l0 s hs d (i + 1) (by omega)
    rw [all_step s (show i < s.size by omega)]
    unfold rowB
    by_cases h : s[i]'(by omega) = 32
    · rw [decide_eq_true h, Bool.true_or, Bool.true_and]
      refine Tells.step (fun k => ?_) ih
      simp only [impl_rowBytes.l0]
      rw [if_pos (by omega), if_pos (by omega), hb, if_pos (byte_32.2 h), hw ()]
    · rw [decide_eq_false h, Bool.false_or]
      refine Tells.step (fun k => by simp only [impl_rowBytes.l0]; rw [if_pos (by omega), if_pos (by omega), hb, if_neg (fun q => h (byte_32.1 q)), hw (), if_pos (by omega), if_pos (by omega), Int.toNat_natCast, Int.toNat_natCast, extract_one (by omega)]) ?_
      refine Tells.bind (impl_text (one (s[i]'(by omega))) (by show 1 ≤ _; omega)) ?_
      rw [textOk_one]
      by_cases ho : okB (s[i]'(by omega)).toNat
      · rw [decide_eq_true ho, Bool.true_and]
        exact Tells.iteT rfl ih
      · rw [decide_eq_false ho, Bool.false_and]
        exact Tells.iteF (by decide) (Tells.pure _)

theorem impl_rowBytes_tells (s : ByteArray) (hs : s.size ≤ 9223372036854775806) : Tells (fun k => impl_rowBytes.f k s) (rowText s) := impl_rowBytes_l0 s hs s.size 0 (by omega)

theorem spec_l2Text_l0 (s : ByteArray) (hs : s.size ≤ 9223372036854775806) : ∀ (d i : Nat), i + d = s.size → i ≤ 2000 → Tells (fun k => spec_l2Text.l0 k s (i : Int)) ((s.data.toList.drop i).all rowB && decide (s.size < 2000))
  | 0, i, hd, h2 => by
    rw [List.drop_of_length_le (by rw [size_data]; omega)]
    refine Tells.step (g' := fun k => spec_l2Text.j1 k s (i : Int) false) (fun k => ?_) (Tells.step (fun k => ?_) (Tells.pure (([] : List UInt8).all rowB && decide (s.size < 2000))))
    · simp only [spec_l2Text.l0]
      rw [if_neg (by omega)]
    · simp only [spec_l2Text.j1]
      rw [if_neg (by decide), List.all_nil, Bool.true_and, decide_eq_decide.2 (show ((s.size : Int) < 2000 ↔ s.size < 2000) by omega)]
  | d + 1, i, hd, h2 => by
    by_cases h20 : i < 2000
    · have hw : ∀ _ : Unit, wrap64 ((i : Int) + 1) = ((i + 1 : Nat) : Int) := fun _ => by rw [wr64 (by omega) (by omega)]; rfl
      have hb := bt_get (s := s) (i := i) (by omega)
      have ih := spec_l2Text_l0 s hs d (i + 1) (by omega) (by omega)
      rw [all_step s (show i < s.size by omega)]
      unfold rowB
      refine Tells.step (g' := fun k => spec_l2Text.j1 k s (i : Int) true) (fun k => by simp only [spec_l2Text.l0]; rw [if_pos (by omega), decide_eq_true (by omega)]) ?_
      by_cases h : s[i]'(by omega) = 32
      · rw [decide_eq_true h, Bool.true_or, Bool.true_and]
        refine Tells.step (fun k => ?_) ih
        simp only [spec_l2Text.j1]
        rw [if_pos trivial, if_pos (by omega), if_pos (by omega), hb, if_pos (byte_32.2 h), hw ()]
      · rw [decide_eq_false h, Bool.false_or]
        refine Tells.step (fun k => by simp only [spec_l2Text.j1]; rw [if_pos trivial, if_pos (by omega), if_pos (by omega), hb, if_neg (fun q => h (byte_32.1 q)), hw (), if_pos (by omega), if_pos (by omega), Int.toNat_natCast, Int.toNat_natCast, extract_one (by omega)]) ?_
        refine Tells.bind (spec_text (one (s[i]'(by omega))) (by show 1 ≤ _; omega)) ?_
        rw [textOk_one]
        by_cases ho : okB (s[i]'(by omega)).toNat
        · rw [decide_eq_true ho, Bool.true_and]
          exact Tells.iteT rfl ih
        · rw [decide_eq_false ho, Bool.false_and, Bool.false_and]
          exact Tells.iteF (by decide) (Tells.pure _)
    · rw [decide_eq_false (show ¬ s.size < 2000 by omega), Bool.and_false]
      refine Tells.step (g' := fun k => spec_l2Text.j1 k s (i : Int) false) (fun k => by simp only [spec_l2Text.l0]; rw [if_pos (by omega), decide_eq_false (by omega)]) (Tells.step (fun k => ?_) (Tells.pure _))
      simp only [spec_l2Text.j1]
      rw [if_neg (by decide), decide_eq_false (by omega)]

theorem spec_l2Text_tells (s : ByteArray) (hs : s.size ≤ 9223372036854775806) : Tells (fun k => spec_l2Text.f k s) (rowText s && decide (s.size < 2000)) := spec_l2Text_l0 s hs s.size 0 (by omega) (by omega)

end DocPure
