/- The laws' equality of two rows of strings. -/
import Derived.Test.YtkpnmninkmnbjaaDoorPKax0
import Derived.Test.YtkpnmninkmnbjaaDoorPKax6
import Derived.Test.YtkpnmninkmnbjaaDoorKaBaseS
namespace DocPure
open Go.RowKit Go.Proofs.YtkpnmninkmnbjaaDoor.PKa Go.Proofs.YtkpnmninkmnbjaaDoorW.PrintWords

theorem daTexts_l0 (x y : List ByteArray) (hx : x.length ≤ 1048576) (hl : x.length = y.length) : ∀ (d i : Nat), i + d = x.length →
    Tells (fun k => laws_daTexts.l0 k x y (i : Int)) (decide (x.drop i = y.drop i))
  | 0, i, hd => by
    refine Tells.step (fun k => ?_) (Tells.pure _)
    simp only [laws_daTexts.l0]
    rw [if_neg (by omega), List.drop_of_length_le (by omega), List.drop_of_length_le (by omega)]; rfl
  | d + 1, i, hd => by
    have ex := List.drop_eq_getElem_cons (l := x) (i := i) (by omega)
    have ey := List.drop_eq_getElem_cons (l := y) (i := i) (by omega)
    by_cases h : x[i]'(by omega) = y[i]'(by omega)
    · have e : decide (x.drop i = y.drop i) = decide (x.drop (i + 1) = y.drop (i + 1)) := by rw [ex, ey, h]; exact decide_eq_decide.2 ⟨fun q => (List.cons.inj q).2, fun q => by rw [q]⟩
      rw [e]
      refine Tells.step (fun k => ?_) (daTexts_l0 x y hx hl d (i + 1) (by omega))
      simp only [laws_daTexts.l0]
      rw [if_pos (by omega), if_pos (by omega), if_pos (by omega), if_pos (by rw [rdS_get (by omega), rdS_get (by omega)]; exact (str_eq _ _).2 h), wr64 (by omega) (by omega)]; rfl
    · have e : decide (x.drop i = y.drop i) = false := decide_eq_false fun q => h (by rw [ex, ey] at q; exact (List.cons.inj q).1)
      rw [e]
      refine Tells.step (fun k => ?_) (Tells.pure _)
      simp only [laws_daTexts.l0]
      rw [if_pos (by omega), if_pos (by omega), if_pos (by omega), if_neg (by rw [rdS_get (by omega), rdS_get (by omega)]; exact fun q => h ((str_eq _ _).1 q))]

theorem daTexts (x y : List ByteArray) (hx : x.length ≤ 1048576) : Tells (fun k => laws_daTexts.f k x y) (decide (x = y)) := by
  by_cases hl : x.length = y.length
  · refine Tells.congr (fun k => ?_) (daTexts_l0 x y hx hl x.length 0 (by omega))
    unfold laws_daTexts.f
    rw [if_pos (by omega)]; rfl
  · rw [decide_eq_false (fun h => hl (by rw [h]))]
    refine Tells.of fun k => ?_
    unfold laws_daTexts.f
    rw [if_neg (by omega)]

end DocPure
