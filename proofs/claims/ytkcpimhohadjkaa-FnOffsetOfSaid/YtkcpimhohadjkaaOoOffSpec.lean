/- The reference's OffsetOf is the plain one. -/
import Derived.Test.YtkcpimhohadjkaaPOox0
import Derived.Test.YtkcpimhohadjkaaPOox13
import Derived.Test.YtkcpimhohadjkaaOoOffDef
namespace DocPure
open Go.RowKit Go.Proofs.Ytkcpimhohadjkaa.POo Go.Proofs.YtkcpimhohadjkaaW.PrintWords

theorem spec_off_l0 (rows : List Row) (hr : OkRows rows) (hl : rows.length ≤ 200) (n : Nat) (hn : n ≤ rows.length) (b : Int) (hb : 0 ≤ b) (hb2 : b ≤ 2400) : ∀ (d i : Nat), i + d = n →
    Tells (fun k => spec_OffsetOf.l0 k rows (b + (offs (lens rows) i : Int)) (i : Int) (n : Int) b) (b + (offs (lens rows) n : Int), true)
  | 0, i, hd => by
    obtain rfl : i = n := by omega
    refine Tells.step (fun k => ?_) (Tells.pure _)
    simp only [spec_OffsetOf.l0]
    rw [if_neg (by omega)]
  | d + 1, i, hd => by
    have ih := spec_off_l0 rows hr hl n hn b hb hb2 d (i + 1) (by omega)
    have hz := offs_le (lens rows) 2400 (lens_le hr) i (by simp [lens]; omega)
    have hz2 : i * 2401 ≤ 200 * 2401 := Nat.mul_le_mul (by omega) (Nat.le_refl _)
    have hs := offs_succ (lens rows) (i := i) (by simp [lens]; omega)
    rw [lens_get (by omega)] at hs
    have hq := rowLen_le (hr (rows[i]'(by omega)) (List.getElem_mem _))
    refine Tells.step (fun k => by simp only [spec_OffsetOf.l0]; rw [if_pos (by omega), if_pos (by omega), if_pos (by omega)]) ?_
    refine Tells.bind (spec_line_at hr (by omega)) (Tells.congr (fun k => ?_) ih)
    rw [rowLine_size, wr64 (n := b + _ + _) (by omega) (by omega), wr64 (by omega) (by omega), wr64 (by omega) (by omega), hs]
    congr 1
    omega

theorem spec_offset (rows : List Row) (hs : SmallR rows) (a b : Int) : Tells (fun k => spec_OffsetOf.f k rows a b) (offsetOf rows a b) := by
  unfold spec_OffsetOf.f
  refine Tells.bind (spec_layout rows hs) ?_
  have fail : offOk rows a b = false → Tells (fun k => spec_OffsetOf.j0 k rows true a b) (offsetOf rows a b) := fun h => by
    unfold offsetOf
    rw [h]
    exact Tells.step (fun k => by simp only [spec_OffsetOf.j0]; rw [if_pos trivial]; rfl) (Tells.pure _)
  by_cases hv : layoutOk rows = true
  · rw [hv]
    refine Tells.congr (fun k => if_pos rfl) ?_
    obtain ⟨-, hl, hr⟩ := layout_parts hv
    by_cases h1 : a < 0
    · exact Tells.congr (fun k => if_pos h1) (fail (by unfold offOk; rw [decide_eq_false (p := 0 ≤ a ∧ a < rows.length) (by omega), Bool.false_and, Bool.and_false]))
    by_cases h2 : a ≥ (rows.length : Int)
    · exact Tells.congr (fun k => by rw [if_neg h1, if_pos h2]) (fail (by unfold offOk; rw [decide_eq_false (p := 0 ≤ a ∧ a < rows.length) (by omega), Bool.false_and, Bool.and_false]))
    by_cases h3 : b < 0
    · exact Tells.congr (fun k => by rw [if_neg h1, if_neg h2, if_pos h3]) (fail (by unfold offOk; rw [decide_eq_false (p := 0 ≤ b ∧ _) (by omega), Bool.and_false, Bool.and_false]))
    obtain ⟨i, hi, rfl, hlen⟩ := lens_at (rows := rows) (a := a) (by omega) (by omega)
    have hq := rowLen_le (hr (rows[i]'hi) (List.getElem_mem _))
    refine Tells.congr (fun k => by rw [if_neg h1, if_neg h2, if_neg h3, if_pos (by omega), if_pos (by omega)]) (Tells.bind (spec_line_at hr hi) ?_)
    rw [rowLine_size]
    by_cases h4 : b > (rowLen (rows[i]'hi) : Int)
    · rw [decide_eq_true h4]
      exact fail (by unfold offOk; rw [hlen, decide_eq_false (p := 0 ≤ b ∧ _) (by omega), Bool.and_false, Bool.and_false])
    · rw [decide_eq_false h4]
      have e : offOk rows (i : Int) b = true := by unfold offOk; rw [hv, hlen, decide_eq_true (p := 0 ≤ (i : Int) ∧ _) (by omega), decide_eq_true (p := 0 ≤ b ∧ _) (by omega)]; rfl
      unfold offsetOf
      rw [e]
      have h0 := spec_off_l0 rows hr hl i (by omega) b (by omega) (by omega) i 0 (by omega)
      refine Tells.step (fun k => ?_) h0
      simp only [spec_OffsetOf.j0]
      rw [if_neg (by decide), offs_zero]
      congr 1
      omega
  · rw [Bool.not_eq_true] at hv
    rw [hv]
    exact Tells.congr (fun k => if_neg (by decide)) (fail (by unfold offOk; rw [hv, Bool.false_and]))

end DocPure
