/- The program's OffsetOf is the plain one. -/
import Derived.Test.YtkcpimhohadjkaaPOox0
import Derived.Test.YtkcpimhohadjkaaPOox11
import Derived.Test.YtkcpimhohadjkaaOoOffDef
namespace DocPure
open Go.RowKit Go.Proofs.Ytkcpimhohadjkaa.POo Go.Proofs.YtkcpimhohadjkaaW.PrintWords

theorem impl_off_l0 (rows : List Row) (hr : OkRows rows) (hl : rows.length ≤ 200) (n : Nat) (hn : n ≤ rows.length) (b : Int) (hb : 0 ≤ b) (hb2 : b ≤ 2400) : ∀ (d i : Nat), i + d = n →
    Tells (fun k => impl_OffsetOf.l0 k (b + (offs (lens rows) i : Int)) (rows.take n) ((rows.take n).length : Int) (i : Int)) (b + (offs (lens rows) n : Int), true)
  | 0, i, hd => by
    obtain rfl : i = n := by omega
    refine Tells.step (fun k => ?_) (Tells.pure _)
    simp only [impl_OffsetOf.l0]
    rw [if_neg (by rw [List.length_take]; omega)]
  | d + 1, i, hd => by
    have ih := impl_off_l0 rows hr hl n hn b hb hb2 d (i + 1) (by omega)
    have hz := offs_le (lens rows) 2400 (lens_le hr) i (by simp [lens]; omega)
    have hz2 : i * 2401 ≤ 200 * 2401 := Nat.mul_le_mul (by omega) (Nat.le_refl _)
    have hs := offs_succ (lens rows) (i := i) (by simp [lens]; omega)
    rw [lens_get (by omega)] at hs
    have hq := rowLen_le (hr (rows[i]'(by omega)) (List.getElem_mem _))
    have e : rd_T59 (rows.take n) (i : Int) = rows[i]'(by omega) := by rw [rd_rows (by rw [List.length_take]; omega), List.getElem_take]
    refine Tells.step (fun k => ?_) ih
    simp only [impl_OffsetOf.l0]
    rw [if_pos (by rw [List.length_take]; omega), if_pos (by omega), if_pos (by rw [List.length_take]; omega), e, impl_rowLen_tells _ (hr _ (List.getElem_mem _)), Option.bind_some, wr64 (n := ((rowLen (rows[i]'(by omega)) : Nat) : Int) + 1) (by omega) (by omega), wr64 (by omega) (by omega), wr64 (by omega) (by omega), hs]
    congr 1
    omega

theorem impl_offset (rows : List Row) (hs : SmallR rows) (a b : Int) : Tells (fun k => impl_OffsetOf.f k rows a b) (offsetOf rows a b) := by
  unfold impl_OffsetOf.f
  refine Tells.bind (impl_layout rows hs) ?_
  have fail : offOk rows a b = false → Tells (fun k => impl_OffsetOf.j0 k rows true a b) (offsetOf rows a b) := fun h => by
    unfold offsetOf
    rw [h]
    exact Tells.step (fun k => by simp only [impl_OffsetOf.j0]; rw [if_pos trivial]; rfl) (Tells.pure _)
  by_cases hv : layoutOk rows = true
  · rw [hv]
    refine Tells.congr (fun k => if_pos rfl) ?_
    obtain ⟨-, hl, hr⟩ := layout_parts hv
    by_cases h1 : a < 0
    · exact Tells.congr (fun k => if_pos h1) (fail (by unfold offOk; rw [decide_eq_false (p := 0 ≤ a ∧ a < rows.length) (by omega), Bool.false_and, Bool.and_false]))
    by_cases h2 : a ≥ (rows.length : Int)
    · exact Tells.congr (fun k => by rw [if_neg h1, if_pos h2]) (fail (by unfold offOk; rw [decide_eq_false (p := 0 ≤ a ∧ a < rows.length) (by omega), Bool.false_and, Bool.and_false]))
    by_cases h3 : b < 0
    · exact Tells.congr (fun k => by rw [if_neg h1, if_neg h2, if_pos h3]) (fail (by unfold offOk; rw [decide_eq_false (p := 0 ≤ b ∧ _) (by omega), Bool.and_false, Bool.and_false]))
    obtain ⟨i, hi, rfl, hlen⟩ := lens_at (rows := rows) (a := a) (by omega) (by omega)
    have hq := rowLen_le (hr (rows[i]'hi) (List.getElem_mem _))
    refine Tells.congr (fun k => by rw [if_neg h1, if_neg h2, if_neg h3, if_pos (by omega), if_pos (by omega), impl_rowLen_at hr hi, Option.bind_some]) ?_
    by_cases h4 : b > (rowLen (rows[i]'hi) : Int)
    · rw [decide_eq_true h4]
      exact fail (by unfold offOk; rw [hlen, decide_eq_false (p := 0 ≤ b ∧ _) (by omega), Bool.and_false, Bool.and_false])
    · rw [decide_eq_false h4]
      have e : offOk rows (i : Int) b = true := by unfold offOk; rw [hv, hlen, decide_eq_true (p := 0 ≤ (i : Int) ∧ _) (by omega), decide_eq_true (p := 0 ≤ b ∧ _) (by omega)]; rfl
      unfold offsetOf
      rw [e]
      have h0 := impl_off_l0 rows hr hl i (by omega) b (by omega) (by omega) i 0 (by omega)
      refine Tells.step (fun k => ?_) h0
      simp only [impl_OffsetOf.j0, Option.bind_some]
      rw [if_neg (by decide), if_pos (by omega), if_pos (by omega), Int.toNat_natCast, offs_zero]
      congr 1
      omega
  · rw [Bool.not_eq_true] at hv
    rw [hv]
    exact Tells.congr (fun k => if_neg (by decide)) (fail (by unfold offOk; rw [hv, Bool.false_and]))

end DocPure
