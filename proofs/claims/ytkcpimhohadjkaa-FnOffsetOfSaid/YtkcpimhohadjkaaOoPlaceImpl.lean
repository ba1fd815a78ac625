/- The program's PlaceAt is the plain one. -/
import Derived.Test.YtkcpimhohadjkaaPOox0
import Derived.Test.YtkcpimhohadjkaaPOox3
import Derived.Test.YtkcpimhohadjkaaOoOffDef
namespace DocPure
open Go.RowKit Go.Proofs.Ytkcpimhohadjkaa.POo Go.Proofs.YtkcpimhohadjkaaW.PrintWords

theorem impl_place_l0 (rows : List Row) (hr : OkRows rows) (hl : rows.length ≤ 200) : ∀ (d i : Nat) (n : Int), i + d = rows.length → 0 ≤ n → n ≤ 9223372036854775807 →
    Tells (fun k => impl_PlaceAt.l0 k n rows (rows.length : Int) (i : Int)) (placeFrom i n ((lens rows).drop i))
  | 0, i, n, hd, h0, h1 => by
    rw [List.drop_of_length_le (by rw [lens, List.length_map]; omega)]
    refine Tells.step (fun k => ?_) (Tells.pure _)
    simp only [impl_PlaceAt.l0]
    rw [if_neg (by omega)]; rfl
  | d + 1, i, n, hd, h0, h1 => by
    have hq := rowLen_le (hr (rows[i]'(by omega)) (List.getElem_mem _))
    rw [lens_drop (by omega)]
    unfold placeFrom
    by_cases hc : n ≤ (rowLen (rows[i]'(by omega)) : Int)
    · rw [if_pos hc]
      refine Tells.step (fun k => ?_) (Tells.pure _)
      simp only [impl_PlaceAt.l0]
      rw [if_pos (by omega), if_pos (by omega), if_pos (by omega), impl_rowLen_at hr (by omega), Option.bind_some, if_pos hc]
    · rw [if_neg hc]
      have ih := impl_place_l0 rows hr hl d (i + 1) (n - (rowLen (rows[i]'(by omega)) : Int) - 1) (by omega) (by omega) (by omega)
      refine Tells.step (fun k => ?_) ih
      simp only [impl_PlaceAt.l0]
      rw [if_pos (by omega), if_pos (by omega), if_pos (by omega), impl_rowLen_at hr (by omega), Option.bind_some, if_neg hc, Option.bind_some, wr64 (n := ((rowLen (rows[i]'(by omega)) : Nat) : Int) + 1) (by omega) (by omega), wr64 (by omega) (by omega), wr64 (by omega) (by omega)]
      congr 1
      omega

theorem impl_place (rows : List Row) (hs : SmallR rows) (n : Int) (hn : n ≤ 9223372036854775807) : Tells (fun k => impl_PlaceAt.f k rows n) (placeAt rows n) := by
  unfold impl_PlaceAt.f placeAt
  refine Tells.bind (impl_layout rows hs) ?_
  by_cases hv : layoutOk rows = true
  · rw [hv, Bool.true_and]
    obtain ⟨-, hl, hr⟩ := layout_parts hv
    refine Tells.congr (fun k => if_pos rfl) ?_
    by_cases h0 : n < 0
    · rw [decide_eq_true h0, decide_eq_false (p := 0 ≤ n) (by omega)]
      exact Tells.step (fun k => by simp only [impl_PlaceAt.j0]; rw [if_pos trivial]; rfl) (Tells.pure _)
    · rw [decide_eq_false h0, decide_eq_true (p := 0 ≤ n) (by omega)]
      have h := impl_place_l0 rows hr hl rows.length 0 n (by omega) (by omega) hn
      rw [List.drop_zero] at h
      exact Tells.step (fun k => by simp only [impl_PlaceAt.j0]; rw [if_neg (by decide)]; rfl) h
  · rw [Bool.not_eq_true] at hv
    rw [hv, Bool.false_and]
    exact Tells.congr (fun k => if_neg (by decide)) (Tells.step (fun k => by simp only [impl_PlaceAt.j0]; rw [if_pos trivial]; rfl) (Tells.pure _))

end DocPure
