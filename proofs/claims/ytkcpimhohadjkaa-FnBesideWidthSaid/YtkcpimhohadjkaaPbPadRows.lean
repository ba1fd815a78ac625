/- How wide a page is; its lines with spaces up to a width. The printed functions of the program and of the reference are the plain ones. -/
import Derived.Test.YtkcpimhohadjkaaPPbx0
import Derived.Test.YtkcpimhohadjkaaPPbx2
import Derived.Test.YtkcpimhohadjkaaPPbx3
import Derived.Test.YtkcpimhohadjkaaPPbx4
import Derived.Test.YtkcpimhohadjkaaPbLens
import Derived.Test.YtkcpimhohadjkaaPbPadded
import Derived.Test.YtkcpimhohadjkaaPbRowTxt
namespace DocPure
open Go.RowKit Go.Proofs.Ytkcpimhohadjkaa.PPb Go.Proofs.YtkcpimhohadjkaaW.PrintWords

def maxTo : Nat → List Nat → Nat
  | acc, [] => acc
  | acc, x :: xs => maxTo (max acc x) xs

theorem maxTo_ge : ∀ (xs : List Nat) (acc : Nat), acc ≤ maxTo acc xs
  | [], acc => Nat.le_refl _
  | x :: xs, acc => by
    have := maxTo_ge xs (max acc x)
    unfold maxTo
    omega

theorem maxTo_mem : ∀ (xs : List Nat) (acc x : Nat), x ∈ xs → x ≤ maxTo acc xs
  | y :: xs, acc, x, h => by
    unfold maxTo
    rcases List.mem_cons.1 h with rfl | h
    · have := maxTo_ge xs (max acc x)
      omega
    · exact maxTo_mem xs _ x h

theorem maxTo_le (m : Nat) : ∀ (xs : List Nat) (acc : Nat), acc ≤ m → (∀ x ∈ xs, x ≤ m) → maxTo acc xs ≤ m
  | [], _, h, _ => h
  | x :: xs, acc, h, hx => by
    have h1 := hx x (List.mem_cons_self ..)
    unfold maxTo
    exact maxTo_le m xs _ (by omega) (fun y hy => hx y (List.mem_cons_of_mem _ hy))

def widthOf (rows : List Row) : Nat := if layoutOk rows then maxTo 0 (lens rows) else 0

theorem widthOf_le (rows : List Row) : widthOf rows ≤ 2400 := by
  unfold widthOf
  split
  · rename_i h
    exact maxTo_le 2400 _ 0 (by omega) (lens_le (layout_parts h).2.2)
  · omega

theorem impl_width_l0 (rows : List Row) (hr : OkRows rows) (hl : rows.length ≤ 200) : ∀ (d i acc : Nat), i + d = rows.length → acc ≤ 2400 →
    Tells (fun k => impl_LayoutWidth.l0 k (acc : Int) rows (rows.length : Int) (i : Int)) ((maxTo acc ((lens rows).drop i) : Nat) : Int)
  | 0, i, acc, hd, ha => by
    rw [List.drop_of_length_le (by rw [lens, List.length_map]; omega)]
    refine Tells.step (fun k => ?_) (Tells.pure _)
    simp only [impl_LayoutWidth.l0]
    rw [if_neg (by omega)]; rfl
  | d + 1, i, acc, hd, ha => by
    have hq := rowLen_le (hr (rows[i]'(by omega)) (List.getElem_mem _))
    have ih := impl_width_l0 rows hr hl d (i + 1) (max acc (rowLen (rows[i]'(by omega)))) (by omega) (by omega)
    rw [lens_drop (by omega)]
    have em : mx (acc : Int) ((rowLen (rows[i]'(by omega)) : Nat) : Int) = ((max acc (rowLen (rows[i]'(by omega))) : Nat) : Int) := by
      unfold mx
      split <;> omega
    refine Tells.step (fun k => ?_) ih
    simp only [impl_LayoutWidth.l0]
    rw [if_pos (by omega), if_pos (by omega), if_pos (by omega), impl_rowLen_at hr (by omega), Option.bind_some, em, wr64 (by omega) (by omega)]; rfl

theorem impl_width (rows : List Row) (hs : SmallR rows) : Tells (fun k => impl_LayoutWidth.f k rows) ((widthOf rows : Nat) : Int) := by
  unfold impl_LayoutWidth.f widthOf
  refine Tells.bind (impl_layout rows hs) ?_
  by_cases hv : layoutOk rows = true
  · rw [hv]
    obtain ⟨-, hl, hr⟩ := layout_parts hv
    have h := impl_width_l0 rows hr hl rows.length 0 0 (by omega) (by omega)
    rw [List.drop_zero] at h
    exact Tells.iteT rfl h
  · rw [Bool.not_eq_true] at hv
    rw [hv]
    exact Tells.iteF (by decide) (Tells.pure _)

theorem spec_width_l0 (rows : List Row) (hs : SmallR rows) (hv : layoutOk rows = true) : ∀ (d i acc : Nat), i + d = rows.length → acc ≤ 2400 →
    Tells (fun k => spec_LayoutWidth.l0 k rows (acc : Int) (i : Int)) ((maxTo acc ((lens rows).drop i) : Nat) : Int)
  | 0, i, acc, hd, ha => by
    rw [List.drop_of_length_le (by rw [lens, List.length_map]; omega)]
    refine Tells.step (g' := fun k => spec_LayoutWidth.j1 k rows (acc : Int) (i : Int) false) (fun k => ?_) (Tells.step (fun k => ?_) (Tells.pure _))
    · simp only [spec_LayoutWidth.l0]
      rw [if_neg (by omega)]
    · simp only [spec_LayoutWidth.j1]
      rw [if_neg (by decide)]; rfl
  | d + 1, i, acc, hd, ha => by
    obtain ⟨-, hl, hr⟩ := layout_parts hv
    have hq := rowLen_le (hr (rows[i]'(by omega)) (List.getElem_mem _))
    have hw : ∀ _ : Unit, wrap64 ((i : Int) + 1) = ((i + 1 : Nat) : Int) := fun _ => by rw [wr64 (by omega) (by omega)]; rfl
    have hline := spec_line_at hr (i := i) (by omega)
    rw [lens_drop (by omega)]
    unfold maxTo
    refine Tells.step (fun k => by simp only [spec_LayoutWidth.l0]; rw [if_pos (by omega)]) (Tells.bind (spec_layout rows hs) ?_)
    rw [hv]
    refine Tells.step (fun k => by simp only [spec_LayoutWidth.j1]; rw [if_pos trivial, if_pos (by omega), if_pos (by omega)]) (Tells.bind hline ?_)
    rw [rowLine_size]
    by_cases hc : ((rowLen (rows[i]'(by omega)) : Nat) : Int) > (acc : Int)
    · refine Tells.iteT hc (Tells.bind hline ?_)
      have ih := spec_width_l0 rows hs hv d (i + 1) (rowLen (rows[i]'(by omega))) (by omega) (by omega)
      rw [rowLine_size, show max acc (rowLen (rows[i]'(by omega))) = rowLen (rows[i]'(by omega)) from by omega]
      exact Tells.congr (fun k => by rw [hw ()]) ih
    · have ih := spec_width_l0 rows hs hv d (i + 1) acc (by omega) ha
      rw [show max acc (rowLen (rows[i]'(by omega))) = acc from by omega]
      exact Tells.iteF hc (Tells.congr (fun k => by rw [hw ()]) ih)

theorem spec_width (rows : List Row) (hs : SmallR rows) : Tells (fun k => spec_LayoutWidth.f k rows) ((widthOf rows : Nat) : Int) := by
  unfold spec_LayoutWidth.f widthOf
  by_cases hv : layoutOk rows = true
  · rw [if_pos hv]
    have h := spec_width_l0 rows hs hv rows.length 0 0 (by omega) (by omega)
    rw [List.drop_zero] at h
    exact h
  · rw [if_neg hv]
    rw [Bool.not_eq_true] at hv
    have fin : Tells (fun k => spec_LayoutWidth.j1 k rows 0 0 false) ((0 : Nat) : Int) := Tells.step (fun k => by simp only [spec_LayoutWidth.j1]; rw [if_neg (by decide)]; rfl) (Tells.pure _)
    by_cases h0 : rows.length = 0
    · exact Tells.step (fun k => by simp only [spec_LayoutWidth.l0]; rw [if_neg (by omega)]) fin
    · refine Tells.step (fun k => by simp only [spec_LayoutWidth.l0]; rw [if_pos (by omega)]) (Tells.bind (spec_layout rows hs) ?_)
      rw [hv]
      exact fin

/-- Which widths a page can be padded to. -/
def padOk (rows : List Row) (w : Int) : Bool := layoutOk rows && decide ((widthOf rows : Int) ≤ w ∧ w ≤ 200)

def padded (rows : List Row) (w : Int) : List ByteArray := rows.map fun r => padTo (rowLine r) w.toNat

def padLines (rows : List Row) (w : Int) : List ByteArray × Bool := if padOk rows w then (padded rows w, true) else ([], false)

theorem impl_pad_l0 (rows : List Row) (hr : OkRows rows) (hl : rows.length ≤ 200) (w : Int) (h0 : 0 ≤ w) (h1 : w ≤ 200) : ∀ (d i : Nat), i + d = rows.length →
    Tells (fun k => impl_PadLines.l0 k w (padded (rows.take i) w) rows (rows.length : Int) (i : Int)) (padded rows w, true)
  | 0, i, hd => by
    rw [List.take_of_length_le (by omega)]
    refine Tells.step (fun k => ?_) (Tells.pure _)
    simp only [impl_PadLines.l0]
    rw [if_neg (by omega)]
  | d + 1, i, hd => by
    have hri := hr (rows[i]'(by omega)) (List.getElem_mem _)
    have hq := rowLen_le hri
    have ih := impl_pad_l0 rows hr hl w h0 h1 d (i + 1) (by omega)
    have e : padded (rows.take (i + 1)) w = padded (rows.take i) w ++ [padTo (rowLine (rows[i]'(by omega))) w.toNat] := by
      unfold padded
      rw [List.take_succ_eq_append_getElem (by omega), List.map_append]; rfl
    have hp := padded_tells (rowLine (rows[i]'(by omega))) w (by rw [rowLine_size]; omega) (by omega) (by omega)
    have hlen : (padded (rows.take i) w).length ≤ 200 := by unfold padded; rw [List.length_map, List.length_take]; omega
    rw [e] at ih
    refine Tells.step (fun k => ?_) ih
    simp only [impl_PadLines.l0]
    rw [if_pos (by omega), if_pos (by omega), if_pos (by omega), rd_rows (by omega), impl_rowText_tells _ hri, Option.bind_some, hp, Option.bind_some, if_pos (by omega), wr64 (by omega) (by omega)]; rfl

theorem pad_fail (rows : List Row) (w : Int) (h : padOk rows w = false) : padLines rows w = ([], false) := by
  unfold padLines
  rw [h]; rfl

theorem impl_pad (rows : List Row) (hs : SmallR rows) (w : Int) : Tells (fun k => impl_PadLines.f k rows w) (padLines rows w) := by
  unfold impl_PadLines.f
  have fail : padOk rows w = false → Tells (fun k => impl_PadLines.j0 k rows w true) (padLines rows w) := fun h => by
    rw [pad_fail rows w h]
    exact Tells.step (fun k => by simp only [impl_PadLines.j0]; rw [if_pos trivial]) (Tells.pure _)
  refine Tells.bind (impl_layout rows hs) ?_
  by_cases hv : layoutOk rows = true
  · rw [hv]
    obtain ⟨-, hl, hr⟩ := layout_parts hv
    refine Tells.iteT rfl (Tells.bind (impl_width rows hs) ?_)
    by_cases h1 : w < (widthOf rows : Int)
    · exact Tells.iteT h1 (fail (by unfold padOk; rw [decide_eq_false (by omega), Bool.and_false]))
    · refine Tells.iteF h1 ?_
      by_cases h2 : w > 200
      · rw [decide_eq_true h2]
        exact fail (by unfold padOk; rw [decide_eq_false (by omega), Bool.and_false])
      · rw [decide_eq_false h2]
        have e : padLines rows w = (padded rows w, true) := by unfold padLines padOk; rw [hv, decide_eq_true (by omega)]; rfl
        rw [e]
        exact Tells.step (fun k => by simp only [impl_PadLines.j0]; rw [if_neg (by decide)]; rfl) (impl_pad_l0 rows hr hl w (by omega) (by omega) rows.length 0 (by omega))
  · rw [Bool.not_eq_true] at hv
    rw [hv]
    exact Tells.iteF (by decide) (fail (by unfold padOk; rw [hv, Bool.false_and]))

theorem spec_pad_l0 (rows : List Row) (hr : OkRows rows) (hl : rows.length ≤ 200) (w : Int) (h1 : w ≤ 200) (h0 : ∀ r ∈ rows, (rowLen r : Int) ≤ w) : ∀ (d i : Nat), i + d = rows.length →
    Tells (fun k => spec_PadLines.l0 k rows w (padded (rows.take i) w) (i : Int)) (padded rows w, true)
  | 0, i, hd => by
    rw [List.take_of_length_le (by omega)]
    refine Tells.step (fun k => ?_) (Tells.pure _)
    simp only [spec_PadLines.l0]
    rw [if_neg (by omega)]
  | d + 1, i, hd => by
    have hri := hr (rows[i]'(by omega)) (List.getElem_mem _)
    have hq := h0 (rows[i]'(by omega)) (List.getElem_mem _)
    have ih := spec_pad_l0 rows hr hl w h1 h0 d (i + 1) (by omega)
    have e : padded (rows.take (i + 1)) w = padded (rows.take i) w ++ [padTo (rowLine (rows[i]'(by omega))) w.toNat] := by
      unfold padded
      rw [List.take_succ_eq_append_getElem (by omega), List.map_append]; rfl
    have hlen : (padded (rows.take i) w).length ≤ 200 := by unfold padded; rw [List.length_map, List.length_take]; omega
    have ew : ∀ _ : Unit, wrap64 (w - ((rowLen (rows[i]'(by omega)) : Nat) : Int)) = w - ((rowLen (rows[i]'(by omega)) : Nat) : Int) := fun _ => wr64 (by omega) (by omega)
    have hw : ∀ _ : Unit, wrap64 ((i : Int) + 1) = ((i + 1 : Nat) : Int) := fun _ => by rw [wr64 (by omega) (by omega)]; rfl
    rw [e] at ih
    refine Tells.step (fun k => by simp only [spec_PadLines.l0]; rw [if_pos (by omega), if_pos (by omega)]) (Tells.bind (spec_line_at hr (by omega)) ?_)
    rw [rowLine_size, ew ()]
    refine Tells.bind (spaces_tells _ (by omega)) ?_
    have ep : rowLine (rows[i]'(by omega)) ++ spaces (w - ((rowLen (rows[i]'(by omega)) : Nat) : Int)).toNat = padTo (rowLine (rows[i]'(by omega))) w.toNat := by
      unfold padTo
      rw [rowLine_size]
      congr 2
      omega
    rw [ep]
    refine Tells.congr (fun k => ?_) ih
    rw [if_pos (by rw [spaces_size]; omega), if_pos (by omega), hw ()]

theorem spec_pad (rows : List Row) (hs : SmallR rows) (w : Int) : Tells (fun k => spec_PadLines.f k rows w) (padLines rows w) := by
  unfold spec_PadLines.f
  have fail : padOk rows w = false → Tells (fun k => spec_PadLines.j0 k rows w [] true) (padLines rows w) := fun h => by
    rw [pad_fail rows w h]
    exact Tells.step (fun k => by simp only [spec_PadLines.j0]; rw [if_pos trivial]) (Tells.pure _)
  refine Tells.congr (fun k => Option.bind_some _ _) (Tells.bind (spec_layout rows hs) ?_)
  by_cases hv : layoutOk rows = true
  · rw [hv]
    obtain ⟨-, hl, hr⟩ := layout_parts hv
    refine Tells.iteT rfl (Tells.bind (spec_width rows hs) ?_)
    by_cases h1 : w < (widthOf rows : Int)
    · exact Tells.iteT h1 (fail (by unfold padOk; rw [decide_eq_false (by omega), Bool.and_false]))
    · refine Tells.iteF h1 ?_
      by_cases h2 : w > 200
      · rw [decide_eq_true h2]
        exact fail (by unfold padOk; rw [decide_eq_false (by omega), Bool.and_false])
      · rw [decide_eq_false h2]
        have e : padLines rows w = (padded rows w, true) := by unfold padLines padOk; rw [hv, decide_eq_true (by omega)]; rfl
        rw [e]
        have hle : ∀ r ∈ rows, (rowLen r : Int) ≤ w := fun r hm => by
          have h3 := maxTo_mem (lens rows) 0 (rowLen r) (List.mem_map.2 ⟨r, hm, rfl⟩)
          have h4 : widthOf rows = maxTo 0 (lens rows) := by unfold widthOf; rw [if_pos hv]
          omega
        exact Tells.step (fun k => by simp only [spec_PadLines.j0]; rw [if_neg (by decide)]; rfl) (spec_pad_l0 rows hr hl w (by omega) hle rows.length 0 (by omega))
  · rw [Bool.not_eq_true] at hv
    rw [hv]
    exact Tells.iteF (by decide) (fail (by unfold padOk; rw [hv, Bool.false_and]))

theorem padLines_len (rows : List Row) (w : Int) : (padLines rows w).1.length ≤ 200 := by
  unfold padLines
  cases h : padOk rows w with
  | false => simp
  | true =>
    unfold padOk at h
    rw [Bool.and_eq_true] at h
    have := (layout_parts h.1).2.1
    show (padded rows w).length ≤ 200
    unfold padded
    rw [List.length_map]; exact this

end DocPure
