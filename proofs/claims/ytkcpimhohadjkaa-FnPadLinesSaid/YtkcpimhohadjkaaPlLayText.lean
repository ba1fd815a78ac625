/- The text of a page, and how long it is. -/
import Derived.Test.YtkcpimhohadjkaaPPlx0
import Derived.Test.YtkcpimhohadjkaaPPlx10
import Derived.Test.YtkcpimhohadjkaaPlLens
import Derived.Test.YtkcpimhohadjkaaPlRowTxt
import Derived.Test.YtkcpimhohadjkaaPlJoinStr
import Derived.Test.YtkcpimhohadjkaaPlOffs
namespace DocPure
open Go.RowKit Go.Proofs.Ytkcpimhohadjkaa.PPl Go.Proofs.YtkcpimhohadjkaaW.PrintWords

def nl1 : ByteArray := ⟨#[10]⟩

def rowLines (rows : List Row) : List ByteArray := rows.map rowLine

def layText (rows : List Row) : ByteArray := if layoutOk rows then lineWith nl1 (rowLines rows) else ⟨#[]⟩

theorem total_lines : ∀ rows : List Row, total (rowLines rows) + rows.length = offs (lens rows) rows.length
  | [] => rfl
  | r :: rs => by
    have ih := total_lines rs
    show total (rowLine r :: rowLines rs) + _ = _
    rw [total_cons, rowLine_size, List.length_cons]
    show _ = offs (rowLen r :: lens rs) (rs.length + 1)
    rw [offs_cons]
    omega

theorem layText_size {rows : List Row} (h : layoutOk rows = true) : (layText rows).size + 1 = offs (lens rows) rows.length := by
  obtain ⟨h1, -, -⟩ := layout_parts h
  unfold layText
  rw [if_pos h]
  cases rows with
  | nil => simp at h1
  | cons r rs =>
    have e := total_lines (r :: rs)
    have e1 : nl1.size = 1 := rfl
    have el : (rowLines rs).length = rs.length := by unfold rowLines; rw [List.length_map]
    show (lineWith nl1 (rowLine r :: rowLines rs)).size + 1 = _
    rw [lineWith_size, el, e1]
    rw [← e]
    show _ = total (rowLine r :: rowLines rs) + _
    rw [total_cons, List.length_cons]
    omega

theorem text_l0 (rows : List Row) (hv : layoutOk rows = true) : ∀ (d i : Nat), i + d = rows.length →
    Tells (fun k => impl_LayoutText.l0 k (rowLines (rows.take i)) rows (rows.length : Int) (i : Int)) (layText rows)
  | 0, i, hd => by
    obtain ⟨h1, hl, hr⟩ := layout_parts hv
    have hz := layText_size hv
    have ho := offs_le (lens rows) 2400 (lens_le hr) rows.length (by rw [lens, List.length_map]; omega)
    have ho2 : rows.length * 2401 ≤ 200 * 2401 := Nat.mul_le_mul hl (Nat.le_refl _)
    have e : layText rows = lineWith nl1 (rowLines rows) := by unfold layText; rw [if_pos hv]
    have hj := join_tells (rowLines rows) nl1 (by unfold rowLines; rw [List.length_map]; omega) (by rw [← e]; omega)
    rw [List.take_of_length_le (by omega)]
    refine Tells.step (fun k => ?_) (Tells.pure _)
    simp only [impl_LayoutText.l0]
    rw [if_neg (by omega), show (⟨#[10]⟩ : ByteArray) = nl1 from rfl, hj, Option.bind_some, e]
  | d + 1, i, hd => by
    obtain ⟨h1, hl, hr⟩ := layout_parts hv
    have hri := hr (rows[i]'(by omega)) (List.getElem_mem _)
    have ih := text_l0 rows hv d (i + 1) (by omega)
    have e : rowLines (rows.take (i + 1)) = rowLines (rows.take i) ++ [rowLine (rows[i]'(by omega))] := by
      unfold rowLines
      rw [List.take_succ_eq_append_getElem (by omega), List.map_append]; rfl
    have hlen : (rowLines (rows.take i)).length ≤ 200 := by unfold rowLines; rw [List.length_map, List.length_take]; omega
    rw [e] at ih
    refine Tells.step (fun k => ?_) ih
    simp only [impl_LayoutText.l0]
    rw [if_pos (by omega), if_pos (by omega), if_pos (by omega), rd_rows (by omega), impl_rowText_tells _ hri, Option.bind_some, if_pos (by omega), wr64 (by omega) (by omega)]; rfl

theorem text_tells (rows : List Row) (hs : SmallR rows) : Tells (fun k => impl_LayoutText.f k rows) (layText rows) := by
  unfold impl_LayoutText.f
  refine Tells.bind (impl_layout rows hs) ?_
  by_cases hv : layoutOk rows = true
  · rw [hv]
    exact Tells.iteT rfl (text_l0 rows hv rows.length 0 (by omega))
  · have e : layText rows = ⟨#[]⟩ := by unfold layText; rw [if_neg hv]
    rw [Bool.not_eq_true] at hv
    rw [hv, e]
    exact Tells.iteF (by decide) (Tells.pure _)

end DocPure
