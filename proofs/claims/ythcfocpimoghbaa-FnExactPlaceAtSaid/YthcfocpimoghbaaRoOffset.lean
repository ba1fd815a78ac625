/- The printed OffsetOf and PlaceAt of the program and of the reference are the plain ones. -/
import Derived.Test.YthcfocpimoghbaaPRox0
import Derived.Test.YthcfocpimoghbaaPRox3
import Derived.Test.YthcfocpimoghbaaPRox4
import Derived.Test.YthcfocpimoghbaaPRox6
import Derived.Test.YthcfocpimoghbaaPRox7
import Derived.Test.YthcfocpimoghbaaPRox9
import Derived.Test.YthcfocpimoghbaaRoLayout
import Derived.Test.YthcfocpimoghbaaOffs
namespace DocPure
open Go.RowKit Go.Proofs.Ythcfocpimoghbaa.PRo Go.Proofs.YthcfocpimoghbaaW.PrintWords

def lens (rows : List Row) : List Nat := rows.map rowLen

def OkRows (rows : List Row) : Prop := ∀ r ∈ rows, 0 ≤ r.f0 ∧ r.f0 ≤ 400 ∧ r.f1.size < 2000

theorem lens_le {rows : List Row} (h : OkRows rows) : ∀ x ∈ lens rows, x ≤ 2400 := by
  intro x hx
  obtain ⟨r, hr, rfl⟩ := List.mem_map.1 hx
  exact rowLen_le (h r hr)

theorem lens_get {rows : List Row} {i : Nat} (h : i < rows.length) : (lens rows)[i]'(by rw [lens, List.length_map]; exact h) = rowLen (rows[i]'h) := by
  simp [lens]

theorem impl_rowLen_at {rows : List Row} (hr : OkRows rows) {i : Nat} (h : i < rows.length) : impl_rowLen.f (rd_T65 rows (i : Int)).f0 (rd_T65 rows (i : Int)).f1 = some (rowLen (rows[i]'h) : Int) := by
  rw [rd_rows h]
  exact impl_rowLen_tells _ (hr _ (List.getElem_mem _))

theorem spec_line_at {rows : List Row} (hr : OkRows rows) {i : Nat} (h : i < rows.length) : Tells (fun k => spec_l2Line.f k (rd_T65 rows (i : Int)).f0 (rd_T65 rows (i : Int)).f1) (rowLine (rows[i]'h)) := by
  rw [rd_rows h]
  exact spec_l2Line_tells _ (hr _ (List.getElem_mem _))

def offOk (rows : List Row) (a b : Int) : Bool := layoutOk rows && (decide (0 ≤ a ∧ a < rows.length) && decide (0 ≤ b ∧ b ≤ ((lens rows).getD a.toNat 0 : Nat)))

def offsetOf (rows : List Row) (a b : Int) : Int × Bool := if offOk rows a b then (b + (offs (lens rows) a.toNat : Int), true) else (0, false)

theorem impl_off_l0 (rows : List Row) (hr : OkRows rows) (hl : rows.length ≤ 200) (n : Nat) (hn : n ≤ rows.length) (b : Int) (hb : 0 ≤ b) (hb2 : b ≤ 2400) : ∀ (d i : Nat), i + d = n →
    Tells (fun k => impl_OffsetOf.l0 k (b + (offs (lens rows) i : Int)) (rows.take n) ((rows.take n).length : Int) (i : Int)) (b + (offs (lens rows) n : Int), true)
  | 0, i, hd => by
    obtain rfl : i = n := by omega
    refine Tells.step (fun k => ?_) (Tells.pure _)
    simp only [impl_OffsetOf.l0]
    rw [if_neg (by rw [List.length_take]; omega)]
  | d + 1, i, hd => by
    have ih := impl_off_l0 rows hr hl n hn b hb hb2 d (i + 1) (by omega)
    have hz := offs_le (lens rows) 2400 (lens_le hr) i (by simp [lens]; omega)
    have hz2 : i * 2401 ≤ 200 * 2401 := Nat.mul_le_mul (by omega) (Nat.le_refl _)
    have hs := offs_succ (lens rows) (i := i) (by simp [lens]; omega)
    rw [lens_get (by omega)] at hs
    have hq := rowLen_le (hr (rows[i]'(by omega)) (List.getElem_mem _))
    have e : rd_T65 (rows.take n) (i : Int) = rows[i]'(by omega) := by rw [rd_rows (by rw [List.length_take]; omega), List.getElem_take]
    refine Tells.step (fun k => ?_) ih
    simp only [impl_OffsetOf.l0]
    rw [if_pos (by rw [List.length_take]; omega), if_pos (by omega), if_pos (by rw [List.length_take]; omega), e, impl_rowLen_tells _ (hr _ (List.getElem_mem _)), Option.bind_some, wr64 (n := ((rowLen (rows[i]'(by omega)) : Nat) : Int) + 1) (by omega) (by omega), wr64 (by omega) (by omega), wr64 (by omega) (by omega), hs]
    congr 1
    omega

theorem spec_off_l0 (rows : List Row) (hr : OkRows rows) (hl : rows.length ≤ 200) (n : Nat) (hn : n ≤ rows.length) (b : Int) (hb : 0 ≤ b) (hb2 : b ≤ 2400) : ∀ (d i : Nat), i + d = n →
    Tells (fun k => spec_OffsetOf.l0 k rows (b + (offs (lens rows) i : Int)) (i : Int) (n : Int) b) (b + (offs (lens rows) n : Int), true)
  | 0, i, hd => by
    obtain rfl : i = n := by omega
    refine Tells.step (fun k => ?_) (Tells.pure _)
    simp only [spec_OffsetOf.l0]
    rw [if_neg (by omega)]
  | d + 1, i, hd => by
    have ih := spec_off_l0 rows hr hl n hn b hb hb2 d (i + 1) (by omega)
    have hz := offs_le (lens rows) 2400 (lens_le hr) i (by simp [lens]; omega)
    have hz2 : i * 2401 ≤ 200 * 2401 := Nat.mul_le_mul (by omega) (Nat.le_refl _)
    have hs := offs_succ (lens rows) (i := i) (by simp [lens]; omega)
    rw [lens_get (by omega)] at hs
    have hq := rowLen_le (hr (rows[i]'(by omega)) (List.getElem_mem _))
    refine Tells.step (fun k => by simp only [spec_OffsetOf.l0]; rw [if_pos (by omega), if_pos (by omega), if_pos (by omega)]) ?_
    refine Tells.bind (spec_line_at hr (by omega)) (Tells.congr (fun k => ?_) ih)
    rw [rowLine_size, wr64 (n := b + _ + _) (by omega) (by omega), wr64 (by omega) (by omega), wr64 (by omega) (by omega), hs]
    congr 1
    omega

theorem offOk_parts {rows : List Row} {a b : Int} (h : offOk rows a b = true) : layoutOk rows = true ∧ 0 ≤ a ∧ a < rows.length ∧ 0 ≤ b ∧ b ≤ ((lens rows).getD a.toNat 0 : Nat) := by
  unfold offOk at h
  rw [Bool.and_eq_true, Bool.and_eq_true, decide_eq_true_eq, decide_eq_true_eq] at h
  exact ⟨h.1, h.2.1.1, h.2.1.2, h.2.2.1, h.2.2.2⟩

theorem lens_at {rows : List Row} {a : Int} (h0 : 0 ≤ a) (h1 : a < rows.length) : ∃ i : Nat, ∃ hi : i < rows.length, a = (i : Int) ∧ (lens rows).getD a.toNat 0 = rowLen (rows[i]'hi) := by
  refine ⟨a.toNat, by omega, by omega, ?_⟩
  rw [List.getD_eq_getElem?_getD, List.getElem?_eq_getElem (by rw [lens, List.length_map]; omega), lens_get (by omega)]; rfl

theorem impl_offset (rows : List Row) (hs : SmallR rows) (a b : Int) : Tells (fun k => impl_OffsetOf.f k rows a b) (offsetOf rows a b) := by
  unfold impl_OffsetOf.f
  refine Tells.bind (impl_layout rows hs) ?_
  have fail : offOk rows a b = false → Tells (fun k => impl_OffsetOf.j0 k rows true a b) (offsetOf rows a b) := fun h => by
    unfold offsetOf
    rw [h]
    exact Tells.step (fun k => by simp only [impl_OffsetOf.j0]; rw [if_pos trivial]; rfl) (Tells.pure _)
  by_cases hv : layoutOk rows = true
  · rw [hv]
    refine Tells.congr (fun k => if_pos rfl) ?_
    obtain ⟨-, hl, hr⟩ := layout_parts hv
    by_cases h1 : a < 0
    · exact Tells.congr (fun k => if_pos h1) (fail (by unfold offOk; rw [decide_eq_false (p := 0 ≤ a ∧ a < rows.length) (by omega), Bool.false_and, Bool.and_false]))
    by_cases h2 : a ≥ (rows.length : Int)
    · exact Tells.congr (fun k => by rw [if_neg h1, if_pos h2]) (fail (by unfold offOk; rw [decide_eq_false (p := 0 ≤ a ∧ a < rows.length) (by omega), Bool.false_and, Bool.and_false]))
    by_cases h3 : b < 0
    · exact Tells.congr (fun k => by rw [if_neg h1, if_neg h2, if_pos h3]) (fail (by unfold offOk; rw [decide_eq_false (p := 0 ≤ b ∧ _) (by omega), Bool.and_false, Bool.and_false]))
    obtain ⟨i, hi, rfl, hlen⟩ := lens_at (rows := rows) (a := a) (by omega) (by omega)
    have hq := rowLen_le (hr (rows[i]'hi) (List.getElem_mem _))
    refine Tells.congr (fun k => by rw [if_neg h1, if_neg h2, if_neg h3, if_pos (by omega), if_pos (by omega), impl_rowLen_at hr hi, Option.bind_some]) ?_
    by_cases h4 : b > (rowLen (rows[i]'hi) : Int)
    · rw [decide_eq_true h4]
      exact fail (by unfold offOk; rw [hlen, decide_eq_false (p := 0 ≤ b ∧ _) (by omega), Bool.and_false, Bool.and_false])
    · rw [decide_eq_false h4]
      have e : offOk rows (i : Int) b = true := by unfold offOk; rw [hv, hlen, decide_eq_true (p := 0 ≤ (i : Int) ∧ _) (by omega), decide_eq_true (p := 0 ≤ b ∧ _) (by omega)]; rfl
      unfold offsetOf
      rw [e]
      have h0 := impl_off_l0 rows hr hl i (by omega) b (by omega) (by omega) i 0 (by omega)
      refine Tells.step (fun k => ?_) h0
      simp only [impl_OffsetOf.j0, Option.bind_some]
      rw [if_neg (by decide), if_pos (by omega), if_pos (by omega), Int.toNat_natCast, offs_zero]
      congr 1
      omega
  · rw [Bool.not_eq_true] at hv
    rw [hv]
    exact Tells.congr (fun k => if_neg (by decide)) (fail (by unfold offOk; rw [hv, Bool.false_and]))

theorem spec_offset (rows : List Row) (hs : SmallR rows) (a b : Int) : Tells (fun k => spec_OffsetOf.f k rows a b) (offsetOf rows a b) := by
  unfold spec_OffsetOf.f
  refine Tells.bind (spec_layout rows hs) ?_
  have fail : offOk rows a b = false → Tells (fun k => spec_OffsetOf.j0 k rows true a b) (offsetOf rows a b) := fun h => by
    unfold offsetOf
    rw [h]
    exact Tells.step (fun k => by simp only [spec_OffsetOf.j0]; rw [if_pos trivial]; rfl) (Tells.pure _)
  by_cases hv : layoutOk rows = true
  · rw [hv]
    refine Tells.congr (fun k => if_pos rfl) ?_
    obtain ⟨-, hl, hr⟩ := layout_parts hv
    by_cases h1 : a < 0
    · exact Tells.congr (fun k => if_pos h1) (fail (by unfold offOk; rw [decide_eq_false (p := 0 ≤ a ∧ a < rows.length) (by omega), Bool.false_and, Bool.and_false]))
    by_cases h2 : a ≥ (rows.length : Int)
    · exact Tells.congr (fun k => by rw [if_neg h1, if_pos h2]) (fail (by unfold offOk; rw [decide_eq_false (p := 0 ≤ a ∧ a < rows.length) (by omega), Bool.false_and, Bool.and_false]))
    by_cases h3 : b < 0
    · exact Tells.congr (fun k => by rw [if_neg h1, if_neg h2, if_pos h3]) (fail (by unfold offOk; rw [decide_eq_false (p := 0 ≤ b ∧ _) (by omega), Bool.and_false, Bool.and_false]))
    obtain ⟨i, hi, rfl, hlen⟩ := lens_at (rows := rows) (a := a) (by omega) (by omega)
    have hq := rowLen_le (hr (rows[i]'hi) (List.getElem_mem _))
    refine Tells.congr (fun k => by rw [if_neg h1, if_neg h2, if_neg h3, if_pos (by omega), if_pos (by omega)]) (Tells.bind (spec_line_at hr hi) ?_)
    rw [rowLine_size]
    by_cases h4 : b > (rowLen (rows[i]'hi) : Int)
    · rw [decide_eq_true h4]
      exact fail (by unfold offOk; rw [hlen, decide_eq_false (p := 0 ≤ b ∧ _) (by omega), Bool.and_false, Bool.and_false])
    · rw [decide_eq_false h4]
      have e : offOk rows (i : Int) b = true := by unfold offOk; rw [hv, hlen, decide_eq_true (p := 0 ≤ (i : Int) ∧ _) (by omega), decide_eq_true (p := 0 ≤ b ∧ _) (by omega)]; rfl
      unfold offsetOf
      rw [e]
      have h0 := spec_off_l0 rows hr hl i (by omega) b (by omega) (by omega) i 0 (by omega)
      refine Tells.step (fun k => ?_) h0
      simp only [spec_OffsetOf.j0]
      rw [if_neg (by decide), offs_zero]
      congr 1
      omega
  · rw [Bool.not_eq_true] at hv
    rw [hv]
    exact Tells.congr (fun k => if_neg (by decide)) (fail (by unfold offOk; rw [hv, Bool.false_and]))

/-! ### PlaceAt -/

def placeAt (rows : List Row) (n : Int) : Int × Int × Bool := if layoutOk rows && decide (0 ≤ n) then placeFrom 0 n (lens rows) else (0, 0, false)

theorem lens_drop {rows : List Row} {i : Nat} (h : i < rows.length) : (lens rows).drop i = rowLen (rows[i]'h) :: (lens rows).drop (i + 1) := by
  rw [List.drop_eq_getElem_cons (by rw [lens, List.length_map]; exact h), lens_get h]

theorem impl_place_l0 (rows : List Row) (hr : OkRows rows) (hl : rows.length ≤ 200) : ∀ (d i : Nat) (n : Int), i + d = rows.length → 0 ≤ n → n ≤ 9223372036854775807 →
    Tells (fun k => impl_PlaceAt.l0 k n rows (rows.length : Int) (i : Int)) (placeFrom i n ((lens rows).drop i))
  | 0, i, n, hd, h0, h1 => by
    rw [List.drop_of_length_le (by rw [lens, List.length_map]; omega)]
    refine Tells.step (fun k => ?_) (Tells.pure _)
    simp only [impl_PlaceAt.l0]
    rw [if_neg (by omega)]; rfl
  | d + 1, i, n, hd, h0, h1 => by
    have hq := rowLen_le (hr (rows[i]'(by omega)) (List.getElem_mem _))
    rw [lens_drop (by omega)]
    unfold placeFrom
    by_cases hc : n ≤ (rowLen (rows[i]'(by omega)) : Int)
    · rw [if_pos hc]
      refine Tells.step (fun k => ?_) (Tells.pure _)
      simp only [impl_PlaceAt.l0]
      rw [if_pos (by omega), if_pos (by omega), if_pos (by omega), impl_rowLen_at hr (by omega), Option.bind_some, if_pos hc]
    · rw [if_neg hc]
      have ih := impl_place_l0 rows hr hl d (i + 1) (n - (rowLen (rows[i]'(by omega)) : Int) - 1) (by omega) (by omega) (by omega)
      refine Tells.step (fun k => ?_) ih
      simp only [impl_PlaceAt.l0]
      rw [if_pos (by omega), if_pos (by omega), if_pos (by omega), impl_rowLen_at hr (by omega), Option.bind_some, if_neg hc, Option.bind_some, wr64 (n := ((rowLen (rows[i]'(by omega)) : Nat) : Int) + 1) (by omega) (by omega), wr64 (by omega) (by omega), wr64 (by omega) (by omega)]
      congr 1
      omega

theorem spec_place_l0 (rows : List Row) (hr : OkRows rows) (hl : rows.length ≤ 200) : ∀ (d i : Nat) (n : Int), i + d = rows.length → 0 ≤ n → n ≤ 9223372036854775807 →
    Tells (fun k => spec_PlaceAt.l0 k rows n (i : Int)) (placeFrom i n ((lens rows).drop i))
  | 0, i, n, hd, h0, h1 => by
    rw [List.drop_of_length_le (by rw [lens, List.length_map]; omega)]
    refine Tells.step (fun k => ?_) (Tells.pure _)
    simp only [spec_PlaceAt.l0]
    rw [if_neg (by omega)]; rfl
  | d + 1, i, n, hd, h0, h1 => by
    have hq := rowLen_le (hr (rows[i]'(by omega)) (List.getElem_mem _))
    rw [lens_drop (by omega)]
    unfold placeFrom
    refine Tells.step (fun k => by simp only [spec_PlaceAt.l0]; rw [if_pos (by omega), if_pos (by omega)]) ?_
    refine Tells.bind (spec_line_at hr (by omega)) ?_
    rw [rowLine_size]
    by_cases hc : n ≤ (rowLen (rows[i]'(by omega)) : Int)
    · rw [if_pos hc]
      exact Tells.congr (fun k => if_pos hc) (Tells.pure _)
    · rw [if_neg hc]
      have ih := spec_place_l0 rows hr hl d (i + 1) (n - (rowLen (rows[i]'(by omega)) : Int) - 1) (by omega) (by omega) (by omega)
      refine Tells.congr (fun k => ?_) ih
      rw [if_neg hc, wr64 (n := n - _) (by omega) (by omega), wr64 (by omega) (by omega), wr64 (by omega) (by omega)]; rfl

theorem impl_place (rows : List Row) (hs : SmallR rows) (n : Int) (hn : n ≤ 9223372036854775807) : Tells (fun k => impl_PlaceAt.f k rows n) (placeAt rows n) := by
  unfold impl_PlaceAt.f placeAt
  refine Tells.bind (impl_layout rows hs) ?_
  by_cases hv : layoutOk rows = true
  · rw [hv, Bool.true_and]
    obtain ⟨-, hl, hr⟩ := layout_parts hv
    refine Tells.congr (fun k => if_pos rfl) ?_
    by_cases h0 : n < 0
    · rw [decide_eq_true h0, decide_eq_false (p := 0 ≤ n) (by omega)]
      exact Tells.step (fun k => by simp only [impl_PlaceAt.j0]; rw [if_pos trivial]; rfl) (Tells.pure _)
    · rw [decide_eq_false h0, decide_eq_true (p := 0 ≤ n) (by omega)]
      have h := impl_place_l0 rows hr hl rows.length 0 n (by omega) (by omega) hn
      rw [List.drop_zero] at h
      exact Tells.step (fun k => by simp only [impl_PlaceAt.j0]; rw [if_neg (by decide)]; rfl) h
  · rw [Bool.not_eq_true] at hv
    rw [hv, Bool.false_and]
    exact Tells.congr (fun k => if_neg (by decide)) (Tells.step (fun k => by simp only [impl_PlaceAt.j0]; rw [if_pos trivial]; rfl) (Tells.pure _))

theorem spec_place (rows : List Row) (hs : SmallR rows) (n : Int) (hn : n ≤ 9223372036854775807) : Tells (fun k => spec_PlaceAt.f k rows n) (placeAt rows n) := by
  unfold spec_PlaceAt.f placeAt
  refine Tells.bind (spec_layout rows hs) ?_
  by_cases hv : layoutOk rows = true
  · rw [hv, Bool.true_and]
    obtain ⟨-, hl, hr⟩ := layout_parts hv
    refine Tells.congr (fun k => if_pos rfl) ?_
    by_cases h0 : n < 0
    · rw [decide_eq_true h0, decide_eq_false (p := 0 ≤ n) (by omega)]
      exact Tells.step (fun k => by simp only [spec_PlaceAt.j0]; rw [if_pos trivial]; rfl) (Tells.pure _)
    · rw [decide_eq_false h0, decide_eq_true (p := 0 ≤ n) (by omega)]
      have h := spec_place_l0 rows hr hl rows.length 0 n (by omega) (by omega) hn
      rw [List.drop_zero] at h
      exact Tells.step (fun k => by simp only [spec_PlaceAt.j0]; rw [if_neg (by decide)]; rfl) h
  · rw [Bool.not_eq_true] at hv
    rw [hv, Bool.false_and]
    exact Tells.congr (fun k => if_neg (by decide)) (Tells.step (fun k => by simp only [spec_PlaceAt.j0]; rw [if_pos trivial]; rfl) (Tells.pure _))

end DocPure
