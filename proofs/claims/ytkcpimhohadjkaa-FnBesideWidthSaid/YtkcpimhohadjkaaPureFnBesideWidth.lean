/- Padded pages beside themselves are as wide as both and the gap, for every input. -/
import Derived.Test.YtkcpimhohadjkaaPPbx0
import Derived.Test.YtkcpimhohadjkaaPPbx12
import Derived.Test.YtkcpimhohadjkaaPPbx5
import Derived.Test.YtkcpimhohadjkaaPPbx6
import Derived.Test.YtkcpimhohadjkaaPbDrawPad
import Derived.Test.YtkcpimhohadjkaaPbDaTexts
namespace DocPure
open Go.RowKit Go.Proofs.Ytkcpimhohadjkaa.PPb Go.Proofs.YtkcpimhohadjkaaW.PrintWords

theorem rowText_append (a b : ByteArray) : rowText (a ++ b) = (rowText a && rowText b) := by
  unfold rowText
  rw [ByteArray.data_append, Array.toList_append, List.all_append]

theorem rowText_spaces (n : Nat) : rowText (spaces n) = true := by
  unfold rowText
  rw [spaces_data, List.all_replicate]
  split <;> decide

/-- Lines of one width, of the bytes that a page may have. -/
structure Even (ls : List ByteArray) (w : Nat) : Prop where
  sz : ∀ s ∈ ls, s.size = w
  tx : ∀ s ∈ ls, rowText s = true

theorem padded_even {rows : List Row} (hv : layoutOk rows = true) {w : Int} (h0 : 0 ≤ w) (hle : ∀ r ∈ rows, (rowLen r : Int) ≤ w) : Even (padded rows w) w.toNat := by
  have hrow : ∀ r ∈ rows, rowText r.f1 = true := fun r hr => by
    unfold layoutOk at hv
    rw [Bool.and_eq_true] at hv
    have := List.all_eq_true.1 hv.2 r hr
    unfold rowOk at this
    rw [Bool.and_eq_true, Bool.and_eq_true, Bool.and_eq_true] at this
    exact this.2.1
  refine ⟨fun s hs => ?_, fun s hs => ?_⟩
  · obtain ⟨r, hr, rfl⟩ := List.mem_map.1 hs
    have := hle r hr
    exact padTo_size (by rw [rowLine_size]; omega)
  · obtain ⟨r, hr, rfl⟩ := List.mem_map.1 hs
    unfold padTo
    rw [rowText_append, rowText_spaces, Bool.and_true]
    unfold rowLine
    split
    · rfl
    · rw [rowText_append, rowText_spaces, hrow r hr]; rfl

theorem same_l0 (ls : List ByteArray) (w : Nat) (hw : w ≤ 200) (h : Even ls w) (h1 : 1 ≤ ls.length) (h2 : ls.length ≤ 100) : ∀ (d i : Nat), i + d = ls.length → Tells (fun k => impl_sameLines.l0 k ls ls (ls.length : Int) (i : Int)) true
  | 0, i, hd => by
    refine Tells.step (fun k => ?_) (Tells.pure true)
    simp only [impl_sameLines.l0]
    rw [if_neg (by omega), if_pos (by omega), decide_eq_true (by omega)]
  | d + 1, i, hd => by
    have hi := h.sz (ls[i]'(by omega)) (List.getElem_mem _)
    have hz := h.sz (ls[0]'(by omega)) (List.getElem_mem _)
    have ht := h.tx (ls[i]'(by omega)) (List.getElem_mem _)
    have e0 : rdOf ByteArray.empty ls 0 = ls[0]'(by omega) := rdS_get (i := 0) (by omega)
    have er : rdOf ByteArray.empty ls (i : Int) = ls[i]'(by omega) := rdS_get (by omega)
    have hb := impl_rowBytes_tells (ls[i]'(by omega)) (by omega)
    rw [ht] at hb
    have hwr : ∀ _ : Unit, wrap64 ((i : Int) + 1) = ((i + 1 : Nat) : Int) := fun _ => by rw [wr64 (by omega) (by omega)]; rfl
    refine Tells.step (fun k => by simp only [impl_sameLines.l0]; rw [if_pos (by omega), if_pos (by omega), if_pos (by omega), if_pos (by omega), e0, er, if_pos (by omega), hwr ()]) (Tells.bind hb ?_)
    exact Tells.iteT rfl (same_l0 ls w hw h h1 h2 d (i + 1) (by omega))

/-- A line beside itself, with one space between. -/
def twice (s : ByteArray) : ByteArray := s ++ spaces 1 ++ s

theorem padTo_one {s : ByteArray} {w : Nat} (h : s.size = w) : padTo s (w + 1) = s ++ spaces 1 := by
  unfold padTo
  rw [h, Nat.add_sub_cancel_left]

theorem padTo_same {s : ByteArray} {w : Nat} (h : s.size = w) : padTo s w = s := by
  unfold padTo
  rw [h, Nat.sub_self, spaces_zero, append_empty]

theorem beside_l0 (ls : List ByteArray) (w : Nat) (hw : w ≤ 200) (h : Even ls w) (h1 : 1 ≤ ls.length) (h2 : ls.length ≤ 100) : ∀ (d i : Nat), i + d = ls.length →
    Tells (fun k => impl_BesideLines.l0 k ls 1 ls ((ls.take i).map twice) (ls.length : Int) (i : Int)) (ls.map twice, true)
  | 0, i, hd => by
    rw [List.take_of_length_le (by omega)]
    refine Tells.step (fun k => ?_) (Tells.pure _)
    simp only [impl_BesideLines.l0]
    rw [if_neg (by omega)]
  | d + 1, i, hd => by
    have hi := h.sz (ls[i]'(by omega)) (List.getElem_mem _)
    have hz := h.sz (ls[0]'(by omega)) (List.getElem_mem _)
    have e0 : rdOf ByteArray.empty ls 0 = ls[0]'(by omega) := rdS_get (i := 0) (by omega)
    have er : rdOf ByteArray.empty ls (i : Int) = ls[i]'(by omega) := rdS_get (by omega)
    have hp1 := padded_tells (ls[i]'(by omega)) ((w + 1 : Nat) : Int) (by omega) (by omega) (by omega)
    rw [Int.toNat_natCast, padTo_one hi] at hp1
    have hp2 := padded_tells (ls[i]'(by omega)) (w : Int) (by omega) (by omega) (by omega)
    rw [Int.toNat_natCast, padTo_same hi] at hp2
    have ew : ∀ _ : Unit, wrap64 ((w : Int) + 1) = ((w + 1 : Nat) : Int) := fun _ => by rw [wr64 (by omega) (by omega)]; rfl
    have hwr : ∀ _ : Unit, wrap64 ((i : Int) + 1) = ((i + 1 : Nat) : Int) := fun _ => by rw [wr64 (by omega) (by omega)]; rfl
    have ih := beside_l0 ls w hw h h1 h2 d (i + 1) (by omega)
    rw [List.take_succ_eq_append_getElem (by omega), List.map_append, List.map_singleton] at ih
    have hlen : ((ls.take i).map twice).length ≤ 100 := by rw [List.length_map, List.length_take]; omega
    refine Tells.step (fun k => by simp only [impl_BesideLines.l0]; rw [if_pos (by omega), if_pos (by omega), if_pos (by omega), er]) (Tells.step (fun k => ?_) ih)
    simp only [impl_BesideLines.j2]
    rw [if_pos (by omega), if_pos (by omega), if_pos (by omega), e0, er, hz, ew (), hp1, Option.bind_some, if_pos (by omega), hp2, Option.bind_some, if_pos (by rw [ByteArray.size_append, spaces_size]; omega), if_pos (by omega), hwr ()]; rfl

theorem beside_tells (ls : List ByteArray) (w : Nat) (hw : w ≤ 200) (h : Even ls w) (h1 : 1 ≤ ls.length) (h2 : ls.length ≤ 100) :
    Tells (fun k => impl_BesideLines.f k ls 1 ls) (if 2 * w + 1 > 200 then ([], false) else (ls.map twice, true)) := by
  have hz := h.sz (ls[0]'(by omega)) (List.getElem_mem _)
  have e0 : rdOf ByteArray.empty ls 0 = ls[0]'(by omega) := rdS_get (i := 0) (by omega)
  have hs : Tells (fun k => impl_sameLines.f k ls) true := same_l0 ls w hw h h1 h2 ls.length 0 (by omega)
  have ew : wrap64 (wrap64 ((w : Int) + 1) + (w : Int)) = ((2 * w + 1 : Nat) : Int) := by rw [wr64 (n := (w : Int) + 1) (by omega) (by omega), wr64 (by omega) (by omega)]; omega
  unfold impl_BesideLines.f
  refine Tells.bind hs (Tells.iteT rfl (Tells.bind hs (Tells.iteT rfl (Tells.iteF (by omega) (Tells.iteF (by omega) (Tells.iteT (by omega) (Tells.iteT (by omega) ?_)))))))
  rw [e0, hz, ew]
  by_cases h200 : 2 * w + 1 > 200
  · rw [if_pos h200, decide_eq_true (by omega)]
    exact Tells.step (fun k => by simp only [impl_BesideLines.j0]; rw [if_pos trivial]) (Tells.pure _)
  · rw [if_neg h200, decide_eq_false (by omega)]
    have em : mx (ls.length : Int) (ls.length : Int) = (ls.length : Int) := by unfold mx; split <;> rfl
    have hl := beside_l0 ls w hw h h1 h2 ls.length 0 (by omega)
    exact Tells.step (fun k => by simp only [impl_BesideLines.j0]; rw [if_neg (by decide), em]; rfl) hl

theorem bw_l0 (ls : List ByteArray) (w : Nat) (hw : w ≤ 200) (h : Even ls w) (h2 : ls.length ≤ 100) : ∀ (d i : Nat), i + d = ls.length → Tells (fun k => laws_FnBesideWidth.l0 k ls (ls.map twice) true (i : Int)) true
  | 0, i, hd => by
    refine Tells.step (fun k => ?_) (Tells.pure true)
    simp only [laws_FnBesideWidth.l0]
    rw [if_neg (by rw [List.length_map]; omega), if_pos trivial, List.length_map, beq_self_eq_true]
  | d + 1, i, hd => by
    have hi := h.sz (ls[i]'(by omega)) (List.getElem_mem _)
    have er : rdOf ByteArray.empty ls (i : Int) = ls[i]'(by omega) := rdS_get (by omega)
    have et : rdOf ByteArray.empty (ls.map twice) (i : Int) = twice (ls[i]'(by omega)) := by rw [rdS_get (by rw [List.length_map]; omega), List.getElem_map]
    have e1 : (⟨#[32]⟩ : ByteArray).size = 1 := rfl
    refine Tells.step (fun k => ?_) (bw_l0 ls w hw h h2 d (i + 1) (by omega))
    simp only [laws_FnBesideWidth.l0]
    rw [if_pos (by rw [List.length_map]; omega), if_pos (by omega), if_pos (by omega), er, et, if_pos (by omega), if_pos (by rw [ByteArray.size_append, e1]; omega), if_pos (by unfold twice; rw [spaces_one]), wr64 (by omega) (by omega)]; rfl

theorem lawBesideWidth (l : List Int) (hl : ∀ x ∈ l, (Go.Lit.int .u8 x).wf = true) (hs : l.length ≤ 1048576) : Tells (fun k => laws_FnBesideWidth.f k l) true := by
  obtain ⟨rows, w, hd, hsm, hw0, hw1⟩ := drawPad hl
  have hlen := padLines_len rows w
  have lost : ∀ x : List ByteArray × Bool, x.1.length ≤ 1000 → Tells (fun k => laws_FnBesideWidth.j0 k w x.1 x.2 x.1 x.2 true) true := fun x hx => by
    refine Tells.step (fun k => by simp only [laws_FnBesideWidth.j0]; rw [if_pos trivial]) (Tells.bind (daTexts _ _ (by omega)) ?_)
    simp only [decide_true, if_true]
    exact Tells.of fun k => by rw [beq_self_eq_true]
  refine Tells.congr (fun k => by unfold laws_FnBesideWidth.f; rw [if_neg (by omega)]) ?_
  refine Tells.bind hd (Tells.bind (impl_pad rows hsm w) (Tells.bind (spec_pad rows hsm w) (Tells.bind (daTexts _ _ (by omega)) ?_)))
  simp only [decide_true, if_true, bne_self_eq_false]
  refine Tells.iteF (by decide) ?_
  by_cases ho : padOk rows w = true
  · have e : padLines rows w = (padded rows w, true) := by unfold padLines; rw [if_pos ho]
    unfold padOk at ho
    rw [Bool.and_eq_true, decide_eq_true_eq] at ho
    have hle : ∀ r ∈ rows, (rowLen r : Int) ≤ w := fun r hm => by
      have h3 := maxTo_mem (lens rows) 0 (rowLen r) (List.mem_map.2 ⟨r, hm, rfl⟩)
      have h4 : widthOf rows = maxTo 0 (lens rows) := by unfold widthOf; rw [if_pos ho.1]
      omega
    have hev := padded_even ho.1 (w := w) (by omega) hle
    have el : (padded rows w).length = rows.length := by unfold padded; rw [List.length_map]
    obtain ⟨g1, g2, -⟩ := layout_parts ho.1
    rw [e]
    refine Tells.iteT rfl ?_
    by_cases h100 : ((padded rows w).length : Int) > 100
    · rw [decide_eq_true h100]
      exact lost (padded rows w, true) (by show (padded rows w).length ≤ _; omega)
    · rw [decide_eq_false h100]
      have hb := beside_tells (padded rows w) w.toNat (by omega) hev (by omega) (by omega)
      refine Tells.step (fun k => by simp only [laws_FnBesideWidth.j0]; rw [if_neg (by decide)]) (Tells.bind hb ?_)
      have ew : wrap64 (wrap64 (2 * w) + 1) = 2 * w + 1 := by rw [wr64 (n := 2 * w) (by omega) (by omega), wr64 (by omega) (by omega)]
      rw [ew]
      by_cases h200 : 2 * w.toNat + 1 > 200
      · rw [if_pos h200]
        exact Tells.iteT (by omega) (Tells.of fun k => rfl)
      · rw [if_neg h200]
        exact Tells.iteF (by omega) (bw_l0 (padded rows w) w.toNat (by omega) hev (by omega) (padded rows w).length 0 (by omega))
  · rw [Bool.not_eq_true] at ho
    rw [pad_fail rows w ho]
    exact Tells.iteF (by decide) (lost ([], false) (by simp))

end DocPure
namespace Go.Proofs.Ytkcpimhohadjkaa.Pure
open Go.RowKit Go.Proofs.Ytkcpimhohadjkaa.PPb Go.Proofs.YtkcpimhohadjkaaW.PrintWords Go.Proofs.YtkcpimhohadjkaaW.PrintLast

theorem FnBesideWidth : laws_FnBesideWidth.Pure := by
  intro l _ _ hl
  by_cases h : l.length ≤ 1048576
  · exact (DocPure.lawBesideWidth l hl h).ex
  · exact ⟨0, by unfold laws_FnBesideWidth.f; rw [if_pos (by omega)]⟩

end Go.Proofs.Ytkcpimhohadjkaa.Pure
