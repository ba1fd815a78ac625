/- Padded lines have the width, and the texts of the page in front, for every input. -/
import Derived.Test.YtkcpimhohadjkaaPPlx0
import Derived.Test.YtkcpimhohadjkaaPPlx11
import Derived.Test.YtkcpimhohadjkaaPlDrawPad
import Derived.Test.YtkcpimhohadjkaaPlLayText
import Derived.Test.YtkcpimhohadjkaaPlDaTexts
namespace DocPure
open Go.RowKit Go.Proofs.Ytkcpimhohadjkaa.PPl Go.Proofs.YtkcpimhohadjkaaW.PrintWords

theorem one_row {r : Row} (h : rowOk r = true) : layText [⟨0, r.f1⟩] = r.f1 := by
  have hv : layoutOk [⟨0, r.f1⟩] = true := by
    unfold rowOk at h
    rw [Bool.and_eq_true, Bool.and_eq_true] at h
    unfold layoutOk
    simp only [List.length_singleton, List.all_cons, List.all_nil, Bool.and_true]
    unfold rowOk headOk
    rw [h.2]; rfl
  unfold layText
  rw [if_pos hv]
  show rowLine ⟨0, r.f1⟩ = _
  unfold rowLine
  by_cases h0 : r.f1.size = 0
  · rw [if_pos h0]
    refine bytes_eq ?_
    have : r.f1.data.toList.length = 0 := by rw [size_data]; exact h0
    rw [List.eq_nil_of_length_eq_zero this]; rfl
  · rw [if_neg h0]
    show spaces 0 ++ r.f1 = _
    rw [spaces_zero, empty_append]

theorem row_mid {r : Row} (h0 : r.f1.size ≠ 0) (n : Nat) :
    (padTo (rowLine r) n).extract r.f0.toNat (r.f0.toNat + r.f1.size) = r.f1 := by
  unfold padTo rowLine
  rw [if_neg h0, ByteArray.append_assoc]
  have := extract_mid (spaces r.f0.toNat) r.f1 (spaces (n - (spaces r.f0.toNat ++ r.f1).size))
  rw [spaces_size] at this
  exact this

theorem padlines_l0 (rows : List Row) (hv : layoutOk rows = true) (w : Int) (h1 : w ≤ 200) (hle : ∀ r ∈ rows, (rowLen r : Int) ≤ w) (h0 : 0 ≤ w) : ∀ (d i : Nat), i + d = rows.length →
    Tells (fun k => laws_FnPadLines.l0 k rows w (padded rows w) (i : Int)) true
  | 0, i, hd => by
    have el : (padded rows w).length = rows.length := by unfold padded; rw [List.length_map]
    refine Tells.step (fun k => ?_) (Tells.pure true)
    simp only [laws_FnPadLines.l0]
    rw [if_neg (by omega), el, beq_self_eq_true]
  | d + 1, i, hd => by
    obtain ⟨-, hl, hr⟩ := layout_parts hv
    have el : (padded rows w).length = rows.length := by unfold padded; rw [List.length_map]
    have ih := padlines_l0 rows hv w h1 hle h0 d (i + 1) (by omega)
    have hri := hr (rows[i]'(by omega)) (List.getElem_mem _)
    have hli := hle (rows[i]'(by omega)) (List.getElem_mem _)
    have hok : rowOk (rows[i]'(by omega)) = true := by
      unfold layoutOk at hv
      rw [Bool.and_eq_true] at hv
      exact List.all_eq_true.1 hv.2 _ (List.getElem_mem _)
    have hsm1 : SmallR [(⟨0, (rows[i]'(by omega)).f1⟩ : Row)] := ⟨by simp, fun r hm => by rw [List.mem_singleton.1 hm]; show (rows[i]'(by omega)).f1.size ≤ _; omega⟩
    have ht := text_tells _ hsm1
    rw [one_row hok] at ht
    have er : rd_T59 rows (i : Int) = rows[i]'(by omega) := rd_rows (by omega)
    have ep : rdOf ByteArray.empty (padded rows w) (i : Int) = padTo (rowLine (rows[i]'(by omega))) w.toNat := by
      rw [rdS_get (by omega)]
      unfold padded
      rw [List.getElem_map]
    have ez : (padTo (rowLine (rows[i]'(by omega))) w.toNat).size = w.toNat := padTo_size (by rw [rowLine_size]; omega)
    have hw : ∀ _ : Unit, wrap64 ((i : Int) + 1) = ((i + 1 : Nat) : Int) := fun _ => by rw [wr64 (by omega) (by omega)]; rfl
    have k1 : (i : Int) < ((padded rows w).length : Int) := by omega
    have k2 : 0 ≤ (i : Int) := by omega
    have k3 : (i : Int) < (rows.length : Int) := by omega
    refine Tells.step (fun k => by simp only [laws_FnPadLines.l0]; rw [if_pos k1, if_pos k2, if_pos k3, er, ep, ez, hw ()]) (Tells.bind ht ?_)
    refine Tells.iteT (show ((w.toNat : Nat) : Int) = w by omega) ?_
    by_cases hz : (rows[i]'(by omega)).f1.size = 0
    · exact Tells.iteT ((str_nil _).2 hz) ih
    · have hq : rowLen (rows[i]'(by omega)) = (rows[i]'(by omega)).f0.toNat + (rows[i]'(by omega)).f1.size := by unfold rowLen; rw [if_neg hz]
      have ew : wrap64 ((rows[i]'(by omega)).f0 + ((rows[i]'(by omega)).f1.size : Int)) = (((rows[i]'(by omega)).f0.toNat + (rows[i]'(by omega)).f1.size : Nat) : Int) := by rw [wr64 (by omega) (by omega)]; omega
      rw [ew]
      refine Tells.iteF (fun e => hz ((str_nil _).1 e)) (Tells.iteF (by omega) (Tells.iteT hri.1 (Tells.iteT (by omega) (Tells.iteT (by omega) ?_))))
      rw [Int.toNat_natCast, row_mid hz w.toNat]
      exact Tells.iteT rfl ih

theorem lawPadLines (l : List Int) (hl : ∀ x ∈ l, (Go.Lit.int .u8 x).wf = true) (hs : l.length ≤ 1048576) : Tells (fun k => laws_FnPadLines.f k l) true := by
  obtain ⟨rows, w, hd, hsm, hw0, hw1⟩ := drawPad hl
  have hlen := padLines_len rows w
  refine Tells.congr (fun k => by unfold laws_FnPadLines.f; rw [if_neg (by omega)]) ?_
  refine Tells.bind hd (Tells.bind (impl_pad rows hsm w) (Tells.bind (spec_pad rows hsm w) (Tells.bind (daTexts _ _ (by omega)) ?_)))
  simp only [decide_true, if_true, bne_self_eq_false]
  refine Tells.iteF (by decide) ?_
  by_cases ho : padOk rows w = true
  · have e : padLines rows w = (padded rows w, true) := by unfold padLines; rw [if_pos ho]
    unfold padOk at ho
    rw [Bool.and_eq_true, decide_eq_true_eq] at ho
    have hle : ∀ r ∈ rows, (rowLen r : Int) ≤ w := fun r hm => by
      have h3 := maxTo_mem (lens rows) 0 (rowLen r) (List.mem_map.2 ⟨r, hm, rfl⟩)
      have h4 : widthOf rows = maxTo 0 (lens rows) := by unfold widthOf; rw [if_pos ho.1]
      omega
    rw [e]
    exact Tells.step (fun k => by simp only [laws_FnPadLines.j0]; rw [if_neg (by decide)]; rfl) (padlines_l0 rows ho.1 w ho.2.2 hle (by omega) rows.length 0 (by omega))
  · rw [Bool.not_eq_true] at ho
    rw [pad_fail rows w ho]
    refine Tells.step (fun k => by simp only [laws_FnPadLines.j0]; rw [if_pos (by decide)]) (Tells.bind (daTexts _ _ (by simp)) ?_)
    exact Tells.of fun k => rfl

end DocPure
namespace Go.Proofs.Ytkcpimhohadjkaa.Pure
open Go.RowKit Go.Proofs.Ytkcpimhohadjkaa.PPl Go.Proofs.YtkcpimhohadjkaaW.PrintWords Go.Proofs.YtkcpimhohadjkaaW.PrintLast

theorem FnPadLines : laws_FnPadLines.Pure := by
  intro l _ _ hl
  by_cases h : l.length ≤ 1048576
  · exact (DocPure.lawPadLines l hl h).ex
  · exact ⟨0, by unfold laws_FnPadLines.f; rw [if_pos (by omega)]⟩

end Go.Proofs.Ytkcpimhohadjkaa.Pure
