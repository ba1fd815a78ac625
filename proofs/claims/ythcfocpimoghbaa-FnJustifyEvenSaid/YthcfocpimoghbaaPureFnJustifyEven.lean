/- The gaps of a justified line differ by one at most and hold one space at least, for every input. -/
import Derived.Test.YthcfocpimoghbaaPJux0
import Derived.Test.YthcfocpimoghbaaPJux6
import Derived.Test.YthcfocpimoghbaaJuDrawJust
namespace DocPure
open Go.RowKit Go.Proofs.Ythcfocpimoghbaa.PJu Go.Proofs.YthcfocpimoghbaaW.PrintWords

theorem even_l0 (L : ByteArray) (hL : L.size ≤ 1000000) : ∀ (d i m M run : Nat), i + d = L.size → m ≤ 1000000 → M ≤ 1000000 → run ≤ i →
    Tells (fun k => laws_FnJustifyEven.l0 k L (m : Int) (M : Int) (run : Int) (i : Int)) (if (((evenScan (L.data.toList.drop i) m M run).2 : Int) - ((evenScan (L.data.toList.drop i) m M run).1 : Int)) ≤ 1 then decide (((evenScan (L.data.toList.drop i) m M run).1 : Int) ≥ 1) else false)
  | 0, i, m, M, run, hd, hm, hM, hr => by
    rw [List.drop_of_length_le (by rw [size_data]; omega)]
    show Tells _ (if ((M : Int) - (m : Int)) ≤ 1 then decide ((m : Int) ≥ 1) else false)
    refine Tells.step (g' := fun _ => some (if ((M : Int) - (m : Int)) ≤ 1 then decide ((m : Int) ≥ 1) else false)) (fun k => ?_) (Tells.pure _)
    simp only [laws_FnJustifyEven.l0]
    rw [if_neg (by omega), wr64 (by omega) (by omega)]
    split <;> rfl
  | d + 1, i, m, M, run, hd, hm, hM, hr => by
    have hw : ∀ _ : Unit, wrap64 ((i : Int) + 1) = ((i + 1 : Nat) : Int) := fun _ => by rw [wr64 (by omega) (by omega)]; rfl
    have hw2 : ∀ _ : Unit, wrap64 ((run : Int) + 1) = ((run + 1 : Nat) : Int) := fun _ => by rw [wr64 (by omega) (by omega)]; rfl
    have hb := bt_get (s := L) (i := i) (by omega)
    have hdrop : L.data.toList.drop i = (L[i]'(by omega)) :: L.data.toList.drop (i + 1) := List.drop_eq_getElem_cons (by rw [size_data]; omega)
    rw [hdrop]
    unfold evenScan
    by_cases h : L[i]'(by omega) = 32
    · rw [if_pos h]
      have ih := even_l0 L hL d (i + 1) m M (run + 1) (by omega) hm hM (by omega)
      refine Tells.step (fun k => ?_) ih
      simp only [laws_FnJustifyEven.l0]
      rw [if_pos (by omega), if_pos (by omega), hb, if_pos (by rw [h]; rfl), hw (), hw2 ()]
    · rw [if_neg h]
      have hne : ¬ (((L[i]'(by omega)).toNat : Int) = 32) := by
        intro q
        exact h (UInt8.toNat_inj.1 (show (L[i]'(by omega)).toNat = 32 by omega))
      have ih := even_l0 L hL d (i + 1) (if 0 < run ∧ run < m then run else m) (if M < run then run else M) 0 (by omega) (by split <;> omega) (by split <;> omega) (by omega)
      refine Tells.step (g' := fun k => laws_FnJustifyEven.j2 k L (m : Int) (M : Int) (run : Int) (i : Int) (decide (0 < run ∧ run < m))) (fun k => ?_) (Tells.step (fun k => ?_) ih)
      · simp only [laws_FnJustifyEven.l0]
        rw [if_pos (by omega), if_pos (by omega), hb, if_neg hne]
        by_cases hr0 : 0 < run
        · rw [if_pos (by omega)]
          congr 1
          exact decide_eq_decide.2 (by omega)
        · rw [if_neg (by omega), decide_eq_false (by omega)]
      · simp only [laws_FnJustifyEven.j2]
        rw [hw ()]
        by_cases hc : 0 < run ∧ run < m
        · rw [decide_eq_true hc, if_pos rfl, if_pos hc]
          by_cases hM2 : M < run
          · rw [if_pos (by omega), if_pos hM2]; rfl
          · rw [if_neg (by omega), if_neg hM2]; rfl
        · rw [decide_eq_false hc, if_neg (by decide), if_neg hc]
          by_cases hM2 : M < run
          · rw [if_pos (by omega), if_pos hM2]; rfl
          · rw [if_neg (by omega), if_neg hM2]; rfl

theorem lawJustifyEven (l : List Int) (hl : ∀ x ∈ l, (Go.Lit.int .u8 x).wf = true) (hs : l.length ≤ 1048576) : Tells (fun k => laws_FnJustifyEven.f k l) true := by
  obtain ⟨ws, w, hd, hD, hw0, hw1⟩ := drawJust hl
  have hsm := hD.small
  have hlen := hD.len
  refine Tells.congr (fun k => by unfold laws_FnJustifyEven.f; rw [if_neg (by omega)]) ?_
  refine Tells.bind hd (Tells.bind (impl_just ws w hsm (by omega) hD.total) (Tells.bind (spec_just ws w hsm (by omega) hD.total) (Tells.iteT rfl ?_)))
  simp only [bne_self_eq_false]
  refine Tells.congr (fun k => if_neg (by decide)) ?_
  by_cases ho : justOk ws w = true
  · have e1 : justifyLine ws w = (justT ws w.toNat, true) := by unfold justifyLine; rw [if_pos ho]
    rw [e1]
    obtain ⟨h1, h2, h3, h4, h5⟩ := just_parts ho
    have hz := justT_size (ws := ws) (w := w.toNat) h4 (by omega)
    have hev := even_line (ws := ws) (w := w.toNat) (clean_of h1) h4 (by omega)
    have hl0 := even_l0 (justT ws w.toNat) (by omega) (justT ws w.toNat).size 0 (justT ws w.toNat).size 0 0 (by omega) (by omega) (by omega) (by omega)
    rw [List.drop_zero] at hl0
    rw [hz] at hl0
    rw [if_pos (by omega), decide_eq_true (by omega)] at hl0
    refine Tells.step (fun k => ?_) hl0
    simp only [laws_FnJustifyEven.j0]
    rw [if_neg (by decide), hz]; rfl
  · have e1 : justifyLine ws w = (ByteArray.empty, false) := by unfold justifyLine; rw [if_neg ho]
    rw [e1]
    refine Tells.step (fun k => ?_) (Tells.pure true)
    simp only [laws_FnJustifyEven.j0]
    rw [if_pos (by decide), if_pos trivial]; rfl

end DocPure
namespace Go.Proofs.Ythcfocpimoghbaa.Pure
open Go.RowKit Go.Proofs.Ythcfocpimoghbaa.PJu Go.Proofs.YthcfocpimoghbaaW.PrintWords Go.Proofs.YthcfocpimoghbaaW.PrintLast

theorem FnJustifyEven : laws_FnJustifyEven.Pure := by
  intro l _ _ hl
  by_cases h : l.length ≤ 1048576
  · exact (DocPure.lawJustifyEven l hl h).ex
  · exact ⟨0, by unfold laws_FnJustifyEven.f; rw [if_pos (by omega)]⟩

end Go.Proofs.Ythcfocpimoghbaa.Pure
