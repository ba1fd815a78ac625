/- If each word fits in a narrow page, so does each best line, for every input. -/
import Derived.Test.YthcfocpimoghbaaPWbx0
import Derived.Test.YthcfocpimoghbaaPWbx1
import Derived.Test.YthcfocpimoghbaaPWbx7
import Derived.Test.YthcfocpimoghbaaWbBestSpec
import Derived.Test.YthcfocpimoghbaaWbDaTexts
import Derived.Test.YthcfocpimoghbaaWbDrawWords
namespace DocPure
open Go.RowKit Go.Proofs.Ythcfocpimoghbaa.PWb Go.Proofs.YthcfocpimoghbaaW.PrintWords

theorem fits_l1 (w : Int) (lines : List ByteArray) (hl : lines.length ≤ 1000) (hf : ∀ l ∈ lines, (l.size : Int) ≤ w) : ∀ (d i : Nat), i + d = lines.length → Tells (fun k => laws_FnWrapFits.l1 k w lines (i : Int)) true
  | 0, i, hd => by
    refine Tells.step (fun k => ?_) (Tells.pure _)
    simp only [laws_FnWrapFits.l1]
    rw [if_neg (by omega)]
  | d + 1, i, hd => by
    have hq := hf (lines[i]'(by omega)) (List.getElem_mem _)
    refine Tells.step (fun k => ?_) (fits_l1 w lines hl hf d (i + 1) (by omega))
    simp only [laws_FnWrapFits.l1]
    rw [if_pos (by omega), if_pos (by omega), rdS_get (by omega), if_neg (by omega), wr64 (by omega) (by omega)]; rfl

theorem fits_l0 (w : Int) (ws lines : List ByteArray) (hw : ws.length ≤ 1000) (hl : lines.length ≤ 1000) (hf : w ≤ 20 → (∀ x ∈ ws, (x.size : Int) ≤ w) → ∀ l ∈ lines, (l.size : Int) ≤ w) :
    ∀ (d i : Nat), i + d = ws.length → (1 ≤ i → w ≤ 20) → (∀ x ∈ ws.take i, (x.size : Int) ≤ w) → (ws = [] → lines = []) → Tells (fun k => laws_FnWrapFits.l0 k ws w lines (i : Int)) true
  | 0, i, hd, h20, ha, he => by
    have hall : ∀ l ∈ lines, (l.size : Int) ≤ w := by
      by_cases h0 : ws = []
      · rw [he h0]
        intro l hl
        cases hl
      · have : 1 ≤ ws.length := List.length_pos_iff.2 h0
        rw [List.take_of_length_le (by omega)] at ha
        exact hf (h20 (by omega)) ha
    have h := fits_l1 w lines hl hall lines.length 0 (by omega)
    refine Tells.step (fun k => ?_) h
    simp only [laws_FnWrapFits.l0]
    rw [if_neg (by omega)]; rfl
  | d + 1, i, hd, h20, ha, he => by
    by_cases h1 : ((ws[i]'(by omega)).size : Int) > w
    · refine Tells.step (fun k => ?_) (Tells.pure _)
      simp only [laws_FnWrapFits.l0]
      rw [if_pos (by omega), if_pos (by omega), rdS_get (by omega), if_pos h1]
    · by_cases h2 : w > 20
      · refine Tells.step (fun k => ?_) (Tells.pure _)
        simp only [laws_FnWrapFits.l0]
        rw [if_pos (by omega), if_pos (by omega), rdS_get (by omega), if_neg h1, if_pos h2]
      · refine Tells.step (fun k => ?_) (fits_l0 w ws lines hw hl hf d (i + 1) (by omega) (fun _ => by omega) (fun x hx => ?_) he)
        · simp only [laws_FnWrapFits.l0]
          rw [if_pos (by omega), if_pos (by omega), rdS_get (by omega), if_neg h1, if_neg h2, wr64 (by omega) (by omega)]; rfl
        · rw [List.take_succ_eq_append_getElem (by omega)] at hx
          rcases List.mem_append.1 hx with hx | hx
          · exact ha x hx
          · rw [List.mem_singleton.1 hx]; omega

theorem lawWrapFits (l : List Int) (hl : ∀ x ∈ l, (Go.Lit.int .u8 x).wf = true) (hs : l.length ≤ 1048576) : Tells (fun k => laws_FnWrapFits.f k l) true := by
  obtain ⟨ws, w, hd, hD, hw0, hw1⟩ := drawCase hl
  have hsm : Small ws := ⟨by have := hD.len; omega, fun s hs => by have := hD.sz s hs; omega⟩
  have hlen := hD.len
  refine Tells.congr (fun k => by unfold laws_FnWrapFits.f; rw [if_neg (by omega)]) ?_
  refine Tells.bind (r := (ws, w)) (by unfold spec_DrawWrapBest.f; exact Tells.bind hd (Tells.pure _)) ?_
  by_cases ho : (wordsOk ws && okWidth w) = true
  · have e1 : wrapBest ws w = (bestLines w ws, true) := by unfold wrapBest; rw [if_pos ho]
    obtain ⟨h1, h2, h3, h4⟩ := ok_parts ho
    have hq := linesTo_len w ws.length ws
    have hq2 : (bestLines w ws).length ≤ 18 := by show (linesTo w ws.length ws).length ≤ 18; omega
    refine Tells.bind (impl_best ws w hsm) (Tells.bind (spec_best ws w hsm) ?_)
    rw [e1]
    refine Tells.bind (daTexts _ _ (show (bestLines w ws).length ≤ _ by omega)) ?_
    simp only [decide_true, if_true, bne_self_eq_false]
    refine Tells.iteF (by decide) (Tells.step (fun k => by simp only [laws_FnWrapFits.j0]; rw [if_neg (by decide)]) ?_)
    exact fits_l0 w ws (bestLines w ws) (by omega) (by omega) (fun h20 hx => best_fits w h3 h20 ws.length ws (Nat.le_refl _) (by omega) hx) ws.length 0 (by omega) (fun q => by omega) (fun x hx => by simp at hx) (fun e => by rw [e]; rfl)
  · have e1 : wrapBest ws w = ([], false) := by unfold wrapBest; rw [if_neg ho]
    refine Tells.bind (impl_best ws w hsm) (Tells.bind (spec_best ws w hsm) ?_)
    rw [e1]
    refine Tells.bind (daTexts _ _ (by simp)) ?_
    simp only [decide_true, if_true, bne_self_eq_false]
    refine Tells.iteF (by decide) (Tells.step (fun k => by simp only [laws_FnWrapFits.j0]; rw [if_pos (by decide)]) (Tells.bind (daTexts _ _ (by simp)) ?_))
    exact Tells.of fun k => rfl

end DocPure
namespace Go.Proofs.Ythcfocpimoghbaa.Pure
open Go.RowKit Go.Proofs.Ythcfocpimoghbaa.PWb Go.Proofs.YthcfocpimoghbaaW.PrintWords Go.Proofs.YthcfocpimoghbaaW.PrintLast

theorem FnWrapFits : laws_FnWrapFits.Pure := by
  intro l _ _ hl
  by_cases h : l.length ≤ 1048576
  · exact (DocPure.lawWrapFits l hl h).ex
  · exact ⟨0, by unfold laws_FnWrapFits.f; rw [if_pos (by omega)]⟩

end Go.Proofs.Ythcfocpimoghbaa.Pure
