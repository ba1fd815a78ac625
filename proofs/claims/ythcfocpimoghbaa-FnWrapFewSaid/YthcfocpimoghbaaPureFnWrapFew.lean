/- No lines of the words that fit are fewer than greedy ones, for every input. -/
import Derived.Test.YthcfocpimoghbaaPWbx0
import Derived.Test.YthcfocpimoghbaaPWbx1
import Derived.Test.YthcfocpimoghbaaPWbx10
import Derived.Test.YthcfocpimoghbaaWbBestSpec
import Derived.Test.YthcfocpimoghbaaWbGreedy0
import Derived.Test.YthcfocpimoghbaaWbDaTexts
import Derived.Test.YthcfocpimoghbaaWbDrawWords
namespace DocPure
open Go.RowKit Go.Proofs.Ythcfocpimoghbaa.PWb Go.Proofs.YthcfocpimoghbaaW.PrintWords

theorem few_l0 (w : Int) (lines gs : List ByteArray) (hl : lines.length ≤ 1000) (hf : (∀ l ∈ lines, (l.size : Int) ≤ w) → gs.length ≤ lines.length) :
    ∀ (d i : Nat), i + d = lines.length → (∀ l ∈ lines.take i, (l.size : Int) ≤ w) → Tells (fun k => laws_FnWrapFew.l0 k w lines gs (i : Int)) true
  | 0, i, hd, ha => by
    rw [List.take_of_length_le (by omega)] at ha
    have := hf ha
    refine Tells.step (fun k => ?_) (Tells.pure _)
    simp only [laws_FnWrapFew.l0]
    rw [if_neg (by omega), decide_eq_true (by omega)]
  | d + 1, i, hd, ha => by
    by_cases h1 : ((lines[i]'(by omega)).size : Int) > w
    · refine Tells.step (fun k => ?_) (Tells.pure _)
      simp only [laws_FnWrapFew.l0]
      rw [if_pos (by omega), if_pos (by omega), rdS_get (by omega), if_pos h1]
    · refine Tells.step (fun k => ?_) (few_l0 w lines gs hl hf d (i + 1) (by omega) (fun x hx => ?_))
      · simp only [laws_FnWrapFew.l0]
        rw [if_pos (by omega), if_pos (by omega), rdS_get (by omega), if_neg h1, wr64 (by omega) (by omega)]; rfl
      · rw [List.take_succ_eq_append_getElem (by omega)] at hx
        rcases List.mem_append.1 hx with hx | hx
        · exact ha x hx
        · rw [List.mem_singleton.1 hx]; omega

theorem lawWrapFew (l : List Int) (hl : ∀ x ∈ l, (Go.Lit.int .u8 x).wf = true) (hs : l.length ≤ 1048576) : Tells (fun k => laws_FnWrapFew.f k l) true := by
  obtain ⟨ws, w, hd, hD, hw0, hw1⟩ := drawCase hl
  have hsm : Small ws := ⟨by have := hD.len; omega, fun s hs => by have := hD.sz s hs; omega⟩
  have hlen := hD.len
  refine Tells.congr (fun k => by unfold laws_FnWrapFew.f; rw [if_neg (by omega)]) ?_
  refine Tells.bind (r := (ws, w)) (by unfold spec_DrawWrapBest.f; exact Tells.bind hd (Tells.pure _)) ?_
  by_cases ho : (wordsOk ws && okWidth w) = true
  · have e1 : wrapBest ws w = (bestLines w ws, true) := by unfold wrapBest; rw [if_pos ho]
    have e2 : wrapGreedy ws w = (greedy w [] ws, true) := by unfold wrapGreedy; rw [if_pos ho]
    obtain ⟨h1, h2, h3, h4⟩ := ok_parts ho
    have hq := linesTo_len w ws.length ws
    have hq2 : (bestLines w ws).length ≤ 18 := by show (linesTo w ws.length ws).length ≤ 18; omega
    refine Tells.bind (impl_best ws w hsm) (Tells.bind (spec_best ws w hsm) (Tells.bind (impl_greedy ws w hsm) ?_))
    rw [e1, e2]
    refine Tells.bind (daTexts _ _ (show (bestLines w ws).length ≤ _ by omega)) ?_
    simp only [decide_true, if_true, bne_self_eq_false]
    refine Tells.iteF (by decide) (Tells.step (fun k => by simp only [laws_FnWrapFew.j0]; rw [if_neg (by decide)]) ?_)
    refine few_l0 w (bestLines w ws) (greedy w [] ws) (by omega) (fun hf => ?_) (bestLines w ws).length 0 (by omega) (fun x hx => by simp at hx)
    have := greedy_few w (bestLines_wrap w ws) hf []
    simpa using this
  · have e1 : wrapBest ws w = ([], false) := by unfold wrapBest; rw [if_neg ho]
    refine Tells.bind (impl_best ws w hsm) (Tells.bind (spec_best ws w hsm) (Tells.bind (impl_greedy ws w hsm) ?_))
    rw [e1]
    refine Tells.bind (daTexts _ _ (by simp)) ?_
    simp only [decide_true, if_true, bne_self_eq_false]
    refine Tells.iteF (by decide) (Tells.iteF (by decide) (Tells.step (fun k => by simp only [laws_FnWrapFew.j0]; rw [if_pos (by decide)]) (Tells.bind (daTexts _ _ (by simp)) ?_)))
    exact Tells.of fun k => rfl

end DocPure
namespace Go.Proofs.Ythcfocpimoghbaa.Pure
open Go.RowKit Go.Proofs.Ythcfocpimoghbaa.PWb Go.Proofs.YthcfocpimoghbaaW.PrintWords Go.Proofs.YthcfocpimoghbaaW.PrintLast

theorem FnWrapFew : laws_FnWrapFew.Pure := by
  intro l _ _ hl
  by_cases h : l.length ≤ 1048576
  · exact (DocPure.lawWrapFew l hl h).ex
  · exact ⟨0, by unfold laws_FnWrapFew.f; rw [if_pos (by omega)]⟩

end Go.Proofs.Ythcfocpimoghbaa.Pure
