/- The best lines have all words, and cost no more than greedy ones, for every input. -/
import Derived.Test.YtkpnmninkmnbjaaDoorPKax0
import Derived.Test.YtkpnmninkmnbjaaDoorPKax13
import Derived.Test.YtkpnmninkmnbjaaDoorPKax8
import Derived.Test.YtkpnmninkmnbjaaDoorKaBestSpec
import Derived.Test.YtkpnmninkmnbjaaDoorKaGreedy0
import Derived.Test.YtkpnmninkmnbjaaDoorKaDaTexts
import Derived.Test.YtkpnmninkmnbjaaDoorKaDrawWords
import Derived.Test.YtkpnmninkmnbjaaDoorKaCostOf
namespace DocPure
open Go.RowKit Go.Proofs.YtkpnmninkmnbjaaDoor.PKa Go.Proofs.YtkpnmninkmnbjaaDoorW.PrintWords

theorem lawWrapBest (l : List Int) (hl : ∀ x ∈ l, (Go.Lit.int .u8 x).wf = true) (hs : l.length ≤ 1048576) : Tells (fun k => laws_FnWrapBest.f k l) true := by
  obtain ⟨ws, w, hd, hD, hw0, hw1⟩ := drawCase hl
  have hsm : Small ws := ⟨by have := hD.len; omega, fun s hs => by have := hD.sz s hs; omega⟩
  refine Tells.congr (fun k => by unfold laws_FnWrapBest.f; rw [if_neg (by omega)]) ?_
  refine Tells.bind (r := (ws, w)) (by unfold spec_DrawWrapBest.f; exact Tells.bind hd (Tells.pure _)) ?_
  by_cases ho : (wordsOk ws && okWidth w) = true
  · have hok := (Bool.and_eq_true _ _).mp ho
    have e1 : wrapBest ws w = (bestLines w ws, true) := by unfold wrapBest; rw [if_pos ho]
    have hb : IsWrap ws (bestLines w ws) := bestLines_wrap w ws
    have lb := wrap_lines hb hok.1
    refine Tells.bind (impl_best ws w hsm) (Tells.bind (spec_best ws w hsm) ?_)
    rw [e1]
    refine Tells.bind (daTexts _ _ lb.len) ?_
    simp only [decide_true, if_true, bne_self_eq_false]
    refine Tells.iteF (by decide) (Tells.step (fun k => by simp only [laws_FnWrapBest.j0]; rw [if_neg (by decide)]) ?_)
    have e2 : wrapGreedy ws w = (greedy w [] ws, true) := by unfold wrapGreedy; rw [if_pos ho]
    have hg : IsWrap ws (greedy w [] ws) := greedy_wrap w ws [] [] IsWrap.nil
    have lg := wrap_lines hg hok.1
    have hle : costLines w (bestLines w ws) ≤ costLines w (greedy w [] ws) := by rw [bestLines_cost]; exact bc_least w hg
    refine Tells.bind (impl_wordsOf _ lb) (Tells.bind (impl_greedy ws w hsm) ?_)
    rw [e2, wordsOf_wrap hb hok.1]
    refine Tells.bind (impl_cost _ w lb) (Tells.bind (impl_cost _ w lg) ?_)
    rw [cost_wrap hb ho, cost_wrap hg ho]
    refine Tells.iteT rfl (Tells.bind (daTexts ws ws (by have := hD.len; omega)) ?_)
    refine Tells.iteT (decide_eq_true rfl) (Tells.iteT rfl (Tells.iteT rfl (Tells.iteT rfl ?_)))
    exact Tells.of fun k => congrArg some (decide_eq_true hle)
  · have e1 : wrapBest ws w = ([], false) := by unfold wrapBest; rw [if_neg ho]
    refine Tells.bind (impl_best ws w hsm) (Tells.bind (spec_best ws w hsm) ?_)
    rw [e1]
    refine Tells.bind (daTexts _ _ (by simp)) ?_
    simp only [decide_true, if_true, bne_self_eq_false]
    refine Tells.iteF (by decide) (Tells.step (fun k => by simp only [laws_FnWrapBest.j0]; rw [if_pos (by decide)]) (Tells.bind (daTexts _ _ (by simp)) ?_))
    exact Tells.of fun k => rfl

end DocPure
namespace Go.Proofs.YtkpnmninkmnbjaaDoor.Pure
open Go.RowKit Go.Proofs.YtkpnmninkmnbjaaDoor.PKa

theorem FnWrapBest : ∀ l : List Int, (l.length ≤ maxLen ∧ ∀ x ∈ l, (Go.Lit.int .u8 x).wf = true) → ∃ k, laws_FnWrapBest.f k l = some true := by
  intro l h
  by_cases hs : l.length ≤ 1048576
  · exact (DocPure.lawWrapBest l h.2 hs).ex
  · exact ⟨0, by unfold laws_FnWrapBest.f; rw [if_pos (by omega)]⟩

end Go.Proofs.YtkpnmninkmnbjaaDoor.Pure
