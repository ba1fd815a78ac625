/- Words are lines of one word each, for every input. -/
import Derived.Test.YtkpnmninkmnbjaaDoorPKax0
import Derived.Test.YtkpnmninkmnbjaaDoorPKax8
import Derived.Test.YtkpnmninkmnbjaaDoorKaDaTexts
import Derived.Test.YtkpnmninkmnbjaaDoorKaDrawWords
import Derived.Test.YtkpnmninkmnbjaaDoorKaCostOf
namespace DocPure
open Go.RowKit Go.Proofs.YtkpnmninkmnbjaaDoor.PKa Go.Proofs.YtkpnmninkmnbjaaDoorW.PrintWords

theorem lawWordsOf (l : List Int) (hl : ∀ x ∈ l, (Go.Lit.int .u8 x).wf = true) (hs : l.length ≤ 1048576) : Tells (fun k => laws_FnWordsOf.f k l) true := by
  obtain ⟨ws, w, hd, hD, hw0, hw1⟩ := drawCase hl
  have hsm : Small ws := ⟨by have := hD.len; omega, fun s hs => by have := hD.sz s hs; omega⟩
  have hL : Lines ws := ⟨by have := hD.len; omega, fun s hs => by have := hD.sz s hs; omega⟩
  have hq := wordsOf_len ws
  refine Tells.congr (fun k => by unfold laws_FnWordsOf.f; rw [if_neg (by omega)]) ?_
  refine Tells.bind (r := ws) (by unfold spec_DrawWrapDoc.f; exact Tells.bind hd (Tells.pure _)) ?_
  refine Tells.bind (impl_words ws hsm) (Tells.bind (impl_wordsOf ws hL) (Tells.bind (spec_wordsOf ws hL) (Tells.bind (spec_words ws hsm) ?_)))
  refine Tells.iteF (by rw [bne_self_eq_false]; decide) (Tells.bind (daTexts _ _ (by omega)) (Tells.iteT (decide_eq_true rfl) ?_))
  refine Tells.step (fun k => by simp only [laws_FnWordsOf.j0]; rw [if_neg (by rw [bne_self_eq_false]; decide)]) (Tells.bind (impl_cost ws 5 hL) ?_)
  by_cases ho : wordsOk ws = true
  · refine Tells.iteT ho ?_
    have e : wrapCost ws 5 = (costLines 5 ws, true) := by
      unfold wrapCost
      rw [wordsOf_words ho, if_pos (show (true && okWidth 5) = true from rfl)]
    rw [wordsOf_words ho, e]
    refine Tells.iteT rfl (Tells.bind (daTexts _ _ hL.len) (Tells.iteT (decide_eq_true rfl) (Tells.iteT rfl ?_)))
    exact Tells.of fun k => congrArg some (decide_eq_true (costLines_nonneg 5 ws))
  · exact Tells.iteF ho (Tells.pure true)

end DocPure
namespace Go.Proofs.YtkpnmninkmnbjaaDoor.Pure
open Go.RowKit Go.Proofs.YtkpnmninkmnbjaaDoor.PKa

theorem FnWordsOf : ∀ l : List Int, (l.length ≤ maxLen ∧ ∀ x ∈ l, (Go.Lit.int .u8 x).wf = true) → ∃ k, laws_FnWordsOf.f k l = some true := by
  intro l h
  by_cases hs : l.length ≤ 1048576
  · exact (DocPure.lawWordsOf l h.2 hs).ex
  · exact ⟨0, by unfold laws_FnWordsOf.f; rw [if_pos (by omega)]⟩

end Go.Proofs.YtkpnmninkmnbjaaDoor.Pure
