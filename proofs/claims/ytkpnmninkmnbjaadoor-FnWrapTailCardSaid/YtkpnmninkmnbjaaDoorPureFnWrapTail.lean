/- The best lines without the first are best lines of their own words, for every input. -/
import Derived.Test.YtkpnmninkmnbjaaDoorPKax0
import Derived.Test.YtkpnmninkmnbjaaDoorPKax11
import Derived.Test.YtkpnmninkmnbjaaDoorPKax8
import Derived.Test.YtkpnmninkmnbjaaDoorKaBestSpec
import Derived.Test.YtkpnmninkmnbjaaDoorKaDaTexts
import Derived.Test.YtkpnmninkmnbjaaDoorKaDrawWords
import Derived.Test.YtkpnmninkmnbjaaDoorKaWrapWords
namespace DocPure
open Go.RowKit Go.Proofs.YtkpnmninkmnbjaaDoor.PKa Go.Proofs.YtkpnmninkmnbjaaDoorW.PrintWords

theorem ok_drop {ws : List ByteArray} (n : Nat) (h : wordsOk ws = true) : wordsOk (ws.drop n) = true := by
  unfold wordsOk at h ⊢
  rw [Bool.and_eq_true, decide_eq_true_iff] at h ⊢
  refine ⟨List.all_eq_true.2 fun x hx => List.all_eq_true.1 h.1 x (List.mem_of_mem_drop hx), ?_⟩
  rw [List.length_drop]; omega

theorem lawWrapTail (l : List Int) (hl : ∀ x ∈ l, (Go.Lit.int .u8 x).wf = true) (hs : l.length ≤ 1048576) : Tells (fun k => laws_FnWrapTail.f k l) true := by
  obtain ⟨ws, w, hd, hD, hw0, hw1⟩ := drawCase hl
  have hsm : Small ws := ⟨by have := hD.len; omega, fun s hs => by have := hD.sz s hs; omega⟩
  refine Tells.congr (fun k => by unfold laws_FnWrapTail.f; rw [if_neg (by omega)]) ?_
  refine Tells.bind (r := (ws, w)) (by unfold spec_DrawWrapBest.f; exact Tells.bind hd (Tells.pure _)) ?_
  by_cases ho : (wordsOk ws && okWidth w) = true
  · have hok := (Bool.and_eq_true _ _).mp ho
    have e1 : wrapBest ws w = (bestLines w ws, true) := by unfold wrapBest; rw [if_pos ho]
    have hb : IsWrap ws (bestLines w ws) := bestLines_wrap w ws
    have lb := wrap_lines hb hok.1
    refine Tells.bind (impl_best ws w hsm) (Tells.bind (spec_best ws w hsm) ?_)
    rw [e1]
    refine Tells.bind (daTexts _ _ lb.len) ?_
    simp only [decide_true, if_true, bne_self_eq_false]
    refine Tells.iteF (by decide) ?_
    by_cases hn : ws = []
    · subst hn
      refine Tells.step (fun k => by simp only [laws_FnWrapTail.j0]; rw [if_pos (show ((((bestLines w ([] : List ByteArray)).length : Int) == 0) = true) from rfl)]) (Tells.bind (daTexts _ _ lb.len) ?_)
      exact Tells.iteT (decide_eq_true rfl) (Tells.of fun k => rfl)
    · have e := best_cons w hn
      generalize hm : bn w ws = m at e
      generalize lineWith sp1 (ws.take m) = x at e
      have hr := ok_drop m hok.1
      have hor : (wordsOk (ws.drop m) && okWidth w) = true := (Bool.and_eq_true _ _).mpr ⟨hr, hok.2⟩
      have hbr := bestLines_wrap w (ws.drop m)
      have lr := wrap_lines hbr hr
      have hsr : Small (ws.drop m) := ⟨by rw [List.length_drop]; have := hD.len; omega, fun s hs => by have := hD.sz s (List.mem_of_mem_drop hs); omega⟩
      have e3 : wrapBest (ws.drop m) w = (bestLines w (ws.drop m), true) := by unfold wrapBest; rw [if_pos hor]
      rw [e]
      refine Tells.step (fun k => by simp only [laws_FnWrapTail.j0]; rw [if_neg (by rw [List.length_cons, beq_iff_eq]; omega), if_pos (by rw [List.length_cons]; omega), List.drop_succ_cons, List.drop_zero]) ?_
      refine Tells.bind (impl_wordsOf _ lr) ?_
      rw [wordsOf_wrap hbr hr]
      refine Tells.bind (impl_best _ w hsr) ?_
      rw [e3]
      refine Tells.iteT rfl (Tells.iteT rfl (Tells.bind (daTexts _ _ lr.len) ?_))
      exact Tells.of fun k => congrArg some (decide_eq_true rfl)
  · have e1 : wrapBest ws w = ([], false) := by unfold wrapBest; rw [if_neg ho]
    refine Tells.bind (impl_best ws w hsm) (Tells.bind (spec_best ws w hsm) ?_)
    rw [e1]
    refine Tells.bind (daTexts _ _ (by simp)) ?_
    simp only [decide_true, if_true, bne_self_eq_false]
    refine Tells.iteF (by decide) (Tells.iteF (by decide) <| Tells.step (fun k => by simp only [laws_FnWrapTail.j0]; rw [if_pos (by decide)]) (Tells.bind (daTexts _ _ (by simp)) ?_))
    exact Tells.of fun k => rfl

end DocPure
namespace Go.Proofs.YtkpnmninkmnbjaaDoor.Pure
open Go.RowKit Go.Proofs.YtkpnmninkmnbjaaDoor.PKa

theorem FnWrapTail : ∀ l : List Int, (l.length ≤ maxLen ∧ ∀ x ∈ l, (Go.Lit.int .u8 x).wf = true) → ∃ k, laws_FnWrapTail.f k l = some true := by
  intro l h
  by_cases hs : l.length ≤ 1048576
  · exact (DocPure.lawWrapTail l h.2 hs).ex
  · exact ⟨0, by unfold laws_FnWrapTail.f; rw [if_pos (by omega)]⟩

end Go.Proofs.YtkpnmninkmnbjaaDoor.Pure
