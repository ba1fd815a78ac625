/- Two lines cost no less than the best lines, for every input. -/
import Derived.Test.YtkpnmninkmnbjaaDoorPKax0
import Derived.Test.YtkpnmninkmnbjaaDoorPKax12
import Derived.Test.YtkpnmninkmnbjaaDoorPKax8
import Derived.Test.YtkpnmninkmnbjaaDoorKaBestSpec
import Derived.Test.YtkpnmninkmnbjaaDoorKaDaTexts
import Derived.Test.YtkpnmninkmnbjaaDoorKaDrawWords
import Derived.Test.YtkpnmninkmnbjaaDoorKaCostOf
import Derived.Test.YtkpnmninkmnbjaaDoorKaDaLine
namespace DocPure
open Go.RowKit Go.Proofs.YtkpnmninkmnbjaaDoor.PKa Go.Proofs.YtkpnmninkmnbjaaDoorW.PrintWords

theorem halves {ws : List ByteArray} (g1 : ws.length ≤ 18) (g2 : ∀ s ∈ ws, s.size ≤ 12) (i : Nat) : total (ws.take i) ≤ 300 ∧ total (ws.drop i) ≤ 300 ∧ (ws.take i).length ≤ 18 ∧ (ws.drop i).length ≤ 18 := by
  have t12 := total_words (ws := ws.take i) (fun s hs => g2 s (List.mem_of_mem_take hs))
  have d12 := total_words (ws := ws.drop i) (fun s hs => g2 s (List.mem_of_mem_drop hs))
  have t1 : (ws.take i).length ≤ 18 := by rw [List.length_take]; omega
  have d1 : (ws.drop i).length ≤ 18 := by rw [List.length_drop]; omega
  exact ⟨by omega, by omega, t1, d1⟩

theorem two_wrap {ws : List ByteArray} {i : Nat} (h1 : 1 ≤ i) (hi : i < ws.length) : IsWrap ws [lineWith sp1 (ws.take i), lineWith sp1 (ws.drop i)] := by
  have hA : (ws.take i) ≠ [] := fun q => by
    have := congrArg List.length q
    rw [List.length_take, List.length_nil] at this
    omega
  have hB : (ws.drop i) ≠ [] := fun q => by
    have := congrArg List.length q
    rw [List.length_drop, List.length_nil] at this
    omega
  have h := IsWrap.cons hA (IsWrap.cons hB IsWrap.nil)
  rw [List.append_nil, List.take_append_drop] at h
  exact h

theorem two_l0 (ws : List ByteArray) (w best : Int) (ho : (wordsOk ws && okWidth w) = true) (hb : ∀ ls, IsWrap ws ls → best ≤ costLines w ls) : ∀ (d i : Nat), 1 ≤ i → i + d = ws.length + 1 →
    Tells (fun k => laws_FnWrapTwo.l0 k ws w best (i : Int)) true
  | 0, i, h1, hd => by
    refine Tells.step (fun k => ?_) (Tells.pure _)
    simp only [laws_FnWrapTwo.l0]
    rw [if_neg (by omega)]
  | d + 1, i, h1, hd => by
    obtain ⟨g1, g2, g3, g4⟩ := ok_parts ho
    by_cases hi : i < ws.length
    · have ew : wrap64 ((i : Int) + 1) = ((i + 1 : Nat) : Int) := by rw [wr64 (by omega) (by omega)]; rfl
      obtain ⟨s1, s2, s3, s4⟩ := halves g1 (fun s hs => (g2 s hs).2) i
      have q1 : 1 ≤ i + 1 := by omega
      have q2 : i + 1 + d = ws.length + 1 := by omega
      refine Tells.step (fun k => by simp only [laws_FnWrapTwo.l0]; rw [if_pos (by omega), if_pos (by omega), if_pos (by omega), Int.toNat_natCast, ew]) ?_
      have hwr := two_wrap h1 hi
      have hok := (Bool.and_eq_true _ _).mp ho
      have hlL := wrap_lines hwr hok.1
      have hc := hb _ hwr
      have ih := two_l0 ws w best ho hb d (i + 1) q1 q2
      refine Tells.bind (daLine _ (Nat.le_trans s3 (by decide)) (Nat.le_trans s1 (by decide))) (Tells.bind (daLine _ (Nat.le_trans s4 (by decide)) (Nat.le_trans s2 (by decide))) ?_)
      refine Tells.bind (impl_cost _ w hlL) ?_
      rw [cost_wrap hwr ho]
      exact Tells.iteT rfl (Tells.iteF (Int.not_lt.mpr hc) ih)
    · refine Tells.step (fun k => ?_) (Tells.pure _)
      simp only [laws_FnWrapTwo.l0]
      rw [if_neg (by omega)]

theorem lawWrapTwo (l : List Int) (hl : ∀ x ∈ l, (Go.Lit.int .u8 x).wf = true) (hs : l.length ≤ 1048576) : Tells (fun k => laws_FnWrapTwo.f k l) true := by
  obtain ⟨ws, w, hd, hD, hw0, hw1⟩ := drawCase hl
  have hsm : Small ws := ⟨by have := hD.len; omega, fun s hs => by have := hD.sz s hs; omega⟩
  refine Tells.congr (fun k => by unfold laws_FnWrapTwo.f; rw [if_neg (by omega)]) ?_
  refine Tells.bind (r := (ws, w)) (by unfold spec_DrawWrapBest.f; exact Tells.bind hd (Tells.pure _)) ?_
  by_cases ho : (wordsOk ws && okWidth w) = true
  · have hok := (Bool.and_eq_true _ _).mp ho
    have e1 : wrapBest ws w = (bestLines w ws, true) := by unfold wrapBest; rw [if_pos ho]
    have hb : IsWrap ws (bestLines w ws) := bestLines_wrap w ws
    have lb := wrap_lines hb hok.1
    refine Tells.bind (impl_best ws w hsm) (Tells.bind (spec_best ws w hsm) ?_)
    rw [e1]
    refine Tells.bind (daTexts _ _ lb.len) ?_
    simp only [decide_true, if_true, bne_self_eq_false]
    refine Tells.iteF (by decide) (Tells.step (fun k => by simp only [laws_FnWrapTwo.j0]; rw [if_neg (by decide)]) ?_)
    refine Tells.bind (impl_cost _ w lb) ?_
    rw [cost_wrap hb ho]
    exact two_l0 ws w _ ho (fun ls h => by rw [bestLines_cost]; exact bc_least w h) ws.length 1 (by omega) (by omega)
  · have e1 : wrapBest ws w = ([], false) := by unfold wrapBest; rw [if_neg ho]
    refine Tells.bind (impl_best ws w hsm) (Tells.bind (spec_best ws w hsm) ?_)
    rw [e1]
    refine Tells.bind (daTexts _ _ (by simp)) ?_
    simp only [decide_true, if_true, bne_self_eq_false]
    refine Tells.iteF (by decide) (Tells.step (fun k => by simp only [laws_FnWrapTwo.j0]; rw [if_pos (by decide)]) (Tells.bind (daTexts _ _ (by simp)) ?_))
    exact Tells.of fun k => rfl

end DocPure
namespace Go.Proofs.YtkpnmninkmnbjaaDoor.Pure
open Go.RowKit Go.Proofs.YtkpnmninkmnbjaaDoor.PKa

theorem FnWrapTwo : ∀ l : List Int, (l.length ≤ maxLen ∧ ∀ x ∈ l, (Go.Lit.int .u8 x).wf = true) → ∃ k, laws_FnWrapTwo.f k l = some true := by
  intro l h
  by_cases hs : l.length ≤ 1048576
  · exact (DocPure.lawWrapTwo l h.2 hs).ex
  · exact ⟨0, by unfold laws_FnWrapTwo.f; rw [if_pos (by omega)]⟩

end Go.Proofs.YtkpnmninkmnbjaaDoor.Pure
