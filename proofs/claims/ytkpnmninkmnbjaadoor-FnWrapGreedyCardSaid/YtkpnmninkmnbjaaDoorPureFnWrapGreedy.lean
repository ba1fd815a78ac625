/- Greedy lines have all words, and no first word of a line fits in the line before, for every input. -/
import Derived.Test.YtkpnmninkmnbjaaDoorPKax0
import Derived.Test.YtkpnmninkmnbjaaDoorPKax1
import Derived.Test.YtkpnmninkmnbjaaDoorPKax6
import Derived.Test.YtkpnmninkmnbjaaDoorKaGreedy1
import Derived.Test.YtkpnmninkmnbjaaDoorKaDaTexts
import Derived.Test.YtkpnmninkmnbjaaDoorKaDrawWords
import Derived.Test.YtkpnmninkmnbjaaDoorKaWrapWords
import Derived.Test.YtkpnmninkmnbjaaDoorKaGreedyG
namespace DocPure
open Go.RowKit Go.Proofs.YtkpnmninkmnbjaaDoor.PKa Go.Proofs.YtkpnmninkmnbjaaDoorW.PrintWords

theorem ok_group {ws g : List ByteArray} {gs : List (List ByteArray)} (hw : wordsOk ws = true) (e : gs.flatten = ws) (hg : g ∈ gs) : wordsOk g = true := by
  have hs : g.Sublist ws := by rw [← e]; exact List.sublist_flatten_of_mem hg
  unfold wordsOk at hw ⊢
  rw [Bool.and_eq_true, decide_eq_true_iff] at hw ⊢
  refine ⟨List.all_eq_true.2 fun x hx => List.all_eq_true.1 hw.1 x (hs.subset hx), ?_⟩
  have := hs.length_le
  omega

theorem one_slice (x : List ByteArray) (i : Nat) (h : i < x.length) : (x.take (i + 1)).drop i = [x[i]'h] := by
  rw [List.take_succ_eq_append_getElem h, List.drop_append_of_le_length (by rw [List.length_take]; omega), List.drop_of_length_le (by rw [List.length_take]; omega)]; rfl

theorem first_rd : ∀ {g : List ByteArray}, g ≠ [] → rdOf ByteArray.empty g 0 = firstOf g
  | [], h => absurd rfl h
  | _ :: _, _ => rfl

theorem first_small : ∀ {g : List ByteArray}, wordsOk g = true → (firstOf g).size ≤ 12
  | [], _ => by decide
  | _ :: _, h => ((words_small h).2 _ (List.mem_cons_self ..)).2

theorem wgreedy_l0 (ws : List ByteArray) (w : Int) (gs : List (List ByteArray)) (hw : wordsOk ws = true) (hG : Groups w ws (gs.map lineOf) gs) (hl : ws.length ≤ 100) (hlen : gs.length ≤ 1000) (hsz : ∀ x ∈ gs.map lineOf, x.size ≤ 300) : ∀ (d i : Nat), 1 ≤ i → i + d = gs.length + 1 →
    Tells (fun k => laws_FnWrapGreedy.l0 k ws w (gs.map lineOf) ws true (i : Int)) true
  | 0, i, h1, hd => by
    refine Tells.step (fun k => by simp only [laws_FnWrapGreedy.l0]; rw [if_neg (by rw [List.length_map]; omega), if_pos trivial]) (Tells.bind (daTexts ws ws (by omega)) ?_)
    exact Tells.of fun k => congrArg some (decide_eq_true rfl)
  | d + 1, i, h1, hd => by
    by_cases hi : i < gs.length
    · obtain ⟨j, rfl⟩ : ∃ j, i = j + 1 := ⟨i - 1, by omega⟩
      have hm1 : gs[j + 1] ∈ gs := List.getElem_mem hi
      have hok := ok_group hw hG.words hm1
      have hne := hG.ne _ hm1
      have hwr : IsWrap gs[j + 1] [lineOf gs[j + 1]] := by
        have h := IsWrap.cons hne IsWrap.nil
        rw [List.append_nil] at h
        exact h
      have hL := wrap_lines hwr hok
      have hnf := full_get w gs j hi hG.full
      unfold NoFit at hnf
      have hj : j < gs.length := by omega
      have hs1 : (lineOf gs[j]).size ≤ 300 := hsz _ (List.mem_map.2 ⟨gs[j], List.getElem_mem hj, rfl⟩)
      have hs2 : (firstOf gs[j + 1]).size ≤ 12 := first_small hok
      have hpos : 0 < gs[j + 1].length := List.length_pos_iff.2 hne
      have hlg : gs[j + 1].length ≤ 18 := (words_small hok).1
      have ew : wrap64 (((j + 1 : Nat) : Int) + 1) = ((j + 1 + 1 : Nat) : Int) := by rw [wr64 (by omega) (by omega)]; rfl
      have ew' : wrap64 (((j + 1 : Nat) : Int) - 1) = (j : Int) := by rw [wr64 (by omega) (by omega)]; omega
      have e0 : rdOf ByteArray.empty (gs.map lineOf) (j : Int) = lineOf gs[j] := by rw [rdS_get (by rw [List.length_map]; exact hj), List.getElem_map]
      have e1 : rdOf ByteArray.empty gs[j + 1] 0 = firstOf gs[j + 1] := first_rd hne
      have es : ((gs.map lineOf).take (j + 1 + 1)).drop (j + 1) = [lineOf gs[j + 1]] := by rw [one_slice _ _ (by rw [List.length_map]; exact hi), List.getElem_map]
      refine Tells.step (fun k => by simp only [laws_FnWrapGreedy.l0]; rw [if_pos (by rw [List.length_map]; omega), if_pos (by omega), ew, if_pos (by omega), if_pos (by rw [List.length_map]; omega), Int.toNat_natCast, Int.toNat_natCast, es, ew', e0]) ?_
      refine Tells.bind (impl_wordsOf _ hL) ?_
      rw [wordsOf_wrap hwr hok]
      refine Tells.iteT (by omega) (Tells.iteT (by rw [List.length_map]; omega) (Tells.iteT (by show (0 : Int) < (gs[j + 1].length : Int); omega) ?_))
      refine Tells.iteF ?_ (wgreedy_l0 ws w gs hw hG hl hlen hsz d (j + 1 + 1) (by omega) (by omega))
      dsimp only
      rw [e1, wr64 (n := ((lineOf gs[j]).size : Int) + 1) (by omega) (by omega), wr64 (by omega) (by omega)]
      omega
    · refine Tells.step (fun k => by simp only [laws_FnWrapGreedy.l0]; rw [if_neg (by rw [List.length_map]; omega), if_pos trivial]) (Tells.bind (daTexts ws ws (by omega)) ?_)
      exact Tells.of fun k => congrArg some (decide_eq_true rfl)

theorem lawWrapGreedy (l : List Int) (hl : ∀ x ∈ l, (Go.Lit.int .u8 x).wf = true) (hs : l.length ≤ 1048576) : Tells (fun k => laws_FnWrapGreedy.f k l) true := by
  obtain ⟨ws, w, hd, hD, hw0, hw1⟩ := drawCase hl
  have hsm : Small ws := ⟨by have := hD.len; omega, fun s hs => by have := hD.sz s hs; omega⟩
  refine Tells.congr (fun k => by unfold laws_FnWrapGreedy.f; rw [if_neg (by omega)]) ?_
  refine Tells.bind (r := (ws, w)) (by unfold spec_DrawWrapGreedy.f; exact Tells.bind hd (Tells.pure _)) ?_
  by_cases ho : (wordsOk ws && okWidth w) = true
  · have hok := (Bool.and_eq_true _ _).mp ho
    have e1 : wrapGreedy ws w = (greedy w [] ws, true) := by unfold wrapGreedy; rw [if_pos ho]
    have hb : IsWrap ws (greedy w [] ws) := greedy_wrap w ws [] [] IsWrap.nil
    have lb := wrap_lines hb hok.1
    refine Tells.bind (impl_greedy ws w hsm) (Tells.bind (spec_greedy ws w hsm) ?_)
    rw [e1]
    refine Tells.bind (daTexts _ _ lb.len) ?_
    simp only [decide_true, if_true, bne_self_eq_false]
    refine Tells.iteF (by decide) (Tells.step (fun k => by simp only [laws_FnWrapGreedy.j0]; rw [if_neg (by decide)]) ?_)
    refine Tells.bind (impl_wordsOf _ lb) ?_
    rw [wordsOf_wrap hb hok.1]
    obtain ⟨gs, hG⟩ := greedy_groups w ws
    have he := hG.lines
    have hsm2 := (wrap_small hb hok.1)
    rw [he] at hG hsm2 ⊢
    have hlen := hsm2.1
    rw [List.length_map] at hlen
    exact wgreedy_l0 ws w gs hok.1 hG (by have := hD.len; omega) (by omega) hsm2.2 gs.length 1 (by omega) (by omega)
  · have e1 : wrapGreedy ws w = ([], false) := by unfold wrapGreedy; rw [if_neg ho]
    refine Tells.bind (impl_greedy ws w hsm) (Tells.bind (spec_greedy ws w hsm) ?_)
    rw [e1]
    refine Tells.bind (daTexts _ _ (by simp)) ?_
    simp only [decide_true, if_true, bne_self_eq_false]
    refine Tells.iteF (by decide) (Tells.step (fun k => by simp only [laws_FnWrapGreedy.j0]; rw [if_pos (by decide)]) (Tells.bind (daTexts _ _ (by simp)) ?_))
    exact Tells.of fun k => rfl

end DocPure
namespace Go.Proofs.YtkpnmninkmnbjaaDoor.Pure
open Go.RowKit Go.Proofs.YtkpnmninkmnbjaaDoor.PKa

theorem FnWrapGreedy : ∀ l : List Int, (l.length ≤ maxLen ∧ ∀ x ∈ l, (Go.Lit.int .u8 x).wf = true) → ∃ k, laws_FnWrapGreedy.f k l = some true := by
  intro l h
  by_cases hs : l.length ≤ 1048576
  · exact (DocPure.lawWrapGreedy l h.2 hs).ex
  · exact ⟨0, by unfold laws_FnWrapGreedy.f; rw [if_pos (by omega)]⟩

end Go.Proofs.YtkpnmninkmnbjaaDoor.Pure
