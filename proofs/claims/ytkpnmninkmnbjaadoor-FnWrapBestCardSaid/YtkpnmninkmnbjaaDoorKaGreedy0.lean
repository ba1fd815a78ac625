/- The printed WrapGreedy of the program is the plain one. -/
import Derived.Test.YtkpnmninkmnbjaaDoorPKax0
import Derived.Test.YtkpnmninkmnbjaaDoorPKax2
import Derived.Test.YtkpnmninkmnbjaaDoorKaWrapOk
import Derived.Test.YtkpnmninkmnbjaaDoorKaGreedy
namespace DocPure
open Go.RowKit Go.Proofs.YtkpnmninkmnbjaaDoor.PKa Go.Proofs.YtkpnmninkmnbjaaDoorW.PrintWords

def wrapGreedy (ws : List ByteArray) (w : Int) : List ByteArray × Bool :=
  if wordsOk ws && okWidth w then (greedy w [] ws, true) else ([], false)

theorem lastOf_rd {out : List ByteArray} (h : 1 ≤ out.length) (h2 : out.length ≤ 1000) : rdOf ByteArray.empty out (wrap64 ((out.length : Int) - 1)) = lastOf out := by
  rw [wr64 (by omega) (by omega)]
  unfold rdOf lastOf
  congr 1
  omega

theorem impl_greedy_l0 (ws : List ByteArray) (w : Int) (hn : ws.length ≤ 18) (hs : ∀ s ∈ ws, s.size ≤ 12) : ∀ (d i : Nat) (out : List ByteArray), i + d = ws.length → out.length ≤ i → Short i out → (1 ≤ i → 1 ≤ out.length) →
    Tells (fun k => impl_WrapGreedy.l0 k w out ws (ws.length : Int) (i : Int)) (greedy w out (ws.drop i), true)
  | 0, i, out, hd, hl, hsh, h1 => by
    rw [List.drop_of_length_le (by omega)]
    refine Tells.step (fun k => ?_) (Tells.pure _)
    simp only [impl_WrapGreedy.l0]
    rw [if_neg (by omega)]; rfl
  | d + 1, i, out, hd, hl, hsh, h1 => by
    have hw := hs _ (List.getElem_mem (l := ws) (n := i) (by omega))
    have hg := greedyStep_len w out (ws[i]'(by omega))
    have ih := impl_greedy_l0 ws w hn hs d (i + 1) (greedyStep w out (ws[i]'(by omega))) (by omega) (by omega) (greedyStep_short hsh hw) (fun _ => hg.1)
    have hlast := lastOf_short hsh
    have e1 : sp1.size = 1 := rfl
    rw [List.drop_eq_getElem_cons (by omega)]
    unfold greedy
    refine Tells.step (fun k => ?_) ih
    simp only [impl_WrapGreedy.l0]
    rw [if_pos (by omega), if_pos (by omega), if_pos (by omega), rdS_get (by omega)]
    have hi : wrap64 ((i : Int) + 1) = ((i + 1 : Nat) : Int) := by rw [wr64 (by omega) (by omega)]; rfl
    rw [hi]
    by_cases ho : 1 ≤ out.length
    · rw [lastOf_rd ho (by omega)]
      have hp : wrap64 ((out.length : Int) - 1) = ((out.length - 1 : Nat) : Int) := by rw [wr64 (by omega) (by omega)]; omega
      rw [hp, if_pos (by omega), if_pos (by omega), if_pos (by omega), wr64 (n := ((lastOf out).size : Int) + 1) (by omega) (by omega), wr64 (by omega) (by omega)]
      unfold greedyStep
      by_cases hc : ((lastOf out).size : Int) + 1 + (ws[i]'(by omega)).size ≤ w
      · rw [if_pos hc, if_pos (by omega), if_pos, if_pos ⟨ho, hc⟩]
        · rfl
        · show (lastOf out).size + (sp1 ++ _).size ≤ _
          rw [ByteArray.size_append, e1]; omega
      · rw [if_neg hc, if_pos (by omega), if_neg (fun h => hc h.2)]
    · have h0 : out = [] := List.eq_nil_of_length_eq_zero (by omega)
      subst h0
      unfold greedyStep
      rw [if_neg (by rw [wr64 (by simp) (by simp)]; simp), if_pos (by simp), if_neg (by simp)]

theorem impl_greedy (ws : List ByteArray) (w : Int) (hs : Small ws) : Tells (fun k => impl_WrapGreedy.f k ws w) (wrapGreedy ws w) := by
  unfold impl_WrapGreedy.f wrapGreedy
  refine Tells.bind (impl_wrapOk_tells ws w hs) ?_
  cases h : (wordsOk ws && okWidth w) with
  | false => exact Tells.of fun k => rfl
  | true =>
    obtain ⟨h1, h2, h3, h4⟩ := ok_parts h
    exact Tells.congr (fun k => if_pos rfl) (impl_greedy_l0 ws w h1 (fun s hm => (h2 s hm).2) ws.length 0 [] (by omega) (by simp) (fun l hl => by cases hl) (fun h => by omega))

theorem wrapGreedy_len (ws : List ByteArray) (w : Int) : (wrapGreedy ws w).1.length ≤ 18 := by
  unfold wrapGreedy
  cases h : (wordsOk ws && okWidth w) with
  | false => simp
  | true =>
    have h1 := greedy_len w ws []
    have h2 := (ok_parts h).1
    have h3 : ([] : List ByteArray).length = 0 := rfl
    show (greedy w [] ws).length ≤ 18
    omega

end DocPure
