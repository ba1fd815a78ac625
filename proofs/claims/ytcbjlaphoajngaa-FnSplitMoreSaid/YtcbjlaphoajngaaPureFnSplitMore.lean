/- Widths grow by one: for every input, one byte more of width goes to one column, or nobody needs more. -/
import Derived.Test.YtcbjlaphoajngaaPSpx5
import Derived.Test.YtcbjlaphoajngaaSpLink
import Derived.Test.YtcbjlaphoajngaaSpInts
import Derived.Test.YtcbjlaphoajngaaSpDraw
namespace DocPure
open Go.RowKit Go.Proofs.Ytcbjlaphoajngaa.PSp Go.Proofs.YtcbjlaphoajngaaW.PrintWords

theorem more_l0 (need list next : List Int) (fine : Bool) (hl : next.length = list.length) (hn : next.length ≤ 20) (ho : ∀ i : Nat, i < list.length → rd list i ≤ rd next i ∧ 0 ≤ rd list i ∧ rd next i ≤ 1000) (r : Bool)
    (hr : ∀ s : Int, s = spSum next - spSum list → Tells (fun k => if fine = true then (if s = 1 then (some true) else (if s = 0 then ((laws_daInts.f k list need).bind fun t => (some t)) else (some false))) else (some true)) r) :
    ∀ (d i : Nat) (s : Int), i + d = next.length → s = spSum (next.take i) - spSum (list.take i) → 0 ≤ s → s ≤ 1000 * i → Tells (fun k => laws_FnSplitMore.l0 k need list next fine s (i : Int)) r
  | 0, i, s, hd, hs, h0, h1 => by
    rw [List.take_of_length_le (by omega), List.take_of_length_le (by omega)] at hs
    refine Tells.step (fun k => ?_) (hr s hs)
    simp only [laws_FnSplitMore.l0]
    rw [if_neg (by omega)]
  | d + 1, i, s, hd, hs, h0, h1 => by
    obtain ⟨o1, o2, o3⟩ := ho i (by omega)
    have st : ∀ (l : List Int) (h : i < l.length), spSum (l.take (i + 1)) = spSum (l.take i) + rd l i := fun l h => by
      rw [List.take_succ_eq_append_getElem h, rd_get h]
      unfold spSum
      rw [List.foldr_append]
      simp only [List.foldr_cons, List.foldr_nil, Int.add_zero]
      have g : ∀ (q : List Int) (x : Int), q.foldr (· + ·) x = q.foldr (· + ·) 0 + x := fun q x => by
        induction q with
        | nil => simp
        | cons a q ih => simp only [List.foldr_cons]; rw [ih]; omega
      exact g _ _
    refine Tells.step (fun k => ?_) (more_l0 need list next fine hl hn ho r hr d (i + 1) (s + rd next i - rd list i) (by omega) (by rw [st _ (by omega), st _ (by omega)]; omega) (by omega) (by omega))
    simp only [laws_FnSplitMore.l0]
    rw [if_pos (by omega), if_pos (by omega), if_pos (by omega), if_neg (by omega), wr64 (n := s + rd next i) (by omega) (by omega), wr64 (by omega) (by omega), wr64 (by omega) (by omega)]
    rfl

theorem splitMore (need : List Int) (w : Int) (hw : okSplit need w = true) : Tells (fun k => laws_FnSplitMore.l0 k need (spSplit need w).1 (spSplit need (w + 1)).1 (spSplit need (w + 1)).2 0 0) true := by
  have f := split_fair hw
  have hl := f.len
  have h20 := (okSplit_iff.1 hw).2.1
  have hN := (okSplit_iff.1 hw).2.2.2.2
  by_cases hw' : okSplit need (w + 1) = true
  · have f' := split_fair hw'
    have hl' := f'.len
    have e2 : (spSplit need (w + 1)).2 = true := by unfold spSplit; rw [if_pos hw']
    have bnd : ∀ i : Nat, i < need.length → rd (spSplit need (w + 1)).1 i ≤ 1000 := fun i hi => by
      have a := f'.hi i (by omega) (by omega)
      have c := (hN _ (gi_mem (l := need) (i := i) (by omega) (by omega))).2
      exact Int.le_trans a (by omega)
    have lo : ∀ i : Nat, i < need.length → 0 ≤ rd (spSplit need w).1 i := fun i hi => f.lo i (by omega) (by omega)
    have go := more_l0 need (spSplit need w).1 (spSplit need (w + 1)).1 (spSplit need (w + 1)).2 (by omega) (by omega)
    rcases split_more hw hw' with ⟨a, c⟩ | ⟨b, b0, b1, a⟩
    · refine go (fun i hi => ⟨by rw [a]; exact Int.le_refl _, lo i (by omega), bnd i (by omega)⟩) true ?_ need.length 0 0 (by omega) (by simp [spSum]) (by omega) (by omega)
      rintro s rfl
      rw [e2, a, Int.sub_self]
      simp only [if_true]
      refine Tells.congr (fun k => if_neg (by decide)) (Tells.bind (daInts _ _ (by omega)) ?_)
      rw [decide_eq_true c]
      exact Tells.pure _
    · refine go (fun i hi => ⟨?_, lo i (by omega), bnd i (by omega)⟩) true ?_ need.length 0 0 (by omega) (by simp [spSum]) (by omega) (by omega)
      · have g := gi_set (spSplit need w).1 b i (rdi (spSplit need w).1 b + 1) b0 (by omega) (by omega)
        rw [a]
        show rdi _ _ ≤ rdi _ _
        rw [g]
        by_cases e : (i : Int) = b
        · rw [if_pos e, e]; omega
        · rw [if_neg e]; exact Int.le_refl _
      · rintro s rfl
        have e : spSum (spSplit need (w + 1)).1 - spSum (spSplit need w).1 = 1 := by
          rw [a, sum_set _ _ _ (by omega)]
          unfold rdi
          omega
        rw [e, e2]
        exact Tells.of fun k => rfl
  · have e1 : spSplit need (w + 1) = ([], false) := by unfold spSplit; rw [if_neg hw']
    rw [e1]
    refine Tells.step (fun k => ?_) (Tells.pure _)
    simp only [laws_FnSplitMore.l0]
    rw [if_neg (by simp), if_neg (by decide)]

theorem lawSplitMore (l : List Int) (hl : ∀ x ∈ l, (Go.Lit.int .u8 x).wf = true) (hs : l.length ≤ 1048576) : Tells (fun k => laws_FnSplitMore.f k l) true := by
  obtain ⟨need, w, hd, hn⟩ := drawSplit hl
  have hq := spSplit_len need w
  refine Tells.congr (fun k => by unfold laws_FnSplitMore.f; rw [if_neg (by omega)]) ?_
  refine Tells.bind hd (Tells.bind (impl_split need w) (Tells.bind (spec_split need w (by omega)) (Tells.bind (daInts _ _ (by omega)) ?_)))
  simp only [decide_true, if_true, bne_self_eq_false]
  refine Tells.congr (fun k => if_neg (by decide)) ?_
  by_cases ho : okSplit need w = true
  · have e2 : (spSplit need w).2 = true := by unfold spSplit; rw [if_pos ho]
    rw [e2]
    have hw := (okSplit_iff.1 ho).2.2
    refine Tells.step (fun k => by simp only [laws_FnSplitMore.j0]; rw [if_neg (by decide), wr64 (by omega) (by omega)]) (Tells.bind (impl_split need (w + 1)) (splitMore need w ho))
  · have e2 : spSplit need w = ([], false) := by unfold spSplit; rw [if_neg ho]
    rw [e2]
    refine Tells.step (fun k => by simp only [laws_FnSplitMore.j0]; rw [if_pos (by decide)]) (Tells.bind (daInts _ _ (by simp)) ?_)
    exact Tells.of fun k => rfl

end DocPure
namespace Go.Proofs.Ytcbjlaphoajngaa.Pure
open Go.RowKit Go.Proofs.Ytcbjlaphoajngaa.PSp Go.Proofs.YtcbjlaphoajngaaW.PrintWords Go.Proofs.YtcbjlaphoajngaaW.PrintLast

theorem FnSplitMore : laws_FnSplitMore.Pure := by
  intro l _ _ hl
  by_cases h : l.length ≤ 1048576
  · exact (DocPure.lawSplitMore l hl h).ex
  · exact ⟨0, by unfold laws_FnSplitMore.f; rw [if_pos (by omega)]⟩

end Go.Proofs.Ytcbjlaphoajngaa.Pure
