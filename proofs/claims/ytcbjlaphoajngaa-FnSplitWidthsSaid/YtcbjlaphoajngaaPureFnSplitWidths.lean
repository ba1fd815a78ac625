/- Widths are divided fairly: for every input, no column has more than it needs, none that needs more has two bytes less than another one, and all of the width is used up or nobody needs more. -/
import Derived.Test.YtcbjlaphoajngaaPSpx6
import Derived.Test.YtcbjlaphoajngaaSpLink
import Derived.Test.YtcbjlaphoajngaaSpInts
import Derived.Test.YtcbjlaphoajngaaSpDraw
namespace DocPure
open Go.RowKit Go.Proofs.Ytcbjlaphoajngaa.PSp Go.Proofs.YtcbjlaphoajngaaW.PrintWords

theorem sum_take (l : List Int) (i : Nat) (h : i < l.length) : spSum (l.take (i + 1)) = spSum (l.take i) + rd l i := by
  rw [List.take_succ_eq_append_getElem h, rd_get h]
  unfold spSum
  rw [List.foldr_append]
  simp only [List.foldr_cons, List.foldr_nil, Int.add_zero]
  have g : ∀ (q : List Int) (x : Int), q.foldr (· + ·) x = q.foldr (· + ·) 0 + x := fun q x => by
    induction q with
    | nil => simp
    | cons a q ih => simp only [List.foldr_cons]; rw [ih]; omega
  exact g _ _

section
variable (need list : List Int) (w : Int) (hf : Evenly need list) (hn : need.length ≤ 20) (hN : ∀ n ∈ need, 0 ≤ n ∧ n ≤ 200)
include hf hn hN

theorem widths_l1 (s a : Int) (i : Nat) (hi : i < need.length) (r : Bool)
    (hr : Tells (fun k => laws_FnSplitWidths.l0 k need w list (wrap64 (s + rd list i)) (wrap64 (a + rd need i)) (wrap64 ((i : Int) + 1))) r) :
    ∀ (d j : Nat), j + d = need.length → Tells (fun k => laws_FnSplitWidths.l1 k need w list s a (i : Int) (j : Int)) r
  | 0, j, hd => by
    have hl := hf.len
    refine Tells.step (fun k => ?_) hr
    simp only [laws_FnSplitWidths.l1]
    rw [if_neg (by omega), if_pos (by omega), if_pos (by omega), if_pos (by omega)]
  | d + 1, j, hd => by
    have hl := hf.len
    refine Tells.step (fun k => ?_) (widths_l1 s a i hi r hr d (j + 1) (by omega))
    have hw : wrap64 ((j : Int) + 1) = ((j + 1 : Nat) : Int) := by rw [wr64 (by omega) (by omega)]; rfl
    simp only [laws_FnSplitWidths.l1]
    rw [if_pos (by omega), if_pos (by omega), if_pos (by omega), if_pos (by omega), hw]
    by_cases h : rd list i < rd need i
    · have e := hf.even i j (by omega) (by omega) (by omega) (by omega) h
      have lo : 0 ≤ rd list i := hf.lo i (by omega) (by omega)
      have hi2 : rd need i ≤ 200 := (hN _ (gi_mem (l := need) (i := i) (by omega) (by omega))).2
      rw [if_pos h, if_pos (by omega), if_neg]
      rw [wr64 (by omega) (by omega)]
      exact Int.not_lt.2 e
    · rw [if_neg h]

theorem widths_l0 (r : Bool) (hr : Tells (fun _ => if spSum list = w then (if spSum need ≥ w then (some true) else (if spSum list = spSum need then (some (decide (spSum need ≤ w))) else (some false))) else (if spSum list = spSum need then (some (decide (spSum need ≤ w))) else (some false))) r) :
    ∀ (d i : Nat) (s a : Int), i + d = need.length → s = spSum (list.take i) → a = spSum (need.take i) → 0 ≤ s → s ≤ 200 * i → 0 ≤ a → a ≤ 200 * i →
      Tells (fun k => laws_FnSplitWidths.l0 k need w list s a (i : Int)) r
  | 0, i, s, a, hd, hs, ha, _, _, _, _ => by
    have hl := hf.len
    rw [List.take_of_length_le (by omega)] at hs ha
    subst hs ha
    refine Tells.step (fun k => ?_) hr
    simp only [laws_FnSplitWidths.l0]
    rw [if_neg (by omega)]
  | d + 1, i, s, a, hd, hs, ha, s0, s1, a0, a1 => by
    have hl := hf.len
    have lo : 0 ≤ rd list i := hf.lo i (by omega) (by omega)
    have hi' : rd list i ≤ rd need i := hf.hi i (by omega) (by omega)
    have hi2 : rd need i ≤ 200 := (hN _ (gi_mem (l := need) (i := i) (by omega) (by omega))).2
    have ih := widths_l0 r hr d (i + 1) (s + rd list i) (a + rd need i) (by omega) (by rw [sum_take _ _ (by omega), hs]) (by rw [sum_take _ _ (by omega), ha]) (by omega) (by omega) (by omega) (by omega)
    have h1 := widths_l1 need list w hf hn hN s a i (by omega) r (by
      rw [wr64 (n := s + _) (by omega) (by omega), wr64 (n := a + _) (by omega) (by omega), wr64 (n := (i : Int) + 1) (by omega) (by omega)]; exact ih) need.length 0 (by omega)
    refine Tells.step (g' := fun k => laws_FnSplitWidths.j2 k need w list s a (i : Int) false) (fun k => ?_) (Tells.step (fun k => by simp only [laws_FnSplitWidths.j2]; rw [if_neg (by decide)]; rfl) h1)
    simp only [laws_FnSplitWidths.l0]
    rw [if_pos (by omega), if_pos (by omega), if_neg (by omega), if_pos (by omega), decide_eq_false (by omega)]
end

theorem lawSplitWidths (l : List Int) (hl : ∀ x ∈ l, (Go.Lit.int .u8 x).wf = true) (hs : l.length ≤ 1048576) : Tells (fun k => laws_FnSplitWidths.f k l) true := by
  obtain ⟨need, w, hd, hn⟩ := drawSplit hl
  have hq := spSplit_len need w
  refine Tells.congr (fun k => by unfold laws_FnSplitWidths.f; rw [if_neg (by omega)]) ?_
  refine Tells.bind hd (Tells.bind (impl_split need w) (Tells.bind (spec_split need w (by omega)) (Tells.bind (daInts _ _ (by omega)) ?_)))
  simp only [decide_true, if_true, bne_self_eq_false]
  refine Tells.congr (fun k => if_neg (by decide)) ?_
  by_cases ho : okSplit need w = true
  · have e2 : (spSplit need w).2 = true := by unfold spSplit; rw [if_pos ho]
    rw [e2]
    obtain ⟨_, h20, hw0, hw1, hN⟩ := okSplit_iff.1 ho
    refine Tells.step (fun k => by simp only [laws_FnSplitWidths.j0]; rw [if_neg (by decide)]) ?_
    refine widths_l0 need (spSplit need w).1 w (split_fair ho) h20 hN true ?_ need.length 0 0 0 (by omega) (by simp [spSum]) (by simp [spSum]) (by omega) (by omega) (by omega) (by omega)
    refine Tells.of fun _ => ?_
    rcases split_sum ho with e | ⟨e, hle⟩
    · rw [if_pos e]
      by_cases hb : spSum need ≥ w
      · rw [if_pos hb]
      · exfalso
        have hle : ∀ (a b : List Int), a.length = b.length → (∀ i : Int, 0 ≤ i → i < (a.length : Int) → rdi a i ≤ rdi b i) → spSum a ≤ spSum b := by
          intro a
          induction a with
          | nil => intro b h _; cases b with | nil => exact Int.le_refl _ | cons _ _ => cases h
          | cons x a ih =>
            intro b h hi
            cases b with
            | nil => simp at h
            | cons y b =>
              have h0 := hi 0 (by omega) (by simp)
              have hr := ih b (by simpa using h) fun i i0 i1 => by
                have := hi (i + 1) (by omega) (by simp; omega)
                unfold rdi at this ⊢
                rw [show (i + 1).toNat = i.toNat + 1 from by omega] at this
                simpa using this
              simp only [spSum, List.foldr_cons] at hr ⊢
              unfold rdi at h0
              simp at h0
              omega
        have := hle _ _ (split_fair ho).len fun i i0 i1 => (split_fair ho).hi i i0 (by have := (split_fair ho).len; omega)
        omega
    · rw [e]
      by_cases h1 : spSum need = w
      · rw [if_pos h1, if_pos (by omega)]
      · rw [if_neg h1, if_pos rfl, decide_eq_true hle]
  · have e2 : spSplit need w = ([], false) := by unfold spSplit; rw [if_neg ho]
    rw [e2]
    refine Tells.step (fun k => by simp only [laws_FnSplitWidths.j0]; rw [if_pos (by decide)]) (Tells.bind (daInts _ _ (by simp)) ?_)
    exact Tells.of fun k => rfl

end DocPure
namespace Go.Proofs.Ytcbjlaphoajngaa.Pure
open Go.RowKit Go.Proofs.Ytcbjlaphoajngaa.PSp Go.Proofs.YtcbjlaphoajngaaW.PrintWords Go.Proofs.YtcbjlaphoajngaaW.PrintLast

theorem FnSplitWidths : laws_FnSplitWidths.Pure := by
  intro l _ _ hl
  by_cases h : l.length ≤ 1048576
  · exact (DocPure.lawSplitWidths l hl h).ex
  · exact ⟨0, by unfold laws_FnSplitWidths.f; rw [if_pos (by omega)]⟩

end Go.Proofs.Ytcbjlaphoajngaa.Pure
