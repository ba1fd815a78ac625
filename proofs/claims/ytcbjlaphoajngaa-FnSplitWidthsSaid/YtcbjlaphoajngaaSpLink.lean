/- The printed functions of dividing widths are the plain one. -/
import Derived.Test.YtcbjlaphoajngaaPSpx
import Derived.Test.YtcbjlaphoajngaaTells
import Derived.Test.YtcbjlaphoajngaaSplit
namespace DocPure
open Go.RowKit Go.Proofs.Ytcbjlaphoajngaa.PSp Go.Proofs.YtcbjlaphoajngaaW.PrintWords

theorem w64 {n : Int} (h0 : -9223372036854775808 ≤ n) (h1 : n < 9223372036854775808) : wrap64 n = n := by
  unfold wrap64; omega

theorem rd_gi (l : List Int) (i : Int) : rd l i = rdi l i := rfl

section impl
variable (need out : List Int) (w : Int)

def aft (K : Nat → Nat → List Int → Int → Option (List Int × Bool)) (k : Nat) (t b : Int) : Option (List Int × Bool) :=
  if b < 0 then some (out, true) else K k 0 (out.set b.toNat (wrap64 (rdi out b + 1))) (wrap64 (t + 1))

theorem impl_l2 (hl : out.length = need.length) (hn : need.length ≤ 20) (t : Int) (r : List Int × Bool) : ∀ (d : Nat) (i b : Int), i + d = need.length → 0 ≤ i → -1 ≤ b → b < i →
    Tells (fun k => aft out (fun k _ o t => impl_SplitWidths.l1 k need o w t) k t (spScan need out d i b)) r →
    Tells (fun k => impl_SplitWidths.l2 k need out b w t need (need.length : Int) i) r
  | 0, i, b, hd, h0, hb0, hb, h => by
    refine Tells.step (g' := _) (fun k => ?_) h
    simp only [impl_SplitWidths.l2]
    rw [if_neg (by omega)]
    unfold aft spScan
    by_cases hc : b < 0
    · rw [if_pos hc, if_pos hc]
    · rw [if_neg hc, if_neg hc, if_pos (by omega), if_pos (by omega)]; rfl
  | d + 1, i, b, hd, h0, hb0, hb, h => by
    unfold spScan at h
    have hlt : i < (need.length : Int) := by omega
    by_cases hc : rdi out i < rdi need i ∧ (b < 0 ∨ rdi out i < rdi out b)
    · rw [if_pos hc] at h
      refine Tells.step (fun k => ?_) (impl_l2 hl hn t r d (i + 1) i (by omega) (by omega) (by omega) (by omega) h)
      simp only [impl_SplitWidths.l2]
      rw [if_pos hlt, if_pos h0, if_pos hlt, if_pos (by omega), if_pos (show rd out i < rd need i from hc.1), w64 (by omega) (by omega)]
      by_cases hb1 : b < 0
      · rw [if_pos hb1]
      · rw [if_neg hb1, if_pos (by omega), if_pos (by omega), if_pos (show rd out i < rd out b by rcases hc.2 with x | x; exact absurd x hb1; exact x)]
    · rw [if_neg hc] at h
      refine Tells.step (fun k => ?_) (impl_l2 hl hn t r d (i + 1) b (by omega) (by omega) (by omega) (by omega) h)
      simp only [impl_SplitWidths.l2]
      rw [if_pos hlt, if_pos h0, if_pos hlt, if_pos (by omega), w64 (by omega) (by omega)]
      by_cases h1 : rdi out i < rdi need i
      · rw [if_pos (show rd out i < rd need i from h1)]
        have hb1 : ¬ b < 0 := fun x => hc ⟨h1, .inl x⟩
        rw [if_neg hb1, if_pos (by omega), if_pos (by omega), if_neg (show ¬ rd out i < rd out b from fun x => hc ⟨h1, .inr x⟩)]
      · rw [if_neg (show ¬ rd out i < rd need i from h1)]

theorem spec_l2 (hl : out.length = need.length) (hn : need.length ≤ 20) (t : Int) (r : List Int × Bool) : ∀ (d : Nat) (i b : Int), i + d = need.length → 0 ≤ i → -1 ≤ b → b < i →
    Tells (fun k => aft out (fun k _ o t => spec_SplitWidths.l1 k need w o t) k t (spScan need out d i b)) r →
    Tells (fun k => spec_SplitWidths.l2 k need w out t b i) r
  | 0, i, b, hd, h0, hb0, hb, h => by
    refine Tells.step (g' := _) (fun k => ?_) h
    simp only [spec_SplitWidths.l2]
    rw [if_neg (by omega)]
    unfold aft spScan
    by_cases hc : b < 0
    · rw [if_pos hc, if_pos hc]
    · rw [if_neg hc, if_neg hc, if_pos (by omega), if_pos (by omega)]; rfl
  | d + 1, i, b, hd, h0, hb0, hb, h => by
    unfold spScan at h
    have hlt : i < (need.length : Int) := by omega
    by_cases hc : rdi out i < rdi need i ∧ (b < 0 ∨ rdi out i < rdi out b)
    · rw [if_pos hc] at h
      refine Tells.step (fun k => ?_) (spec_l2 hl hn t r d (i + 1) i (by omega) (by omega) (by omega) (by omega) h)
      simp only [spec_SplitWidths.l2]
      rw [if_pos hlt, if_pos h0, if_pos (by omega), if_pos (show rd out i < rd need i from hc.1), w64 (by omega) (by omega)]
      by_cases hb1 : b < 0
      · rw [if_pos hb1]
      · rw [if_neg hb1, if_pos (by omega), if_pos (by omega), if_pos (show rd out i < rd out b by rcases hc.2 with x | x; exact absurd x hb1; exact x)]
    · rw [if_neg hc] at h
      refine Tells.step (fun k => ?_) (spec_l2 hl hn t r d (i + 1) b (by omega) (by omega) (by omega) (by omega) h)
      simp only [spec_SplitWidths.l2]
      rw [if_pos hlt, if_pos h0, if_pos (by omega), w64 (by omega) (by omega)]
      by_cases h1 : rdi out i < rdi need i
      · rw [if_pos (show rd out i < rd need i from h1)]
        have hb1 : ¬ b < 0 := fun x => hc ⟨h1, .inl x⟩
        rw [if_neg hb1, if_pos (by omega), if_pos (by omega), if_neg (show ¬ rd out i < rd out b from fun x => hc ⟨h1, .inr x⟩)]
      · rw [if_neg (show ¬ rd out i < rd need i from h1)]
end impl

theorem impl_l1 (need : List Int) (w : Int) (hn : need.length ≤ 20) (hw : w ≤ 200) (hN : ∀ n ∈ need, n ≤ 200) : ∀ (m : Nat) (t : Int) (out : List Int), 0 ≤ t → t + m = w → Evenly need out →
    Tells (fun k => impl_SplitWidths.l1 k need out w t) (spRun need m out, true)
  | 0, t, out, h0, ht, hf => Tells.step (fun k => by simp only [impl_SplitWidths.l1]; rw [if_neg (by omega)]; rfl) (Tells.pure _)
  | m + 1, t, out, h0, ht, hf => by
    have hl := hf.len
    refine Tells.step (fun k => ?_) (impl_l2 need out w hl hn t (spRun need (m + 1) out, true) need.length 0 (-1) (by omega) (by omega) (by omega) (by omega) ?_)
    · simp only [impl_SplitWidths.l1]; rw [if_pos (by omega)]
    · show Tells (fun k => aft out _ k t (pickCol need out)) _
      unfold aft spRun spStep
      by_cases hc : pickCol need out < 0
      · simp only [if_pos hc]; exact Tells.pure _
      · simp only [if_neg hc]
        obtain ⟨b0, b1, b2, b3⟩ := pickCol_pos hc
        have h200 := hN _ (gi_mem b0 b1)
        have hlo := hf.lo _ b0 b1
        rw [w64 (by omega) (by omega), w64 (n := t + 1) (by omega) (by omega)]
        exact impl_l1 need w hn hw hN m (t + 1) _ (by omega) (by omega) (step_fair hf (by unfold spStep; rw [if_neg hc]))

theorem spec_l1 (need : List Int) (w : Int) (hn : need.length ≤ 20) (hw : w ≤ 200) (hN : ∀ n ∈ need, n ≤ 200) : ∀ (m : Nat) (t : Int) (out : List Int), 0 ≤ t → t + m = w → Evenly need out →
    Tells (fun k => spec_SplitWidths.l1 k need w out t) (spRun need m out, true)
  | 0, t, out, h0, ht, hf => Tells.step (fun k => by simp only [spec_SplitWidths.l1]; rw [if_neg (by omega)]; rfl) (Tells.pure _)
  | m + 1, t, out, h0, ht, hf => by
    have hl := hf.len
    refine Tells.step (fun k => ?_) (spec_l2 need out w hl hn t (spRun need (m + 1) out, true) need.length 0 (-1) (by omega) (by omega) (by omega) (by omega) ?_)
    · simp only [spec_SplitWidths.l1]; rw [if_pos (by omega)]
    · show Tells (fun k => aft out _ k t (pickCol need out)) _
      unfold aft spRun spStep
      by_cases hc : pickCol need out < 0
      · simp only [if_pos hc]; exact Tells.pure _
      · simp only [if_neg hc]
        obtain ⟨b0, b1, b2, b3⟩ := pickCol_pos hc
        have h200 := hN _ (gi_mem b0 b1)
        have hlo := hf.lo _ b0 b1
        rw [w64 (by omega) (by omega), w64 (n := t + 1) (by omega) (by omega)]
        exact spec_l1 need w hn hw hN m (t + 1) _ (by omega) (by omega) (step_fair hf (by unfold spStep; rw [if_neg hc]))

theorem fz {need : List Int} (h : ∀ n ∈ need, 0 ≤ n ∧ n ≤ 200) : Evenly need (List.replicate need.length 0) :=
  fair_zero need fun _ h0 h1 => (h _ (gi_mem h0 h1)).1

def inR (n : Int) : Bool := decide (0 ≤ n) && decide (n ≤ 200)

theorem all_drop {need : List Int} {i : Nat} (h : i < need.length) : (need.drop i).all inR = (inR (rdi need i) && (need.drop (i + 1)).all inR) := by
  rw [List.drop_eq_getElem_cons h, List.all_cons]
  unfold rdi
  rw [Int.toNat_natCast, List.getD_eq_getElem?_getD, List.getElem?_eq_getElem h]; rfl

theorem impl_l0 (need : List Int) (w : Int) (hn0 : 1 ≤ need.length) (hn : need.length ≤ 20) (hw0 : 0 ≤ w) (hw : w ≤ 200) : ∀ (d i : Nat), i + d = need.length → (need.take i).all inR = true →
    Tells (fun k => impl_SplitWidths.l0 k need w need (need.length : Int) (i : Int)) (if need.all inR then (spRun need w.toNat (List.replicate need.length 0), true) else ([], false))
  | 0, i, hd, hp => by
    rw [List.take_of_length_le (by omega)] at hp
    rw [if_pos hp]
    have hA : ∀ n ∈ need, 0 ≤ n ∧ n ≤ 200 := fun n hm => by have := List.all_eq_true.1 hp n hm; simpa [inR] using this
    refine Tells.step (fun k => ?_) (impl_l1 need w hn hw (fun n hm => (hA n hm).2) w.toNat 0 _ (by omega) (by omega) (fz hA))
    simp only [impl_SplitWidths.l0]
    rw [if_neg (by omega), if_pos (by omega), if_pos (by omega)]; rfl
  | d + 1, i, hd, hp => by
    have hlt : i < need.length := by omega
    by_cases hc : inR (rdi need i) = true
    · refine Tells.step (fun k => ?_) (impl_l0 need w hn0 hn hw0 hw d (i + 1) (by omega) ?_)
      · simp only [impl_SplitWidths.l0]
        simp only [inR, Bool.and_eq_true, decide_eq_true_eq] at hc
        rw [if_pos (by omega), if_pos (by omega), if_pos (by omega), if_neg (show ¬ rd need i < 0 from (by omega : ¬ rdi need i < 0)), if_neg (show ¬ rd need i > 200 from (by omega : ¬ rdi need i > 200)), w64 (by omega) (by omega)]
        rfl
      · rw [List.take_succ_eq_append_getElem hlt, List.all_append, hp, List.all_cons, List.all_nil]
        unfold rdi at hc
        rw [Int.toNat_natCast, List.getD_eq_getElem?_getD, List.getElem?_eq_getElem hlt] at hc
        simpa using hc
    · have hf : need.all inR = false := by
        rw [← Bool.not_eq_true]
        intro ha
        exact hc (List.all_eq_true.1 ha _ (gi_mem (by omega) (by omega)))
      rw [hf]
      refine Tells.step (fun k => ?_) (Tells.pure _)
      simp only [impl_SplitWidths.l0]
      rw [if_pos (by omega), if_pos (by omega), if_pos (by omega)]
      by_cases h1 : rdi need i < 0
      · rw [if_pos (show rd need i < 0 from h1)]; rfl
      · rw [if_neg (show ¬ rd need i < 0 from h1), if_pos (show rd need i > 200 from (by simp only [inR, Bool.and_eq_true, decide_eq_true_eq] at hc; omega : rdi need i > 200))]; rfl

theorem spec_l0 (need : List Int) (w : Int) (hn0 : 1 ≤ need.length) (hn : need.length ≤ 20) (hw0 : 0 ≤ w) (hw : w ≤ 200) : ∀ (d i : Nat), i + d = need.length → (need.take i).all inR = true →
    Tells (fun k => spec_SplitWidths.l0 k need w (List.replicate need.length 0) (i : Int)) (if need.all inR then (spRun need w.toNat (List.replicate need.length 0), true) else ([], false))
  | 0, i, hd, hp => by
    rw [List.take_of_length_le (by omega)] at hp
    rw [if_pos hp]
    have hA : ∀ n ∈ need, 0 ≤ n ∧ n ≤ 200 := fun n hm => by have := List.all_eq_true.1 hp n hm; simpa [inR] using this
    refine Tells.step (fun k => ?_) (spec_l1 need w hn hw (fun n hm => (hA n hm).2) w.toNat 0 _ (by omega) (by omega) (fz hA))
    simp only [spec_SplitWidths.l0]
    rw [if_neg (by omega)]
  | d + 1, i, hd, hp => by
    have hlt : i < need.length := by omega
    by_cases hc : inR (rdi need i) = true
    · refine Tells.step (fun k => ?_) (spec_l0 need w hn0 hn hw0 hw d (i + 1) (by omega) ?_)
      · simp only [spec_SplitWidths.l0]
        simp only [inR, Bool.and_eq_true, decide_eq_true_eq] at hc
        rw [if_pos (by omega), if_pos (by omega), if_neg (show ¬ rd need i < 0 from (by omega : ¬ rdi need i < 0)), if_neg (show ¬ rd need i > 200 from (by omega : ¬ rdi need i > 200)), w64 (by omega) (by omega)]
        rfl
      · rw [List.take_succ_eq_append_getElem hlt, List.all_append, hp, List.all_cons, List.all_nil]
        unfold rdi at hc
        rw [Int.toNat_natCast, List.getD_eq_getElem?_getD, List.getElem?_eq_getElem hlt] at hc
        simpa using hc
    · have hf : need.all inR = false := by
        rw [← Bool.not_eq_true]
        intro ha
        exact hc (List.all_eq_true.1 ha _ (gi_mem (by omega) (by omega)))
      rw [hf]
      refine Tells.step (fun k => ?_) (Tells.pure _)
      simp only [spec_SplitWidths.l0]
      rw [if_pos (by omega), if_pos (by omega)]
      by_cases h1 : rdi need i < 0
      · rw [if_pos (show rd need i < 0 from h1)]; rfl
      · rw [if_neg (show ¬ rd need i < 0 from h1), if_pos (show rd need i > 200 from (by simp only [inR, Bool.and_eq_true, decide_eq_true_eq] at hc; omega : rdi need i > 200))]; rfl

theorem split_bad {need : List Int} {w : Int} (h : ¬ (1 ≤ need.length ∧ need.length ≤ 20 ∧ 0 ≤ w ∧ w ≤ 200)) : spSplit need w = ([], false) := by
  unfold spSplit
  rw [if_neg]
  intro ho
  have := okSplit_iff.1 ho
  exact h ⟨this.1, this.2.1, this.2.2.1, this.2.2.2.1⟩

theorem split_good {need : List Int} {w : Int} (h : 1 ≤ need.length ∧ need.length ≤ 20 ∧ 0 ≤ w ∧ w ≤ 200) :
    spSplit need w = if need.all inR then (spRun need w.toNat (List.replicate need.length 0), true) else ([], false) := by
  unfold spSplit
  by_cases ha : need.all inR = true
  · rw [if_pos ha, if_pos (okSplit_iff.2 ⟨h.1, h.2.1, h.2.2.1, h.2.2.2, fun n hm => by simpa [inR] using List.all_eq_true.1 ha n hm⟩)]
  · rw [if_neg ha, if_neg]
    intro ho
    exact ha (List.all_eq_true.2 fun n hm => by simpa [inR] using (okSplit_iff.1 ho).2.2.2.2 n hm)

/-- impl's SplitWidths is the plain one. -/
theorem impl_split (need : List Int) (w : Int) : Tells (fun k => impl_SplitWidths.f k need w) (spSplit need w) := by
  by_cases h : 1 ≤ need.length ∧ need.length ≤ 20 ∧ 0 ≤ w ∧ w ≤ 200
  · rw [split_good h]
    refine Tells.congr (fun k => ?_) (Tells.step (g := fun k => impl_SplitWidths.j0 k need w false) (fun k => ?_) (impl_l0 need w h.1 h.2.1 h.2.2.1 h.2.2.2 need.length 0 (by omega) rfl))
    · unfold impl_SplitWidths.f
      rw [if_neg (by omega), if_neg (by omega), if_neg (by omega), decide_eq_false (by omega)]
    · simp only [impl_SplitWidths.j0]
      rw [if_neg (by decide)]; rfl
  · rw [split_bad h]
    refine Tells.congr (fun k => ?_) (Tells.step (g := fun k => impl_SplitWidths.j0 k need w true) (fun k => ?_) (Tells.pure _))
    · unfold impl_SplitWidths.f
      by_cases h1 : (need.length : Int) < 1
      · rw [if_pos h1]
      · rw [if_neg h1]
        by_cases h2 : (need.length : Int) > 20
        · rw [if_pos h2]
        · rw [if_neg h2]
          by_cases h3 : w < 0
          · rw [if_pos h3]
          · rw [if_neg h3, decide_eq_true (by omega)]
    · simp only [impl_SplitWidths.j0]
      rw [if_pos trivial]

theorem spec_split (need : List Int) (w : Int) (hm : need.length ≤ 35184372088832) : Tells (fun k => spec_SplitWidths.f k need w) (spSplit need w) := by
  by_cases h : 1 ≤ need.length ∧ need.length ≤ 20 ∧ 0 ≤ w ∧ w ≤ 200
  · rw [split_good h]
    refine Tells.congr (fun k => ?_) (Tells.step (g := fun k => spec_SplitWidths.j0 k need w (List.replicate need.length 0) false) (fun k => ?_) (spec_l0 need w h.1 h.2.1 h.2.2.1 h.2.2.2 need.length 0 (by omega) rfl))
    · unfold spec_SplitWidths.f
      rw [if_pos (by omega), if_pos (by omega)]
      simp only [Option.bind_some, Int.toNat_natCast]
      rw [if_neg (by omega), if_neg (by omega), if_neg (by omega), decide_eq_false (by omega)]
    · simp only [spec_SplitWidths.j0]
      rw [if_neg (by decide)]; rfl
  · rw [split_bad h]
    refine Tells.congr (fun k => ?_) (Tells.step (g := fun k => spec_SplitWidths.j0 k need w (List.replicate need.length 0) true) (fun k => ?_) (Tells.pure _))
    · unfold spec_SplitWidths.f
      rw [if_pos (by omega), if_pos (by omega)]
      simp only [Option.bind_some, Int.toNat_natCast]
      by_cases h1 : (need.length : Int) < 1
      · rw [if_pos h1]
      · rw [if_neg h1]
        by_cases h2 : (need.length : Int) > 20
        · rw [if_pos h2]
        · rw [if_neg h2]
          by_cases h3 : w < 0
          · rw [if_pos h3]
          · rw [if_neg h3, decide_eq_true (by omega)]
    · simp only [spec_SplitWidths.j0]
      rw [if_pos trivial]

end DocPure
