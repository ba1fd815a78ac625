/- The printed JustifyLine of the program and of the reference are the plain one. -/
import Derived.Test.YthcfocpimoghbaaPJux0
import Derived.Test.YthcfocpimoghbaaPJux3
import Derived.Test.YthcfocpimoghbaaPJux5
import Derived.Test.YthcfocpimoghbaaJuWrapOk
import Derived.Test.YthcfocpimoghbaaJuLine12
import Derived.Test.YthcfocpimoghbaaJuJoinStr
import Derived.Test.YthcfocpimoghbaaJuRepStr
import Derived.Test.YthcfocpimoghbaaJuSpaces
import Derived.Test.YthcfocpimoghbaaJustLine
namespace DocPure
open Go.RowKit Go.Proofs.Ythcfocpimoghbaa.PJu Go.Proofs.YthcfocpimoghbaaW.PrintWords

def justOk (ws : List ByteArray) (w : Int) : Bool := wordsOk ws && okWidth w && decide (2 ≤ ws.length) && decide (((lineWith sp1 ws).size : Int) ≤ w)

def justifyLine (ws : List ByteArray) (w : Int) : ByteArray × Bool := if justOk ws w then (justT ws w.toNat, true) else (ByteArray.empty, false)

theorem impl_just_l0 {ws : List ByteArray} {W S N : Int} {q r : Nat} (hn : N ≠ 0) (hq : ∀ _ : Unit, Int.tdiv (wrap64 (W - S)) N = (q : Int)) (hr : ∀ _ : Unit, Int.tmod (wrap64 (W - S)) N = (r : Int)) (hq2 : q ≤ 1000) (hl : ws.length ≤ 1000) :
    ∀ (d i : Nat) (acc : ByteArray), i + d = ws.length → acc.size + total (ws.drop i) + d * 1002 ≤ 10000000 →
    Tells (fun k => impl_JustifyLine.l0 k W S N acc ws (ws.length : Int) (i : Int)) (justFold q r i acc (ws.drop i), true)
  | 0, i, acc, hd, hs => by
    rw [List.drop_of_length_le (by omega)]
    refine Tells.step (fun k => ?_) (Tells.pure _)
    simp only [impl_JustifyLine.l0]
    rw [if_neg (by omega)]; rfl
  | d + 1, i, acc, hd, hs => by
    rw [List.drop_eq_getElem_cons (show i < ws.length by omega)] at hs ⊢
    rw [total_cons, Nat.succ_mul] at hs
    have e1 : ∀ _ : Unit, wrap64 (1 + (q : Int)) = ((q + 1 : Nat) : Int) := fun _ => by rw [wr64 (by omega) (by omega)]; omega
    have e2 : ∀ _ : Unit, wrap64 (((q + 1 : Nat) : Int) + 1) = ((q + 2 : Nat) : Int) := fun _ => by rw [wr64 (by omega) (by omega)]; omega
    have e3 : ∀ _ : Unit, wrap64 (q : Int) = (q : Int) := fun _ => wr64 (by omega) (by omega)
    have hw : ∀ _ : Unit, wrap64 ((i : Int) + 1) = ((i + 1 : Nat) : Int) := fun _ => by rw [wr64 (by omega) (by omega)]; rfl
    have hg : gapAt q r i ≤ q + 2 := by unfold gapAt; split <;> omega
    have ih := impl_just_l0 hn hq hr hq2 hl d (i + 1) (acc ++ (spaces (gapAt q r i) ++ ws[i]'(by omega))) (by omega) (by rw [ByteArray.size_append, ByteArray.size_append, spaces_size]; omega)
    refine Tells.step (fun k => ?_) ih
    simp only [impl_JustifyLine.l0]
    rw [if_pos (by omega), if_pos (by omega), if_pos (by omega), if_neg hn, hr (), hq (), e3 (), e1 (), e2 (), rdS_get (by omega), hw ()]
    unfold gapAt
    by_cases h : i < r
    · rw [if_pos (by omega), if_pos h, rep_tells ((q + 2 : Nat) : Int) (by omega) (by omega), Int.toNat_natCast, Option.bind_some, if_pos (by rw [spaces_size]; omega), if_pos (by rw [ByteArray.size_append, spaces_size]; omega)]
    · rw [if_neg (by omega), if_neg h, rep_tells ((q + 1 : Nat) : Int) (by omega) (by omega), Int.toNat_natCast, Option.bind_some, if_pos (by rw [spaces_size]; omega), if_pos (by rw [ByteArray.size_append, spaces_size]; omega)]

theorem spec_just_l0 {ws : List ByteArray} {X N : Int} {q r : Nat} (hn : N ≠ 0) (hq : ∀ _ : Unit, Int.tdiv X N = (q : Int)) (hr : ∀ _ : Unit, Int.tmod X N = (r : Int)) (hq2 : q ≤ 1000) (hl : ws.length ≤ 1000) :
    ∀ (d i : Nat) (acc : ByteArray), i + 1 + d = ws.length → acc.size + total (ws.drop (i + 1)) + d * 1002 ≤ 10000000 →
    Tells (fun k => spec_JustifyLine.l0 k ws N X acc ((i + 1 : Nat) : Int)) (justFold q r i acc (ws.drop (i + 1)), true)
  | 0, i, acc, hd, hs => by
    rw [List.drop_of_length_le (by omega)]
    refine Tells.step (fun k => ?_) (Tells.pure _)
    simp only [spec_JustifyLine.l0]
    rw [if_neg (by omega)]; rfl
  | d + 1, i, acc, hd, hs => by
    rw [List.drop_eq_getElem_cons (show i + 1 < ws.length by omega)] at hs ⊢
    rw [total_cons, Nat.succ_mul] at hs
    have e1 : ∀ _ : Unit, wrap64 (1 + (q : Int)) = ((q + 1 : Nat) : Int) := fun _ => by rw [wr64 (by omega) (by omega)]; omega
    have e2 : ∀ _ : Unit, wrap64 (((q + 1 : Nat) : Int) + 1) = ((q + 2 : Nat) : Int) := fun _ => by rw [wr64 (by omega) (by omega)]; omega
    have e3 : ∀ _ : Unit, wrap64 (q : Int) = (q : Int) := fun _ => wr64 (by omega) (by omega)
    have hw : ∀ _ : Unit, wrap64 (((i + 1 : Nat) : Int) + 1) = ((i + 1 + 1 : Nat) : Int) := fun _ => by rw [wr64 (by omega) (by omega)]; rfl
    have hg : gapAt q r i ≤ q + 2 := by unfold gapAt; split <;> omega
    have ih := spec_just_l0 hn hq hr hq2 hl d (i + 1) (acc ++ (spaces (gapAt q r i) ++ ws[i + 1]'(by omega))) (by omega) (by rw [ByteArray.size_append, ByteArray.size_append, spaces_size]; omega)
    rw [← ByteArray.append_assoc] at ih
    have eg : justFold q r i acc (ws[i + 1]'(by omega) :: ws.drop (i + 1 + 1)) = justFold q r (i + 1) (acc ++ spaces (gapAt q r i) ++ ws[i + 1]'(by omega)) (ws.drop (i + 1 + 1)) := by
      rw [ByteArray.append_assoc]; rfl
    rw [eg]
    by_cases h : i < r
    · have hgg : gapAt q r i = q + 2 := by unfold gapAt; rw [if_pos h]
      rw [hgg] at ih ⊢
      refine Tells.step (fun k => by simp only [spec_JustifyLine.l0]; rw [if_pos (by omega), if_neg hn, hr (), hq (), if_pos (by omega), e3 (), e1 (), e2 ()]) ?_
      refine Tells.bind (spaces_tells ((q + 2 : Nat) : Int) (by omega)) ?_
      rw [Int.toNat_natCast]
      refine Tells.congr (fun k => ?_) ih
      rw [if_pos (by rw [spaces_size]; omega), if_pos (by omega), rdS_get (by omega), if_pos (by rw [ByteArray.size_append, spaces_size]; omega), hw ()]
    · have hgg : gapAt q r i = q + 1 := by unfold gapAt; rw [if_neg h]
      rw [hgg] at ih ⊢
      refine Tells.step (fun k => by simp only [spec_JustifyLine.l0]; rw [if_pos (by omega), if_neg hn, hr (), hq (), if_neg (by omega), e3 (), e1 ()]) ?_
      refine Tells.bind (spaces_tells ((q + 1 : Nat) : Int) (by omega)) ?_
      rw [Int.toNat_natCast]
      refine Tells.congr (fun k => ?_) ih
      rw [if_pos (by rw [spaces_size]; omega), if_pos (by omega), rdS_get (by omega), if_pos (by rw [ByteArray.size_append, spaces_size]; omega), hw ()]

theorem impl_just (ws : List ByteArray) (W : Int) (hs : Small ws) (hl : ws.length ≤ 1048576) (ht : total ws ≤ 1099511627776) : Tells (fun k => impl_JustifyLine.f k ws W) (justifyLine ws W) := by
  have hsz := line_total ws
  unfold impl_JustifyLine.f
  refine Tells.congr (fun k => by rw [show (⟨#[32]⟩ : ByteArray) = sp1 from rfl, join_tells ws sp1 (by omega) (by omega), Option.bind_some]) ?_
  refine Tells.bind (impl_wrapOk_tells ws W hs) ?_
  unfold justifyLine justOk
  cases h : (wordsOk ws && okWidth W) with
  | false =>
    rw [Bool.false_and, Bool.false_and, if_neg (by decide)]
    exact Tells.congr (fun k => if_neg (by decide)) (Tells.step (fun k => by simp only [impl_JustifyLine.j0]; rw [if_pos trivial]; rfl) (Tells.pure _))
  | true =>
    rw [Bool.true_and]
    refine Tells.congr (fun k => if_pos rfl) ?_
    by_cases h2 : ws.length < 2
    · rw [decide_eq_false (show ¬ 2 ≤ ws.length by omega), Bool.false_and, if_neg (by decide)]
      exact Tells.congr (fun k => if_pos (by omega)) (Tells.step (fun k => by simp only [impl_JustifyLine.j0]; rw [if_pos trivial]; rfl) (Tells.pure _))
    · rw [decide_eq_true (show 2 ≤ ws.length by omega), Bool.true_and]
      refine Tells.congr (fun k => if_neg (by omega)) ?_
      by_cases h3 : ((lineWith sp1 ws).size : Int) ≤ W
      · rw [decide_eq_false (show ¬ ((lineWith sp1 ws).size : Int) > W by omega), decide_eq_true h3, if_pos rfl]
        obtain ⟨g1, g2, g3, g4⟩ := ok_parts h
        cases ws with
        | nil => simp at h2
        | cons x xs =>
          rw [List.length_cons] at g1 h2
          have e1 : sp1.size = 1 := rfl
          have hls := lineWith_size sp1 x xs
          rw [e1] at hls
          have hN : wrap64 (((x :: xs).length : Int) - 1) = (xs.length : Int) := by rw [List.length_cons, wr64 (by omega) (by omega)]; omega
          have hD : wrap64 (W - ((lineWith sp1 (x :: xs)).size : Int)) = ((W.toNat - (lineWith sp1 (x :: xs)).size : Nat) : Int) := by rw [wr64 (by omega) (by omega)]; omega
          have hq2 := Nat.div_le_self (W.toNat - (lineWith sp1 (x :: xs)).size) xs.length
          have := impl_just_l0 (ws := xs) (W := W) (S := ((lineWith sp1 (x :: xs)).size : Int)) (N := (xs.length : Int)) (q := (W.toNat - (lineWith sp1 (x :: xs)).size) / xs.length) (r := (W.toNat - (lineWith sp1 (x :: xs)).size) % xs.length)
            (by clear hN hD; omega) (fun _ => by rw [hD]; rfl) (fun _ => by rw [hD]; rfl) (by clear hN hD; omega) (by clear hN hD; omega) xs.length 0 x (by omega) (by clear hN hD; rw [List.drop_zero]; omega)
          rw [List.drop_zero] at this
          refine Tells.step (fun k => ?_) this
          simp only [impl_JustifyLine.j0]
          rw [if_neg (by decide), if_pos (by rw [List.length_cons]; clear hN hD; omega), if_pos (by rw [List.length_cons]; clear hN hD; omega), hN]; rfl
      · rw [decide_eq_true (show ((lineWith sp1 ws).size : Int) > W by omega), decide_eq_false h3, if_neg (by decide)]
        exact Tells.step (fun k => by simp only [impl_JustifyLine.j0]; rw [if_pos trivial]; rfl) (Tells.pure _)

theorem spec_just (ws : List ByteArray) (W : Int) (hs : Small ws) (hl : ws.length ≤ 1048576) (ht : total ws ≤ 1099511627776) : Tells (fun k => spec_JustifyLine.f k ws W) (justifyLine ws W) := by
  unfold spec_JustifyLine.f
  refine Tells.bind (line12 ws (by omega) ht) ?_
  refine Tells.bind (spec_wrapOk_tells ws W hs) ?_
  unfold justifyLine justOk
  cases h : (wordsOk ws && okWidth W) with
  | false =>
    rw [Bool.false_and, Bool.false_and, if_neg (by decide)]
    exact Tells.congr (fun k => if_neg (by decide)) (Tells.step (fun k => by simp only [spec_JustifyLine.j0]; rw [if_pos trivial]; rfl) (Tells.pure _))
  | true =>
    rw [Bool.true_and]
    refine Tells.congr (fun k => if_pos rfl) ?_
    by_cases h2 : ws.length < 2
    · rw [decide_eq_false (show ¬ 2 ≤ ws.length by omega), Bool.false_and, if_neg (by decide)]
      exact Tells.congr (fun k => if_pos (by omega)) (Tells.step (fun k => by simp only [spec_JustifyLine.j0]; rw [if_pos trivial]; rfl) (Tells.pure _))
    · rw [decide_eq_true (show 2 ≤ ws.length by omega), Bool.true_and]
      refine Tells.congr (fun k => if_neg (by omega)) ?_
      by_cases h3 : ((lineWith sp1 ws).size : Int) ≤ W
      · rw [decide_eq_false (show ¬ ((lineWith sp1 ws).size : Int) > W by omega), decide_eq_true h3, if_pos rfl]
        obtain ⟨g1, g2, g3, g4⟩ := ok_parts h
        cases ws with
        | nil => simp at h2
        | cons x xs =>
          rw [List.length_cons] at g1 h2
          have e1 : sp1.size = 1 := rfl
          have hls := lineWith_size sp1 x xs
          rw [e1] at hls
          have hN : wrap64 (((x :: xs).length : Int) - 1) = (xs.length : Int) := by rw [List.length_cons, wr64 (by omega) (by omega)]; omega
          have hD : wrap64 (W - ((lineWith sp1 (x :: xs)).size : Int)) = ((W.toNat - (lineWith sp1 (x :: xs)).size : Nat) : Int) := by rw [wr64 (by omega) (by omega)]; omega
          have hq2 := Nat.div_le_self (W.toNat - (lineWith sp1 (x :: xs)).size) xs.length
          have := spec_just_l0 (ws := x :: xs) (X := ((W.toNat - (lineWith sp1 (x :: xs)).size : Nat) : Int)) (N := (xs.length : Int)) (q := (W.toNat - (lineWith sp1 (x :: xs)).size) / xs.length) (r := (W.toNat - (lineWith sp1 (x :: xs)).size) % xs.length)
            (by clear hN hD; omega) (fun _ => rfl) (fun _ => rfl) (by clear hN hD; omega) (by rw [List.length_cons]; clear hN hD; omega) xs.length 0 x (by rw [List.length_cons]; omega) (by clear hN hD; rw [List.drop_succ_cons, List.drop_zero]; omega)
          rw [List.drop_succ_cons, List.drop_zero] at this
          refine Tells.step (fun k => ?_) this
          simp only [spec_JustifyLine.j0]
          rw [if_neg (by decide), if_pos (by rw [List.length_cons]; clear hN hD; omega), hN, hD]; rfl
      · rw [decide_eq_true (show ((lineWith sp1 ws).size : Int) > W by omega), decide_eq_false h3, if_neg (by decide)]
        exact Tells.step (fun k => by simp only [spec_JustifyLine.j0]; rw [if_pos trivial]; rfl) (Tells.pure _)

end DocPure
