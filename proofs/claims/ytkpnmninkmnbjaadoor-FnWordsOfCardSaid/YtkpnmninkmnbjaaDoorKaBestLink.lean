/- The printed WrapBest of the program and of the reference are the plain one. -/
import Derived.Test.YtkpnmninkmnbjaaDoorPKax0
import Derived.Test.YtkpnmninkmnbjaaDoorPKax7
import Derived.Test.YtkpnmninkmnbjaaDoorPKax8
import Derived.Test.YtkpnmninkmnbjaaDoorPKax9
import Derived.Test.YtkpnmninkmnbjaaDoorKaWrapOk
import Derived.Test.YtkpnmninkmnbjaaDoorKaLine12
import Derived.Test.YtkpnmninkmnbjaaDoorKaJoinStr
import Derived.Test.YtkpnmninkmnbjaaDoorKaBest
namespace DocPure
open Go.RowKit Go.Proofs.YtkpnmninkmnbjaaDoor.PKa Go.Proofs.YtkpnmninkmnbjaaDoorW.PrintWords

def wrapBest (ws : List ByteArray) (w : Int) : List ByteArray × Bool := if wordsOk ws && okWidth w then (bestLines w ws, true) else ([], false)

theorem lineCost_le {a w : Int} {b : Bool} (h0 : 0 ≤ a) (h1 : a ≤ 1000) (h2 : 0 ≤ w) (h3 : w ≤ 200) : lineCost a w b ≤ 10000000 := by
  unfold lineCost
  split
  · omega
  · split
    · omega
    · have : (w - a) * (w - a) ≤ 200 * 200 := Int.mul_le_mul (by omega) (by omega) (by omega) (by omega)
      omega

theorem impl_lineCost_tells {a w : Int} {b : Bool} (h0 : 0 ≤ a) (h1 : a ≤ 1000) (h2 : 0 ≤ w) (h3 : w ≤ 200) : impl_lineCost.f a w b = some (lineCost a w b) := by
  unfold impl_lineCost.f lineCost
  by_cases h : a > w
  · rw [if_pos h, if_pos h, wr64 (n := a - w) (by omega) (by omega), wr64 (by omega) (by omega)]
  · rw [if_neg h, if_neg h]
    cases b with
    | true => rfl
    | false =>
      have p0 : 0 ≤ (w - a) * (w - a) := Int.mul_nonneg (by omega) (by omega)
      have p1 : (w - a) * (w - a) ≤ 200 * 200 := Int.mul_le_mul (by omega) (by omega) (by omega) (by omega)
      rw [if_neg (by decide), if_neg (by decide), wr64 (n := w - a) (by omega) (by omega), wr64 (by omega) (by omega)]

theorem spec_cost_tells {a w : Int} (h0 : 0 ≤ a) (h1 : a ≤ 1000) (h2 : 0 ≤ w) (h3 : w ≤ 200) : spec_l12Cost.f a w = some (lineCost a w false) := by
  unfold spec_l12Cost.f lineCost
  by_cases h : a > w
  · rw [if_pos h, if_pos h, wr64 (n := a - w) (by omega) (by omega), wr64 (by omega) (by omega)]
  · have p0 : 0 ≤ (w - a) * (w - a) := Int.mul_nonneg (by omega) (by omega)
    have p1 : (w - a) * (w - a) ≤ 200 * 200 := Int.mul_le_mul (by omega) (by omega) (by omega) (by omega)
    rw [if_neg h, if_neg h, if_neg (by decide), wr64 (n := w - a) (by omega) (by omega), wr64 (by omega) (by omega)]

/-- What is known of words and width. -/
structure Fit (ws : List ByteArray) (w : Int) : Prop where
  len : ws.length ≤ 18
  sz : ∀ s ∈ ws, s.size ≤ 12
  w0 : 0 ≤ w
  w1 : w ≤ 200

theorem Fit.drop {ws : List ByteArray} {w : Int} (h : Fit ws w) (i : Nat) : Fit (ws.drop i) w :=
  ⟨by rw [List.length_drop]; have := h.len; omega, fun s hs => h.sz s (List.mem_of_mem_drop hs), h.w0, h.w1⟩

theorem total_le12 : ∀ (ws : List ByteArray), (∀ s ∈ ws, s.size ≤ 12) → total ws ≤ 12 * ws.length
  | [], _ => by simp [total]
  | x :: xs, h => by
    have ih := total_le12 xs (fun s hs => h s (List.mem_cons_of_mem _ hs))
    have := h x (List.mem_cons_self ..)
    rw [total_cons, List.length_cons]
    omega

theorem total_take12 {ws : List ByteArray} {w : Int} (h : Fit ws w) (j : Nat) : total (ws.take j) ≤ 216 := by
  have h1 := total_le12 (ws.take j) (fun s hs => h.sz s (List.mem_of_mem_take hs))
  have := h.len
  rw [List.length_take] at h1
  omega

theorem line_size_take {ws : List ByteArray} {j : Nat} (h1 : 1 ≤ j) (h2 : j ≤ ws.length) : ((lineWith sp1 (ws.take j)).size : Int) = (total (ws.take j) : Int) + j - 1 := by
  have hl : (ws.take j).length = j := by rw [List.length_take]; omega
  cases hx : ws.take j with
  | nil => rw [hx] at hl; simp at hl; omega
  | cons x xs =>
    have e1 : sp1.size = 1 := rfl
    rw [hx, List.length_cons] at hl
    rw [lineWith_size, total_cons, e1]
    omega

theorem line_le {ws : List ByteArray} {w : Int} (h : Fit ws w) (j : Nat) : ((lineWith sp1 (ws.take j)).size : Int) ≤ 300 := by
  by_cases h1 : 1 ≤ j
  · by_cases h2 : j ≤ ws.length
    · have := line_size_take h1 h2
      have := total_take12 h j
      have := h.len
      omega
    · rw [List.take_of_length_le (by omega)]
      by_cases h3 : 1 ≤ ws.length
      · have e := line_size_take (ws := ws) h3 (Nat.le_refl _)
        have := total_take12 h ws.length
        have := h.len
        rw [List.take_length] at *
        omega
      · have : ws = [] := List.eq_nil_of_length_eq_zero (by omega)
        subst this
        exact (by decide : ((0 : Nat) : Int) ≤ 300)
  · have : j = 0 := by omega
    subst this
    exact (by decide : ((0 : Nat) : Int) ≤ 300)

theorem lc_le {ws : List ByteArray} {w : Int} (h : Fit ws w) (j : Nat) : 0 ≤ lc w ws j ∧ lc w ws j ≤ 10000000 := by
  have := line_le h j
  exact ⟨lineCost_nonneg _ _ _, lineCost_le (by omega) (by omega) h.w0 h.w1⟩

theorem bc_up : ∀ (ws : List ByteArray) (w : Int), Fit ws w → bc w ws ≤ 10000000 * ws.length
  | [], w, _ => by simp [bc_nil]
  | x :: xs, w, h => by
    have ih := bc_up xs w (h.drop 1)
    have h1 := bc_le w (s := x :: xs) (j := 1) (Nat.le_refl _) (by simp)
    have h2 := (lc_le h 1).2
    have e2 : (x :: xs).drop 1 = xs := rfl
    rw [e2] at h1
    rw [List.length_cons]
    omega

theorem bc_at {ws : List ByteArray} {w : Int} (h : Fit ws w) (i : Nat) : 0 ≤ bc w (ws.drop i) ∧ bc w (ws.drop i) ≤ 180000000 := by
  have h1 := bc_up _ _ (h.drop i)
  have h2 := (h.drop i).len
  exact ⟨bc_nonneg w _ _ (Nat.le_refl _), by omega⟩

theorem rd_set {C : List Int} {i m : Nat} (v : Int) (hi : i < C.length) : rd (C.set i v) (m : Int) = if m = i then v else rd C (m : Int) := by
  unfold rd
  rw [Int.toNat_natCast, List.getD_eq_getElem?_getD, List.getD_eq_getElem?_getD]
  by_cases h : m = i
  · subst h
    rw [if_pos rfl, List.getElem?_set_self hi]; rfl
  · rw [if_neg h, List.getElem?_set_ne (fun e => h e.symm)]

/-- The program's arrays, from row i on. -/
structure BInv (ws : List ByteArray) (w : Int) (off : Nat → Nat) (i : Nat) (C N : List Int) : Prop where
  lc : C.length = ws.length + 1
  ln : N.length = ws.length + 1
  c : ∀ m, i ≤ m → m ≤ ws.length → rd C (m : Int) = bc w (ws.drop m)
  n : ∀ m, i ≤ m → m < ws.length → rd N (m : Int) = ((off m + bn w (ws.drop m) : Nat) : Int)

/-- While row i is being worked out, with j counts of words tried. -/
structure BRow (ws : List ByteArray) (w : Int) (off : Nat → Nat) (i j : Nat) (C N : List Int) : Prop where
  up : BInv ws w off (i + 1) C N
  c : 1 ≤ j → rd C (i : Int) = (pickTo w (ws.drop i) (tab w (ws.drop (i + 1))) (j - 1)).1
  n : 1 ≤ j → rd N (i : Int) = ((off i + (pickTo w (ws.drop i) (tab w (ws.drop (i + 1))) (j - 1)).2 : Nat) : Int)

theorem BRow.done {ws : List ByteArray} {w : Int} {off : Nat → Nat} {i : Nat} {C N : List Int} (hi : i < ws.length) (h : BRow ws w off i (ws.length - i) C N) : BInv ws w off i C N := by
  have e : ws.drop i = ws[i] :: ws.drop (i + 1) := List.drop_eq_getElem_cons hi
  have e1 : bc w (ws.drop i) = (pickTo w (ws.drop i) (tab w (ws.drop (i + 1))) (ws.length - i - 1)).1 := by
    rw [e]
    show (pickTo w (ws[i] :: ws.drop (i + 1)) (tab w (ws.drop (i + 1))) (ws.drop (i + 1)).length).1 = _
    rw [List.length_drop, show ws.length - (i + 1) = ws.length - i - 1 from by omega]
  have e2 : bn w (ws.drop i) = (pickTo w (ws.drop i) (tab w (ws.drop (i + 1))) (ws.length - i - 1)).2 := by
    rw [e]
    show (pickTo w (ws[i] :: ws.drop (i + 1)) (tab w (ws.drop (i + 1))) (ws.drop (i + 1)).length).2 = _
    rw [List.length_drop, show ws.length - (i + 1) = ws.length - i - 1 from by omega]
  refine ⟨h.up.lc, h.up.ln, fun m h1 h2 => ?_, fun m h1 h2 => ?_⟩
  · rcases Nat.lt_or_ge i m with q | q
    · exact h.up.c m q h2
    · obtain rfl : m = i := by omega
      rw [h.c (by omega), e1]
  · rcases Nat.lt_or_ge i m with q | q
    · exact h.up.n m q h2
    · obtain rfl : m = i := by omega
      rw [h.n (by omega), e2]

/-- Both cells of row i are written: count j + 1 is the best so far. -/
theorem BRow.put {ws : List ByteArray} {w : Int} {off : Nat → Nat} {i j : Nat} {C N : List Int} (hi : i < ws.length) (h : BRow ws w off i j C N) {x y : Int}
    (hx : x = (pickTo w (ws.drop i) (tab w (ws.drop (i + 1))) j).1) (hy : y = ((off i + (pickTo w (ws.drop i) (tab w (ws.drop (i + 1))) j).2 : Nat) : Int)) : BRow ws w off i (j + 1) (C.set i x) (N.set i y) := by
  have l1 := h.up.lc
  have l2 := h.up.ln
  refine ⟨⟨by rw [List.length_set]; exact l1, by rw [List.length_set]; exact l2, fun m h1 h2 => ?_, fun m h1 h2 => ?_⟩, fun _ => ?_, fun _ => ?_⟩
  · rw [rd_set x (by omega), if_neg (by omega)]; exact h.up.c m h1 h2
  · rw [rd_set y (by omega), if_neg (by omega)]; exact h.up.n m h1 h2
  · rw [rd_set x (by omega), if_pos rfl, hx, Nat.add_sub_cancel]
  · rw [rd_set y (by omega), if_pos rfl, hy, Nat.add_sub_cancel]

/-- Nothing is written: count j + 1 is no better. -/
theorem BRow.keep {ws : List ByteArray} {w : Int} {off : Nat → Nat} {i j : Nat} {C N : List Int} (h : BRow ws w off i j C N) (hj : 1 ≤ j)
    (hp : pickTo w (ws.drop i) (tab w (ws.drop (i + 1))) j = pickTo w (ws.drop i) (tab w (ws.drop (i + 1))) (j - 1)) : BRow ws w off i (j + 1) C N :=
  ⟨h.up, fun _ => by rw [Nat.add_sub_cancel, hp]; exact h.c hj, fun _ => by rw [Nat.add_sub_cancel, hp]; exact h.n hj⟩

theorem pickTo_at (w : Int) (s : List ByteArray) (t : List (Int × Nat)) {j : Nat} (hj : 1 ≤ j) (hlt : lc w s (j + 1) + costAt t j < (pickTo w s t (j - 1)).1) : pickTo w s t j = (lc w s (j + 1) + costAt t j, j + 1) := by
  obtain ⟨m, rfl⟩ : ∃ m, j = m + 1 := ⟨j - 1, by omega⟩
  rw [Nat.add_sub_cancel] at hlt
  show (if _ then _ else _) = _
  rw [if_pos hlt]

theorem pickTo_not (w : Int) (s : List ByteArray) (t : List (Int × Nat)) {j : Nat} (hj : 1 ≤ j) (hlt : ¬ lc w s (j + 1) + costAt t j < (pickTo w s t (j - 1)).1) : pickTo w s t j = pickTo w s t (j - 1) := by
  obtain ⟨m, rfl⟩ : ∃ m, j = m + 1 := ⟨j - 1, by omega⟩
  rw [Nat.add_sub_cancel] at hlt ⊢
  show (if _ then _ else _) = _
  rw [if_neg hlt]

theorem cost_tab {ws : List ByteArray} (w : Int) {i j : Nat} (h : i + 1 + j ≤ ws.length) : costAt (tab w (ws.drop (i + 1))) j = bc w (ws.drop (i + 1 + j)) := by
  rw [costAt_tab w _ j (by rw [List.length_drop]; omega), List.drop_drop]

theorem impl_best_l1 (ws : List ByteArray) (w : Int) (hf : Fit ws w) (R : List ByteArray × Bool) (i : Nat) (hi : i < ws.length)
    (K : ∀ C N, BInv ws w id i C N → Tells (fun k => impl_WrapBest.l0 k ws w (ws.length : Int) C N ((i : Int) - 1)) R) :
    ∀ (d j : Nat) (C N : List Int) (z : Int), i + j + d = ws.length → BRow ws w id i j C N → z = (total ((ws.drop i).take j) : Int) + j - 1 →
    Tells (fun k => impl_WrapBest.l1 k ws w (ws.length : Int) C N (i : Int) z ((i + 1 + j : Nat) : Int)) R
  | 0, j, C, N, z, hd, hr, hz => by
    obtain rfl : j = ws.length - i := by omega
    have hl := hf.len
    refine Tells.step (fun k => ?_) (K C N (hr.done hi))
    simp only [impl_WrapBest.l1]
    rw [if_neg (by omega), wr64 (by omega) (by omega)]
  | d + 1, j, C, N, z, hd, hr, hz => by
    have hl := hf.len
    have hfd := hf.drop i
    have ht := total_take12 hfd j
    have hg : (ws.drop i)[j]'(by rw [List.length_drop]; omega) = ws[i + j]'(by omega) := by rw [List.getElem_drop]
    have hts : total ((ws.drop i).take (j + 1)) = total ((ws.drop i).take j) + (ws[i + j]'(by omega)).size := by
      rw [List.take_succ_eq_append_getElem (by rw [List.length_drop]; omega), total_append, hg, total_cons]
      simp [total]
    have hw12 := hf.sz (ws[i + j]'(by omega)) (List.getElem_mem _)
    have er : rdOf ByteArray.empty ws ((i + j : Nat) : Int) = ws[i + j]'(by omega) := rdS_get (by omega)
    have hq := line_le hfd (j + 1)
    have hlc := lc_le hfd (j + 1)
    have hbc := bc_at hf (i + 1 + j)
    have ec := hr.up.c (i + 1 + j) (by omega) (by omega)
    have ect := cost_tab (ws := ws) w (i := i) (j := j) (by omega)
    have l1 := hr.up.lc
    have l2 := hr.up.ln
    have k1 : ((i + 1 + j : Nat) : Int) ≤ (ws.length : Int) := by omega
    have k2 : 0 ≤ ((i + j : Nat) : Int) := by omega
    have k3 : ((i + j : Nat) : Int) < (ws.length : Int) := by omega
    have k4 : 0 ≤ ((i + 1 + j : Nat) : Int) := by omega
    have k5 : ((i + 1 + j : Nat) : Int) < (C.length : Int) := by omega
    have k6 : (0 : Int) ≤ (i : Int) := by omega
    have k7 : (i : Int) < (C.length : Int) := by omega
    have k8 : (i : Int) < (N.length : Int) := by omega
    have hwi : ∀ _ : Unit, wrap64 ((i : Int) + 1) = ((i + 1 : Nat) : Int) := fun _ => by rw [wr64 (by omega) (by omega)]; rfl
    have e0 : ∀ _ : Unit, wrap64 (((i + 1 + j : Nat) : Int) - 1) = ((i + j : Nat) : Int) := fun _ => by rw [wr64 (by omega) (by omega)]; omega
    have ew : ∀ _ : Unit, wrap64 (((i + 1 + j : Nat) : Int) + 1) = ((i + 1 + (j + 1) : Nat) : Int) := fun _ => by rw [wr64 (by omega) (by omega)]; omega
    have esz : ∀ _ : Unit, wrap64 (z + wrap64 (1 + ((ws[i + j]'(by omega)).size : Int))) = (total ((ws.drop i).take (j + 1)) : Int) + ((j + 1 : Nat) : Int) - 1 := fun _ => by
      rw [wr64 (n := 1 + _) (by omega) (by omega), hts, wr64 (by omega) (by omega)]
      omega
    have eline : ∀ _ : Unit, (total ((ws.drop i).take (j + 1)) : Int) + ((j + 1 : Nat) : Int) - 1 = ((lineWith sp1 ((ws.drop i).take (j + 1))).size : Int) := fun _ => (line_size_take (by omega) (by rw [List.length_drop]; omega)).symm
    have elc : ∀ _ : Unit, impl_lineCost.f ((lineWith sp1 ((ws.drop i).take (j + 1))).size : Int) w (((i + 1 + j : Nat) : Int) == (ws.length : Int)) = some (lc w (ws.drop i) (j + 1)) := fun _ => by
      rw [impl_lineCost_tells (by omega) (by omega) hf.w0 hf.w1]
      unfold lc
      congr 2
      rw [List.length_drop]
      by_cases q : i + 1 + j = ws.length
      · rw [decide_eq_true (show j + 1 = ws.length - i by omega)]
        exact beq_iff_eq.2 (by omega)
      · rw [decide_eq_false (show ¬ j + 1 = ws.length - i by omega)]
        exact beq_eq_false_iff_ne.2 (by omega)
    have ecc : ∀ _ : Unit, wrap64 (lc w (ws.drop i) (j + 1) + bc w (ws.drop (i + 1 + j))) = lc w (ws.drop i) (j + 1) + bc w (ws.drop (i + 1 + j)) := fun _ => wr64 (by omega) (by omega)
    have head : ∀ k, impl_WrapBest.l1 (k + 1) ws w (ws.length : Int) C N (i : Int) z ((i + 1 + j : Nat) : Int) =
        (if ((i + 1 + j : Nat) : Int) = ((i + 1 : Nat) : Int) then impl_WrapBest.l1 k ws w (ws.length : Int) (C.set i (lc w (ws.drop i) (j + 1) + bc w (ws.drop (i + 1 + j)))) (N.set i ((i + 1 + j : Nat) : Int)) (i : Int) ((total ((ws.drop i).take (j + 1)) : Int) + ((j + 1 : Nat) : Int) - 1) ((i + 1 + (j + 1) : Nat) : Int)
          else if lc w (ws.drop i) (j + 1) + bc w (ws.drop (i + 1 + j)) < rd C (i : Int) then impl_WrapBest.l1 k ws w (ws.length : Int) (C.set i (lc w (ws.drop i) (j + 1) + bc w (ws.drop (i + 1 + j)))) (N.set i ((i + 1 + j : Nat) : Int)) (i : Int) ((total ((ws.drop i).take (j + 1)) : Int) + ((j + 1 : Nat) : Int) - 1) ((i + 1 + (j + 1) : Nat) : Int)
          else impl_WrapBest.l1 k ws w (ws.length : Int) C N (i : Int) ((total ((ws.drop i).take (j + 1)) : Int) + ((j + 1 : Nat) : Int) - 1) ((i + 1 + (j + 1) : Nat) : Int)) := fun k => by
      simp only [impl_WrapBest.l1]
      rw [if_pos k1, e0 (), if_pos k2, if_pos k3, er, esz (), eline (), elc (), Option.bind_some, if_pos k4, if_pos k5, ec, ew (), ecc (), Int.toNat_natCast, hwi ()]
      by_cases q : ((i + 1 + j : Nat) : Int) = ((i + 1 : Nat) : Int)
      · rw [if_pos q, if_pos q, if_pos k6, if_pos k7, if_pos k8]
      · rw [if_neg q, if_neg q, if_pos k6, if_pos k7]
        by_cases q2 : lc w (ws.drop i) (j + 1) + bc w (ws.drop (i + 1 + j)) < rd C (i : Int)
        · rw [if_pos q2, if_pos q2, if_pos k8]
        · rw [if_neg q2, if_neg q2]
    clear esz eline elc ecc e0 ew hwi
    by_cases hj : j = 0
    · subst hj
      refine Tells.step (fun k => by rw [head k, if_pos (by omega)]) (impl_best_l1 ws w hf R i hi K d 1 _ _ _ (by omega) (hr.put hi ?_ ?_) rfl)
      · show _ = lc w (ws.drop i) 1 + costAt (tab w (ws.drop (i + 1))) 0
        rw [ect]
      · show _ = ((i + 1 : Nat) : Int)
        rfl
    · have hci := hr.c (by omega)
      by_cases q : lc w (ws.drop i) (j + 1) + bc w (ws.drop (i + 1 + j)) < rd C (i : Int)
      · rw [hci, ← ect] at q
        have hp := pickTo_at w (ws.drop i) (tab w (ws.drop (i + 1))) (by omega) q
        rw [ect, ← hci] at q
        refine Tells.step (fun k => by rw [head k, if_neg (by omega), if_pos q]) (impl_best_l1 ws w hf R i hi K d (j + 1) _ _ _ (by omega) (hr.put hi ?_ ?_) rfl)
        · rw [hp, ← ect]
        · rw [hp]
          show _ = ((i + (j + 1) : Nat) : Int)
          omega
      · have q' := q
        rw [hci, ← ect] at q'
        have hp := pickTo_not w (ws.drop i) (tab w (ws.drop (i + 1))) (by omega) q'
        exact Tells.step (fun k => by rw [head k, if_neg (by omega), if_neg q]) (impl_best_l1 ws w hf R i hi K d (j + 1) _ _ _ (by omega) (hr.keep (by omega) hp) rfl)

theorem take_drop_some {ws : List ByteArray} (i b : Nat) : ((ws.take (i + b)).drop i) = (ws.drop i).take b := by
  rw [List.drop_take, Nat.add_sub_cancel_left]

theorem impl_best_l2 (ws : List ByteArray) (w : Int) (hf : Fit ws w) (C N : List Int) (hI : BInv ws w id 0 C N) : ∀ (d i : Nat) (out : List ByteArray), ws.length - i ≤ d → i ≤ ws.length → out.length ≤ i →
    Tells (fun k => impl_WrapBest.l2 k ws (ws.length : Int) N out (i : Int)) (out ++ bestLines w (ws.drop i), true)
  | 0, i, out, hd, hi, ho => by
    obtain rfl : i = ws.length := by omega
    refine Tells.step (fun k => ?_) (Tells.pure _)
    simp only [impl_WrapBest.l2]
    rw [if_neg (by omega), List.drop_length]
    show some (out, true) = some (out ++ [], true)
    rw [List.append_nil]
  | d + 1, i, out, hd, hi, ho => by
    by_cases hlt : i < ws.length
    · have hl := hf.len
      have hne : ws.drop i ≠ [] := by
        intro e
        have := congrArg List.length e
        rw [List.length_drop, List.length_nil] at this
        omega
      obtain ⟨b1, b2, -⟩ := bn_eq w hne
      rw [List.length_drop] at b2
      have en := hI.n i (by omega) hlt
      have l2 := hI.ln
      have ih := impl_best_l2 ws w hf C N hI d (i + bn w (ws.drop i)) (out ++ [lineWith sp1 ((ws.drop i).take (bn w (ws.drop i)))]) (by omega) (by omega) (by rw [List.length_append, List.length_singleton]; omega)
      rw [← List.drop_drop, List.append_assoc, List.singleton_append, ← best_cons w hne] at ih
      have hq := line_le (hf.drop i) (bn w (ws.drop i))
      have hj := join_tells ((ws.drop i).take (bn w (ws.drop i))) sp1 (by rw [List.length_take, List.length_drop]; omega) (by omega)
      refine Tells.step (fun k => ?_) ih
      simp only [impl_WrapBest.l2]
      rw [if_pos (by omega), if_pos (by omega), if_pos (by omega), en, if_pos (by simp only [id]; omega), if_pos (by simp only [id]; omega), Int.toNat_natCast, Int.toNat_natCast]
      simp only [id, take_drop_some]
      have hj' : strings_Join.f ((ws.drop i).take (bn w (ws.drop i))) (⟨#[32]⟩ : ByteArray) = some (lineWith sp1 ((ws.drop i).take (bn w (ws.drop i)))) := hj
      rw [hj', Option.bind_some, if_pos (by omega)]
    · obtain rfl : i = ws.length := by omega
      refine Tells.step (fun k => ?_) (Tells.pure _)
      simp only [impl_WrapBest.l2]
      rw [if_neg (by omega), List.drop_length]
      show some (out, true) = some (out ++ [], true)
      rw [List.append_nil]

theorem impl_best_l0 (ws : List ByteArray) (w : Int) (hf : Fit ws w) : ∀ (p : Nat) (C N : List Int), p ≤ ws.length → BInv ws w id p C N →
    Tells (fun k => impl_WrapBest.l0 k ws w (ws.length : Int) C N ((p : Int) - 1)) (bestLines w ws, true)
  | 0, C, N, hp, hI => by
    have h := impl_best_l2 ws w hf C N hI ws.length 0 [] (by omega) (by omega) (by simp)
    rw [List.drop_zero, List.nil_append] at h
    refine Tells.step (fun k => ?_) h
    simp only [impl_WrapBest.l0]
    rw [if_neg (by omega)]; rfl
  | p + 1, C, N, hp, hI => by
    have hl := hf.len
    have h := impl_best_l1 ws w hf (bestLines w ws, true) p (by omega) (fun C N h => impl_best_l0 ws w hf p C N (by omega) h) (ws.length - p) 0 C N (-1) (by omega)
      ⟨hI, fun q => by omega, fun q => by omega⟩ (by simp [total])
    refine Tells.step (fun k => ?_) h
    simp only [impl_WrapBest.l0]
    have e : (((p + 1 : Nat) : Int) - 1) = (p : Int) := by omega
    rw [e, if_pos (by omega), wr64 (by omega) (by omega)]; rfl

theorem binv_start (ws : List ByteArray) (w : Int) (off : Nat → Nat) : BInv ws w off ws.length (List.replicate (ws.length + 1) 0) (List.replicate (ws.length + 1) 0) := by
  refine ⟨by simp, by simp, fun m h1 h2 => ?_, fun m h1 h2 => by omega⟩
  obtain rfl : m = ws.length := by omega
  rw [List.drop_length, bc_nil]
  unfold rd
  rw [Int.toNat_natCast, List.getD_eq_getElem?_getD, List.getElem?_replicate]
  split <;> rfl

theorem impl_best (ws : List ByteArray) (w : Int) (hs : Small ws) : Tells (fun k => impl_WrapBest.f k ws w) (wrapBest ws w) := by
  unfold impl_WrapBest.f wrapBest
  refine Tells.bind (impl_wrapOk_tells ws w hs) ?_
  cases h : (wordsOk ws && okWidth w) with
  | false => exact Tells.of fun k => rfl
  | true =>
    obtain ⟨h1, h2, h3, h4⟩ := ok_parts h
    have hf : Fit ws w := ⟨h1, fun s hm => (h2 s hm).2, h3, h4⟩
    have e1 : wrap64 ((ws.length : Int) + 1) = ((ws.length + 1 : Nat) : Int) := by rw [wr64 (by omega) (by omega)]; rfl
    have e2 : wrap64 ((ws.length : Int) - 1) = (ws.length : Int) - 1 := wr64 (by omega) (by omega)
    refine Tells.congr (fun k => ?_) (impl_best_l0 ws w hf ws.length _ _ (Nat.le_refl _) (binv_start ws w id))
    rw [if_pos rfl, e1, e2, if_pos (by omega), if_pos (by rw [Int.toNat_natCast]; omega), Int.toNat_natCast]

end DocPure
