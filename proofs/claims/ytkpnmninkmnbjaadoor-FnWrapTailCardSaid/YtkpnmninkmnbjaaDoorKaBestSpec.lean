/- The printed WrapBest of the reference is the plain one. -/
import Derived.Test.YtkpnmninkmnbjaaDoorPKax0
import Derived.Test.YtkpnmninkmnbjaaDoorPKax10
import Derived.Test.YtkpnmninkmnbjaaDoorKaBestLink
namespace DocPure
open Go.RowKit Go.Proofs.YtkpnmninkmnbjaaDoor.PKa Go.Proofs.YtkpnmninkmnbjaaDoorW.PrintWords

def noOff : Nat → Nat := fun _ => 0

/-- What follows a line: count j + 1 has the value c. -/
theorem spec_fin (ws : List ByteArray) (w : Int) (hl : ws.length ≤ 18) (R : List Int × List Int → Prop) (i j : Nat) (hi : i < ws.length) (hd : i + (j + 1) ≤ ws.length) (C N : List Int) (hr : BRow ws w noOff i j C N)
    (ih : ∀ C N, BRow ws w noOff i (j + 1) C N → ∃ r, R r ∧ Tells (fun k => spec_l12Best.l1 k ws w C N (i : Int) ((j + 1 + 1 : Nat) : Int)) r)
    (c : Int) (hc : c = lc w (ws.drop i) (j + 1) + bc w (ws.drop (i + (j + 1)))) : ∃ r, R r ∧ Tells (fun k =>
        (if ((j + 1 : Nat) : Int) = 1 then (if 0 ≤ (i : Int) then (if (i : Int) < (C.length : Int) then (if (i : Int) < (N.length : Int) then (spec_l12Best.l1 k ws w (C.set (i : Int).toNat c) (N.set (i : Int).toNat ((j + 1 : Nat) : Int)) (i : Int) (wrap64 (((j + 1 : Nat) : Int) + 1))) else (none)) else (none)) else (none))
          else (if 0 ≤ (i : Int) then (if (i : Int) < (C.length : Int) then (if c < (rd C (i : Int)) then (if (i : Int) < (N.length : Int) then (spec_l12Best.l1 k ws w (C.set (i : Int).toNat c) (N.set (i : Int).toNat ((j + 1 : Nat) : Int)) (i : Int) (wrap64 (((j + 1 : Nat) : Int) + 1))) else (none)) else (spec_l12Best.l1 k ws w C N (i : Int) (wrap64 (((j + 1 : Nat) : Int) + 1)))) else (none)) else (none)))) r := by
  have l1 := hr.up.lc
  have l2 := hr.up.ln
  have k6 : (0 : Int) ≤ (i : Int) := by omega
  have k7 : (i : Int) < (C.length : Int) := by omega
  have k8 : (i : Int) < (N.length : Int) := by omega
  have ew : wrap64 (((j + 1 : Nat) : Int) + 1) = ((j + 1 + 1 : Nat) : Int) := by rw [wr64 (by omega) (by omega)]; omega
  have ect := cost_tab (ws := ws) w (i := i) (j := j) (by omega)
  rw [show i + 1 + j = i + (j + 1) from by omega] at ect
  rw [ew]
  clear ew
  by_cases hj : j = 0
  · subst hj
    obtain ⟨r, hR, h⟩ := ih (C.set i c) (N.set i 1) (hr.put hi (by
      show _ = lc w (ws.drop i) 1 + costAt (tab w (ws.drop (i + 1))) 0
      rw [ect]; exact hc) rfl)
    refine ⟨r, hR, Tells.congr (fun k => ?_) h⟩
    rw [if_pos (show ((0 + 1 : Nat) : Int) = 1 from rfl), if_pos k6, if_pos k7, if_pos k8]; rfl
  · have kj : ¬ ((j + 1 : Nat) : Int) = 1 := by omega
    have hci := hr.c (by omega)
    by_cases q : c < rd C (i : Int)
    · have q' := q
      rw [hc, hci, ← ect] at q'
      have hp := pickTo_at w (ws.drop i) (tab w (ws.drop (i + 1))) (by omega) q'
      obtain ⟨r, hR, h⟩ := ih (C.set i c) (N.set i ((j + 1 : Nat) : Int)) (hr.put hi (by rw [hp, hc, ← ect]) (by rw [hp]; show _ = ((0 + (j + 1) : Nat) : Int); omega))
      refine ⟨r, hR, Tells.congr (fun k => ?_) h⟩
      rw [if_neg kj, if_pos k6, if_pos k7, if_pos q, if_pos k8]; rfl
    · have q' := q
      rw [hc, hci, ← ect] at q'
      have hp := pickTo_not w (ws.drop i) (tab w (ws.drop (i + 1))) (by omega) q'
      obtain ⟨r, hR, h⟩ := ih C N (hr.keep (by omega) hp)
      refine ⟨r, hR, Tells.congr (fun k => ?_) h⟩
      rw [if_neg kj, if_pos k6, if_pos k7, if_neg q]

theorem spec_step (ws : List ByteArray) (w : Int) (hf : Fit ws w) (R : List Int × List Int → Prop) (i j : Nat) (hi : i < ws.length) (hd : i + (j + 1) ≤ ws.length) (C N : List Int) (hr : BRow ws w noOff i j C N)
    (ih : ∀ C N, BRow ws w noOff i (j + 1) C N → ∃ r, R r ∧ Tells (fun k => spec_l12Best.l1 k ws w C N (i : Int) ((j + 1 + 1 : Nat) : Int)) r) :
    ∃ r, R r ∧ Tells (fun k => spec_l12Best.l1 k ws w C N (i : Int) ((j + 1 : Nat) : Int)) r := by
  have hl := hf.len
  have hfd := hf.drop i
  have hq := line_le hfd (j + 1)
  have hlc := lc_le hfd (j + 1)
  have hbc := bc_at hf (i + (j + 1))
  have ec := hr.up.c (i + (j + 1)) (by omega) (by omega)
  have l1 := hr.up.lc
  have hline := line12 ((ws.drop i).take (j + 1)) (by rw [List.length_take, List.length_drop]; omega) (by have := total_take12 hfd (j + 1); omega)
  have k1 : ((i + (j + 1) : Nat) : Int) ≤ (ws.length : Int) := by omega
  have k2 : (0 : Int) ≤ (i : Int) := by omega
  have k3 : (i : Int) ≤ ((i + (j + 1) : Nat) : Int) := by omega
  have k4 : (0 : Int) ≤ ((i + (j + 1) : Nat) : Int) := by omega
  have k5 : ((i + (j + 1) : Nat) : Int) < (C.length : Int) := by omega
  have kl : decide (j + 1 = (ws.drop i).length) = decide (i + (j + 1) = ws.length) := decide_eq_decide.2 (by rw [List.length_drop]; omega)
  have kA : 0 ≤ ((lineWith sp1 ((ws.drop i).take (j + 1))).size : Int) := by omega
  have kB : ((lineWith sp1 ((ws.drop i).take (j + 1))).size : Int) ≤ 1000 := by omega
  have e0 : ∀ _ : Unit, wrap64 ((i : Int) + ((j + 1 : Nat) : Int)) = ((i + (j + 1) : Nat) : Int) := fun _ => by rw [wr64 (by omega) (by omega)]; omega
  have es : ∀ _ : Unit, wrap64 (bc w (ws.drop (i + (j + 1))) + lc w (ws.drop i) (j + 1)) = lc w (ws.drop i) (j + 1) + bc w (ws.drop (i + (j + 1))) := fun _ => by rw [wr64 (by omega) (by omega), Int.add_comm]
  by_cases hc : (i + (j + 1) < ws.length ∨ ((lineWith sp1 ((ws.drop i).take (j + 1))).size : Int) > w)
  · have elc : lc w (ws.drop i) (j + 1) = lineCost ((lineWith sp1 ((ws.drop i).take (j + 1))).size : Int) w false := by
      unfold lc lineCost
      by_cases q : ((lineWith sp1 ((ws.drop i).take (j + 1))).size : Int) > w
      · rw [if_pos q, if_pos q]
      · rw [if_neg q, if_neg q, kl, decide_eq_false (by rcases hc with hc | hc; omega; exact absurd hc q)]
    obtain ⟨r, hR, h⟩ := spec_fin ws w hl R i j hi hd C N hr ih _ rfl
    refine ⟨r, hR, Tells.step (g' := fun k => (spec_l12Line.f k ((ws.drop i).take (j + 1))).bind fun t => if ((i + (j + 1) : Nat) : Int) < (ws.length : Int) then spec_l12Best.j2 k ws w C N (i : Int) ((j + 1 : Nat) : Int) t (bc w (ws.drop (i + (j + 1)))) true else spec_l12Best.j2 k ws w C N (i : Int) ((j + 1 : Nat) : Int) t (bc w (ws.drop (i + (j + 1)))) (decide ((t.size : Int) > w))) (fun k => ?_) (Tells.bind hline ?_)⟩
    · simp only [spec_l12Best.l1]
      rw [e0 (), if_pos k1, if_pos k2, if_pos k3, Int.toNat_natCast, Int.toNat_natCast, take_drop_some, ec]
      congr 1
      funext t
      rw [if_pos k4, if_pos k5]
    · have e : ∀ k, (if ((i + (j + 1) : Nat) : Int) < (ws.length : Int) then spec_l12Best.j2 k ws w C N (i : Int) ((j + 1 : Nat) : Int) (lineWith sp1 ((ws.drop i).take (j + 1))) (bc w (ws.drop (i + (j + 1)))) true else spec_l12Best.j2 k ws w C N (i : Int) ((j + 1 : Nat) : Int) (lineWith sp1 ((ws.drop i).take (j + 1))) (bc w (ws.drop (i + (j + 1)))) (decide (((lineWith sp1 ((ws.drop i).take (j + 1))).size : Int) > w))) = spec_l12Best.j2 k ws w C N (i : Int) ((j + 1 : Nat) : Int) (lineWith sp1 ((ws.drop i).take (j + 1))) (bc w (ws.drop (i + (j + 1)))) true := fun k => by
        by_cases q : i + (j + 1) < ws.length
        · rw [if_pos (by omega)]
        · rw [if_neg (by omega), decide_eq_true (by rcases hc with hc | hc; exact absurd hc q; exact hc)]
      refine Tells.congr e (Tells.step (fun k => ?_) h)
      simp only [spec_l12Best.j2]
      rw [if_pos trivial, spec_cost_tells kA kB hf.w0 hf.w1, Option.bind_some, ← elc, es ()]
  · have h1 : ¬ i + (j + 1) < ws.length := fun q => hc (.inl q)
    have h2 : ¬ ((lineWith sp1 ((ws.drop i).take (j + 1))).size : Int) > w := fun q => hc (.inr q)
    have elc : lc w (ws.drop i) (j + 1) = 0 := by
      unfold lc lineCost
      rw [if_neg h2, kl, decide_eq_true (by omega)]; rfl
    have k6 : ¬ ((i + (j + 1) : Nat) : Int) < (ws.length : Int) := by omega
    obtain ⟨r, hR, h⟩ := spec_fin ws w hl R i j hi hd C N hr ih (bc w (ws.drop (i + (j + 1)))) (by rw [elc, Int.zero_add])
    refine ⟨r, hR, Tells.step (g' := fun k => (spec_l12Line.f k ((ws.drop i).take (j + 1))).bind fun t => spec_l12Best.j2 k ws w C N (i : Int) ((j + 1 : Nat) : Int) t (bc w (ws.drop (i + (j + 1)))) (decide ((t.size : Int) > w))) (fun k => ?_) (Tells.bind hline ?_)⟩
    · simp only [spec_l12Best.l1]
      rw [e0 (), if_pos k1, if_pos k2, if_pos k3, Int.toNat_natCast, Int.toNat_natCast, take_drop_some, ec]
      congr 1
      funext t
      rw [if_pos k4, if_pos k5, if_neg k6]
    · rw [decide_eq_false h2]
      refine Tells.step (fun k => ?_) h
      simp only [spec_l12Best.j2]
      rw [if_neg (by decide)]

theorem spec_best_l1 (ws : List ByteArray) (w : Int) (hf : Fit ws w) (R : List Int × List Int → Prop) (i : Nat) (hi : i < ws.length)
    (K : ∀ C N, BInv ws w noOff i C N → ∃ r, R r ∧ Tells (fun k => spec_l12Best.l0 k ws w C N ((i : Int) - 1)) r) :
    ∀ (d j : Nat) (C N : List Int), i + j + d = ws.length → BRow ws w noOff i j C N →
    ∃ r, R r ∧ Tells (fun k => spec_l12Best.l1 k ws w C N (i : Int) ((j + 1 : Nat) : Int)) r
  | 0, j, C, N, hd, hr => by
    obtain rfl : j = ws.length - i := by omega
    have hl := hf.len
    obtain ⟨r, hR, h⟩ := K C N (hr.done hi)
    refine ⟨r, hR, Tells.step (fun k => ?_) h⟩
    simp only [spec_l12Best.l1]
    rw [wr64 (n := (i : Int) + _) (by omega) (by omega), if_neg (by omega), wr64 (by omega) (by omega)]
  | d + 1, j, C, N, hd, hr => spec_step ws w hf R i j hi (by omega) C N hr (fun C N h => spec_best_l1 ws w hf R i hi K d (j + 1) C N (by omega) h)

theorem spec_best_l0 (ws : List ByteArray) (w : Int) (hf : Fit ws w) : ∀ (p : Nat) (C N : List Int), p ≤ ws.length → BInv ws w noOff p C N →
    ∃ r : List Int × List Int, BInv ws w noOff 0 r.1 r.2 ∧ Tells (fun k => spec_l12Best.l0 k ws w C N ((p : Int) - 1)) r
  | 0, C, N, hp, hI => by
    refine ⟨(C, N), hI, Tells.step (fun k => ?_) (Tells.pure _)⟩
    simp only [spec_l12Best.l0]
    rw [if_neg (by omega)]
  | p + 1, C, N, hp, hI => by
    have hl := hf.len
    obtain ⟨r, hR, h⟩ := spec_best_l1 ws w hf (fun r => BInv ws w noOff 0 r.1 r.2) p (by omega) (fun C N h => spec_best_l0 ws w hf p C N (by omega) h) (ws.length - p) 0 C N (by omega)
      ⟨hI, fun q => by omega, fun q => by omega⟩
    refine ⟨r, hR, Tells.step (fun k => ?_) h⟩
    simp only [spec_l12Best.l0]
    have e : (((p + 1 : Nat) : Int) - 1) = (p : Int) := by omega
    rw [e, if_pos (by omega)]; rfl

theorem spec_out_l0 (ws : List ByteArray) (w : Int) (hf : Fit ws w) (C N : List Int) (hI : BInv ws w noOff 0 C N) : ∀ (d i : Nat) (out : List ByteArray), ws.length - i ≤ d → i ≤ ws.length → out.length ≤ i →
    Tells (fun k => spec_WrapBest.l0 k ws out N (i : Int)) (out ++ bestLines w (ws.drop i), true)
  | 0, i, out, hd, hi, ho => by
    obtain rfl : i = ws.length := by omega
    refine Tells.step (fun k => ?_) (Tells.pure _)
    simp only [spec_WrapBest.l0]
    rw [if_neg (by omega), List.drop_length]
    show some (out, true) = some (out ++ [], true)
    rw [List.append_nil]
  | d + 1, i, out, hd, hi, ho => by
    by_cases hlt : i < ws.length
    · have hl := hf.len
      have hne : ws.drop i ≠ [] := by
        intro e
        have := congrArg List.length e
        rw [List.length_drop, List.length_nil] at this
        omega
      obtain ⟨b1, b2, -⟩ := bn_eq w hne
      rw [List.length_drop] at b2
      have en : rd N (i : Int) = ((bn w (ws.drop i) : Nat) : Int) := by rw [hI.n i (by omega) hlt]; show ((0 + _ : Nat) : Int) = _; rw [Nat.zero_add]
      have l2 := hI.ln
      have ih := spec_out_l0 ws w hf C N hI d (i + bn w (ws.drop i)) (out ++ [lineWith sp1 ((ws.drop i).take (bn w (ws.drop i)))]) (by omega) (by omega) (by rw [List.length_append, List.length_singleton]; omega)
      rw [← List.drop_drop, List.append_assoc, List.singleton_append, ← best_cons w hne] at ih
      have hline := line12 ((ws.drop i).take (bn w (ws.drop i))) (by rw [List.length_take, List.length_drop]; omega) (by have := total_take12 (hf.drop i) (bn w (ws.drop i)); omega)
      have ew : wrap64 ((i : Int) + ((bn w (ws.drop i) : Nat) : Int)) = ((i + bn w (ws.drop i) : Nat) : Int) := by rw [wr64 (by omega) (by omega)]; omega
      refine Tells.step (fun k => by simp only [spec_WrapBest.l0]; rw [if_pos (by omega), if_pos (by omega), if_pos (by omega), en, ew, if_pos (by omega), if_pos (by omega), Int.toNat_natCast, Int.toNat_natCast, take_drop_some]) (Tells.bind hline ?_)
      exact Tells.iteT (by omega) ih
    · obtain rfl : i = ws.length := by omega
      refine Tells.step (fun k => ?_) (Tells.pure _)
      simp only [spec_WrapBest.l0]
      rw [if_neg (by omega), List.drop_length]
      show some (out, true) = some (out ++ [], true)
      rw [List.append_nil]

theorem spec_best (ws : List ByteArray) (w : Int) (hs : Small ws) : Tells (fun k => spec_WrapBest.f k ws w) (wrapBest ws w) := by
  unfold spec_WrapBest.f wrapBest
  refine Tells.congr (fun k => Option.bind_some _ _) (Tells.bind (spec_wrapOk_tells ws w hs) ?_)
  cases h : (wordsOk ws && okWidth w) with
  | false => exact Tells.of fun k => rfl
  | true =>
    obtain ⟨h1, h2, h3, h4⟩ := ok_parts h
    have hf : Fit ws w := ⟨h1, fun s hm => (h2 s hm).2, h3, h4⟩
    have e1 : wrap64 ((ws.length : Int) + 1) = ((ws.length + 1 : Nat) : Int) := by rw [wr64 (by omega) (by omega)]; rfl
    have e2 : wrap64 ((ws.length : Int) - 1) = (ws.length : Int) - 1 := wr64 (by omega) (by omega)
    obtain ⟨r, hR, hT⟩ := spec_best_l0 ws w hf ws.length _ _ (Nat.le_refl _) (binv_start ws w noOff)
    refine Tells.congr (fun k => if_pos rfl) (Tells.bind (r := r) (Tells.congr (fun k => ?_) hT) ?_)
    · unfold spec_l12Best.f
      rw [e1, e2, if_pos (by omega), if_pos (by rw [Int.toNat_natCast]; omega), Int.toNat_natCast]
    · have h := spec_out_l0 ws w hf r.1 r.2 hR ws.length 0 [] (by omega) (by omega) (by simp)
      rw [List.drop_zero, List.nil_append] at h
      exact h

end DocPure
