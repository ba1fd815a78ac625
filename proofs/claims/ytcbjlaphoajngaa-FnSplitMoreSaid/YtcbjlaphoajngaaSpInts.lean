/- The printed helpers on slices of whole numbers, in plain words: a copy, equality, marks. -/
import Derived.Test.YtcbjlaphoajngaaPSpx
import Derived.Test.YtcbjlaphoajngaaTells
namespace DocPure
open Go.RowKit Go.Proofs.Ytcbjlaphoajngaa.PSp Go.Proofs.YtcbjlaphoajngaaW.PrintWords

theorem wr64 {n : Int} (h0 : -9223372036854775808 ≤ n) (h1 : n < 9223372036854775808) : wrap64 n = n := by
  unfold wrap64; omega

theorem rd_get {l : List Int} {i : Nat} (h : i < l.length) : rd l (i : Int) = l[i] := by
  unfold rd
  rw [Int.toNat_natCast, List.getD_eq_getElem?_getD, List.getElem?_eq_getElem h]; rfl

theorem toInts_l0 (x : List Int) (hx : x.length ≤ 1048576) : ∀ (d i : Nat), i + d = x.length →
    Tells (fun k => laws_toIntS.l0 k x (x.take i ++ List.replicate d 0) (i : Int)) x
  | 0, i, hd => by
    refine Tells.step (fun k => ?_) (Tells.pure _)
    simp only [laws_toIntS.l0]
    rw [if_neg (by omega), List.take_of_length_le (by omega), List.replicate_zero, List.append_nil]
  | d + 1, i, hd => by
    refine Tells.step (fun k => ?_) (toInts_l0 x hx d (i + 1) (by omega))
    simp only [laws_toIntS.l0]
    have hl : (x.take i ++ List.replicate (d + 1) 0).length = x.length := by simp; omega
    rw [if_pos (by omega), if_pos (by omega), if_pos (by omega), wr64 (by omega) (by omega), Int.toNat_natCast]
    congr 1
    rw [List.set_append_right _ _ (by simp; omega)]
    rw [show i - (x.take i).length = 0 from by simp; omega, List.replicate_succ, List.set_cons_zero, rd_get (by omega), List.take_succ_eq_append_getElem (by omega), List.append_assoc]; rfl

theorem toInts (x : List Int) (hx : x.length ≤ 1048576) : Tells (fun k => laws_toIntS.f k x) x := by
  refine Tells.congr (fun k => ?_) (toInts_l0 x hx x.length 0 (by omega))
  unfold laws_toIntS.f
  rw [if_pos (by omega), if_pos (by omega), List.take_zero, List.nil_append, Int.toNat_natCast]; rfl

theorem eqInts_l0 (x y : List Int) (hx : x.length ≤ 1048576) (hl : x.length = y.length) : ∀ (d i : Nat), i + d = x.length →
    Tells (fun k => laws_eqIntS.l0 k x y (i : Int)) (decide (x.drop i = y.drop i))
  | 0, i, hd => by
    refine Tells.step (fun k => ?_) (Tells.pure _)
    simp only [laws_eqIntS.l0]
    rw [if_neg (by omega), List.drop_of_length_le (by omega), List.drop_of_length_le (by omega)]; rfl
  | d + 1, i, hd => by
    have ex := List.drop_eq_getElem_cons (l := x) (i := i) (by omega)
    have ey := List.drop_eq_getElem_cons (l := y) (i := i) (by omega)
    by_cases h : x[i]'(by omega) = y[i]'(by omega)
    · have e : decide (x.drop i = y.drop i) = decide (x.drop (i + 1) = y.drop (i + 1)) := by rw [ex, ey, h]; exact decide_eq_decide.2 ⟨fun q => (List.cons.inj q).2, fun q => by rw [q]⟩
      rw [e]
      refine Tells.step (fun k => ?_) (eqInts_l0 x y hx hl d (i + 1) (by omega))
      simp only [laws_eqIntS.l0]
      rw [if_pos (by omega), if_pos (by omega), if_pos (by omega), if_pos (by rw [rd_get (by omega), rd_get (by omega)]; exact h), wr64 (by omega) (by omega)]; rfl
    · have e : decide (x.drop i = y.drop i) = false := decide_eq_false fun q => h (by rw [ex, ey] at q; exact (List.cons.inj q).1)
      rw [e]
      refine Tells.step (fun k => ?_) (Tells.pure _)
      simp only [laws_eqIntS.l0]
      rw [if_pos (by omega), if_pos (by omega), if_pos (by omega), if_neg (by rw [rd_get (by omega), rd_get (by omega)]; exact h)]

theorem eqInts (x y : List Int) (hx : x.length ≤ 1048576) : Tells (fun k => laws_eqIntS.f k x y) (decide (x = y)) := by
  by_cases hl : x.length = y.length
  · refine Tells.congr (fun k => ?_) (eqInts_l0 x y hx hl x.length 0 (by omega))
    unfold laws_eqIntS.f
    rw [if_pos (by omega)]; rfl
  · rw [decide_eq_false (fun h => hl (by rw [h]))]
    refine Tells.of fun k => ?_
    unfold laws_eqIntS.f
    rw [if_neg (by omega)]

theorem daInts_l0 (x y : List Int) (hx : x.length ≤ 1048576) (hl : x.length = y.length) : ∀ (d i : Nat), i + d = x.length →
    Tells (fun k => laws_daInts.l0 k x y (i : Int)) (decide (x.drop i = y.drop i))
  | 0, i, hd => by
    refine Tells.step (fun k => ?_) (Tells.pure _)
    simp only [laws_daInts.l0]
    rw [if_neg (by omega), List.drop_of_length_le (by omega), List.drop_of_length_le (by omega)]; rfl
  | d + 1, i, hd => by
    have ex := List.drop_eq_getElem_cons (l := x) (i := i) (by omega)
    have ey := List.drop_eq_getElem_cons (l := y) (i := i) (by omega)
    by_cases h : x[i]'(by omega) = y[i]'(by omega)
    · have e : decide (x.drop i = y.drop i) = decide (x.drop (i + 1) = y.drop (i + 1)) := by rw [ex, ey, h]; exact decide_eq_decide.2 ⟨fun q => (List.cons.inj q).2, fun q => by rw [q]⟩
      rw [e]
      refine Tells.step (fun k => ?_) (daInts_l0 x y hx hl d (i + 1) (by omega))
      simp only [laws_daInts.l0]
      rw [if_pos (by omega), if_pos (by omega), if_pos (by omega), if_pos (by rw [rd_get (by omega), rd_get (by omega)]; exact h), wr64 (by omega) (by omega)]; rfl
    · have e : decide (x.drop i = y.drop i) = false := decide_eq_false fun q => h (by rw [ex, ey] at q; exact (List.cons.inj q).1)
      rw [e]
      refine Tells.step (fun k => ?_) (Tells.pure _)
      simp only [laws_daInts.l0]
      rw [if_pos (by omega), if_pos (by omega), if_pos (by omega), if_neg (by rw [rd_get (by omega), rd_get (by omega)]; exact h)]

theorem daInts (x y : List Int) (hx : x.length ≤ 1048576) : Tells (fun k => laws_daInts.f k x y) (decide (x = y)) := by
  by_cases hl : x.length = y.length
  · refine Tells.congr (fun k => ?_) (daInts_l0 x y hx hl x.length 0 (by omega))
    unfold laws_daInts.f
    rw [if_pos (by omega)]; rfl
  · rw [decide_eq_false (fun h => hl (by rw [h]))]
    refine Tells.of fun k => ?_
    unfold laws_daInts.f
    rw [if_neg (by omega)]

def marks (q n : Nat) : List Int := (List.range n).map fun j => ((q + j : Nat) : Int)

theorem markInts_l0 (q : Nat) (hq : q ≤ 1048576) : ∀ (t pre : List Int), pre.length + t.length ≤ 1048576 →
    Tells (fun k => laws_markIntS.l0 k (pre ++ t) ((q + pre.length : Nat) : Int) (pre.length : Int)) (((q + pre.length + t.length : Nat) : Int), pre ++ marks (q + pre.length) t.length)
  | [], pre, hl => by
    refine Tells.step (fun k => ?_) (Tells.pure _)
    simp only [laws_markIntS.l0, List.append_nil]
    rw [if_neg (by omega)]; simp [marks]
  | a :: t, pre, hl => by
    have ih := markInts_l0 q hq t (pre ++ [((q + pre.length : Nat) : Int)]) (by simp at hl ⊢; omega)
    simp only [List.length_append, List.length_cons, List.length_nil, Nat.zero_add, List.append_assoc, List.singleton_append] at ih
    simp only [List.length_cons] at hl
    have e : marks (q + pre.length) (t.length + 1) = ((q + pre.length : Nat) : Int) :: marks (q + (pre.length + 1)) t.length := by
      unfold marks
      rw [List.range_succ_eq_map, List.map_cons, List.map_map]
      congr 1
      refine List.map_congr_left fun j _ => ?_
      simp only [Function.comp]; omega
    rw [List.length_cons, e, show q + pre.length + (t.length + 1) = q + (pre.length + 1) + t.length from by omega]
    refine Tells.step (fun k => ?_) ih
    simp only [laws_markIntS.l0]
    rw [if_pos (by simp; omega), if_pos (by omega), wr64 (by omega) (by omega), wr64 (by omega) (by omega), Int.toNat_natCast, List.set_append_right _ _ (by omega), Nat.sub_self, List.set_cons_zero]
    rfl

theorem markInts (t : List Int) (hl : t.length ≤ 1048576) : Tells (fun k => laws_markIntS.f k t 1) (((1 + t.length : Nat) : Int), marks 1 t.length) := by
  have h := markInts_l0 1 (by omega) t [] (by simpa using hl)
  exact h

theorem heldInts_l0 (q : Nat) (hq : q ≤ 1048576) : ∀ (n : Nat) (pre : List Int), pre.length + n ≤ 1048576 →
    Tells (fun k => laws_heldIntS.l0 k (pre ++ marks (q + pre.length) n) ((q + pre.length : Nat) : Int) (pre.length : Int)) ((q + pre.length + n : Nat) : Int)
  | 0, pre, hl => by
    refine Tells.step (fun k => ?_) (Tells.pure _)
    simp only [laws_heldIntS.l0, marks, List.range_zero, List.map_nil, List.append_nil]
    rw [if_neg (by omega)]; rfl
  | n + 1, pre, hl => by
    have e : marks (q + pre.length) (n + 1) = ((q + pre.length : Nat) : Int) :: marks (q + (pre.length + 1)) n := by
      unfold marks
      rw [List.range_succ_eq_map, List.map_cons, List.map_map]
      congr 1
      refine List.map_congr_left fun j _ => ?_
      simp only [Function.comp]; omega
    have ih := heldInts_l0 q hq n (pre ++ [((q + pre.length : Nat) : Int)]) (by simp at hl ⊢; omega)
    simp only [List.length_append, List.length_cons, List.length_nil, Nat.zero_add, List.append_assoc, List.singleton_append] at ih
    rw [e, show q + pre.length + (n + 1) = q + (pre.length + 1) + n from by omega]
    refine Tells.step (fun k => ?_) ih
    simp only [laws_heldIntS.l0]
    have hr : rd (pre ++ ((q + pre.length : Nat) : Int) :: marks (q + (pre.length + 1)) n) (pre.length : Int) = ((q + pre.length : Nat) : Int) := by
      rw [rd_get (by simp)]; simp
    rw [if_pos (by simp; omega), if_pos (by omega), if_pos hr, wr64 (by omega) (by omega), wr64 (by omega) (by omega)]
    rfl

theorem heldInts (n : Nat) (hl : n ≤ 1048576) : Tells (fun k => laws_heldIntS.f k (marks 1 n) 1) ((1 + n : Nat) : Int) := by
  have h := heldInts_l0 1 (by omega) n [] (by simpa using hl)
  exact h

end DocPure
