-- Written by a program of this session (xprint). -- COMPACT
import Derived.Test.YthcfocpimoghbaaPWbx0
import Derived.Test.YthcfocpimoghbaaPWbx5
namespace Go.Proofs.Ythcfocpimoghbaa.PWb
open Go.RowKit Go.Proofs.YthcfocpimoghbaaW.PrintWords Go.Proofs.YthcfocpimoghbaaW.PrintLast Go.Proofs.YthcfocpimoghbaaW.PrintMore
attribute [local go_sem] max2_int min2_int max_two min_two max_three min_three max_four min_four   -- for this text's walks alone
set_option linter.unusedVariables false
set_option linter.unusedSimpArgs false

/-! ### spec_l12Best: function 54 -/
mutual
def spec_l12Best.l0 : Nat → List ByteArray → Int → List Int → List Int → Int → Option (List Int × List Int)
 | 0, _, _, _, _, _ => none
 | k + 1, x0, x1, x6, x7, x8 => if x8 ≥ 0 then (spec_l12Best.l1 k x0 x1 x6 x7 x8 1) else (some (x6, x7))
def spec_l12Best.l1 : Nat → List ByteArray → Int → List Int → List Int → Int → Int → Option (List Int × List Int)
 | 0, _, _, _, _, _, _ => none
 | k + 1, x0, x1, x6, x7, x8, x9 => if (wrap64 (x8 + x9)) ≤ (x0.length : Int) then (if 0 ≤ x8 then (if x8 ≤ (wrap64 (x8 + x9)) then ((spec_l12Line.f k ((x0.take ((wrap64 (x8 + x9)) : Int).toNat).drop (x8 : Int).toNat)).bind fun t197 => (if 0 ≤ (wrap64 (x8 + x9)) then (if (wrap64 (x8 + x9)) < (x6.length : Int) then (if (wrap64 (x8 + x9)) < (x0.length : Int) then (spec_l12Best.j2 k x0 x1 x6 x7 x8 x9 t197 (rd x6 (wrap64 (x8 + x9))) true) else (spec_l12Best.j2 k x0 x1 x6 x7 x8 x9 t197 (rd x6 (wrap64 (x8 + x9))) (decide ((t197.size : Int) > x1)))) else (none)) else (none))) else (none)) else (none)) else (spec_l12Best.l0 k x0 x1 x6 x7 (wrap64 (x8 - 1)))
def spec_l12Best.j2 : Nat → List ByteArray → Int → List Int → List Int → Int → Int → ByteArray → Int → Bool → Option (List Int × List Int)
 | 0, _, _, _, _, _, _, _, _, _ => none
 | k + 1, x0, x1, x6, x7, x8, x9, x10, x11, x59 => if x59 = true then ((spec_l12Cost.f (x10.size : Int) x1).bind fun t199 => (if x9 = 1 then (if 0 ≤ x8 then (if x8 < (x6.length : Int) then (if x8 < (x7.length : Int) then (spec_l12Best.l1 k x0 x1 (x6.set (x8 : Int).toNat (wrap64 (x11 + t199))) (x7.set (x8 : Int).toNat x9) x8 (wrap64 (x9 + 1))) else (none)) else (none)) else (none)) else (if 0 ≤ x8 then (if x8 < (x6.length : Int) then (if (wrap64 (x11 + t199)) < (rd x6 x8) then (if x8 < (x7.length : Int) then (spec_l12Best.l1 k x0 x1 (x6.set (x8 : Int).toNat (wrap64 (x11 + t199))) (x7.set (x8 : Int).toNat x9) x8 (wrap64 (x9 + 1))) else (none)) else (spec_l12Best.l1 k x0 x1 x6 x7 x8 (wrap64 (x9 + 1)))) else (none)) else (none)))) else (if x9 = 1 then (if 0 ≤ x8 then (if x8 < (x6.length : Int) then (if x8 < (x7.length : Int) then (spec_l12Best.l1 k x0 x1 (x6.set (x8 : Int).toNat x11) (x7.set (x8 : Int).toNat x9) x8 (wrap64 (x9 + 1))) else (none)) else (none)) else (none)) else (if 0 ≤ x8 then (if x8 < (x6.length : Int) then (if x11 < (rd x6 x8) then (if x8 < (x7.length : Int) then (spec_l12Best.l1 k x0 x1 (x6.set (x8 : Int).toNat x11) (x7.set (x8 : Int).toNat x9) x8 (wrap64 (x9 + 1))) else (none)) else (spec_l12Best.l1 k x0 x1 x6 x7 x8 (wrap64 (x9 + 1)))) else (none)) else (none)))
end
def spec_l12Best.f (k : Nat) (l0 : List ByteArray) (a1 : Int) : Option (List Int × List Int) := if 0 ≤ (wrap64 ((l0.length : Int) + 1)) then (if (wrap64 ((l0.length : Int) + 1) : Int).toNat ≤ 35184372088832 then (spec_l12Best.l0 k l0 a1 (List.replicate (wrap64 ((l0.length : Int) + 1) : Int).toNat 0) (List.replicate (wrap64 ((l0.length : Int) + 1) : Int).toNat 0) (wrap64 ((l0.length : Int) - 1))) else (none)) else (none)
theorem spec_l12Best.mono_l : ∀ k, (∀ y0 y1 y2 y3 y4, LeO (spec_l12Best.l0 k y0 y1 y2 y3 y4) (spec_l12Best.l0 (k + 1) y0 y1 y2 y3 y4)) ∧ (∀ y0 y1 y2 y3 y4 y5, LeO (spec_l12Best.l1 k y0 y1 y2 y3 y4 y5) (spec_l12Best.l1 (k + 1) y0 y1 y2 y3 y4 y5)) ∧ (∀ y0 y1 y2 y3 y4 y5 y6 y7 y8, LeO (spec_l12Best.j2 k y0 y1 y2 y3 y4 y5 y6 y7 y8) (spec_l12Best.j2 (k + 1) y0 y1 y2 y3 y4 y5 y6 y7 y8))
 | 0 => ⟨fun _ _ _ _ _ r h => by simp [spec_l12Best.l0] at h, fun _ _ _ _ _ _ r h => by simp [spec_l12Best.l1] at h, fun _ _ _ _ _ _ _ _ _ r h => by simp [spec_l12Best.j2] at h⟩
 | k + 1 => by
  obtain ⟨ih0, ih1, ih2⟩ := spec_l12Best.mono_l k
  refine ⟨?_, ?_, ?_⟩
  ·intro y0 y1 y2 y3 y4
   unfold spec_l12Best.l0
   repeat' first
   | (with_reducible exact ih0 _ _ _ _ _)
   | (with_reducible exact ih1 _ _ _ _ _ _)
   | (with_reducible exact ih2 _ _ _ _ _ _ _ _ _)
   | (with_reducible exact spec_l12Line.mono _ _)
   | (with_reducible exact LeO.refl _)
   | (with_reducible exact LeO.none _)
   | (with_reducible refine LeO.ite ?_ ?_)
   | (with_reducible refine LeO.bind ?_ (fun _ => ?_))
   | exact ih0 _ _ _ _ _
   | exact ih1 _ _ _ _ _ _
   | exact ih2 _ _ _ _ _ _ _ _ _
   | exact spec_l12Line.mono _ _
   | exact LeO.none _
   | refine LeO.ite ?_ ?_
   | refine LeO.bind ?_ (fun _ => ?_)
  ·intro y0 y1 y2 y3 y4 y5
   unfold spec_l12Best.l1
   repeat' first
   | (with_reducible exact ih0 _ _ _ _ _)
   | (with_reducible exact ih1 _ _ _ _ _ _)
   | (with_reducible exact ih2 _ _ _ _ _ _ _ _ _)
   | (with_reducible exact spec_l12Line.mono _ _)
   | (with_reducible exact LeO.refl _)
   | (with_reducible exact LeO.none _)
   | (with_reducible refine LeO.ite ?_ ?_)
   | (with_reducible refine LeO.bind ?_ (fun _ => ?_))
   | exact ih0 _ _ _ _ _
   | exact ih1 _ _ _ _ _ _
   | exact ih2 _ _ _ _ _ _ _ _ _
   | exact spec_l12Line.mono _ _
   | exact LeO.none _
   | refine LeO.ite ?_ ?_
   | refine LeO.bind ?_ (fun _ => ?_)
  ·intro y0 y1 y2 y3 y4 y5 y6 y7 y8
   unfold spec_l12Best.j2
   repeat' first
   | (with_reducible exact ih0 _ _ _ _ _)
   | (with_reducible exact ih1 _ _ _ _ _ _)
   | (with_reducible exact ih2 _ _ _ _ _ _ _ _ _)
   | (with_reducible exact spec_l12Line.mono _ _)
   | (with_reducible exact LeO.refl _)
   | (with_reducible exact LeO.none _)
   | (with_reducible refine LeO.ite ?_ ?_)
   | (with_reducible refine LeO.bind ?_ (fun _ => ?_))
   | exact ih0 _ _ _ _ _
   | exact ih1 _ _ _ _ _ _
   | exact ih2 _ _ _ _ _ _ _ _ _
   | exact spec_l12Line.mono _ _
   | exact LeO.none _
   | refine LeO.ite ?_ ?_
   | refine LeO.bind ?_ (fun _ => ?_)
theorem spec_l12Best.mono : ∀ a0 a1 k, LeO (spec_l12Best.f k a0 a1) (spec_l12Best.f (k + 1) a0 a1) := by
 intro a0 a1 k
 obtain ⟨ih0, ih1, ih2⟩ := spec_l12Best.mono_l k
 unfold spec_l12Best.f
 repeat' first
   | (with_reducible exact ih0 _ _ _ _ _)
   | (with_reducible exact ih1 _ _ _ _ _ _)
   | (with_reducible exact ih2 _ _ _ _ _ _ _ _ _)
   | (with_reducible exact spec_l12Line.mono _ _)
   | (with_reducible exact LeO.refl _)
   | (with_reducible exact LeO.none _)
   | (with_reducible refine LeO.ite ?_ ?_)
   | (with_reducible refine LeO.bind ?_ (fun _ => ?_))
   | exact ih0 _ _ _ _ _
   | exact ih1 _ _ _ _ _ _
   | exact ih2 _ _ _ _ _ _ _ _ _
   | exact spec_l12Line.mono _ _
   | exact LeO.none _
   | refine LeO.ite ?_ ?_
   | refine LeO.bind ?_ (fun _ => ?_)
set_option maxHeartbeats 8000000 in
set_option maxRecDepth 100000 in
theorem spec_l12Best.calls (k : Nat) (A0 : Option Addr) (c0 : Nat) (l0 : List ByteArray) (a1 : Int) (r1 : List Int) (r2 : List Int) (w : World) (hr0 : Kd.C Kd.string w A0 l0.length l0) (hc0 : l0.length ≤ c0) (h : spec_l12Best.f k l0 a1 = some (r1, r2)) :
  Calls Try.prog 54 #[.slice A0 l0.length c0, .int .i64 a1] w fun e w' => ∃ v0_ v1_ : Value, e = .returned (.tuple #[v0_, v1_]) ∧ Kd.R (Kd.int .i64) 3 w' w.heap.size (fun k_ => some k_ ≠ (v1_ : Value).ownBlock) v0_ r1 ∧ Kd.R (Kd.int .i64) 3 w' w.heap.size (fun k_ => some k_ ≠ (v0_ : Value).ownBlock) v1_ r2 ∧ Below w.heap.size w w' := by
 have HR0 := Aside0.mk hr0
 have HC0 := Aside0.mk hc0
 clear hr0 hc0
 have HB := Aside0.mk (Below.refl w.heap.size w)
 have H : (if 0 ≤ (wrap64 ((l0.length : Int) + 1)) then (if (wrap64 ((l0.length : Int) + 1) : Int).toNat ≤ 35184372088832 then (spec_l12Best.l0 k l0 a1 (List.replicate (wrap64 ((l0.length : Int) + 1) : Int).toNat 0) (List.replicate (wrap64 ((l0.length : Int) + 1) : Int).toNat 0) (wrap64 ((l0.length : Int) - 1))) else (none)) else (none)) = some (r1, r2) := h
 clear h
 obtain ⟨ji3, hji3⟩ : ∃ j_ : Int, (wrap64 ((l0.length : Int) + 1)) = j_ := ⟨_, rfl⟩
 replace H : (if 0 ≤ (ji3) then (if (ji3 : Int).toNat ≤ 35184372088832 then (spec_l12Best.l0 k l0 a1 (List.replicate (ji3 : Int).toNat 0) (List.replicate (ji3 : Int).toNat 0) (wrap64 ((l0.length : Int) - 1))) else (none)) else (none)) = some (r1, r2) := by first | (rw [hji3] at H; exact H) | (simp only [hji3] at H ⊢; exact H)
 have hji3w : (IntKind.i64.wrap ((l0.length : Int) + 1)) = ji3 := (i64_w _).trans hji3
 by_cases c4 : 0 ≤ (ji3)
 ·rw [if_pos c4] at H
  have c4b0 := eq_true c4
  have c4b1 : decide (0 ≤ (ji3)) = true := decide_eq_true c4
  clear c4
  by_cases c5 : (ji3 : Int).toNat ≤ 35184372088832
  ·rw [if_pos c5] at H
   have c5b0 := eq_true c5
   have c5b1 : decide ((ji3 : Int).toNat ≤ 35184372088832) = true := decide_eq_true c5
   clear c5
   obtain ⟨y190, hy190⟩ : ∃ y_ : List Int, y_ = (List.replicate (ji3 : Int).toNat 0) := ⟨_, rfl⟩
   replace H : (spec_l12Best.l0 k l0 a1 y190 (List.replicate (ji3 : Int).toNat 0) (wrap64 ((l0.length : Int) - 1))) = some (r1, r2) := by first | (rw [hy190]; with_reducible exact H) | (have H2_ := (Option.bind_some _ _).symm.trans H; rw [hy190]; with_reducible exact H2_) | (have H2_ := (Option.bind_some _ _).symm.trans H; with_reducible exact H2_) | with_reducible exact H | (rw [hy190]; exact H) | exact H
   have Ny190 := Aside0.mk hy190
   clear hy190
   obtain ⟨y193, hy193⟩ : ∃ y_ : List Int, y_ = (List.replicate (ji3 : Int).toNat 0) := ⟨_, rfl⟩
   replace H : (spec_l12Best.l0 k l0 a1 y190 y193 (wrap64 ((l0.length : Int) - 1))) = some (r1, r2) := by first | (rw [hy193]; with_reducible exact H) | (have H2_ := (Option.bind_some _ _).symm.trans H; rw [hy193]; with_reducible exact H2_) | (have H2_ := (Option.bind_some _ _).symm.trans H; with_reducible exact H2_) | with_reducible exact H | (rw [hy193]; exact H) | exact H
   have Ny193 := Aside0.mk hy193
   clear hy193
   have H' := Aside0.mk H
   clear H
   go_enter Try.func54, Try.ntmps54
   go_wp2_with (first | ((with_reducible refine gate_dst (N := 15) rfl ?_); (try (refine gate_guard (by rfl) ?_; dsimp only)); refine Kd.R_make (Kd.int .i64) _ 3 rfl (N := 15) rfl 57 _ _ rfl ji3 rfl rfl Try.underlying57 (.int .i64 0) 8 info3 rfl (by decide) (by omega) 0 (ok := fun _ => True) (okp := fun _ => True) rfl (fun _ hk => hk) trivial (of_decide_eq_true (by first|(with_reducible assumption)|assumption)) (Nat.le_trans (Nat.mul_le_mul_right _ (of_decide_eq_true (by first|(with_reducible assumption)|assumption) : ji3.toNat ≤ 35184372088832)) (by omega)) (Below.refl _ _) (Nat.le_refl _) ?_; intro v191 w6 ho7 hb hg_ hnew_; clear hg_ hnew_; (first | rw [← Ny190.out] at ho7 | (simp only [Int.reduceToNat] at ho7; rw [← Ny190.out] at ho7)); have n0_ := Aside0.mk (Kd.R_lower ho7 (below_size (by repeat (first|(with_reducible first|exact HB.out|apply below_alloc|apply pw_below_drewN|apply below_drew1)|exact HB.out)))); have n1_ := Aside0.mk (below_step (by repeat (first|(with_reducible first|exact HB.out|apply below_alloc|apply pw_below_drewN|apply below_drew1)|exact HB.out)) hb); clear HB; have HO192 := n0_; have HB := n1_; clear n0_ n1_; clear hb ho7) | ((with_reducible refine gate_dst (N := 19) rfl ?_); (try (refine gate_guard (by rfl) ?_; dsimp only)); refine Kd.R_make (Kd.int .i64) _ 3 rfl (N := 19) rfl 57 _ _ rfl ji3 rfl rfl Try.underlying57 (.int .i64 0) 8 info3 rfl (by decide) (by omega) 0 (ok := fun _ => True) (okp := fun _ => True) rfl (fun _ hk => hk) trivial (of_decide_eq_true (by first|(with_reducible assumption)|assumption)) (Nat.le_trans (Nat.mul_le_mul_right _ (of_decide_eq_true (by first|(with_reducible assumption)|assumption) : ji3.toNat ≤ 35184372088832)) (by omega)) (Below.refl _ _) (Nat.le_refl _) ?_; intro v194 w8 ho9 hb hg_ hnew_; clear hg_ hnew_; (first | rw [← Ny193.out] at ho9 | (simp only [Int.reduceToNat] at ho9; rw [← Ny193.out] at ho9)); have n0_ := Aside0.mk (Kd.R_elder' (by (with_reducible repeat (first|apply Kd.R_alloc|apply Kd.R_drewN|apply Kd.R_drew)); exact HO192.out) (Kd.R_base ho9) hb); have n1_ := Aside0.mk (Kd.R_lower (Kd.R_new' ho9 (Kd.R_lt (by (with_reducible repeat (first|apply Kd.R_alloc|apply Kd.R_drewN|apply Kd.R_drew)); exact HO192.out))) (below_size (by repeat (first|(with_reducible first|exact HB.out|apply below_alloc|apply pw_below_drewN|apply below_drew1)|exact HB.out)))); have n2_ := Aside0.mk (below_step (by repeat (first|(with_reducible first|exact HB.out|apply below_alloc|apply pw_below_drewN|apply below_drew1)|exact HB.out)) hb); clear HO192; clear HB; have HO192 := n0_; have HO195 := n1_; have HB := n2_; clear n0_ n1_ n2_; clear hb ho9))
   go_loopg [8] k (fun kq v8 w' => ∃ (x6_1 : List Int) (x7_1 : List Int) (x8_1 : Int), v8 = .int .i64 x8_1 ∧ Aside0 (spec_l12Best.l0 kq l0 a1 x6_1 x7_1 x8_1 = some (r1, r2)) ∧ Aside0 (kq ≤ k) ∧ Aside0 (Kd.R (Kd.int .i64) 3 w' w.heap.size (fun k_ => some k_ ≠ (v194 : Value).ownBlock) v191 x6_1) ∧ Aside0 (Kd.R (Kd.int .i64) 3 w' w.heap.size (fun k_ => some k_ ≠ (v191 : Value).ownBlock) v194 x7_1) ∧ Aside0 (Below w.heap.size w w'))
   case atStart => exact ⟨(y190), (y193), (wrap64 ((l0.length : Int) - 1)), (by first|rfl|(simp;done)|(simp[*];done)), H', ⟨Nat.le_refl _⟩, ⟨by (with_reducible repeat (first|apply Kd.R_alloc|apply Kd.R_drewN|apply Kd.R_drew)); exact Kd.R_mono HO192.out (fun _ hk => hk.2)⟩, ⟨by (with_reducible repeat (first|apply Kd.R_alloc|apply Kd.R_drewN|apply Kd.R_drew)); exact Kd.R_mono HO195.out (fun _ hk => hk.2)⟩, ⟨by repeat (first|(with_reducible first|exact HB.out|apply below_alloc|apply pw_below_drewN|apply below_drew1)|exact HB.out)⟩⟩
   case round =>
    clear H'
    try clear p2
    try clear c4
    try clear c4b0
    try clear c4b1
    try clear c5
    try clear c5b0
    try clear c5b1
    try clear p6
    obtain ⟨x6_1, x7_1, x8_1, rfl, HA, HK1, HO_6, HO_7, HB⟩ := hrel
    cases gk with
    | zero => exact absurd HA.out (by simp [spec_l12Best.l0])
    | succ k1 =>
     have H := HA.out
     clear HA
     simp only [spec_l12Best.l0] at H
     by_cases c10 : x8_1 ≥ 0
     ·rw [if_pos c10] at H
      have c10b0 : decide (0 ≤ x8_1) = true := decide_eq_true c10
      clear c10
      have H' := Aside0.mk H
      clear H
      go_wp2
      go_loopg [9] k1 (fun kq v9 w' => ∃ (x6_2 : List Int) (x7_2 : List Int) (x9_2 : Int), v9 = .int .i64 x9_2 ∧ Aside0 (spec_l12Best.l1 kq l0 a1 x6_2 x7_2 x8_1 x9_2 = some (r1, r2)) ∧ Aside0 (kq ≤ k1) ∧ Aside0 (Kd.R (Kd.int .i64) 3 w' w.heap.size (fun k_ => some k_ ≠ (v194 : Value).ownBlock) v191 x6_2) ∧ Aside0 (Kd.R (Kd.int .i64) 3 w' w.heap.size (fun k_ => some k_ ≠ (v191 : Value).ownBlock) v194 x7_2) ∧ Aside0 (Below w.heap.size w w'))
      case atStart => exact ⟨(x6_1), (x7_1), (1), (by first|rfl|(simp;done)|(simp[*];done)), H', ⟨Nat.le_refl _⟩, ⟨by (with_reducible repeat (first|apply Kd.R_alloc|apply Kd.R_drewN|apply Kd.R_drew)); exact HO_6.out⟩, ⟨by (with_reducible repeat (first|apply Kd.R_alloc|apply Kd.R_drewN|apply Kd.R_drew)); exact HO_7.out⟩, ⟨by repeat (first|(with_reducible first|exact HB.out|apply below_alloc|apply pw_below_drewN|apply below_drew1)|exact HB.out)⟩⟩
      case round =>
       clear H'
       try clear c1
       try clear p2
       try clear c4
       try clear c4b0
       try clear c4b1
       try clear c5
       try clear c5b0
       try clear c5b1
       try clear p6
       try clear c10
       try clear c10b0
       try clear p2
       try clear p6
       obtain ⟨x6_2, x7_2, x9_2, rfl, HA, HK2, HO_6, HO_7, HB⟩ := hrel
       cases gk with
       | zero => exact absurd HA.out (by simp [spec_l12Best.l1])
       | succ k2 =>
        have H := HA.out
        clear HA
        simp only [spec_l12Best.l1] at H
        by_cases c11 : (wrap64 (x8_1 + x9_2)) ≤ (l0.length : Int)
        ·rw [if_pos c11] at H
         have c11b0 : decide ((wrap64 (x8_1 + x9_2)) ≤ (l0.length : Int)) = true := decide_eq_true c11
         clear c11
         by_cases c12 : 0 ≤ x8_1
         ·rw [if_pos c12] at H
          have c12b0 := eq_true c12
          have c12b1 : decide (0 ≤ x8_1) = true := decide_eq_true c12
          clear c12
          by_cases c13 : x8_1 ≤ (wrap64 (x8_1 + x9_2))
          ·rw [if_pos c13] at H
           have c13b0 := eq_true c13
           have c13b1 : decide (x8_1 ≤ (wrap64 (x8_1 + x9_2))) = true := decide_eq_true c13
           have c14b0 := eq_true (of_decide_eq_true (by first|(with_reducible assumption)|assumption) : (wrap64 (x8_1 + x9_2)) ≤ (l0.length : Int))
           replace H := Option.bind_eq_some_iff.mp H
           obtain ⟨t197, A150, H⟩ := H
           replace H : (if 0 ≤ (wrap64 (x8_1 + x9_2)) then (if (wrap64 (x8_1 + x9_2)) < (x6_2.length : Int) then (if (wrap64 (x8_1 + x9_2)) < (l0.length : Int) then (spec_l12Best.j2 k2 l0 a1 x6_2 x7_2 x8_1 x9_2 t197 (rd x6_2 (wrap64 (x8_1 + x9_2))) true) else (spec_l12Best.j2 k2 l0 a1 x6_2 x7_2 x8_1 x9_2 t197 (rd x6_2 (wrap64 (x8_1 + x9_2))) (decide ((t197.size : Int) > a1)))) else (none)) else (none)) = some (r1, r2) := H
           have A15 := Aside0.mk A150
           clear A150
           obtain ⟨ji16, hji16⟩ : ∃ j_ : Int, (wrap64 (x8_1 + x9_2)) = j_ := ⟨_, rfl⟩
           replace H : (if 0 ≤ (ji16) then (if (ji16) < (x6_2.length : Int) then (if (ji16) < (l0.length : Int) then (spec_l12Best.j2 k2 l0 a1 x6_2 x7_2 x8_1 x9_2 t197 (rd x6_2 (ji16)) true) else (spec_l12Best.j2 k2 l0 a1 x6_2 x7_2 x8_1 x9_2 t197 (rd x6_2 (ji16)) (decide ((t197.size : Int) > a1)))) else (none)) else (none)) = some (r1, r2) := by first | (rw [hji16] at H; exact H) | (simp only [hji16] at H ⊢; exact H)
           (try rw [hji16] at c11b0)
           (try rw [hji16] at c13b0)
           (try rw [hji16] at c13b1)
           (try rw [hji16] at c13)
           (try rw [hji16] at A15)
           have hji16w : (IntKind.i64.wrap (x8_1 + x9_2)) = ji16 := (i64_w _).trans hji16
           by_cases c17 : 0 ≤ (ji16)
           ·rw [if_pos c17] at H
            have c17b0 : decide (0 ≤ (ji16)) = true := decide_eq_true c17
            clear c17
            by_cases c18 : (ji16) < (x6_2.length : Int)
            ·rw [if_pos c18] at H
             have c18b0 : decide ((ji16) < (x6_2.length : Int)) = true := decide_eq_true c18
             clear c18
             have HC19 := Aside0.mk H
             clear H
             obtain ⟨i020, hi020, _, hsz20, _⟩ := info_parts info9
             obtain ⟨A20, hcut20, hA20, hC20⟩ := print_mid_of (P := Try.prog) Value.string (⟨#[]⟩ : ByteArray) 39 9 .i64 .i64 Try.underlying39 hi020 hsz20 A0 c0 l0 x8_1 (ji16) (of_decide_eq_true (by first|(with_reducible assumption)|assumption)) (by first | omega | exact of_decide_eq_true (by first|(with_reducible assumption)|assumption)) (of_decide_eq_true (by first|(with_reducible assumption)|assumption)) HC0.out
             have HR196 := Aside0.mk (Kd.C_of_reads (h1 := fun _ => rfl) (hA20 _ (Kd.reads_of_C HR0.out)))
             have HC196 := Aside0.mk hC20
             clear hA20 hC20 hi020 hsz20
             go_upto_region 11 with (first | ((with_reducible refine gate_callee (f := 55) rfl ?_); refine goesL_ (some 41) rfl rfl Try.func55 (by kernel_rfl) rfl #[.slice A20 ((l0.take ((ji16) : Int).toNat).drop (x8_1 : Int).toNat).length (c0 - x8_1.toNat)] rfl (by (try simp only [List.map_toArray, List.map_cons, List.map_nil]); first | done | (rw [show ((l0.take ((ji16) : Int).toNat).drop (x8_1 : Int).toNat).length = ((ji16).toNat - x8_1.toNat) from (by rw [List.length_drop, List.length_take]; have h_ : ((ji16) : Int) ≤ (l0.length : Int) := of_decide_eq_true (by first|(with_reducible assumption)|assumption); omega)] <;> rfl) | (simp only [hji16]; rfl) | rfl | (simp only [List.length_drop, List.length_take]; rfl)) ?_; (with_reducible refine (spec_l12Line.calls k2 _ _ ((l0.take ((ji16) : Int).toNat).drop (x8_1 : Int).toNat) t197 _ ?side1 ?side2 A15.out).mono ?_); (case side1 => repeat (first | exact (Kd.C_below HR196.out HB.out) | (with_reducible refine Kd.C_alloc ?_ _) | (with_reducible refine Kd.C_drewN ?_ _) | (with_reducible refine Kd.C_drew ?_))); (case side2 => exact HC196.out); rintro e w' ⟨rfl, ⟨nd, rfl⟩⟩; refine ⟨_, rfl, ?_⟩; obtain ⟨Ao21, co21, eo21⟩ := Kd.R_slice HO_6.out; subst eo21; have p198 : 0 ≤ ((ji16) : Int) := of_decide_eq_true (by first|(with_reducible assumption)|assumption); have q198 : (ji16) < (x6_2.length : Int) := of_decide_eq_true (by first|(with_reducible assumption)|assumption); obtain ⟨ad198, e198, hx198_0⟩ := Kd.at_int (Kd.R_reads' HO_6.out).2.2 (ji16) p198 q198; cases e198; replace p198 := eq_true p198; replace q198 := eq_true q198))
             (try simp only [Act.put, List.setIfInBounds_toArray, List.set_cons_zero, List.set_cons_succ])
             go_cut [59] (fun v59 wc => ∃ (kq : Nat) (x59_18 : Bool), v59 = .bool x59_18 ∧ Aside0 (spec_l12Best.j2 kq l0 a1 x6_2 x7_2 x8_1 x9_2 t197 (rd x6_2 (ji16)) x59_18 = some (r1, r2)) ∧ Aside0 (kq ≤ k2) ∧ Aside0 (Kd.R (Kd.int .i64) 3 wc w.heap.size (fun k_ => some k_ ≠ (v194 : Value).ownBlock) (.slice (some ad198) x6_2.length co21) x6_2) ∧ Aside0 (Kd.R (Kd.int .i64) 3 wc w.heap.size (fun k_ => some k_ ≠ ((.slice (some ad198) x6_2.length co21) : Value).ownBlock) v194 x7_2) ∧ Aside0 (Below w.heap.size w wc))
             case first =>
              have H := HC19.out
              clear HC19
              by_cases c22 : (ji16) < (l0.length : Int)
              ·rw [if_pos c22] at H
               have c22b0 : decide ((ji16) < (l0.length : Int)) = true := decide_eq_true c22
               clear c22
               (first | rw [c22b0] | (simp only [i64_w, i32_w]; rw [c22b0]) | skip)
               have H' := Aside0.mk H
               clear H
               go_wp2
               go_meet
               case rel => exact ⟨_, (true), (by first|rfl|(simp;done)|(simp[*];done)), H', ⟨by have := HK1.out; have := HK2.out; first | omega | exact Nat.le_refl _⟩, ⟨by (with_reducible repeat (first|apply Kd.R_alloc|apply Kd.R_drewN|apply Kd.R_drew)); exact HO_6.out⟩, ⟨by (with_reducible repeat (first|apply Kd.R_alloc|apply Kd.R_drewN|apply Kd.R_drew)); exact HO_7.out⟩, ⟨by repeat (first|(with_reducible first|exact HB.out|apply below_alloc|apply pw_below_drewN|apply below_drew1)|exact HB.out)⟩⟩
              ·rw [if_neg c22] at H
               have c22b0 : decide ((ji16) < (l0.length : Int)) = false := decide_eq_false c22
               clear c22
               (first | rw [c22b0] | (simp only [i64_w, i32_w]; rw [c22b0]) | skip)
               have H' := Aside0.mk H
               clear H
               go_wp2
               go_meet
               case rel => exact ⟨_, (decide ((t197.size : Int) > a1)), (by first|rfl|(simp;done)|(simp[*];done)), H', ⟨by have := HK1.out; have := HK2.out; first | omega | exact Nat.le_refl _⟩, ⟨by (with_reducible repeat (first|apply Kd.R_alloc|apply Kd.R_drewN|apply Kd.R_drew)); exact HO_6.out⟩, ⟨by (with_reducible repeat (first|apply Kd.R_alloc|apply Kd.R_drewN|apply Kd.R_drew)); exact HO_7.out⟩, ⟨by repeat (first|(with_reducible first|exact HB.out|apply below_alloc|apply pw_below_drewN|apply below_drew1)|exact HB.out)⟩⟩
             case rest =>
              clear HC19
              try clear c1
              try clear p1
              try clear q1
              try clear hx1
              try clear c2
              try clear p2
              try clear c4
              try clear c4b0
              try clear c4b1
              try clear c5
              try clear c5b0
              try clear c5b1
              try clear p6
              try clear c10
              try clear c10b0
              try clear c11
              try clear c11b0
              try clear c12
              try clear c12b0
              try clear c12b1
              try clear c13
              try clear c13b0
              try clear c13b1
              try clear c14
              try clear c14b0
              try clear c17
              try clear c17b0
              try clear c18
              try clear c18b0
              try clear p19
              try clear q19
              try clear hx19
              try clear c22
              try clear c22b0
              try clear hx198_0
              try clear p198
              try clear p2
              try clear p6
              try clear q198
              obtain ⟨kq, x59_18, rfl, HA, HJ18, HO_6, HO_7, HB⟩ := hcut
              cases kq with
              | zero => exact absurd HA.out (by simp [spec_l12Best.j2])
              | succ kj18 =>
               have H := HA.out
               clear HA
               simp only [spec_l12Best.j2] at H
               by_cases c23 : x59_18 = true
               ·subst c23
                have H1 : ((spec_l12Cost.f (t197.size : Int) a1).bind fun t199 => (if x9_2 = 1 then (if 0 ≤ x8_1 then (if x8_1 < (x6_2.length : Int) then (if x8_1 < (x7_2.length : Int) then (spec_l12Best.l1 kj18 l0 a1 (x6_2.set (x8_1 : Int).toNat (wrap64 ((rd x6_2 (ji16)) + t199))) (x7_2.set (x8_1 : Int).toNat x9_2) x8_1 (wrap64 (x9_2 + 1))) else (none)) else (none)) else (none)) else (if 0 ≤ x8_1 then (if x8_1 < (x6_2.length : Int) then (if (wrap64 ((rd x6_2 (ji16)) + t199)) < (rd x6_2 x8_1) then (if x8_1 < (x7_2.length : Int) then (spec_l12Best.l1 kj18 l0 a1 (x6_2.set (x8_1 : Int).toNat (wrap64 ((rd x6_2 (ji16)) + t199))) (x7_2.set (x8_1 : Int).toNat x9_2) x8_1 (wrap64 (x9_2 + 1))) else (none)) else (spec_l12Best.l1 kj18 l0 a1 x6_2 x7_2 x8_1 (wrap64 (x9_2 + 1)))) else (none)) else (none)))) = some (r1, r2) := by rw [if_pos rfl] at H; exact H
                clear H
                have H := H1
                clear H1
                replace H := Option.bind_eq_some_iff.mp H
                obtain ⟨t199, A240, H⟩ := H
                replace H : (if x9_2 = 1 then (if 0 ≤ x8_1 then (if x8_1 < (x6_2.length : Int) then (if x8_1 < (x7_2.length : Int) then (spec_l12Best.l1 kj18 l0 a1 (x6_2.set (x8_1 : Int).toNat (wrap64 ((rd x6_2 (ji16)) + t199))) (x7_2.set (x8_1 : Int).toNat x9_2) x8_1 (wrap64 (x9_2 + 1))) else (none)) else (none)) else (none)) else (if 0 ≤ x8_1 then (if x8_1 < (x6_2.length : Int) then (if (wrap64 ((rd x6_2 (ji16)) + t199)) < (rd x6_2 x8_1) then (if x8_1 < (x7_2.length : Int) then (spec_l12Best.l1 kj18 l0 a1 (x6_2.set (x8_1 : Int).toNat (wrap64 ((rd x6_2 (ji16)) + t199))) (x7_2.set (x8_1 : Int).toNat x9_2) x8_1 (wrap64 (x9_2 + 1))) else (none)) else (spec_l12Best.l1 kj18 l0 a1 x6_2 x7_2 x8_1 (wrap64 (x9_2 + 1)))) else (none)) else (none))) = some (r1, r2) := H
                have A24 := Aside0.mk A240
                clear A240
                by_cases c25 : x9_2 = 1
                ·rw [if_pos c25] at H
                 have c25b0 : (x9_2 == 1) = true := beq_iff_eq.mpr c25
                 have c25b1 : (x9_2 != 1) = false := bne_eq_false_iff_eq.mpr c25
                 clear c25
                 by_cases c26 : 0 ≤ x8_1
                 ·rw [if_pos c26] at H
                  have c26b0 : decide (0 ≤ x8_1) = true := decide_eq_true c26
                  clear c26
                  by_cases c27 : x8_1 < (x6_2.length : Int)
                  ·rw [if_pos c27] at H
                   have c27b0 : decide (x8_1 < (x6_2.length : Int)) = true := decide_eq_true c27
                   clear c27
                   obtain ⟨y200, hy200⟩ : ∃ y_ : List Int, y_ = (x6_2.set (x8_1 : Int).toNat (wrap64 ((rd x6_2 (ji16)) + t199))) := ⟨_, rfl⟩
                   replace H : (if x8_1 < (x7_2.length : Int) then (spec_l12Best.l1 kj18 l0 a1 y200 (x7_2.set (x8_1 : Int).toNat x9_2) x8_1 (wrap64 (x9_2 + 1))) else (none)) = some (r1, r2) := by first | (rw [hy200]; with_reducible exact H) | (have H2_ := (Option.bind_some _ _).symm.trans H; rw [hy200]; with_reducible exact H2_) | (have H2_ := (Option.bind_some _ _).symm.trans H; with_reducible exact H2_) | with_reducible exact H | (rw [hy200]; exact H) | exact H
                   have Ny200 := Aside0.mk hy200
                   clear hy200
                   by_cases c29 : x8_1 < (x7_2.length : Int)
                   ·rw [if_pos c29] at H
                    have c29b0 : decide (x8_1 < (x7_2.length : Int)) = true := decide_eq_true c29
                    clear c29
                    obtain ⟨y201, hy201⟩ : ∃ y_ : List Int, y_ = (x7_2.set (x8_1 : Int).toNat x9_2) := ⟨_, rfl⟩
                    replace H : (spec_l12Best.l1 kj18 l0 a1 y200 y201 x8_1 (wrap64 (x9_2 + 1))) = some (r1, r2) := by first | (rw [hy201]; with_reducible exact H) | (have H2_ := (Option.bind_some _ _).symm.trans H; rw [hy201]; with_reducible exact H2_) | (have H2_ := (Option.bind_some _ _).symm.trans H; with_reducible exact H2_) | with_reducible exact H | (rw [hy201]; exact H) | exact H
                    have Ny201 := Aside0.mk hy201
                    clear hy201
                    have H' := Aside0.mk H
                    clear H
                    go_wp2_with (first | ((with_reducible refine gate_callee (f := 76) rfl ?_); refine goesL_ (some 64) rfl rfl Try.func76 (by kernel_rfl) rfl #[.int .i64 (t197.size : Int), .int .i64 a1] rfl (by (try simp only [List.map_toArray, List.map_cons, List.map_nil]); first | done | rfl | (simp only [List.length_drop, List.length_take]; rfl)) ?_; (with_reducible refine (spec_l12Cost.calls (t197.size : Int) a1 t199 _ A24.out).mono ?_); rintro e w' ⟨rfl, ⟨nd, rfl⟩⟩; refine ⟨_, rfl, ?_⟩; (try (rw [drewN_self wc]; generalize hq_ : World.drewN wc _ = wc; have n0_ : Aside0 (Kd.R (Kd.int .i64) 3 wc w.heap.size (fun k_ => some k_ ≠ (v194 : Value).ownBlock) (.slice (some ad198) x6_2.length co21) x6_2) := ⟨by rw [← hq_]; exact (by (with_reducible repeat (first|apply Kd.R_alloc|apply Kd.R_drewN|apply Kd.R_drew)); exact HO_6.out)⟩; have n1_ : Aside0 (Kd.R (Kd.int .i64) 3 wc w.heap.size (fun k_ => some k_ ≠ (.slice (some ad198) x6_2.length co21 : Value).ownBlock) v194 x7_2) := ⟨by rw [← hq_]; exact (by (with_reducible repeat (first|apply Kd.R_alloc|apply Kd.R_drewN|apply Kd.R_drew)); exact HO_7.out)⟩; have n2_ : Aside0 (Below w.heap.size w wc) := ⟨by rw [← hq_]; exact (by repeat (first|(with_reducible first|exact HB.out|apply below_alloc|apply pw_below_drewN|apply below_drew1)|exact HB.out))⟩; clear HO_6 HO_7 HB hq_; have HO_6 := n0_; have HO_7 := n1_; have HB := n2_; clear n0_ n1_ n2_)); have p28 : 0 ≤ (x8_1 : Int) := of_decide_eq_true (by first|(with_reducible assumption)|assumption); have q28 : (x8_1 : Int) < ((x6_2.length : Int) : Int) := of_decide_eq_true (by first|(with_reducible assumption)|assumption); obtain ⟨go28, co28, eo28, gb28, gl28, cl28, HG28⟩ := Kd.R_form HO_6.out (by omega); (first | cases eo28 | (injection eo28 with ea_ en_ ec_; (first | subst ea_ | (injection ea_ with ea_; subst ea_)); subst ec_; clear en_)); have GB28 := Aside0.mk gb28; have GG28 := Aside0.mk HG28; clear gb28 gl28 HG28; (first | simp only [add_plain] at hx198_0 | skip); obtain ⟨hx28_0, hf28_0⟩ := Kd.R_celln 0 HO_6.out (x8_1 : Int) p28 q28; replace p28 := eq_true p28; replace q28 := eq_true q28; obtain ⟨hy31_, hz31_⟩ := Kd.R_celln 0 HO_6.out (x8_1 : Int) (of_decide_eq_true (by first|(with_reducible assumption)|assumption)) (of_decide_eq_true (by first|(with_reducible assumption)|assumption)); have HP31 := Kd.R_putg HO_6.out (x8_1 : Int) (wrap64 ((rd x6_2 (ji16)) + t199))) | ((with_reducible refine gate_store (t := 3) (p := 79) rfl ?_); refine store_event (t := 3) (p := 79) (v := ?vo_w32) (w1 := (wc.setCell ⟨go28, (x8_1 : Int).toNat, none⟩ (.int .i64 (wrap64 ((rd x6_2 (ji16)) + t199))))) ?hg ?ho ?hn ?hr ?_; (case ho => rfl); (case hg => rfl); (case hn => rfl); (case hr => first | (go_simp; done) | (go_simp; rfl)); intro w32 hw; have hg : wc.grownBy w32 (some go28) := (by rw [hw]; exact HP31.2); have hp_ : Kd.R (Kd.int .i64) 3 w32 w.heap.size (fun k_ => some k_ ≠ (v194 : Value).ownBlock) (.slice (some ⟨go28, 0, none⟩) x6_2.length co21) y200 := (by rw [hw, Ny200.out]; exact HP31.1); clear HP31; have n0_ := Aside0.mk (hp_); have n1_ := Aside0.mk (Kd.R_after (v := (.slice (some ⟨go28, 0, none⟩) x6_2.length co21)) (v1 := (.slice (some ⟨go28, 0, none⟩) x6_2.length co21)) (ok := (fun _ => True)) (by (with_reducible repeat (first|apply Kd.R_alloc|apply Kd.R_drewN|apply Kd.R_drew)); exact Kd.R_mono HO_7.out (fun _ hk => ⟨trivial, hk⟩)) hg (.inl rfl)); have n2_ := Aside0.mk ((by rw [hw]; exact below_set (HB.out) GB28.out : Below w.heap.size w w32)); clear HO_6; clear HO_7; clear HB; have HO_6 := n0_; have HO_7 := n1_; have HB := n2_; clear n0_ n1_ n2_; clear hg hw hp_; have p30 : 0 ≤ (x8_1 : Int) := of_decide_eq_true (by first|(with_reducible assumption)|assumption); have q30 : (x8_1 : Int) < ((x7_2.length : Int) : Int) := of_decide_eq_true (by first|(with_reducible assumption)|assumption); obtain ⟨go30, co30, eo30, gb30, gl30, cl30, HG30⟩ := Kd.R_form HO_7.out (by omega); (first | cases eo30 | (injection eo30 with ea_ en_ ec_; (first | subst ea_ | (injection ea_ with ea_; subst ea_)); subst ec_; clear en_)); have GB30 := Aside0.mk gb30; have GG30 := Aside0.mk HG30; clear gb30 gl30 HG30; obtain ⟨hx30_0, hf30_0⟩ := Kd.R_celln 0 HO_7.out (x8_1 : Int) p30 q30; replace p30 := eq_true p30; replace q30 := eq_true q30; have n_ := Aside0.mk (Kd.R_mono (ok' := (fun k_ => some k_ ≠ (.slice (some ⟨go28, 0, none⟩) x6_2.length co21 : Value).ownBlock)) HO_7.out (fun k_ hk => hk.2)); clear HO_7; have HO_7 := n_; clear n_; obtain ⟨hy33_, hz33_⟩ := Kd.R_celln 0 HO_7.out (x8_1 : Int) (of_decide_eq_true (by first|(with_reducible assumption)|assumption)) (of_decide_eq_true (by first|(with_reducible assumption)|assumption)); have HP33 := Kd.R_putg HO_7.out (x8_1 : Int) x9_2) | ((with_reducible refine gate_store (t := 3) (p := 83) rfl ?_); refine store_event (t := 3) (p := 83) (v := ?vo_w34) (w1 := (w32.setCell ⟨go30, (x8_1 : Int).toNat, none⟩ (.int .i64 x9_2))) ?hg ?ho ?hn ?hr ?_; (case ho => rfl); (case hg => rfl); (case hn => rfl); (case hr => first | (go_simp; done) | (go_simp; rfl)); intro w34 hw; have hg : w32.grownBy w34 (some go30) := (by rw [hw]; exact HP33.2); have hp_ : Kd.R (Kd.int .i64) 3 w34 w.heap.size (fun k_ => some k_ ≠ (.slice (some ⟨go28, 0, none⟩) x6_2.length co21 : Value).ownBlock) (.slice (some ⟨go30, 0, none⟩) x7_2.length co30) y201 := (by rw [hw, Ny201.out]; exact HP33.1); clear HP33; have n0_ := Aside0.mk (Kd.R_after (v := (.slice (some ⟨go30, 0, none⟩) x7_2.length co30)) (v1 := (.slice (some ⟨go30, 0, none⟩) x7_2.length co30)) (ok := (fun _ => True)) (by (with_reducible repeat (first|apply Kd.R_alloc|apply Kd.R_drewN|apply Kd.R_drew)); exact Kd.R_mono HO_6.out (fun _ hk => ⟨trivial, hk⟩)) hg (.inl rfl)); have n1_ := Aside0.mk (hp_); have n2_ := Aside0.mk ((by rw [hw]; exact below_set (HB.out) GB30.out : Below w.heap.size w w34)); clear HO_6; clear HO_7; clear HB; have HO_6 := n0_; have HO_7 := n1_; have HB := n2_; clear n0_ n1_ n2_; clear hg hw hp_))
                    go_roundg kj18
                    case measure => have := HK1.out; have := HK2.out; have := HJ18.out; omega
                    case rel => exact ⟨(y200), (y201), (wrap64 (x9_2 + 1)), (by first|rfl|(simp;done)|(simp[*];done)), H', ⟨by have := HK1.out; have := HK2.out; have := HJ18.out; omega⟩, ⟨by (with_reducible repeat (first|apply Kd.R_alloc|apply Kd.R_drewN|apply Kd.R_drew)); exact Kd.R_mono HO_6.out (fun _ hk => hk.2)⟩, ⟨by (with_reducible repeat (first|apply Kd.R_alloc|apply Kd.R_drewN|apply Kd.R_drew)); exact HO_7.out⟩, ⟨by repeat (first|(with_reducible first|exact HB.out|apply below_alloc|apply pw_below_drewN|apply below_drew1)|exact HB.out)⟩⟩
                   ·rw [if_neg c29] at H
                    exact absurd H (by simp)
                  ·rw [if_neg c27] at H
                   exact absurd H (by simp)
                 ·rw [if_neg c26] at H
                  exact absurd H (by simp)
                ·rw [if_neg c25] at H
                 have c25b0 : (x9_2 == 1) = false := beq_eq_false_iff_ne.mpr c25
                 have c25b1 : (x9_2 != 1) = true := bne_iff_ne.mpr c25
                 by_cases c35 : 0 ≤ x8_1
                 ·rw [if_pos c35] at H
                  have c35b0 : decide (0 ≤ x8_1) = true := decide_eq_true c35
                  clear c35
                  by_cases c36 : x8_1 < (x6_2.length : Int)
                  ·rw [if_pos c36] at H
                   have c36b0 : decide (x8_1 < (x6_2.length : Int)) = true := decide_eq_true c36
                   clear c36
                   by_cases c37 : (wrap64 ((rd x6_2 (ji16)) + t199)) < (rd x6_2 x8_1)
                   ·rw [if_pos c37] at H
                    have c37b0 : decide ((wrap64 ((rd x6_2 (ji16)) + t199)) < (rd x6_2 x8_1)) = true := decide_eq_true c37
                    clear c37
                    obtain ⟨y203, hy203⟩ : ∃ y_ : List Int, y_ = (x6_2.set (x8_1 : Int).toNat (wrap64 ((rd x6_2 (ji16)) + t199))) := ⟨_, rfl⟩
                    replace H : (if x8_1 < (x7_2.length : Int) then (spec_l12Best.l1 kj18 l0 a1 y203 (x7_2.set (x8_1 : Int).toNat x9_2) x8_1 (wrap64 (x9_2 + 1))) else (none)) = some (r1, r2) := by first | (rw [hy203]; with_reducible exact H) | (have H2_ := (Option.bind_some _ _).symm.trans H; rw [hy203]; with_reducible exact H2_) | (have H2_ := (Option.bind_some _ _).symm.trans H; with_reducible exact H2_) | with_reducible exact H | (rw [hy203]; exact H) | exact H
                    have Ny203 := Aside0.mk hy203
                    clear hy203
                    by_cases c39 : x8_1 < (x7_2.length : Int)
                    ·rw [if_pos c39] at H
                     have c39b0 : decide (x8_1 < (x7_2.length : Int)) = true := decide_eq_true c39
                     clear c39
                     obtain ⟨y204, hy204⟩ : ∃ y_ : List Int, y_ = (x7_2.set (x8_1 : Int).toNat x9_2) := ⟨_, rfl⟩
                     replace H : (spec_l12Best.l1 kj18 l0 a1 y203 y204 x8_1 (wrap64 (x9_2 + 1))) = some (r1, r2) := by first | (rw [hy204]; with_reducible exact H) | (have H2_ := (Option.bind_some _ _).symm.trans H; rw [hy204]; with_reducible exact H2_) | (have H2_ := (Option.bind_some _ _).symm.trans H; with_reducible exact H2_) | with_reducible exact H | (rw [hy204]; exact H) | exact H
                     have Ny204 := Aside0.mk hy204
                     clear hy204
                     have H' := Aside0.mk H
                     clear H
                     go_wp2_with (first | ((with_reducible refine gate_callee (f := 76) rfl ?_); refine goesL_ (some 64) rfl rfl Try.func76 (by kernel_rfl) rfl #[.int .i64 (t197.size : Int), .int .i64 a1] rfl (by (try simp only [List.map_toArray, List.map_cons, List.map_nil]); first | done | rfl | (simp only [List.length_drop, List.length_take]; rfl)) ?_; (with_reducible refine (spec_l12Cost.calls (t197.size : Int) a1 t199 _ A24.out).mono ?_); rintro e w' ⟨rfl, ⟨nd, rfl⟩⟩; refine ⟨_, rfl, ?_⟩; (try (rw [drewN_self wc]; generalize hq_ : World.drewN wc _ = wc; have n0_ : Aside0 (Kd.R (Kd.int .i64) 3 wc w.heap.size (fun k_ => some k_ ≠ (v194 : Value).ownBlock) (.slice (some ad198) x6_2.length co21) x6_2) := ⟨by rw [← hq_]; exact (by (with_reducible repeat (first|apply Kd.R_alloc|apply Kd.R_drewN|apply Kd.R_drew)); exact HO_6.out)⟩; have n1_ : Aside0 (Kd.R (Kd.int .i64) 3 wc w.heap.size (fun k_ => some k_ ≠ (.slice (some ad198) x6_2.length co21 : Value).ownBlock) v194 x7_2) := ⟨by rw [← hq_]; exact (by (with_reducible repeat (first|apply Kd.R_alloc|apply Kd.R_drewN|apply Kd.R_drew)); exact HO_7.out)⟩; have n2_ : Aside0 (Below w.heap.size w wc) := ⟨by rw [← hq_]; exact (by repeat (first|(with_reducible first|exact HB.out|apply below_alloc|apply pw_below_drewN|apply below_drew1)|exact HB.out))⟩; clear HO_6 HO_7 HB hq_; have HO_6 := n0_; have HO_7 := n1_; have HB := n2_; clear n0_ n1_ n2_)); have p202 : 0 ≤ (x8_1 : Int) := of_decide_eq_true (by first|(with_reducible assumption)|assumption); have q202 : x8_1 < (x6_2.length : Int) := of_decide_eq_true (by first|(with_reducible assumption)|assumption); obtain ⟨ad202, e202, hx202_0⟩ := Kd.at_int (Kd.R_reads' HO_6.out).2.2 x8_1 p202 q202; obtain rfl : ad198 = ad202 := (by injection e202); replace p202 := eq_true p202; replace q202 := eq_true q202; have p38 : 0 ≤ (x8_1 : Int) := of_decide_eq_true (by first|(with_reducible assumption)|assumption); have q38 : (x8_1 : Int) < ((x6_2.length : Int) : Int) := of_decide_eq_true (by first|(with_reducible assumption)|assumption); obtain ⟨go38, co38, eo38, gb38, gl38, cl38, HG38⟩ := Kd.R_form HO_6.out (by omega); (first | cases eo38 | (injection eo38 with ea_ en_ ec_; (first | subst ea_ | (injection ea_ with ea_; subst ea_)); subst ec_; clear en_)); have GB38 := Aside0.mk gb38; have GG38 := Aside0.mk HG38; clear gb38 gl38 HG38; (first | simp only [add_plain] at hx202_0 | skip); obtain ⟨hx38_0, hf38_0⟩ := Kd.R_celln 0 HO_6.out (x8_1 : Int) p38 q38; replace p38 := eq_true p38; replace q38 := eq_true q38; obtain ⟨hy41_, hz41_⟩ := Kd.R_celln 0 HO_6.out (x8_1 : Int) (of_decide_eq_true (by first|(with_reducible assumption)|assumption)) (of_decide_eq_true (by first|(with_reducible assumption)|assumption)); have HP41 := Kd.R_putg HO_6.out (x8_1 : Int) (wrap64 ((rd x6_2 (ji16)) + t199))) | ((with_reducible refine gate_store (t := 3) (p := 79) rfl ?_); refine store_event (t := 3) (p := 79) (v := ?vo_w42) (w1 := (wc.setCell ⟨go38, (x8_1 : Int).toNat, none⟩ (.int .i64 (wrap64 ((rd x6_2 (ji16)) + t199))))) ?hg ?ho ?hn ?hr ?_; (case ho => rfl); (case hg => rfl); (case hn => rfl); (case hr => first | (go_simp; done) | (go_simp; rfl)); intro w42 hw; have hg : wc.grownBy w42 (some go38) := (by rw [hw]; exact HP41.2); have hp_ : Kd.R (Kd.int .i64) 3 w42 w.heap.size (fun k_ => some k_ ≠ (v194 : Value).ownBlock) (.slice (some ⟨go38, 0, none⟩) x6_2.length co21) y203 := (by rw [hw, Ny203.out]; exact HP41.1); clear HP41; have n0_ := Aside0.mk (hp_); have n1_ := Aside0.mk (Kd.R_after (v := (.slice (some ⟨go38, 0, none⟩) x6_2.length co21)) (v1 := (.slice (some ⟨go38, 0, none⟩) x6_2.length co21)) (ok := (fun _ => True)) (by (with_reducible repeat (first|apply Kd.R_alloc|apply Kd.R_drewN|apply Kd.R_drew)); exact Kd.R_mono HO_7.out (fun _ hk => ⟨trivial, hk⟩)) hg (.inl rfl)); have n2_ := Aside0.mk ((by rw [hw]; exact below_set (HB.out) GB38.out : Below w.heap.size w w42)); clear HO_6; clear HO_7; clear HB; have HO_6 := n0_; have HO_7 := n1_; have HB := n2_; clear n0_ n1_ n2_; clear hg hw hp_; have p40 : 0 ≤ (x8_1 : Int) := of_decide_eq_true (by first|(with_reducible assumption)|assumption); have q40 : (x8_1 : Int) < ((x7_2.length : Int) : Int) := of_decide_eq_true (by first|(with_reducible assumption)|assumption); obtain ⟨go40, co40, eo40, gb40, gl40, cl40, HG40⟩ := Kd.R_form HO_7.out (by omega); (first | cases eo40 | (injection eo40 with ea_ en_ ec_; (first | subst ea_ | (injection ea_ with ea_; subst ea_)); subst ec_; clear en_)); have GB40 := Aside0.mk gb40; have GG40 := Aside0.mk HG40; clear gb40 gl40 HG40; obtain ⟨hx40_0, hf40_0⟩ := Kd.R_celln 0 HO_7.out (x8_1 : Int) p40 q40; replace p40 := eq_true p40; replace q40 := eq_true q40; have n_ := Aside0.mk (Kd.R_mono (ok' := (fun k_ => some k_ ≠ (.slice (some ⟨go38, 0, none⟩) x6_2.length co21 : Value).ownBlock)) HO_7.out (fun k_ hk => hk.2)); clear HO_7; have HO_7 := n_; clear n_; obtain ⟨hy43_, hz43_⟩ := Kd.R_celln 0 HO_7.out (x8_1 : Int) (of_decide_eq_true (by first|(with_reducible assumption)|assumption)) (of_decide_eq_true (by first|(with_reducible assumption)|assumption)); have HP43 := Kd.R_putg HO_7.out (x8_1 : Int) x9_2) | ((with_reducible refine gate_store (t := 3) (p := 83) rfl ?_); refine store_event (t := 3) (p := 83) (v := ?vo_w44) (w1 := (w42.setCell ⟨go40, (x8_1 : Int).toNat, none⟩ (.int .i64 x9_2))) ?hg ?ho ?hn ?hr ?_; (case ho => rfl); (case hg => rfl); (case hn => rfl); (case hr => first | (go_simp; done) | (go_simp; rfl)); intro w44 hw; have hg : w42.grownBy w44 (some go40) := (by rw [hw]; exact HP43.2); have hp_ : Kd.R (Kd.int .i64) 3 w44 w.heap.size (fun k_ => some k_ ≠ (.slice (some ⟨go38, 0, none⟩) x6_2.length co21 : Value).ownBlock) (.slice (some ⟨go40, 0, none⟩) x7_2.length co40) y204 := (by rw [hw, Ny204.out]; exact HP43.1); clear HP43; have n0_ := Aside0.mk (Kd.R_after (v := (.slice (some ⟨go40, 0, none⟩) x7_2.length co40)) (v1 := (.slice (some ⟨go40, 0, none⟩) x7_2.length co40)) (ok := (fun _ => True)) (by (with_reducible repeat (first|apply Kd.R_alloc|apply Kd.R_drewN|apply Kd.R_drew)); exact Kd.R_mono HO_6.out (fun _ hk => ⟨trivial, hk⟩)) hg (.inl rfl)); have n1_ := Aside0.mk (hp_); have n2_ := Aside0.mk ((by rw [hw]; exact below_set (HB.out) GB40.out : Below w.heap.size w w44)); clear HO_6; clear HO_7; clear HB; have HO_6 := n0_; have HO_7 := n1_; have HB := n2_; clear n0_ n1_ n2_; clear hg hw hp_))
                     go_roundg kj18
                     case measure => have := HK1.out; have := HK2.out; have := HJ18.out; omega
                     case rel => exact ⟨(y203), (y204), (wrap64 (x9_2 + 1)), (by first|rfl|(simp;done)|(simp[*];done)), H', ⟨by have := HK1.out; have := HK2.out; have := HJ18.out; omega⟩, ⟨by (with_reducible repeat (first|apply Kd.R_alloc|apply Kd.R_drewN|apply Kd.R_drew)); exact Kd.R_mono HO_6.out (fun _ hk => hk.2)⟩, ⟨by (with_reducible repeat (first|apply Kd.R_alloc|apply Kd.R_drewN|apply Kd.R_drew)); exact HO_7.out⟩, ⟨by repeat (first|(with_reducible first|exact HB.out|apply below_alloc|apply pw_below_drewN|apply below_drew1)|exact HB.out)⟩⟩
                    ·rw [if_neg c39] at H
                     exact absurd H (by simp)
                   ·rw [if_neg c37] at H
                    have c37b0 : decide ((wrap64 ((rd x6_2 (ji16)) + t199)) < (rd x6_2 x8_1)) = false := decide_eq_false c37
                    clear c37
                    have H' := Aside0.mk H
                    clear H
                    go_wp2_with (first | ((with_reducible refine gate_callee (f := 76) rfl ?_); refine goesL_ (some 64) rfl rfl Try.func76 (by kernel_rfl) rfl #[.int .i64 (t197.size : Int), .int .i64 a1] rfl (by (try simp only [List.map_toArray, List.map_cons, List.map_nil]); first | done | rfl | (simp only [List.length_drop, List.length_take]; rfl)) ?_; (with_reducible refine (spec_l12Cost.calls (t197.size : Int) a1 t199 _ A24.out).mono ?_); rintro e w' ⟨rfl, ⟨nd, rfl⟩⟩; refine ⟨_, rfl, ?_⟩; have p202 : 0 ≤ (x8_1 : Int) := of_decide_eq_true (by first|(with_reducible assumption)|assumption); have q202 : x8_1 < (x6_2.length : Int) := of_decide_eq_true (by first|(with_reducible assumption)|assumption); obtain ⟨ad202, e202, hx202_0⟩ := Kd.at_int (Kd.R_reads' HO_6.out).2.2 x8_1 p202 q202; obtain rfl : ad198 = ad202 := (by injection e202); replace p202 := eq_true p202; replace q202 := eq_true q202))
                    go_roundg kj18
                    case measure => have := HK1.out; have := HK2.out; have := HJ18.out; omega
                    case rel => exact ⟨(x6_2), (x7_2), (wrap64 (x9_2 + 1)), (by first|rfl|(simp;done)|(simp[*];done)), H', ⟨by have := HK1.out; have := HK2.out; have := HJ18.out; omega⟩, ⟨by (with_reducible repeat (first|apply Kd.R_alloc|apply Kd.R_drewN|apply Kd.R_drew)); exact HO_6.out⟩, ⟨by (with_reducible repeat (first|apply Kd.R_alloc|apply Kd.R_drewN|apply Kd.R_drew)); exact HO_7.out⟩, ⟨by repeat (first|(with_reducible first|exact HB.out|apply below_alloc|apply pw_below_drewN|apply below_drew1)|exact HB.out)⟩⟩
                  ·rw [if_neg c36] at H
                   exact absurd H (by simp)
                 ·rw [if_neg c35] at H
                  exact absurd H (by simp)
               ·replace c23 := Bool.eq_false_iff.mpr c23
                subst c23
                have H1 : (if x9_2 = 1 then (if 0 ≤ x8_1 then (if x8_1 < (x6_2.length : Int) then (if x8_1 < (x7_2.length : Int) then (spec_l12Best.l1 kj18 l0 a1 (x6_2.set (x8_1 : Int).toNat (rd x6_2 (ji16))) (x7_2.set (x8_1 : Int).toNat x9_2) x8_1 (wrap64 (x9_2 + 1))) else (none)) else (none)) else (none)) else (if 0 ≤ x8_1 then (if x8_1 < (x6_2.length : Int) then (if (rd x6_2 (ji16)) < (rd x6_2 x8_1) then (if x8_1 < (x7_2.length : Int) then (spec_l12Best.l1 kj18 l0 a1 (x6_2.set (x8_1 : Int).toNat (rd x6_2 (ji16))) (x7_2.set (x8_1 : Int).toNat x9_2) x8_1 (wrap64 (x9_2 + 1))) else (none)) else (spec_l12Best.l1 kj18 l0 a1 x6_2 x7_2 x8_1 (wrap64 (x9_2 + 1)))) else (none)) else (none))) = some (r1, r2) := by rw [if_neg (show ¬ (false = true) by decide)] at H; exact H
                clear H
                have H := H1
                clear H1
                by_cases c45 : x9_2 = 1
                ·rw [if_pos c45] at H
                 have c45b0 : (x9_2 == 1) = true := beq_iff_eq.mpr c45
                 have c45b1 : (x9_2 != 1) = false := bne_eq_false_iff_eq.mpr c45
                 clear c45
                 by_cases c46 : 0 ≤ x8_1
                 ·rw [if_pos c46] at H
                  have c46b0 : decide (0 ≤ x8_1) = true := decide_eq_true c46
                  clear c46
                  by_cases c47 : x8_1 < (x6_2.length : Int)
                  ·rw [if_pos c47] at H
                   have c47b0 : decide (x8_1 < (x6_2.length : Int)) = true := decide_eq_true c47
                   clear c47
                   obtain ⟨y205, hy205⟩ : ∃ y_ : List Int, y_ = (x6_2.set (x8_1 : Int).toNat (rd x6_2 (ji16))) := ⟨_, rfl⟩
                   replace H : (if x8_1 < (x7_2.length : Int) then (spec_l12Best.l1 kj18 l0 a1 y205 (x7_2.set (x8_1 : Int).toNat x9_2) x8_1 (wrap64 (x9_2 + 1))) else (none)) = some (r1, r2) := by first | (rw [hy205]; with_reducible exact H) | (have H2_ := (Option.bind_some _ _).symm.trans H; rw [hy205]; with_reducible exact H2_) | (have H2_ := (Option.bind_some _ _).symm.trans H; with_reducible exact H2_) | with_reducible exact H | (rw [hy205]; exact H) | exact H
                   have Ny205 := Aside0.mk hy205
                   clear hy205
                   by_cases c49 : x8_1 < (x7_2.length : Int)
                   ·rw [if_pos c49] at H
                    have c49b0 : decide (x8_1 < (x7_2.length : Int)) = true := decide_eq_true c49
                    clear c49
                    obtain ⟨y206, hy206⟩ : ∃ y_ : List Int, y_ = (x7_2.set (x8_1 : Int).toNat x9_2) := ⟨_, rfl⟩
                    replace H : (spec_l12Best.l1 kj18 l0 a1 y205 y206 x8_1 (wrap64 (x9_2 + 1))) = some (r1, r2) := by first | (rw [hy206]; with_reducible exact H) | (have H2_ := (Option.bind_some _ _).symm.trans H; rw [hy206]; with_reducible exact H2_) | (have H2_ := (Option.bind_some _ _).symm.trans H; with_reducible exact H2_) | with_reducible exact H | (rw [hy206]; exact H) | exact H
                    have Ny206 := Aside0.mk hy206
                    clear hy206
                    have H' := Aside0.mk H
                    clear H
                    have p48 : 0 ≤ (x8_1 : Int) := of_decide_eq_true (by first|(with_reducible assumption)|assumption)
                    have q48 : (x8_1 : Int) < ((x6_2.length : Int) : Int) := of_decide_eq_true (by first|(with_reducible assumption)|assumption)
                    obtain ⟨go48, co48, eo48, gb48, gl48, cl48, HG48⟩ := Kd.R_form HO_6.out (by omega)
                    (first | cases eo48 | (injection eo48 with ea_ en_ ec_; (first | subst ea_ | (injection ea_ with ea_; subst ea_)); subst ec_; clear en_))
                    have GB48 := Aside0.mk gb48
                    have GG48 := Aside0.mk HG48
                    clear gb48 gl48 HG48
                    (first | simp only [add_plain] at hx202_0 | skip)
                    obtain ⟨hx48_0, hf48_0⟩ := Kd.R_celln 0 HO_6.out (x8_1 : Int) p48 q48
                    replace p48 := eq_true p48
                    replace q48 := eq_true q48
                    have HP51 := Kd.R_putg HO_6.out (x8_1 : Int) (rd x6_2 (ji16))
                    go_wp2_with (first | ((with_reducible refine gate_store (t := 3) (p := 79) rfl ?_); refine store_event (t := 3) (p := 79) (v := ?vo_w52) (w1 := (wc.setCell ⟨go48, (x8_1 : Int).toNat, none⟩ (.int .i64 (rd x6_2 (ji16))))) ?hg ?ho ?hn ?hr ?_; (case ho => rfl); (case hg => rfl); (case hn => rfl); (case hr => first | (go_simp; done) | (go_simp; rfl)); intro w52 hw; have hg : wc.grownBy w52 (some go48) := (by rw [hw]; exact HP51.2); have hp_ : Kd.R (Kd.int .i64) 3 w52 w.heap.size (fun k_ => some k_ ≠ (v194 : Value).ownBlock) (.slice (some ⟨go48, 0, none⟩) x6_2.length co21) y205 := (by rw [hw, Ny205.out]; exact HP51.1); clear HP51; have n0_ := Aside0.mk (hp_); have n1_ := Aside0.mk (Kd.R_after (v := (.slice (some ⟨go48, 0, none⟩) x6_2.length co21)) (v1 := (.slice (some ⟨go48, 0, none⟩) x6_2.length co21)) (ok := (fun _ => True)) (by (with_reducible repeat (first|apply Kd.R_alloc|apply Kd.R_drewN|apply Kd.R_drew)); exact Kd.R_mono HO_7.out (fun _ hk => ⟨trivial, hk⟩)) hg (.inl rfl)); have n2_ := Aside0.mk ((by rw [hw]; exact below_set (HB.out) GB48.out : Below w.heap.size w w52)); clear HO_6; clear HO_7; clear HB; have HO_6 := n0_; have HO_7 := n1_; have HB := n2_; clear n0_ n1_ n2_; clear hg hw hp_; have p50 : 0 ≤ (x8_1 : Int) := of_decide_eq_true (by first|(with_reducible assumption)|assumption); have q50 : (x8_1 : Int) < ((x7_2.length : Int) : Int) := of_decide_eq_true (by first|(with_reducible assumption)|assumption); obtain ⟨go50, co50, eo50, gb50, gl50, cl50, HG50⟩ := Kd.R_form HO_7.out (by omega); (first | cases eo50 | (injection eo50 with ea_ en_ ec_; (first | subst ea_ | (injection ea_ with ea_; subst ea_)); subst ec_; clear en_)); have GB50 := Aside0.mk gb50; have GG50 := Aside0.mk HG50; clear gb50 gl50 HG50; obtain ⟨hx50_0, hf50_0⟩ := Kd.R_celln 0 HO_7.out (x8_1 : Int) p50 q50; replace p50 := eq_true p50; replace q50 := eq_true q50; have n_ := Aside0.mk (Kd.R_mono (ok' := (fun k_ => some k_ ≠ (.slice (some ⟨go48, 0, none⟩) x6_2.length co21 : Value).ownBlock)) HO_7.out (fun k_ hk => hk.2)); clear HO_7; have HO_7 := n_; clear n_; obtain ⟨hy53_, hz53_⟩ := Kd.R_celln 0 HO_7.out (x8_1 : Int) (of_decide_eq_true (by first|(with_reducible assumption)|assumption)) (of_decide_eq_true (by first|(with_reducible assumption)|assumption)); have HP53 := Kd.R_putg HO_7.out (x8_1 : Int) x9_2) | ((with_reducible refine gate_store (t := 3) (p := 83) rfl ?_); refine store_event (t := 3) (p := 83) (v := ?vo_w54) (w1 := (w52.setCell ⟨go50, (x8_1 : Int).toNat, none⟩ (.int .i64 x9_2))) ?hg ?ho ?hn ?hr ?_; (case ho => rfl); (case hg => rfl); (case hn => rfl); (case hr => first | (go_simp; done) | (go_simp; rfl)); intro w54 hw; have hg : w52.grownBy w54 (some go50) := (by rw [hw]; exact HP53.2); have hp_ : Kd.R (Kd.int .i64) 3 w54 w.heap.size (fun k_ => some k_ ≠ (.slice (some ⟨go48, 0, none⟩) x6_2.length co21 : Value).ownBlock) (.slice (some ⟨go50, 0, none⟩) x7_2.length co50) y206 := (by rw [hw, Ny206.out]; exact HP53.1); clear HP53; have n0_ := Aside0.mk (Kd.R_after (v := (.slice (some ⟨go50, 0, none⟩) x7_2.length co50)) (v1 := (.slice (some ⟨go50, 0, none⟩) x7_2.length co50)) (ok := (fun _ => True)) (by (with_reducible repeat (first|apply Kd.R_alloc|apply Kd.R_drewN|apply Kd.R_drew)); exact Kd.R_mono HO_6.out (fun _ hk => ⟨trivial, hk⟩)) hg (.inl rfl)); have n1_ := Aside0.mk (hp_); have n2_ := Aside0.mk ((by rw [hw]; exact below_set (HB.out) GB50.out : Below w.heap.size w w54)); clear HO_6; clear HO_7; clear HB; have HO_6 := n0_; have HO_7 := n1_; have HB := n2_; clear n0_ n1_ n2_; clear hg hw hp_))
                    go_roundg kj18
                    case measure => have := HK1.out; have := HK2.out; have := HJ18.out; omega
                    case rel => exact ⟨(y205), (y206), (wrap64 (x9_2 + 1)), (by first|rfl|(simp;done)|(simp[*];done)), H', ⟨by have := HK1.out; have := HK2.out; have := HJ18.out; omega⟩, ⟨by (with_reducible repeat (first|apply Kd.R_alloc|apply Kd.R_drewN|apply Kd.R_drew)); exact Kd.R_mono HO_6.out (fun _ hk => hk.2)⟩, ⟨by (with_reducible repeat (first|apply Kd.R_alloc|apply Kd.R_drewN|apply Kd.R_drew)); exact HO_7.out⟩, ⟨by repeat (first|(with_reducible first|exact HB.out|apply below_alloc|apply pw_below_drewN|apply below_drew1)|exact HB.out)⟩⟩
                   ·rw [if_neg c49] at H
                    exact absurd H (by simp)
                  ·rw [if_neg c47] at H
                   exact absurd H (by simp)
                 ·rw [if_neg c46] at H
                  exact absurd H (by simp)
                ·rw [if_neg c45] at H
                 have c45b0 : (x9_2 == 1) = false := beq_eq_false_iff_ne.mpr c45
                 have c45b1 : (x9_2 != 1) = true := bne_iff_ne.mpr c45
                 by_cases c55 : 0 ≤ x8_1
                 ·rw [if_pos c55] at H
                  have c55b0 : decide (0 ≤ x8_1) = true := decide_eq_true c55
                  clear c55
                  by_cases c56 : x8_1 < (x6_2.length : Int)
                  ·rw [if_pos c56] at H
                   have c56b0 : decide (x8_1 < (x6_2.length : Int)) = true := decide_eq_true c56
                   clear c56
                   by_cases c57 : (rd x6_2 (ji16)) < (rd x6_2 x8_1)
                   ·rw [if_pos c57] at H
                    have c57b0 : decide ((rd x6_2 (ji16)) < (rd x6_2 x8_1)) = true := decide_eq_true c57
                    clear c57
                    obtain ⟨y208, hy208⟩ : ∃ y_ : List Int, y_ = (x6_2.set (x8_1 : Int).toNat (rd x6_2 (ji16))) := ⟨_, rfl⟩
                    replace H : (if x8_1 < (x7_2.length : Int) then (spec_l12Best.l1 kj18 l0 a1 y208 (x7_2.set (x8_1 : Int).toNat x9_2) x8_1 (wrap64 (x9_2 + 1))) else (none)) = some (r1, r2) := by first | (rw [hy208]; with_reducible exact H) | (have H2_ := (Option.bind_some _ _).symm.trans H; rw [hy208]; with_reducible exact H2_) | (have H2_ := (Option.bind_some _ _).symm.trans H; with_reducible exact H2_) | with_reducible exact H | (rw [hy208]; exact H) | exact H
                    have Ny208 := Aside0.mk hy208
                    clear hy208
                    by_cases c59 : x8_1 < (x7_2.length : Int)
                    ·rw [if_pos c59] at H
                     have c59b0 : decide (x8_1 < (x7_2.length : Int)) = true := decide_eq_true c59
                     clear c59
                     obtain ⟨y209, hy209⟩ : ∃ y_ : List Int, y_ = (x7_2.set (x8_1 : Int).toNat x9_2) := ⟨_, rfl⟩
                     replace H : (spec_l12Best.l1 kj18 l0 a1 y208 y209 x8_1 (wrap64 (x9_2 + 1))) = some (r1, r2) := by first | (rw [hy209]; with_reducible exact H) | (have H2_ := (Option.bind_some _ _).symm.trans H; rw [hy209]; with_reducible exact H2_) | (have H2_ := (Option.bind_some _ _).symm.trans H; with_reducible exact H2_) | with_reducible exact H | (rw [hy209]; exact H) | exact H
                     have Ny209 := Aside0.mk hy209
                     clear hy209
                     have H' := Aside0.mk H
                     clear H
                     have p207 : 0 ≤ (x8_1 : Int) := of_decide_eq_true (by first|(with_reducible assumption)|assumption)
                     have q207 : x8_1 < (x6_2.length : Int) := of_decide_eq_true (by first|(with_reducible assumption)|assumption)
                     obtain ⟨ad207, e207, hx207_0⟩ := Kd.at_int (Kd.R_reads' HO_6.out).2.2 x8_1 p207 q207
                     obtain rfl : ad198 = ad207 := (by injection e207)
                     replace p207 := eq_true p207
                     replace q207 := eq_true q207
                     have p58 : 0 ≤ (x8_1 : Int) := of_decide_eq_true (by first|(with_reducible assumption)|assumption)
                     have q58 : (x8_1 : Int) < ((x6_2.length : Int) : Int) := of_decide_eq_true (by first|(with_reducible assumption)|assumption)
                     obtain ⟨go58, co58, eo58, gb58, gl58, cl58, HG58⟩ := Kd.R_form HO_6.out (by omega)
                     (first | cases eo58 | (injection eo58 with ea_ en_ ec_; (first | subst ea_ | (injection ea_ with ea_; subst ea_)); subst ec_; clear en_))
                     have GB58 := Aside0.mk gb58
                     have GG58 := Aside0.mk HG58
                     clear gb58 gl58 HG58
                     (first | simp only [add_plain] at hx207_0 | skip)
                     obtain ⟨hx58_0, hf58_0⟩ := Kd.R_celln 0 HO_6.out (x8_1 : Int) p58 q58
                     replace p58 := eq_true p58
                     replace q58 := eq_true q58
                     have HP61 := Kd.R_putg HO_6.out (x8_1 : Int) (rd x6_2 (ji16))
                     go_wp2_with (first | ((with_reducible refine gate_store (t := 3) (p := 79) rfl ?_); refine store_event (t := 3) (p := 79) (v := ?vo_w62) (w1 := (wc.setCell ⟨go58, (x8_1 : Int).toNat, none⟩ (.int .i64 (rd x6_2 (ji16))))) ?hg ?ho ?hn ?hr ?_; (case ho => rfl); (case hg => rfl); (case hn => rfl); (case hr => first | (go_simp; done) | (go_simp; rfl)); intro w62 hw; have hg : wc.grownBy w62 (some go58) := (by rw [hw]; exact HP61.2); have hp_ : Kd.R (Kd.int .i64) 3 w62 w.heap.size (fun k_ => some k_ ≠ (v194 : Value).ownBlock) (.slice (some ⟨go58, 0, none⟩) x6_2.length co21) y208 := (by rw [hw, Ny208.out]; exact HP61.1); clear HP61; have n0_ := Aside0.mk (hp_); have n1_ := Aside0.mk (Kd.R_after (v := (.slice (some ⟨go58, 0, none⟩) x6_2.length co21)) (v1 := (.slice (some ⟨go58, 0, none⟩) x6_2.length co21)) (ok := (fun _ => True)) (by (with_reducible repeat (first|apply Kd.R_alloc|apply Kd.R_drewN|apply Kd.R_drew)); exact Kd.R_mono HO_7.out (fun _ hk => ⟨trivial, hk⟩)) hg (.inl rfl)); have n2_ := Aside0.mk ((by rw [hw]; exact below_set (HB.out) GB58.out : Below w.heap.size w w62)); clear HO_6; clear HO_7; clear HB; have HO_6 := n0_; have HO_7 := n1_; have HB := n2_; clear n0_ n1_ n2_; clear hg hw hp_; have p60 : 0 ≤ (x8_1 : Int) := of_decide_eq_true (by first|(with_reducible assumption)|assumption); have q60 : (x8_1 : Int) < ((x7_2.length : Int) : Int) := of_decide_eq_true (by first|(with_reducible assumption)|assumption); obtain ⟨go60, co60, eo60, gb60, gl60, cl60, HG60⟩ := Kd.R_form HO_7.out (by omega); (first | cases eo60 | (injection eo60 with ea_ en_ ec_; (first | subst ea_ | (injection ea_ with ea_; subst ea_)); subst ec_; clear en_)); have GB60 := Aside0.mk gb60; have GG60 := Aside0.mk HG60; clear gb60 gl60 HG60; obtain ⟨hx60_0, hf60_0⟩ := Kd.R_celln 0 HO_7.out (x8_1 : Int) p60 q60; replace p60 := eq_true p60; replace q60 := eq_true q60; have n_ := Aside0.mk (Kd.R_mono (ok' := (fun k_ => some k_ ≠ (.slice (some ⟨go58, 0, none⟩) x6_2.length co21 : Value).ownBlock)) HO_7.out (fun k_ hk => hk.2)); clear HO_7; have HO_7 := n_; clear n_; obtain ⟨hy63_, hz63_⟩ := Kd.R_celln 0 HO_7.out (x8_1 : Int) (of_decide_eq_true (by first|(with_reducible assumption)|assumption)) (of_decide_eq_true (by first|(with_reducible assumption)|assumption)); have HP63 := Kd.R_putg HO_7.out (x8_1 : Int) x9_2) | ((with_reducible refine gate_store (t := 3) (p := 83) rfl ?_); refine store_event (t := 3) (p := 83) (v := ?vo_w64) (w1 := (w62.setCell ⟨go60, (x8_1 : Int).toNat, none⟩ (.int .i64 x9_2))) ?hg ?ho ?hn ?hr ?_; (case ho => rfl); (case hg => rfl); (case hn => rfl); (case hr => first | (go_simp; done) | (go_simp; rfl)); intro w64 hw; have hg : w62.grownBy w64 (some go60) := (by rw [hw]; exact HP63.2); have hp_ : Kd.R (Kd.int .i64) 3 w64 w.heap.size (fun k_ => some k_ ≠ (.slice (some ⟨go58, 0, none⟩) x6_2.length co21 : Value).ownBlock) (.slice (some ⟨go60, 0, none⟩) x7_2.length co60) y209 := (by rw [hw, Ny209.out]; exact HP63.1); clear HP63; have n0_ := Aside0.mk (Kd.R_after (v := (.slice (some ⟨go60, 0, none⟩) x7_2.length co60)) (v1 := (.slice (some ⟨go60, 0, none⟩) x7_2.length co60)) (ok := (fun _ => True)) (by (with_reducible repeat (first|apply Kd.R_alloc|apply Kd.R_drewN|apply Kd.R_drew)); exact Kd.R_mono HO_6.out (fun _ hk => ⟨trivial, hk⟩)) hg (.inl rfl)); have n1_ := Aside0.mk (hp_); have n2_ := Aside0.mk ((by rw [hw]; exact below_set (HB.out) GB60.out : Below w.heap.size w w64)); clear HO_6; clear HO_7; clear HB; have HO_6 := n0_; have HO_7 := n1_; have HB := n2_; clear n0_ n1_ n2_; clear hg hw hp_))
                     go_roundg kj18
                     case measure => have := HK1.out; have := HK2.out; have := HJ18.out; omega
                     case rel => exact ⟨(y208), (y209), (wrap64 (x9_2 + 1)), (by first|rfl|(simp;done)|(simp[*];done)), H', ⟨by have := HK1.out; have := HK2.out; have := HJ18.out; omega⟩, ⟨by (with_reducible repeat (first|apply Kd.R_alloc|apply Kd.R_drewN|apply Kd.R_drew)); exact Kd.R_mono HO_6.out (fun _ hk => hk.2)⟩, ⟨by (with_reducible repeat (first|apply Kd.R_alloc|apply Kd.R_drewN|apply Kd.R_drew)); exact HO_7.out⟩, ⟨by repeat (first|(with_reducible first|exact HB.out|apply below_alloc|apply pw_below_drewN|apply below_drew1)|exact HB.out)⟩⟩
                    ·rw [if_neg c59] at H
                     exact absurd H (by simp)
                   ·rw [if_neg c57] at H
                    have c57b0 : decide ((rd x6_2 (ji16)) < (rd x6_2 x8_1)) = false := decide_eq_false c57
                    clear c57
                    have H' := Aside0.mk H
                    clear H
                    have p207 : 0 ≤ (x8_1 : Int) := of_decide_eq_true (by first|(with_reducible assumption)|assumption)
                    have q207 : x8_1 < (x6_2.length : Int) := of_decide_eq_true (by first|(with_reducible assumption)|assumption)
                    obtain ⟨ad207, e207, hx207_0⟩ := Kd.at_int (Kd.R_reads' HO_6.out).2.2 x8_1 p207 q207
                    obtain rfl : ad198 = ad207 := (by injection e207)
                    replace p207 := eq_true p207
                    replace q207 := eq_true q207
                    go_wp2
                    go_roundg kj18
                    case measure => have := HK1.out; have := HK2.out; have := HJ18.out; omega
                    case rel => exact ⟨(x6_2), (x7_2), (wrap64 (x9_2 + 1)), (by first|rfl|(simp;done)|(simp[*];done)), H', ⟨by have := HK1.out; have := HK2.out; have := HJ18.out; omega⟩, ⟨by (with_reducible repeat (first|apply Kd.R_alloc|apply Kd.R_drewN|apply Kd.R_drew)); exact HO_6.out⟩, ⟨by (with_reducible repeat (first|apply Kd.R_alloc|apply Kd.R_drewN|apply Kd.R_drew)); exact HO_7.out⟩, ⟨by repeat (first|(with_reducible first|exact HB.out|apply below_alloc|apply pw_below_drewN|apply below_drew1)|exact HB.out)⟩⟩
                  ·rw [if_neg c56] at H
                   exact absurd H (by simp)
                 ·rw [if_neg c55] at H
                  exact absurd H (by simp)
            ·rw [if_neg c18] at H
             exact absurd H (by simp)
           ·rw [if_neg c17] at H
            exact absurd H (by simp)
          ·rw [if_neg c13] at H
           exact absurd H (by simp)
         ·rw [if_neg c12] at H
          exact absurd H (by simp)
        ·rw [if_neg c11] at H
         have c11b0 : decide ((wrap64 (x8_1 + x9_2)) ≤ (l0.length : Int)) = false := decide_eq_false c11
         clear c11
         have H' := Aside0.mk H
         clear H
         go_wp2
         go_roundg k2
         case measure => have := HK1.out; have := HK2.out; omega
         case rel => exact ⟨(x6_2), (x7_2), (wrap64 (x8_1 - 1)), (by first|rfl|(simp;done)|(simp[*];done)), H', ⟨by have := HK1.out; have := HK2.out; omega⟩, ⟨by (with_reducible repeat (first|apply Kd.R_alloc|apply Kd.R_drewN|apply Kd.R_drew)); exact HO_6.out⟩, ⟨by (with_reducible repeat (first|apply Kd.R_alloc|apply Kd.R_drewN|apply Kd.R_drew)); exact HO_7.out⟩, ⟨by repeat (first|(with_reducible first|exact HB.out|apply below_alloc|apply pw_below_drewN|apply below_drew1)|exact HB.out)⟩⟩
     ·rw [if_neg c10] at H
      have c10b0 : decide (0 ≤ x8_1) = false := decide_eq_false c10
      clear c10
      simp only [Option.some.injEq, Prod.mk.injEq] at H
      obtain ⟨rfl, rfl⟩ := H
      go_wp2
      go_ret2
      exact ⟨_, _, by first | rfl | (simp [errW_none, errW_some] <;> rfl) | (simp only [← hji3]; first | rfl | (simp [errW_none, errW_some] <;> rfl)) | (simp [*, errW_none, errW_some] <;> rfl), by (with_reducible repeat (first|apply Kd.R_alloc|apply Kd.R_drewN|apply Kd.R_drew)); exact HO_6.out, by (with_reducible repeat (first|apply Kd.R_alloc|apply Kd.R_drewN|apply Kd.R_drew)); exact HO_7.out, by repeat (first|(with_reducible first|exact HB.out|apply below_alloc|apply pw_below_drewN|apply below_drew1)|exact HB.out)⟩
  ·rw [if_neg c5] at H
   exact absurd H (by simp)
 ·rw [if_neg c4] at H
  exact absurd H (by simp)

/-! ### spec_WrapBest: function 25 -/
def spec_WrapBest.l0 : Nat → List ByteArray → List ByteArray → List Int → Int → Option (List ByteArray × Bool)
 | 0, _, _, _, _ => none
 | k + 1, x0, x6, x8, x9 => if x9 < (x0.length : Int) then (if 0 ≤ x9 then (if x9 < (x8.length : Int) then (if x9 ≤ (wrap64 (x9 + (rd x8 x9))) then (if (wrap64 (x9 + (rd x8 x9))) ≤ (x0.length : Int) then ((spec_l12Line.f k ((x0.take ((wrap64 (x9 + (rd x8 x9))) : Int).toNat).drop (x9 : Int).toNat)).bind fun t222 => (if x6.length < 8796093022208 then (spec_WrapBest.l0 k x0 (x6 ++ [t222]) x8 (wrap64 (x9 + (rd x8 x9)))) else (none))) else (none)) else (none)) else (none)) else (none)) else (some (x6, true))
def spec_WrapBest.f (k : Nat) (l0 : List ByteArray) (a1 : Int) : Option (List ByteArray × Bool) := (some (([] : List ByteArray) : List ByteArray)).bind fun y210 => ((spec_l12Right.f k l0 a1).bind fun t213 => (if t213 = true then ((spec_l12Best.f k l0 a1).bind fun bt214 => (spec_WrapBest.l0 k l0 y210 bt214.2 0)) else (some (y210, false))))
theorem spec_WrapBest.mono_l : ∀ k, (∀ y0 y1 y2 y3, LeO (spec_WrapBest.l0 k y0 y1 y2 y3) (spec_WrapBest.l0 (k + 1) y0 y1 y2 y3))
 | 0 => fun _ _ _ _ r h => by simp [spec_WrapBest.l0] at h
 | k + 1 => by
  have ih0 := spec_WrapBest.mono_l k
  ·intro y0 y1 y2 y3
   unfold spec_WrapBest.l0
   repeat' first
   | (with_reducible exact ih0 _ _ _ _)
   | (with_reducible exact spec_l12Best.mono _ _ _)
   | (with_reducible exact spec_l12Line.mono _ _)
   | (with_reducible exact spec_l12Right.mono _ _ _)
   | (with_reducible exact LeO.refl _)
   | (with_reducible exact LeO.none _)
   | (with_reducible refine LeO.ite ?_ ?_)
   | (with_reducible refine LeO.bind ?_ (fun _ => ?_))
   | exact ih0 _ _ _ _
   | exact spec_l12Best.mono _ _ _
   | exact spec_l12Line.mono _ _
   | exact spec_l12Right.mono _ _ _
   | exact LeO.none _
   | refine LeO.ite ?_ ?_
   | refine LeO.bind ?_ (fun _ => ?_)
theorem spec_WrapBest.mono : ∀ a0 a1 k, LeO (spec_WrapBest.f k a0 a1) (spec_WrapBest.f (k + 1) a0 a1) := by
 intro a0 a1 k
 have ih0 := spec_WrapBest.mono_l k
 unfold spec_WrapBest.f
 repeat' first
   | (with_reducible exact ih0 _ _ _ _)
   | (with_reducible exact spec_l12Best.mono _ _ _)
   | (with_reducible exact spec_l12Line.mono _ _)
   | (with_reducible exact spec_l12Right.mono _ _ _)
   | (with_reducible exact LeO.refl _)
   | (with_reducible exact LeO.none _)
   | (with_reducible refine LeO.ite ?_ ?_)
   | (with_reducible refine LeO.bind ?_ (fun _ => ?_))
   | exact ih0 _ _ _ _
   | exact spec_l12Best.mono _ _ _
   | exact spec_l12Line.mono _ _
   | exact spec_l12Right.mono _ _ _
   | exact LeO.none _
   | refine LeO.ite ?_ ?_
   | refine LeO.bind ?_ (fun _ => ?_)
set_option maxHeartbeats 8000000 in
set_option maxRecDepth 100000 in
theorem spec_WrapBest.calls (k : Nat) (A0 : Option Addr) (c0 : Nat) (l0 : List ByteArray) (a1 : Int) (r1 : List ByteArray) (r2 : Bool) (w : World) (hr0 : Kd.C Kd.string w A0 l0.length l0) (hc0 : l0.length ≤ c0) (h : spec_WrapBest.f k l0 a1 = some (r1, r2)) :
  Calls Try.prog 25 #[.slice A0 l0.length c0, .int .i64 a1] w fun e w' => ∃ v0_ : Value, e = .returned (.tuple #[v0_, .bool r2]) ∧ Kd.R Kd.string 9 w' w.heap.size (fun _ => True) v0_ r1 ∧ Below w.heap.size w w' := by
 have HR0 := Aside0.mk hr0
 have HC0 := Aside0.mk hc0
 clear hr0 hc0
 have HB := Aside0.mk (Below.refl w.heap.size w)
 have H : ((some (([] : List ByteArray) : List ByteArray)).bind fun y210 => ((spec_l12Right.f k l0 a1).bind fun t213 => (if t213 = true then ((spec_l12Best.f k l0 a1).bind fun bt214 => (spec_WrapBest.l0 k l0 y210 bt214.2 0)) else (some (y210, false))))) = some (r1, r2) := h
 clear h
 obtain ⟨y210, hy210⟩ : ∃ y_ : List ByteArray, y_ = (([] : List ByteArray)) := ⟨_, rfl⟩
 replace H : ((spec_l12Right.f k l0 a1).bind fun t213 => (if t213 = true then ((spec_l12Best.f k l0 a1).bind fun bt214 => (spec_WrapBest.l0 k l0 y210 bt214.2 0)) else (some (y210, false)))) = some (r1, r2) := by first | (rw [hy210]; with_reducible exact H) | (have H2_ := (Option.bind_some _ _).symm.trans H; rw [hy210]; with_reducible exact H2_) | (have H2_ := (Option.bind_some _ _).symm.trans H; with_reducible exact H2_) | with_reducible exact H | (rw [hy210]; exact H) | exact H
 have Ny210 := Aside0.mk hy210
 clear hy210
 replace H := Option.bind_eq_some_iff.mp H
 obtain ⟨t213, A30, H⟩ := H
 replace H : (if t213 = true then ((spec_l12Best.f k l0 a1).bind fun bt214 => (spec_WrapBest.l0 k l0 y210 bt214.2 0)) else (some (y210, false))) = some (r1, r2) := H
 have A3 := Aside0.mk A30
 clear A30
 by_cases c4 : t213 = true
 ·subst c4
  have H1 : ((spec_l12Best.f k l0 a1).bind fun bt214 => (spec_WrapBest.l0 k l0 y210 bt214.2 0)) = some (r1, r2) := by rw [if_pos rfl] at H; exact H
  clear H
  have H := H1
  clear H1
  replace H := Option.bind_eq_some_iff.mp H
  obtain ⟨⟨t214, t215⟩, A50, H⟩ := H
  replace H : (spec_WrapBest.l0 k l0 y210 t215 0) = some (r1, r2) := H
  have A5 := Aside0.mk A50
  clear A50
  have H' := Aside0.mk H
  clear H
  go_enter Try.func25, Try.ntmps25
  go_wp2_with (first | ((with_reducible refine gate_dst (N := 10) rfl ?_); refine Kd.R_lit Kd.string _ 9 ?hg (N := 10) ?hd (xs := ([] : List ByteArray)) (inner := []) (ok := fun _ => True) (okp := fun _ => True) ?hr ?hp (fun _ hk => hk) trivial (Below.refl _ _) (Nat.le_refl _) (by simp) ?_; (case hd => rfl); (case hg => rfl); (case hr => first | (go_simp; done) | (go_simp; rfl)); (case hp => exact (Reps.none _ _)); intro v211 w6 ho7 hb hg_ hnew_; clear hg_ hnew_; (first | rw [← Ny210.out] at ho7 | (simp only [Int.reduceToNat] at ho7; rw [← Ny210.out] at ho7)); have n0_ := Aside0.mk (Kd.R_lower ho7 (below_size (by repeat (first|(with_reducible first|exact HB.out|apply below_alloc|apply pw_below_drewN|apply below_drew1)|exact HB.out)))); have n1_ := Aside0.mk (below_step (by repeat (first|(with_reducible first|exact HB.out|apply below_alloc|apply pw_below_drewN|apply below_drew1)|exact HB.out)) hb); clear HB; have HO212 := n0_; have HB := n1_; clear n0_ n1_; clear hb ho7) | ((with_reducible refine gate_callee (f := 53) rfl ?_); refine goesL_ (some 13) rfl rfl Try.func53 (by kernel_rfl) rfl #[.slice A0 l0.length c0, .int .i64 a1] rfl (by (try simp only [List.map_toArray, List.map_cons, List.map_nil]); first | done | rfl | (simp only [List.length_drop, List.length_take]; rfl)) ?_; (with_reducible refine (spec_l12Right.calls k _ _ l0 a1 true _ ?side1 ?side2 A3.out).mono ?_); (case side1 => repeat (first | exact (Kd.C_below HR0.out HB.out) | (with_reducible refine Kd.C_alloc ?_ _) | (with_reducible refine Kd.C_drewN ?_ _) | (with_reducible refine Kd.C_drew ?_))); (case side2 => exact HC0.out); rintro e w' ⟨rfl, ⟨nd, rfl⟩⟩; refine ⟨_, rfl, ?_⟩) | ((with_reducible refine gate_callee (f := 54) rfl ?_); refine goesL_ (some 19) rfl rfl Try.func54 (by kernel_rfl) rfl #[.slice A0 l0.length c0, .int .i64 a1] rfl (by (try simp only [List.map_toArray, List.map_cons, List.map_nil]); first | done | rfl | (simp only [List.length_drop, List.length_take]; rfl)) ?_; (with_reducible refine (spec_l12Best.calls k _ _ l0 a1 t214 t215 _ ?side1 ?side2 A5.out).mono ?_); (case side1 => repeat (first | exact (Kd.C_below HR0.out (by repeat (first|(with_reducible first|exact HB.out|apply below_alloc|apply pw_below_drewN|apply below_drew1)|exact HB.out))) | (with_reducible refine Kd.C_alloc ?_ _) | (with_reducible refine Kd.C_drewN ?_ _) | (with_reducible refine Kd.C_drew ?_))); (case side2 => exact HC0.out); rintro e w8 ⟨v216, v218, rfl, ho0, ho1, hb⟩; refine ⟨_, rfl, ?_⟩; have n0_ := Aside0.mk (Kd.R_below (by (with_reducible repeat (first|apply Kd.R_alloc|apply Kd.R_drewN|apply Kd.R_drew)); exact HO212.out) hb); have n1_ := Aside0.mk (Kd.R_lower ho0 (below_size (by repeat (first|(with_reducible first|exact HB.out|apply below_alloc|apply pw_below_drewN|apply below_drew1)|exact HB.out)))); have n2_ := Aside0.mk (Kd.R_lower ho1 (below_size (by repeat (first|(with_reducible first|exact HB.out|apply below_alloc|apply pw_below_drewN|apply below_drew1)|exact HB.out)))); have n3_ := Aside0.mk (below_step (by repeat (first|(with_reducible first|exact HB.out|apply below_alloc|apply pw_below_drewN|apply below_drew1)|exact HB.out)) hb); clear HO212; clear HB; have HO212 := n0_; have HO217 := n1_; have HO219 := n2_; have HB := n3_; clear n0_ n1_ n2_ n3_; (try clear hb); (try clear hb2); (try clear hk); (try clear hi); (try clear ho0); (try clear ho1)))
  go_loopg [6, 9] k (fun kq v6 v9 w' => ∃ (x6_1 : List ByteArray) (x9_1 : Int), v9 = .int .i64 x9_1 ∧ Aside0 (spec_WrapBest.l0 kq l0 x6_1 t215 x9_1 = some (r1, r2)) ∧ Aside0 (kq ≤ k) ∧ Aside0 (Kd.R Kd.string 9 w' w.heap.size (fun _ => True) v6 x6_1) ∧ Aside0 (Kd.R (Kd.int .i64) 3 w' w.heap.size (fun _ => True) v218 t215) ∧ Aside0 (Below w.heap.size w w'))
  case atStart => exact ⟨(y210), (0), (by first|rfl|(simp;done)|(simp[*];done)), H', ⟨Nat.le_refl _⟩, ⟨by (with_reducible repeat (first|apply Kd.R_alloc|apply Kd.R_drewN|apply Kd.R_drew)); exact HO212.out⟩, ⟨by (with_reducible repeat (first|apply Kd.R_alloc|apply Kd.R_drewN|apply Kd.R_drew)); exact Kd.R_mono HO219.out (fun _ hk => trivial)⟩, ⟨by repeat (first|(with_reducible first|exact HB.out|apply below_alloc|apply pw_below_drewN|apply below_drew1)|exact HB.out)⟩⟩
  case round =>
   clear H'
   try clear c2
   try clear p2
   try clear c4
   try clear c5
   obtain ⟨x6_1, x9_1, rfl, HA, HK1, HO_6, HO_8, HB⟩ := hrel
   cases gk with
   | zero => exact absurd HA.out (by simp [spec_WrapBest.l0])
   | succ k1 =>
    have H := HA.out
    clear HA
    simp only [spec_WrapBest.l0] at H
    by_cases c9 : x9_1 < (l0.length : Int)
    ·rw [if_pos c9] at H
     have c9b0 : decide (x9_1 < (l0.length : Int)) = true := decide_eq_true c9
     clear c9
     by_cases c10 : 0 ≤ x9_1
     ·rw [if_pos c10] at H
      have c10b0 : decide (0 ≤ x9_1) = true := decide_eq_true c10
      clear c10
      by_cases c11 : x9_1 < (t215.length : Int)
      ·rw [if_pos c11] at H
       have c11b0 : decide (x9_1 < (t215.length : Int)) = true := decide_eq_true c11
       clear c11
       have c12b0 := eq_true (of_decide_eq_true (by first|(with_reducible assumption)|assumption) : 0 ≤ x9_1)
       by_cases c13 : x9_1 ≤ (wrap64 (x9_1 + (rd t215 x9_1)))
       ·rw [if_pos c13] at H
        have c13b0 := eq_true c13
        have c13b1 : decide (x9_1 ≤ (wrap64 (x9_1 + (rd t215 x9_1)))) = true := decide_eq_true c13
        by_cases c14 : (wrap64 (x9_1 + (rd t215 x9_1))) ≤ (l0.length : Int)
        ·rw [if_pos c14] at H
         have c14b0 := eq_true c14
         have c14b1 : decide ((wrap64 (x9_1 + (rd t215 x9_1))) ≤ (l0.length : Int)) = true := decide_eq_true c14
         replace H := Option.bind_eq_some_iff.mp H
         obtain ⟨t222, A150, H⟩ := H
         replace H : (if x6_1.length < 8796093022208 then (spec_WrapBest.l0 k1 l0 (x6_1 ++ [t222]) t215 (wrap64 (x9_1 + (rd t215 x9_1)))) else (none)) = some (r1, r2) := H
         have A15 := Aside0.mk A150
         clear A150
         by_cases c16 : x6_1.length < 8796093022208
         ·rw [if_pos c16] at H
          have LMc16 := Aside0.mk c16
          clear c16
          obtain ⟨y223, hy223⟩ : ∃ y_ : List ByteArray, y_ = (x6_1 ++ [t222]) := ⟨_, rfl⟩
          replace H : (spec_WrapBest.l0 k1 l0 y223 t215 (wrap64 (x9_1 + (rd t215 x9_1)))) = some (r1, r2) := by first | (rw [hy223]; with_reducible exact H) | (have H2_ := (Option.bind_some _ _).symm.trans H; rw [hy223]; with_reducible exact H2_) | (have H2_ := (Option.bind_some _ _).symm.trans H; with_reducible exact H2_) | with_reducible exact H | (rw [hy223]; exact H) | exact H
          have Ny223 := Aside0.mk hy223
          clear hy223
          have H' := Aside0.mk H
          clear H
          obtain ⟨Ao17, co17, eo17⟩ := Kd.R_slice HO_8.out
          subst eo17
          have p220 : 0 ≤ (x9_1 : Int) := of_decide_eq_true (by first|(with_reducible assumption)|assumption)
          have q220 : x9_1 < (t215.length : Int) := of_decide_eq_true (by first|(with_reducible assumption)|assumption)
          obtain ⟨ad220, e220, hx220_0⟩ := Kd.at_int (Kd.R_reads' HO_8.out).2.2 x9_1 p220 q220
          cases e220
          replace p220 := eq_true p220
          replace q220 := eq_true q220
          obtain ⟨i018, hi018, _, hsz18, _⟩ := info_parts info9
          obtain ⟨A18, hcut18, hA18, hC18⟩ := print_mid_of (P := Try.prog) Value.string (⟨#[]⟩ : ByteArray) 39 9 .i64 .i64 Try.underlying39 hi018 hsz18 A0 c0 l0 x9_1 (wrap64 (x9_1 + (rd t215 x9_1))) (of_decide_eq_true (by first|(with_reducible assumption)|assumption)) (by first | omega | exact of_decide_eq_true (by first|(with_reducible assumption)|assumption)) (of_decide_eq_true (by first|(with_reducible assumption)|assumption)) HC0.out
          have HR221 := Aside0.mk (Kd.C_of_reads (h1 := fun _ => rfl) (hA18 _ (Kd.reads_of_C HR0.out)))
          have HC221 := Aside0.mk hC18
          clear hA18 hC18 hi018 hsz18
          go_wp2_with (first | ((with_reducible refine gate_callee (f := 55) rfl ?_); refine goesL_ (some 36) rfl rfl Try.func55 (by kernel_rfl) rfl #[.slice A18 ((l0.take ((wrap64 (x9_1 + (rd t215 x9_1))) : Int).toNat).drop (x9_1 : Int).toNat).length (c0 - x9_1.toNat)] rfl (by (try simp only [List.map_toArray, List.map_cons, List.map_nil]); first | done | (rw [show ((l0.take ((wrap64 (x9_1 + (rd t215 x9_1))) : Int).toNat).drop (x9_1 : Int).toNat).length = ((wrap64 (x9_1 + (rd t215 x9_1))).toNat - x9_1.toNat) from (by rw [List.length_drop, List.length_take]; have h_ : ((wrap64 (x9_1 + (rd t215 x9_1))) : Int) ≤ (l0.length : Int) := of_decide_eq_true (by first|(with_reducible assumption)|assumption); omega)] <;> rfl) | rfl | (simp only [List.length_drop, List.length_take]; rfl)) ?_; (with_reducible refine (spec_l12Line.calls k1 _ _ ((l0.take ((wrap64 (x9_1 + (rd t215 x9_1))) : Int).toNat).drop (x9_1 : Int).toNat) t222 _ ?side1 ?side2 A15.out).mono ?_); (case side1 => repeat (first | exact (Kd.C_below HR221.out HB.out) | (with_reducible refine Kd.C_alloc ?_ _) | (with_reducible refine Kd.C_drewN ?_ _) | (with_reducible refine Kd.C_drew ?_))); (case side2 => exact HC221.out); rintro e w' ⟨rfl, ⟨nd, rfl⟩⟩; refine ⟨_, rfl, ?_⟩) | ((with_reducible refine gate_builtin (b := .append) (xs := #[.tmp 26, .tmp 37]) rfl ?_); at_builtin; refine Kd.R_append Kd.string (w0 := w) w.heap.size rfl (.tmp 26) (.tmp 37) 39 9 (.string ⟨#[]⟩) 16 rfl Try.underlying39 info9 rfl (by decide) (by omega) u6 x6_1 t222 [.string t222] (fun _ => True) (fun _ => False) rfl rfl ?aP (fun _ hk => hk.elim) ?aF ?aO ?aB ?aS ?aL ?_; (case aP => exact rfl); (case aB => exact (by repeat (first|(with_reducible first|exact HB.out|apply below_alloc|apply pw_below_drewN|apply below_drew1)|exact HB.out))); (case aF => exact (fun _ _ => trivial)); (case aO => exact (by (with_reducible repeat (first|apply Kd.R_alloc|apply Kd.R_drewN|apply Kd.R_drew)); exact HO_6.out)); (case aS => exact (below_size (by repeat (first|(with_reducible first|exact HB.out|apply below_alloc|apply pw_below_drewN|apply below_drew1)|exact HB.out)))); (case aL => have := LMc16.out; omega); intro v224 w19 ho hb hg hat; rw [← Ny223.out] at ho; have n0_ := Aside0.mk (Kd.R_over' (by (with_reducible repeat (first|apply Kd.R_alloc|apply Kd.R_drewN|apply Kd.R_drew)); exact HO_8.out) (Kd.R_typed (by (with_reducible repeat (first|apply Kd.R_alloc|apply Kd.R_drewN|apply Kd.R_drew)); exact HO_6.out)) (by decide) hg); have n1_ := Aside0.mk (hb); have n2_ := Aside0.mk (ho); clear HO_8; clear HB; clear HO_6; have HO_8 := n0_; have HB := n1_; have HO225 := n2_; clear n0_ n1_ n2_; clear ho hb hg hat; have p226 : 0 ≤ (x9_1 : Int) := of_decide_eq_true (by first|(with_reducible assumption)|assumption); have q226 : x9_1 < (t215.length : Int) := of_decide_eq_true (by first|(with_reducible assumption)|assumption); obtain ⟨ad226, e226, hx226_0⟩ := Kd.at_int (Kd.R_reads' HO_8.out).2.2 x9_1 p226 q226; obtain rfl : ad220 = ad226 := (by injection e226); replace p226 := eq_true p226; replace q226 := eq_true q226))
          go_roundg k1
          case measure => have := HK1.out; omega
          case rel => exact ⟨(y223), (wrap64 (x9_1 + (rd t215 x9_1))), (by first|rfl|(simp;done)|(simp[*];done)), H', ⟨by have := HK1.out; omega⟩, ⟨by (with_reducible repeat (first|apply Kd.R_alloc|apply Kd.R_drewN|apply Kd.R_drew)); exact HO225.out⟩, ⟨by (with_reducible repeat (first|apply Kd.R_alloc|apply Kd.R_drewN|apply Kd.R_drew)); exact HO_8.out⟩, ⟨by repeat (first|(with_reducible first|exact HB.out|apply below_alloc|apply pw_below_drewN|apply below_drew1)|exact HB.out)⟩⟩
         ·rw [if_neg c16] at H
          exact absurd H (by simp)
        ·rw [if_neg c14] at H
         exact absurd H (by simp)
       ·rw [if_neg c13] at H
        exact absurd H (by simp)
      ·rw [if_neg c11] at H
       exact absurd H (by simp)
     ·rw [if_neg c10] at H
      exact absurd H (by simp)
    ·rw [if_neg c9] at H
     have c9b0 : decide (x9_1 < (l0.length : Int)) = false := decide_eq_false c9
     clear c9
     simp only [Option.some.injEq, Prod.mk.injEq] at H
     obtain ⟨rfl, rfl⟩ := H
     go_wp2
     go_ret2
     exact ⟨_, by first | rfl | (simp [errW_none, errW_some] <;> rfl) | (simp [*, errW_none, errW_some] <;> rfl), by (with_reducible repeat (first|apply Kd.R_alloc|apply Kd.R_drewN|apply Kd.R_drew)); exact HO_6.out, by repeat (first|(with_reducible first|exact HB.out|apply below_alloc|apply pw_below_drewN|apply below_drew1)|exact HB.out)⟩
 ·replace c4 := Bool.eq_false_iff.mpr c4
  subst c4
  have H1 : (some (y210, false)) = some (r1, r2) := by rw [if_neg (show ¬ (false = true) by decide)] at H; exact H
  clear H
  have H := H1
  clear H1
  simp only [Option.some.injEq, Prod.mk.injEq] at H
  obtain ⟨rfl, rfl⟩ := H
  go_enter Try.func25, Try.ntmps25
  go_wp2_with (first | ((with_reducible refine gate_dst (N := 10) rfl ?_); refine Kd.R_lit Kd.string _ 9 ?hg (N := 10) ?hd (xs := ([] : List ByteArray)) (inner := []) (ok := fun _ => True) (okp := fun _ => True) ?hr ?hp (fun _ hk => hk) trivial (Below.refl _ _) (Nat.le_refl _) (by simp) ?_; (case hd => rfl); (case hg => rfl); (case hr => first | (go_simp; done) | (go_simp; rfl)); (case hp => exact (Reps.none _ _)); intro v211 w20 ho21 hb hg_ hnew_; clear hg_ hnew_; (first | rw [← Ny210.out] at ho21 | (simp only [Int.reduceToNat] at ho21; rw [← Ny210.out] at ho21)); have n0_ := Aside0.mk (Kd.R_lower ho21 (below_size (by repeat (first|(with_reducible first|exact HB.out|apply below_alloc|apply pw_below_drewN|apply below_drew1)|exact HB.out)))); have n1_ := Aside0.mk (below_step (by repeat (first|(with_reducible first|exact HB.out|apply below_alloc|apply pw_below_drewN|apply below_drew1)|exact HB.out)) hb); clear HB; have HO212 := n0_; have HB := n1_; clear n0_ n1_; clear hb ho21) | ((with_reducible refine gate_callee (f := 53) rfl ?_); refine goesL_ (some 13) rfl rfl Try.func53 (by kernel_rfl) rfl #[.slice A0 l0.length c0, .int .i64 a1] rfl (by (try simp only [List.map_toArray, List.map_cons, List.map_nil]); first | done | rfl | (simp only [List.length_drop, List.length_take]; rfl)) ?_; (with_reducible refine (spec_l12Right.calls k _ _ l0 a1 false _ ?side1 ?side2 A3.out).mono ?_); (case side1 => repeat (first | exact (Kd.C_below HR0.out HB.out) | (with_reducible refine Kd.C_alloc ?_ _) | (with_reducible refine Kd.C_drewN ?_ _) | (with_reducible refine Kd.C_drew ?_))); (case side2 => exact HC0.out); rintro e w' ⟨rfl, ⟨nd, rfl⟩⟩; refine ⟨_, rfl, ?_⟩))
  go_ret2
  exact ⟨_, by first | rfl | (simp [errW_none, errW_some] <;> rfl) | (simp [*, errW_none, errW_some] <;> rfl), by (with_reducible repeat (first|apply Kd.R_alloc|apply Kd.R_drewN|apply Kd.R_drew)); exact HO212.out, by repeat (first|(with_reducible first|exact HB.out|apply below_alloc|apply pw_below_drewN|apply below_drew1)|exact HB.out)⟩

/-! ### laws_daTexts: function 26 -/
def laws_daTexts.l0 : Nat → List ByteArray → List ByteArray → Int → Option (Bool)
 | 0, _, _, _ => none
 | k + 1, x0, x1, x5 => if x5 < (x0.length : Int) then (if 0 ≤ x5 then (if x5 < (x1.length : Int) then (if (rdOf ByteArray.empty x0 x5).toList = (rdOf ByteArray.empty x1 x5).toList then (laws_daTexts.l0 k x0 x1 (wrap64 (x5 + 1))) else (some false)) else (none)) else (none)) else (some true)
def laws_daTexts.f (k : Nat) (l0 : List ByteArray) (l1 : List ByteArray) : Option (Bool) := if (l0.length : Int) = (l1.length : Int) then (laws_daTexts.l0 k l0 l1 0) else (some false)
theorem laws_daTexts.mono_l : ∀ k, (∀ y0 y1 y2, LeO (laws_daTexts.l0 k y0 y1 y2) (laws_daTexts.l0 (k + 1) y0 y1 y2))
 | 0 => fun _ _ _ r h => by simp [laws_daTexts.l0] at h
 | k + 1 => by
  have ih0 := laws_daTexts.mono_l k
  ·intro y0 y1 y2
   unfold laws_daTexts.l0
   repeat' first
   | (with_reducible exact ih0 _ _ _)
   | (with_reducible exact LeO.refl _)
   | (with_reducible exact LeO.none _)
   | (with_reducible refine LeO.ite ?_ ?_)
   | (with_reducible refine LeO.bind ?_ (fun _ => ?_))
   | exact ih0 _ _ _
   | exact LeO.none _
   | refine LeO.ite ?_ ?_
   | refine LeO.bind ?_ (fun _ => ?_)
theorem laws_daTexts.mono : ∀ a0 a1 k, LeO (laws_daTexts.f k a0 a1) (laws_daTexts.f (k + 1) a0 a1) := by
 intro a0 a1 k
 have ih0 := laws_daTexts.mono_l k
 unfold laws_daTexts.f
 repeat' first
   | (with_reducible exact ih0 _ _ _)
   | (with_reducible exact LeO.refl _)
   | (with_reducible exact LeO.none _)
   | (with_reducible refine LeO.ite ?_ ?_)
   | (with_reducible refine LeO.bind ?_ (fun _ => ?_))
   | exact ih0 _ _ _
   | exact LeO.none _
   | refine LeO.ite ?_ ?_
   | refine LeO.bind ?_ (fun _ => ?_)
set_option maxHeartbeats 8000000 in
set_option maxRecDepth 100000 in
theorem laws_daTexts.calls (k : Nat) (A0 : Option Addr) (c0 : Nat) (l0 : List ByteArray) (A1 : Option Addr) (c1 : Nat) (l1 : List ByteArray) (r : Bool) (w : World) (hr0 : Kd.C Kd.string w A0 l0.length l0) (hc0 : l0.length ≤ c0) (hr1 : Kd.C Kd.string w A1 l1.length l1) (hc1 : l1.length ≤ c1) (h : laws_daTexts.f k l0 l1 = some r) :
  Calls Try.prog 26 #[.slice A0 l0.length c0, .slice A1 l1.length c1] w fun e w' => e = .returned (.bool r) ∧ Drawn0 w w' := by
 have HR0 := Aside0.mk hr0
 have HC0 := Aside0.mk hc0
 clear hr0 hc0
 have HR1 := Aside0.mk hr1
 have HC1 := Aside0.mk hc1
 clear hr1 hc1
 have H : (if (l0.length : Int) = (l1.length : Int) then (laws_daTexts.l0 k l0 l1 0) else (some false)) = some r := h
 clear h
 by_cases c3 : (l0.length : Int) = (l1.length : Int)
 ·rw [if_pos c3] at H
  have c3b0 : ((l0.length : Int) == (l1.length : Int)) = true := beq_iff_eq.mpr c3
  have c3b1 : ((l0.length : Int) != (l1.length : Int)) = false := bne_eq_false_iff_eq.mpr c3
  have c3b2 : (l0.length == l1.length) = true := by first | simpa using c3 | (simp at c3 ⊢; omega)
  clear c3
  have H' := Aside0.mk H
  clear H
  go_enter Try.func26, Try.ntmps26
  go_wp2
  repeat (go_quiet (fail); try go_wp2)
  go_loopg [5] k (fun kq v5 w' => ∃ (x5_1 : Int), v5 = .int .i64 x5_1 ∧ Aside0 (laws_daTexts.l0 kq l0 l1 x5_1 = some r) ∧ Aside0 (kq ≤ k) ∧ Drawn0 w w')
  case atStart => exact ⟨(0), (by first|rfl|(simp;done)|(simp[*];done)), H', ⟨Nat.le_refl _⟩, by repeat (first | exact Drawn0.refl _ | apply Drawn0.step)⟩
  case round =>
   clear H'
   try clear c1
   try clear c2
   try clear p2
   try clear c3
   try clear c3b0
   try clear c3b1
   try clear c3b2
   obtain ⟨x5_1, rfl, HA, HK1, ⟨m1, rfl⟩⟩ := hrel
   cases gk with
   | zero => exact absurd HA.out (by simp [laws_daTexts.l0])
   | succ k1 =>
    have H := HA.out
    clear HA
    simp only [laws_daTexts.l0] at H
    by_cases c4 : x5_1 < (l0.length : Int)
    ·rw [if_pos c4] at H
     have c4b0 : decide (x5_1 < (l0.length : Int)) = true := decide_eq_true c4
     clear c4
     by_cases c5 : 0 ≤ x5_1
     ·rw [if_pos c5] at H
      have c5b0 : decide (0 ≤ x5_1) = true := decide_eq_true c5
      clear c5
      by_cases c6 : x5_1 < (l1.length : Int)
      ·rw [if_pos c6] at H
       have c6b0 : decide (x5_1 < (l1.length : Int)) = true := decide_eq_true c6
       clear c6
       by_cases c7 : (rdOf ByteArray.empty l0 x5_1).toList = (rdOf ByteArray.empty l1 x5_1).toList
       ·rw [if_pos c7] at H
        have c7b0 : ((rdOf ByteArray.empty l0 x5_1).toList == (rdOf ByteArray.empty l1 x5_1).toList) = true := beq_iff_eq.mpr c7
        have c7b1 : ((rdOf ByteArray.empty l0 x5_1).toList != (rdOf ByteArray.empty l1 x5_1).toList) = false := bne_eq_false_iff_eq.mpr c7
        clear c7
        have H' := Aside0.mk H
        clear H
        have p227 : 0 ≤ (x5_1 : Int) := of_decide_eq_true (by first|(with_reducible assumption)|assumption)
        have q227 : x5_1 < (l0.length : Int) := of_decide_eq_true (by first|(with_reducible assumption)|assumption)
        obtain ⟨ad227, e227, hx227_0⟩ := Kd.at_string HR0.out x5_1 p227 q227
        cases e227
        replace p227 := eq_true p227
        replace q227 := eq_true q227
        have p228 : 0 ≤ (x5_1 : Int) := of_decide_eq_true (by first|(with_reducible assumption)|assumption)
        have q228 : x5_1 < (l1.length : Int) := of_decide_eq_true (by first|(with_reducible assumption)|assumption)
        obtain ⟨ad228, e228, hx228_0⟩ := Kd.at_string HR1.out x5_1 p228 q228
        cases e228
        replace p228 := eq_true p228
        replace q228 := eq_true q228
        go_wp2
        repeat (go_quiet (fail); try go_wp2)
        go_roundg k1
        case measure => have := HK1.out; omega
        case rel => exact ⟨(wrap64 (x5_1 + 1)), (by first|rfl|(simp;done)|(simp[*];done)), H', ⟨by have := HK1.out; omega⟩, by repeat (first | exact Drawn0.refl _ | apply Drawn0.step)⟩
       ·rw [if_neg c7] at H
        have c7b0 : ((rdOf ByteArray.empty l0 x5_1).toList == (rdOf ByteArray.empty l1 x5_1).toList) = false := beq_eq_false_iff_ne.mpr c7
        have c7b1 : ((rdOf ByteArray.empty l0 x5_1).toList != (rdOf ByteArray.empty l1 x5_1).toList) = true := bne_iff_ne.mpr c7
        obtain rfl := Option.some.inj H
        have p227 : 0 ≤ (x5_1 : Int) := of_decide_eq_true (by first|(with_reducible assumption)|assumption)
        have q227 : x5_1 < (l0.length : Int) := of_decide_eq_true (by first|(with_reducible assumption)|assumption)
        obtain ⟨ad227, e227, hx227_0⟩ := Kd.at_string HR0.out x5_1 p227 q227
        cases e227
        replace p227 := eq_true p227
        replace q227 := eq_true q227
        have p228 : 0 ≤ (x5_1 : Int) := of_decide_eq_true (by first|(with_reducible assumption)|assumption)
        have q228 : x5_1 < (l1.length : Int) := of_decide_eq_true (by first|(with_reducible assumption)|assumption)
        obtain ⟨ad228, e228, hx228_0⟩ := Kd.at_string HR1.out x5_1 p228 q228
        cases e228
        replace p228 := eq_true p228
        replace q228 := eq_true q228
        go_wp2
        repeat (go_quiet (fail); try go_wp2)
        go_ret
        exact ⟨by first | rfl | (simp; done) | (simp [*]; done), by repeat (first | exact Drawn0.refl _ | apply Drawn0.step)⟩
      ·rw [if_neg c6] at H
       exact absurd H (by simp)
     ·rw [if_neg c5] at H
      exact absurd H (by simp)
    ·rw [if_neg c4] at H
     have c4b0 : decide (x5_1 < (l0.length : Int)) = false := decide_eq_false c4
     clear c4
     obtain rfl := Option.some.inj H
     go_wp2
     repeat (go_quiet (fail); try go_wp2)
     go_ret
     exact ⟨by first | rfl | (simp; done) | (simp [*]; done), by repeat (first | exact Drawn0.refl _ | apply Drawn0.step)⟩
 ·rw [if_neg c3] at H
  have c3b0 : ((l0.length : Int) == (l1.length : Int)) = false := beq_eq_false_iff_ne.mpr c3
  have c3b1 : ((l0.length : Int) != (l1.length : Int)) = true := bne_iff_ne.mpr c3
  have c3b2 : (l0.length == l1.length) = false := by first | simpa using c3 | (simp at c3 ⊢; omega)
  obtain rfl := Option.some.inj H
  go_enter Try.func26, Try.ntmps26
  go_wp2
  repeat (go_quiet (fail); try go_wp2)
  go_ret
  exact ⟨by first | rfl | (simp; done) | (simp [*]; done), by repeat (first | exact Drawn0.refl _ | apply Drawn0.step)⟩

end Go.Proofs.Ythcfocpimoghbaa.PWb
