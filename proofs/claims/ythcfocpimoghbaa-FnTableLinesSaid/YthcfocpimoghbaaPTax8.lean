-- Written by a program of this session (xprint). -- COMPACT
import Derived.Test.YthcfocpimoghbaaPTax0
import Derived.Test.YthcfocpimoghbaaPTax5
import Derived.Test.YthcfocpimoghbaaPTax7
namespace Go.Proofs.Ythcfocpimoghbaa.PTa
open Go.RowKit Go.Proofs.YthcfocpimoghbaaW.PrintWords Go.Proofs.YthcfocpimoghbaaW.PrintLast Go.Proofs.YthcfocpimoghbaaW.PrintMore
attribute [local go_sem] max2_int min2_int max_two min_two max_three min_three max_four min_four   -- for this text's walks alone
set_option linter.unusedVariables false
set_option linter.unusedSimpArgs false

/-! ### spec_l13Widths: function 67 -/
mutual
def spec_l13Widths.l0 : Nat → List (List ByteArray) → List Int → Int → Option (List Int)
 | 0, _, _, _ => none
 | k + 1, x0, x3, x4 => if x4 < (x0.length : Int) then (spec_l13Widths.l1 k x0 x3 x4 0) else (some x3)
def spec_l13Widths.l1 : Nat → List (List ByteArray) → List Int → Int → Int → Option (List Int)
 | 0, _, _, _, _ => none
 | k + 1, x0, x3, x4, x5 => if 0 ≤ x4 then (if x4 < (x0.length : Int) then (if x5 < ((rd_L3 x0 x4).length : Int) then (if 0 ≤ x5 then (if x5 < (x3.length : Int) then (if ((rdOf ByteArray.empty (rd_L3 x0 x4) x5).size : Int) > (rd x3 x5) then (spec_l13Widths.l1 k x0 (x3.set (x5 : Int).toNat ((rdOf ByteArray.empty (rd_L3 x0 x4) x5).size : Int)) x4 (wrap64 (x5 + 1))) else (spec_l13Widths.l1 k x0 x3 x4 (wrap64 (x5 + 1)))) else (none)) else (none)) else (spec_l13Widths.l0 k x0 x3 (wrap64 (x4 + 1)))) else (none)) else (none)
end
def spec_l13Widths.f (k : Nat) (l0 : List (List ByteArray)) : Option (List Int) := if 0 < (l0.length : Int) then (if 0 ≤ ((rd_L3 l0 0).length : Int) then (if (((rd_L3 l0 0).length : Int) : Int).toNat ≤ 35184372088832 then (spec_l13Widths.l0 k l0 (List.replicate (((rd_L3 l0 0).length : Int) : Int).toNat 0) 0) else (none)) else (none)) else (none)
theorem spec_l13Widths.mono_l : ∀ k, (∀ y0 y1 y2, LeO (spec_l13Widths.l0 k y0 y1 y2) (spec_l13Widths.l0 (k + 1) y0 y1 y2)) ∧ (∀ y0 y1 y2 y3, LeO (spec_l13Widths.l1 k y0 y1 y2 y3) (spec_l13Widths.l1 (k + 1) y0 y1 y2 y3))
 | 0 => ⟨fun _ _ _ r h => by simp [spec_l13Widths.l0] at h, fun _ _ _ _ r h => by simp [spec_l13Widths.l1] at h⟩
 | k + 1 => by
  obtain ⟨ih0, ih1⟩ := spec_l13Widths.mono_l k
  refine ⟨?_, ?_⟩
  ·intro y0 y1 y2
   unfold spec_l13Widths.l0
   repeat' first
   | (with_reducible exact ih0 _ _ _)
   | (with_reducible exact ih1 _ _ _ _)
   | (with_reducible exact LeO.refl _)
   | (with_reducible exact LeO.none _)
   | (with_reducible refine LeO.ite ?_ ?_)
   | (with_reducible refine LeO.bind ?_ (fun _ => ?_))
   | exact ih0 _ _ _
   | exact ih1 _ _ _ _
   | exact LeO.none _
   | refine LeO.ite ?_ ?_
   | refine LeO.bind ?_ (fun _ => ?_)
  ·intro y0 y1 y2 y3
   unfold spec_l13Widths.l1
   repeat' first
   | (with_reducible exact ih0 _ _ _)
   | (with_reducible exact ih1 _ _ _ _)
   | (with_reducible exact LeO.refl _)
   | (with_reducible exact LeO.none _)
   | (with_reducible refine LeO.ite ?_ ?_)
   | (with_reducible refine LeO.bind ?_ (fun _ => ?_))
   | exact ih0 _ _ _
   | exact ih1 _ _ _ _
   | exact LeO.none _
   | refine LeO.ite ?_ ?_
   | refine LeO.bind ?_ (fun _ => ?_)
theorem spec_l13Widths.mono : ∀ a0 k, LeO (spec_l13Widths.f k a0) (spec_l13Widths.f (k + 1) a0) := by
 intro a0 k
 obtain ⟨ih0, ih1⟩ := spec_l13Widths.mono_l k
 unfold spec_l13Widths.f
 repeat' first
   | (with_reducible exact ih0 _ _ _)
   | (with_reducible exact ih1 _ _ _ _)
   | (with_reducible exact LeO.refl _)
   | (with_reducible exact LeO.none _)
   | (with_reducible refine LeO.ite ?_ ?_)
   | (with_reducible refine LeO.bind ?_ (fun _ => ?_))
   | exact ih0 _ _ _
   | exact ih1 _ _ _ _
   | exact LeO.none _
   | refine LeO.ite ?_ ?_
   | refine LeO.bind ?_ (fun _ => ?_)
set_option maxHeartbeats 8000000 in
set_option maxRecDepth 100000 in
theorem spec_l13Widths.calls (k : Nat) (A0 : Option Addr) (c0 : Nat) (l0 : List (List ByteArray)) (r : List Int) (w : World) (hr0 : Kd.C (Kd.slice 9 Kd.string) w A0 l0.length l0) (hc0 : l0.length ≤ c0) (h : spec_l13Widths.f k l0 = some r) :
  Calls Try.prog 67 #[.slice A0 l0.length c0] w fun e w' => ∃ v0_ : Value, e = .returned (v0_) ∧ Kd.R (Kd.int .i64) 3 w' w.heap.size (fun _ => True) v0_ r ∧ Below w.heap.size w w' := by
 have HR0 := Aside0.mk hr0
 have HC0 := Aside0.mk hc0
 clear hr0 hc0
 have HB := Aside0.mk (Below.refl w.heap.size w)
 have H : (if 0 < (l0.length : Int) then (if 0 ≤ ((rd_L3 l0 0).length : Int) then (if (((rd_L3 l0 0).length : Int) : Int).toNat ≤ 35184372088832 then (spec_l13Widths.l0 k l0 (List.replicate (((rd_L3 l0 0).length : Int) : Int).toNat 0) 0) else (none)) else (none)) else (none)) = some r := h
 clear h
 by_cases c2 : 0 < (l0.length : Int)
 ·rw [if_pos c2] at H
  have c2b0 : decide (0 < (l0.length : Int)) = true := decide_eq_true c2
  have c2b1 : decide (0 < l0.length) = true := decide_eq_true (by omega)
  clear c2
  by_cases c3 : 0 ≤ ((rd_L3 l0 0).length : Int)
  ·rw [if_pos c3] at H
   have c3b0 := eq_true c3
   have c3b1 : decide (0 ≤ ((rd_L3 l0 0).length : Int)) = true := decide_eq_true c3
   clear c3
   by_cases c4 : (((rd_L3 l0 0).length : Int) : Int).toNat ≤ 35184372088832
   ·rw [if_pos c4] at H
    have c4b0 := eq_true c4
    have c4b1 : decide ((((rd_L3 l0 0).length : Int) : Int).toNat ≤ 35184372088832) = true := decide_eq_true c4
    clear c4
    obtain ⟨y221, hy221⟩ : ∃ y_ : List Int, y_ = (List.replicate (((rd_L3 l0 0).length : Int) : Int).toNat 0) := ⟨_, rfl⟩
    replace H : (spec_l13Widths.l0 k l0 y221 0) = some r := by first | (rw [hy221]; with_reducible exact H) | (have H2_ := (Option.bind_some _ _).symm.trans H; rw [hy221]; with_reducible exact H2_) | (have H2_ := (Option.bind_some _ _).symm.trans H; with_reducible exact H2_) | with_reducible exact H | (rw [hy221]; exact H) | exact H
    have Ny221 := Aside0.mk hy221
    clear hy221
    have H' := Aside0.mk H
    clear H
    have p220 : 0 ≤ (0 : Int) := (by omega)
    have q220 : 0 < (l0.length : Int) := of_decide_eq_true (by first|(with_reducible assumption)|assumption)
    obtain ⟨ad220, A220_0, c220_0, e220, hx220_0, hl220_0, hi220_0⟩ := at_L3 HR0.out 0 p220 q220
    cases e220
    have qi220 : (0 < l0.length) = True := eq_true (by omega)
    (try rw [show ((0 : Int)).toNat = 0 from rfl] at hx220_0)
    (try rw [Addr.add_zero'] at hx220_0)
    have HR220_0 := Aside0.mk hi220_0
    have HC220_0 := Aside0.mk hl220_0
    clear hi220_0 hl220_0
    replace p220 := eq_true p220
    replace q220 := eq_true q220
    go_enter Try.func67, Try.ntmps67
    go_wp2_with (first | ((with_reducible refine gate_dst (N := 10) rfl ?_); refine Kd.R_make (Kd.int .i64) _ 3 rfl (N := 10) rfl 57 _ _ rfl ((rd_L3 l0 0).length : Int) rfl rfl Try.underlying57 (.int .i64 0) 8 info3 rfl (by decide) (by omega) 0 (ok := fun _ => True) (okp := fun _ => True) rfl (fun _ hk => hk) trivial (of_decide_eq_true (by first|(with_reducible assumption)|assumption)) (Nat.le_trans (Nat.mul_le_mul_right _ (of_decide_eq_true (by first|(with_reducible assumption)|assumption) : ((rd_L3 l0 0).length : Int).toNat ≤ 35184372088832)) (by omega)) (Below.refl _ _) (Nat.le_refl _) ?_; intro v222 w5 ho6 hb hg_ hnew_; clear hg_ hnew_; (first | rw [← Ny221.out] at ho6 | (simp only [Int.reduceToNat] at ho6; rw [← Ny221.out] at ho6)); have n0_ := Aside0.mk (Kd.R_lower ho6 (below_size (by repeat (first|(with_reducible first|exact HB.out|apply below_alloc|apply pw_below_drewN|apply below_drew1)|exact HB.out)))); have n1_ := Aside0.mk (below_step (by repeat (first|(with_reducible first|exact HB.out|apply below_alloc|apply pw_below_drewN|apply below_drew1)|exact HB.out)) hb); clear HB; have HO223 := n0_; have HB := n1_; clear n0_ n1_; clear hb ho6))
    repeat (go_quiet (first | ((with_reducible refine gate_dst (N := 10) rfl ?_); refine Kd.R_make (Kd.int .i64) _ 3 rfl (N := 10) rfl 57 _ _ rfl ((rd_L3 l0 0).length : Int) rfl rfl Try.underlying57 (.int .i64 0) 8 info3 rfl (by decide) (by omega) 0 (ok := fun _ => True) (okp := fun _ => True) rfl (fun _ hk => hk) trivial (of_decide_eq_true (by first|(with_reducible assumption)|assumption)) (Nat.le_trans (Nat.mul_le_mul_right _ (of_decide_eq_true (by first|(with_reducible assumption)|assumption) : ((rd_L3 l0 0).length : Int).toNat ≤ 35184372088832)) (by omega)) (Below.refl _ _) (Nat.le_refl _) ?_; intro v222 w5 ho6 hb hg_ hnew_; clear hg_ hnew_; (first | rw [← Ny221.out] at ho6 | (simp only [Int.reduceToNat] at ho6; rw [← Ny221.out] at ho6)); have n0_ := Aside0.mk (Kd.R_lower ho6 (below_size (by repeat (first|(with_reducible first|exact HB.out|apply below_alloc|apply pw_below_drewN|apply below_drew1)|exact HB.out)))); have n1_ := Aside0.mk (below_step (by repeat (first|(with_reducible first|exact HB.out|apply below_alloc|apply pw_below_drewN|apply below_drew1)|exact HB.out)) hb); clear HB; have HO223 := n0_; have HB := n1_; clear n0_ n1_; clear hb ho6)); try go_wp2_with (first | ((with_reducible refine gate_dst (N := 10) rfl ?_); refine Kd.R_make (Kd.int .i64) _ 3 rfl (N := 10) rfl 57 _ _ rfl ((rd_L3 l0 0).length : Int) rfl rfl Try.underlying57 (.int .i64 0) 8 info3 rfl (by decide) (by omega) 0 (ok := fun _ => True) (okp := fun _ => True) rfl (fun _ hk => hk) trivial (of_decide_eq_true (by first|(with_reducible assumption)|assumption)) (Nat.le_trans (Nat.mul_le_mul_right _ (of_decide_eq_true (by first|(with_reducible assumption)|assumption) : ((rd_L3 l0 0).length : Int).toNat ≤ 35184372088832)) (by omega)) (Below.refl _ _) (Nat.le_refl _) ?_; intro v222 w5 ho6 hb hg_ hnew_; clear hg_ hnew_; (first | rw [← Ny221.out] at ho6 | (simp only [Int.reduceToNat] at ho6; rw [← Ny221.out] at ho6)); have n0_ := Aside0.mk (Kd.R_lower ho6 (below_size (by repeat (first|(with_reducible first|exact HB.out|apply below_alloc|apply pw_below_drewN|apply below_drew1)|exact HB.out)))); have n1_ := Aside0.mk (below_step (by repeat (first|(with_reducible first|exact HB.out|apply below_alloc|apply pw_below_drewN|apply below_drew1)|exact HB.out)) hb); clear HB; have HO223 := n0_; have HB := n1_; clear n0_ n1_; clear hb ho6)))
    go_loopg [4] k (fun kq v4 w' => ∃ (x3_1 : List Int) (x4_1 : Int), v4 = .int .i64 x4_1 ∧ Aside0 (spec_l13Widths.l0 kq l0 x3_1 x4_1 = some r) ∧ Aside0 (kq ≤ k) ∧ Aside0 (Kd.R (Kd.int .i64) 3 w' w.heap.size (fun _ => True) v222 x3_1) ∧ Aside0 (Below w.heap.size w w'))
    case atStart => exact ⟨(y221), (0), (by first|rfl|(simp;done)|(simp[*];done)), H', ⟨Nat.le_refl _⟩, ⟨by (with_reducible repeat (first|apply Kd.R_alloc|apply Kd.R_drewN|apply Kd.R_drew)); exact HO223.out⟩, ⟨by repeat (first|(with_reducible first|exact HB.out|apply below_alloc|apply pw_below_drewN|apply below_drew1)|exact HB.out)⟩⟩
    case round =>
     clear H'
     try clear c2
     try clear c2b0
     try clear c2b1
     try clear p2
     try clear q2
     try clear hx2
     try clear qi2
     try clear c3
     try clear c3b0
     try clear c3b1
     try clear c4
     try clear c4b0
     try clear c4b1
     try clear c6
     try clear hx220_0
     try clear p220
     try clear q220
     obtain ⟨x3_1, x4_1, rfl, HA, HK1, HO_3, HB⟩ := hrel
     cases gk with
     | zero => exact absurd HA.out (by simp [spec_l13Widths.l0])
     | succ k1 =>
      have H := HA.out
      clear HA
      simp only [spec_l13Widths.l0] at H
      by_cases c7 : x4_1 < (l0.length : Int)
      ·rw [if_pos c7] at H
       have c7b0 : decide (x4_1 < (l0.length : Int)) = true := decide_eq_true c7
       clear c7
       have H' := Aside0.mk H
       clear H
       go_wp2
       repeat (go_quiet (fail); try go_wp2)
       go_loopg [5] k1 (fun kq v5 w' => ∃ (x3_2 : List Int) (x5_2 : Int), v5 = .int .i64 x5_2 ∧ Aside0 (spec_l13Widths.l1 kq l0 x3_2 x4_1 x5_2 = some r) ∧ Aside0 (kq ≤ k1) ∧ Aside0 (Kd.R (Kd.int .i64) 3 w' w.heap.size (fun _ => True) v222 x3_2) ∧ Aside0 (Below w.heap.size w w'))
       case atStart => exact ⟨(x3_1), (0), (by first|rfl|(simp;done)|(simp[*];done)), H', ⟨Nat.le_refl _⟩, ⟨by (with_reducible repeat (first|apply Kd.R_alloc|apply Kd.R_drewN|apply Kd.R_drew)); exact HO_3.out⟩, ⟨by repeat (first|(with_reducible first|exact HB.out|apply below_alloc|apply pw_below_drewN|apply below_drew1)|exact HB.out)⟩⟩
       case round =>
        clear H'
        try clear c2
        try clear c2b0
        try clear c2b1
        try clear p2
        try clear q2
        try clear hx2
        try clear qi2
        try clear c3
        try clear c3b0
        try clear c3b1
        try clear c4
        try clear c4b0
        try clear c4b1
        try clear c6
        try clear c7
        try clear c7b0
        try clear hx220_0
        try clear p2
        try clear p220
        try clear q2
        try clear q220
        obtain ⟨x3_2, x5_2, rfl, HA, HK2, HO_3, HB⟩ := hrel
        cases gk with
        | zero => exact absurd HA.out (by simp [spec_l13Widths.l1])
        | succ k2 =>
         have H := HA.out
         clear HA
         simp only [spec_l13Widths.l1] at H
         by_cases c8 : 0 ≤ x4_1
         ·rw [if_pos c8] at H
          have c8b0 : decide (0 ≤ x4_1) = true := decide_eq_true c8
          clear c8
          by_cases c9 : x4_1 < (l0.length : Int)
          ·rw [if_pos c9] at H
           have c9b0 : decide (x4_1 < (l0.length : Int)) = true := decide_eq_true c9
           clear c9
           by_cases c10 : x5_2 < ((rd_L3 l0 x4_1).length : Int)
           ·rw [if_pos c10] at H
            have c10b0 : decide (x5_2 < ((rd_L3 l0 x4_1).length : Int)) = true := decide_eq_true c10
            clear c10
            by_cases c11 : 0 ≤ x5_2
            ·rw [if_pos c11] at H
             have c11b0 : decide (0 ≤ x5_2) = true := decide_eq_true c11
             clear c11
             by_cases c12 : x5_2 < (x3_2.length : Int)
             ·rw [if_pos c12] at H
              have c12b0 : decide (x5_2 < (x3_2.length : Int)) = true := decide_eq_true c12
              clear c12
              by_cases c13 : ((rdOf ByteArray.empty (rd_L3 l0 x4_1) x5_2).size : Int) > (rd x3_2 x5_2)
              ·rw [if_pos c13] at H
               have c13b0 : decide ((rd x3_2 x5_2) < ((rdOf ByteArray.empty (rd_L3 l0 x4_1) x5_2).size : Int)) = true := decide_eq_true c13
               clear c13
               obtain ⟨y230, hy230⟩ : ∃ y_ : List Int, y_ = (x3_2.set (x5_2 : Int).toNat ((rdOf ByteArray.empty (rd_L3 l0 x4_1) x5_2).size : Int)) := ⟨_, rfl⟩
               replace H : (spec_l13Widths.l1 k2 l0 y230 x4_1 (wrap64 (x5_2 + 1))) = some r := by first | (rw [hy230]; with_reducible exact H) | (have H2_ := (Option.bind_some _ _).symm.trans H; rw [hy230]; with_reducible exact H2_) | (have H2_ := (Option.bind_some _ _).symm.trans H; with_reducible exact H2_) | with_reducible exact H | (rw [hy230]; exact H) | exact H
               have Ny230 := Aside0.mk hy230
               clear hy230
               have H' := Aside0.mk H
               clear H
               have p224 : 0 ≤ (x4_1 : Int) := of_decide_eq_true (by first|(with_reducible assumption)|assumption)
               have q224 : x4_1 < (l0.length : Int) := of_decide_eq_true (by first|(with_reducible assumption)|assumption)
               obtain ⟨ad224, A224_0, c224_0, e224, hx224_0, hl224_0, hi224_0⟩ := at_L3 HR0.out x4_1 p224 q224
               obtain rfl : ad220 = ad224 := (by injection e224)
               replace hx224_0 := (HB.out.cell (World.block_lt_of_cell? w _ hx224_0)).trans hx224_0
               have HR224_0 := Aside0.mk hi224_0
               have HC224_0 := Aside0.mk hl224_0
               clear hi224_0 hl224_0
               replace p224 := eq_true p224
               replace q224 := eq_true q224
               have p225 : 0 ≤ (x4_1 : Int) := of_decide_eq_true (by first|(with_reducible assumption)|assumption)
               have q225 : x4_1 < (l0.length : Int) := of_decide_eq_true (by first|(with_reducible assumption)|assumption)
               obtain ⟨ad225, A225_0, c225_0, e225, hx225_0, hl225_0, hi225_0⟩ := at_L3 HR0.out x4_1 p225 q225
               obtain rfl : ad220 = ad225 := (by injection e225)
               replace hx225_0 := (HB.out.cell (World.block_lt_of_cell? w _ hx225_0)).trans hx225_0
               have HR225_0 := Aside0.mk hi225_0
               have HC225_0 := Aside0.mk hl225_0
               clear hi225_0 hl225_0
               replace p225 := eq_true p225
               replace q225 := eq_true q225
               have ea_ := Option.some.inj (hx224_0.symm.trans hx225_0)
               injection ea_ with ea_ en_ ec_
               subst ea_
               subst ec_
               clear en_
               have p226 : 0 ≤ (x5_2 : Int) := of_decide_eq_true (by first|(with_reducible assumption)|assumption)
               have q226 : x5_2 < ((rd_L3 l0 x4_1).length : Int) := of_decide_eq_true (by first|(with_reducible assumption)|assumption)
               obtain ⟨ad226, e226, hx226_0⟩ := Kd.at_string HR225_0.out x5_2 p226 q226
               cases e226
               replace hx226_0 := (HB.out.cell (World.block_lt_of_cell? w _ hx226_0)).trans hx226_0
               replace p226 := eq_true p226
               replace q226 := eq_true q226
               obtain ⟨Ao15, co15, eo15⟩ := Kd.R_slice HO_3.out
               subst eo15
               have p227 : 0 ≤ (x5_2 : Int) := of_decide_eq_true (by first|(with_reducible assumption)|assumption)
               have q227 : x5_2 < (x3_2.length : Int) := of_decide_eq_true (by first|(with_reducible assumption)|assumption)
               obtain ⟨ad227, e227, hx227_0⟩ := Kd.at_int (Kd.R_reads' HO_3.out).2.2 x5_2 p227 q227
               cases e227
               replace p227 := eq_true p227
               replace q227 := eq_true q227
               have p228 : 0 ≤ (x4_1 : Int) := of_decide_eq_true (by first|(with_reducible assumption)|assumption)
               have q228 : x4_1 < (l0.length : Int) := of_decide_eq_true (by first|(with_reducible assumption)|assumption)
               obtain ⟨ad228, A228_0, c228_0, e228, hx228_0, hl228_0, hi228_0⟩ := at_L3 HR0.out x4_1 p228 q228
               obtain rfl : ad220 = ad228 := (by injection e228)
               replace hx228_0 := (HB.out.cell (World.block_lt_of_cell? w _ hx228_0)).trans hx228_0
               have HR228_0 := Aside0.mk hi228_0
               have HC228_0 := Aside0.mk hl228_0
               clear hi228_0 hl228_0
               replace p228 := eq_true p228
               replace q228 := eq_true q228
               have ea_ := Option.some.inj (hx224_0.symm.trans hx228_0)
               injection ea_ with ea_ en_ ec_
               subst ea_
               subst ec_
               clear en_
               have p229 : 0 ≤ (x5_2 : Int) := of_decide_eq_true (by first|(with_reducible assumption)|assumption)
               have q229 : x5_2 < ((rd_L3 l0 x4_1).length : Int) := of_decide_eq_true (by first|(with_reducible assumption)|assumption)
               obtain ⟨ad229, e229, hx229_0⟩ := Kd.at_string HR228_0.out x5_2 p229 q229
               cases e229
               replace hx229_0 := (HB.out.cell (World.block_lt_of_cell? w _ hx229_0)).trans hx229_0
               replace p229 := eq_true p229
               replace q229 := eq_true q229
               have p14 : 0 ≤ (x5_2 : Int) := of_decide_eq_true (by first|(with_reducible assumption)|assumption)
               have q14 : (x5_2 : Int) < ((x3_2.length : Int) : Int) := of_decide_eq_true (by first|(with_reducible assumption)|assumption)
               obtain ⟨go14, co14, eo14, gb14, gl14, cl14, HG14⟩ := Kd.R_form HO_3.out (by omega)
               (first | cases eo14 | (injection eo14 with ea_ en_ ec_; (first | subst ea_ | (injection ea_ with ea_; subst ea_)); subst ec_; clear en_))
               have GB14 := Aside0.mk gb14
               have GG14 := Aside0.mk HG14
               clear gb14 gl14 HG14
               (first | simp only [add_plain] at hx227_0 | skip)
               obtain ⟨hx14_0, hf14_0⟩ := Kd.R_celln 0 HO_3.out (x5_2 : Int) p14 q14
               replace p14 := eq_true p14
               replace q14 := eq_true q14
               have HP16 := Kd.R_putg HO_3.out (x5_2 : Int) ((rdOf ByteArray.empty (rd_L3 l0 x4_1) x5_2).size : Int)
               go_wp2_with (first | ((with_reducible refine gate_store (t := 3) (p := 49) rfl ?_); (try (rw [drewN_self wr]; generalize hq_ : World.drewN wr _ = wr; have n0_ := Aside0.mk (Kd.R_at hq_ HO_3.out); have n1_ := Aside0.mk (below_at hq_ HB.out); clear hq_ HO_3 HB; have HO_3 := n0_; have HB := n1_; clear n0_ n1_; (try (have HP16 := Kd.R_putg HO_3.out (x5_2 : Int) ((rdOf ByteArray.empty (rd_L3 l0 x4_1) x5_2).size : Int))))); refine store_event (t := 3) (p := 49) (v := ?vo_w17) (w1 := (wr.setCell ⟨go14, (x5_2 : Int).toNat, none⟩ (.int .i64 ((rdOf ByteArray.empty (rd_L3 l0 x4_1) x5_2).size : Int)))) ?hg ?ho ?hn ?hr ?_; (case ho => rfl); (case hg => rfl); (case hn => rfl); (case hr => first | (go_simp; done) | (go_simp; rfl)); intro w17 hw; have hg : wr.grownBy w17 (some go14) := (by rw [hw]; exact HP16.2); have hp_ : Kd.R (Kd.int .i64) 3 w17 w.heap.size (fun _ => True) (.slice (some ⟨go14, 0, none⟩) x3_2.length co15) y230 := (by rw [hw, Ny230.out]; exact HP16.1); clear HP16; have n0_ := Aside0.mk (hp_); have n1_ := Aside0.mk ((by rw [hw]; exact below_set (HB.out) GB14.out : Below w.heap.size w w17)); clear HO_3; clear HB; have HO_3 := n0_; have HB := n1_; clear n0_ n1_; clear hg hw hp_))
               repeat (go_quiet (first | ((with_reducible refine gate_store (t := 3) (p := 49) rfl ?_); (try (rw [drewN_self wr]; generalize hq_ : World.drewN wr _ = wr; have n0_ := Aside0.mk (Kd.R_at hq_ HO_3.out); have n1_ := Aside0.mk (below_at hq_ HB.out); clear hq_ HO_3 HB; have HO_3 := n0_; have HB := n1_; clear n0_ n1_; (try (have HP16 := Kd.R_putg HO_3.out (x5_2 : Int) ((rdOf ByteArray.empty (rd_L3 l0 x4_1) x5_2).size : Int))))); refine store_event (t := 3) (p := 49) (v := ?vo_w17) (w1 := (wr.setCell ⟨go14, (x5_2 : Int).toNat, none⟩ (.int .i64 ((rdOf ByteArray.empty (rd_L3 l0 x4_1) x5_2).size : Int)))) ?hg ?ho ?hn ?hr ?_; (case ho => rfl); (case hg => rfl); (case hn => rfl); (case hr => first | (go_simp; done) | (go_simp; rfl)); intro w17 hw; have hg : wr.grownBy w17 (some go14) := (by rw [hw]; exact HP16.2); have hp_ : Kd.R (Kd.int .i64) 3 w17 w.heap.size (fun _ => True) (.slice (some ⟨go14, 0, none⟩) x3_2.length co15) y230 := (by rw [hw, Ny230.out]; exact HP16.1); clear HP16; have n0_ := Aside0.mk (hp_); have n1_ := Aside0.mk ((by rw [hw]; exact below_set (HB.out) GB14.out : Below w.heap.size w w17)); clear HO_3; clear HB; have HO_3 := n0_; have HB := n1_; clear n0_ n1_; clear hg hw hp_)); try go_wp2_with (first | ((with_reducible refine gate_store (t := 3) (p := 49) rfl ?_); (try (rw [drewN_self wr]; generalize hq_ : World.drewN wr _ = wr; have n0_ := Aside0.mk (Kd.R_at hq_ HO_3.out); have n1_ := Aside0.mk (below_at hq_ HB.out); clear hq_ HO_3 HB; have HO_3 := n0_; have HB := n1_; clear n0_ n1_; (try (have HP16 := Kd.R_putg HO_3.out (x5_2 : Int) ((rdOf ByteArray.empty (rd_L3 l0 x4_1) x5_2).size : Int))))); refine store_event (t := 3) (p := 49) (v := ?vo_w17) (w1 := (wr.setCell ⟨go14, (x5_2 : Int).toNat, none⟩ (.int .i64 ((rdOf ByteArray.empty (rd_L3 l0 x4_1) x5_2).size : Int)))) ?hg ?ho ?hn ?hr ?_; (case ho => rfl); (case hg => rfl); (case hn => rfl); (case hr => first | (go_simp; done) | (go_simp; rfl)); intro w17 hw; have hg : wr.grownBy w17 (some go14) := (by rw [hw]; exact HP16.2); have hp_ : Kd.R (Kd.int .i64) 3 w17 w.heap.size (fun _ => True) (.slice (some ⟨go14, 0, none⟩) x3_2.length co15) y230 := (by rw [hw, Ny230.out]; exact HP16.1); clear HP16; have n0_ := Aside0.mk (hp_); have n1_ := Aside0.mk ((by rw [hw]; exact below_set (HB.out) GB14.out : Below w.heap.size w w17)); clear HO_3; clear HB; have HO_3 := n0_; have HB := n1_; clear n0_ n1_; clear hg hw hp_)))
               go_roundg k2
               case measure => have := HK1.out; have := HK2.out; omega
               case rel => exact ⟨(y230), (wrap64 (x5_2 + 1)), (by first|rfl|(simp;done)|(simp[*];done)), H', ⟨by have := HK1.out; have := HK2.out; omega⟩, ⟨by first | ((with_reducible repeat (first | apply Kd.R_alloc | apply Kd.R_drewN | apply Kd.R_drew)); exact HO_3.out) | (rw [Ny230.out]; exact (Kd.R_putg (Kd.R_drewN HO_3.out _) (x5_2 : Int) ((rdOf ByteArray.empty (rd_L3 l0 x4_1) x5_2).size : Int)).1)⟩, ⟨by first | ((repeat (first | (with_reducible first | exact HB.out | apply below_alloc | apply pw_below_drewN | apply below_drew1) | exact HB.out)); done) | exact below_set (pw_below_drewN HB.out _) GB14.out | exact below_set (pw_below_drewN HB.out) GB14.out⟩⟩
              ·rw [if_neg c13] at H
               have c13b0 : decide ((rd x3_2 x5_2) < ((rdOf ByteArray.empty (rd_L3 l0 x4_1) x5_2).size : Int)) = false := decide_eq_false c13
               clear c13
               have H' := Aside0.mk H
               clear H
               have p224 : 0 ≤ (x4_1 : Int) := of_decide_eq_true (by first|(with_reducible assumption)|assumption)
               have q224 : x4_1 < (l0.length : Int) := of_decide_eq_true (by first|(with_reducible assumption)|assumption)
               obtain ⟨ad224, A224_0, c224_0, e224, hx224_0, hl224_0, hi224_0⟩ := at_L3 HR0.out x4_1 p224 q224
               obtain rfl : ad220 = ad224 := (by injection e224)
               replace hx224_0 := (HB.out.cell (World.block_lt_of_cell? w _ hx224_0)).trans hx224_0
               have HR224_0 := Aside0.mk hi224_0
               have HC224_0 := Aside0.mk hl224_0
               clear hi224_0 hl224_0
               replace p224 := eq_true p224
               replace q224 := eq_true q224
               have p225 : 0 ≤ (x4_1 : Int) := of_decide_eq_true (by first|(with_reducible assumption)|assumption)
               have q225 : x4_1 < (l0.length : Int) := of_decide_eq_true (by first|(with_reducible assumption)|assumption)
               obtain ⟨ad225, A225_0, c225_0, e225, hx225_0, hl225_0, hi225_0⟩ := at_L3 HR0.out x4_1 p225 q225
               obtain rfl : ad220 = ad225 := (by injection e225)
               replace hx225_0 := (HB.out.cell (World.block_lt_of_cell? w _ hx225_0)).trans hx225_0
               have HR225_0 := Aside0.mk hi225_0
               have HC225_0 := Aside0.mk hl225_0
               clear hi225_0 hl225_0
               replace p225 := eq_true p225
               replace q225 := eq_true q225
               have ea_ := Option.some.inj (hx224_0.symm.trans hx225_0)
               injection ea_ with ea_ en_ ec_
               subst ea_
               subst ec_
               clear en_
               have p226 : 0 ≤ (x5_2 : Int) := of_decide_eq_true (by first|(with_reducible assumption)|assumption)
               have q226 : x5_2 < ((rd_L3 l0 x4_1).length : Int) := of_decide_eq_true (by first|(with_reducible assumption)|assumption)
               obtain ⟨ad226, e226, hx226_0⟩ := Kd.at_string HR225_0.out x5_2 p226 q226
               cases e226
               replace hx226_0 := (HB.out.cell (World.block_lt_of_cell? w _ hx226_0)).trans hx226_0
               replace p226 := eq_true p226
               replace q226 := eq_true q226
               obtain ⟨Ao18, co18, eo18⟩ := Kd.R_slice HO_3.out
               subst eo18
               have p227 : 0 ≤ (x5_2 : Int) := of_decide_eq_true (by first|(with_reducible assumption)|assumption)
               have q227 : x5_2 < (x3_2.length : Int) := of_decide_eq_true (by first|(with_reducible assumption)|assumption)
               obtain ⟨ad227, e227, hx227_0⟩ := Kd.at_int (Kd.R_reads' HO_3.out).2.2 x5_2 p227 q227
               cases e227
               replace p227 := eq_true p227
               replace q227 := eq_true q227
               go_wp2
               repeat (go_quiet (fail); try go_wp2)
               go_roundg k2
               case measure => have := HK1.out; have := HK2.out; omega
               case rel => exact ⟨(x3_2), (wrap64 (x5_2 + 1)), (by first|rfl|(simp;done)|(simp[*];done)), H', ⟨by have := HK1.out; have := HK2.out; omega⟩, ⟨by (with_reducible repeat (first|apply Kd.R_alloc|apply Kd.R_drewN|apply Kd.R_drew)); exact HO_3.out⟩, ⟨by repeat (first|(with_reducible first|exact HB.out|apply below_alloc|apply pw_below_drewN|apply below_drew1)|exact HB.out)⟩⟩
             ·rw [if_neg c12] at H
              exact absurd H (by simp)
            ·rw [if_neg c11] at H
             exact absurd H (by simp)
           ·rw [if_neg c10] at H
            have c10b0 : decide (x5_2 < ((rd_L3 l0 x4_1).length : Int)) = false := decide_eq_false c10
            clear c10
            have H' := Aside0.mk H
            clear H
            have p224 : 0 ≤ (x4_1 : Int) := of_decide_eq_true (by first|(with_reducible assumption)|assumption)
            have q224 : x4_1 < (l0.length : Int) := of_decide_eq_true (by first|(with_reducible assumption)|assumption)
            obtain ⟨ad224, A224_0, c224_0, e224, hx224_0, hl224_0, hi224_0⟩ := at_L3 HR0.out x4_1 p224 q224
            obtain rfl : ad220 = ad224 := (by injection e224)
            replace hx224_0 := (HB.out.cell (World.block_lt_of_cell? w _ hx224_0)).trans hx224_0
            have HR224_0 := Aside0.mk hi224_0
            have HC224_0 := Aside0.mk hl224_0
            clear hi224_0 hl224_0
            replace p224 := eq_true p224
            replace q224 := eq_true q224
            go_wp2
            repeat (go_quiet (fail); try go_wp2)
            go_roundg k2
            case measure => have := HK1.out; have := HK2.out; omega
            case rel => exact ⟨(x3_2), (wrap64 (x4_1 + 1)), (by first|rfl|(simp;done)|(simp[*];done)), H', ⟨by have := HK1.out; have := HK2.out; omega⟩, ⟨by (with_reducible repeat (first|apply Kd.R_alloc|apply Kd.R_drewN|apply Kd.R_drew)); exact HO_3.out⟩, ⟨by repeat (first|(with_reducible first|exact HB.out|apply below_alloc|apply pw_below_drewN|apply below_drew1)|exact HB.out)⟩⟩
          ·rw [if_neg c9] at H
           exact absurd H (by simp)
         ·rw [if_neg c8] at H
          exact absurd H (by simp)
      ·rw [if_neg c7] at H
       have c7b0 : decide (x4_1 < (l0.length : Int)) = false := decide_eq_false c7
       clear c7
       obtain rfl := Option.some.inj H
       go_wp2
       repeat (go_quiet (fail); try go_wp2)
       go_ret
       exact ⟨_, by first | rfl | (simp [errW_none, errW_some] <;> rfl) | (simp [*, errW_none, errW_some] <;> rfl), by (with_reducible repeat (first|apply Kd.R_alloc|apply Kd.R_drewN|apply Kd.R_drew)); exact HO_3.out, by repeat (first|(with_reducible first|exact HB.out|apply below_alloc|apply pw_below_drewN|apply below_drew1)|exact HB.out)⟩
   ·rw [if_neg c4] at H
    exact absurd H (by simp)
  ·rw [if_neg c3] at H
   exact absurd H (by simp)
 ·rw [if_neg c2] at H
  exact absurd H (by simp)

/-! ### spec_TableLines: function 40 -/
mutual
def spec_TableLines.j0 : Nat → List (List ByteArray) → Int → List ByteArray → Bool → Option (List ByteArray × Bool)
 | 0, _, _, _, _ => none
 | k + 1, x0, x1, x6, x22 => if x22 = true then (some (x6, false)) else ((spec_l13Widths.f k x0).bind fun t235 => (spec_TableLines.l0 k x0 x1 x6 t235 0))
def spec_TableLines.l0 : Nat → List (List ByteArray) → Int → List ByteArray → List Int → Int → Option (List ByteArray × Bool)
 | 0, _, _, _, _, _ => none
 | k + 1, x0, x1, x6, x7, x8 => if x8 < (x0.length : Int) then (spec_TableLines.l1 k x0 x1 x6 x7 x8 (⟨#[]⟩ : ByteArray) 0) else (some (x6, true))
def spec_TableLines.l1 : Nat → List (List ByteArray) → Int → List ByteArray → List Int → Int → ByteArray → Int → Option (List ByteArray × Bool)
 | 0, _, _, _, _, _, _, _ => none
 | k + 1, x0, x1, x6, x7, x8, x9, x10 => if 0 ≤ x8 then (if x8 < (x0.length : Int) then (if x10 < ((rd_L3 x0 x8).length : Int) then (if x10 > 0 then ((spec_l2Spaces.f k x1).bind fun t242 => (if x9.size + t242.size ≤ 9223372036854775807 then (if 0 ≤ x10 then (if (x9 ++ t242).size + (rdOf ByteArray.empty (rd_L3 x0 x8) x10).size ≤ 9223372036854775807 then (if x10 < (x7.length : Int) then ((spec_l2Spaces.f k (wrap64 ((rd x7 x10) - ((rdOf ByteArray.empty (rd_L3 x0 x8) x10).size : Int)))).bind fun t248 => (if ((x9 ++ t242) ++ (rdOf ByteArray.empty (rd_L3 x0 x8) x10)).size + t248.size ≤ 9223372036854775807 then (spec_TableLines.l1 k x0 x1 x6 x7 x8 (((x9 ++ t242) ++ (rdOf ByteArray.empty (rd_L3 x0 x8) x10)) ++ t248) (wrap64 (x10 + 1))) else (none))) else (none)) else (none)) else (none)) else (none))) else (if 0 ≤ x10 then (if x9.size + (rdOf ByteArray.empty (rd_L3 x0 x8) x10).size ≤ 9223372036854775807 then (if x10 < (x7.length : Int) then ((spec_l2Spaces.f k (wrap64 ((rd x7 x10) - ((rdOf ByteArray.empty (rd_L3 x0 x8) x10).size : Int)))).bind fun t254 => (if (x9 ++ (rdOf ByteArray.empty (rd_L3 x0 x8) x10)).size + t254.size ≤ 9223372036854775807 then (spec_TableLines.l1 k x0 x1 x6 x7 x8 ((x9 ++ (rdOf ByteArray.empty (rd_L3 x0 x8) x10)) ++ t254) (wrap64 (x10 + 1))) else (none))) else (none)) else (none)) else (none))) else (if x6.length < 8796093022208 then (spec_TableLines.l0 k x0 x1 (x6 ++ [x9]) x7 (wrap64 (x8 + 1))) else (none))) else (none)) else (none)
end
def spec_TableLines.f (k : Nat) (l0 : List (List ByteArray)) (a1 : Int) : Option (List ByteArray × Bool) := (some (([] : List ByteArray) : List ByteArray)).bind fun y231 => ((spec_l13Cells.f k l0).bind fun t234 => (if t234 = true then (if a1 < 0 then (spec_TableLines.j0 k l0 a1 y231 true) else (spec_TableLines.j0 k l0 a1 y231 (decide (a1 > 10)))) else (spec_TableLines.j0 k l0 a1 y231 true)))
theorem spec_TableLines.mono_l : ∀ k, (∀ y0 y1 y2 y3, LeO (spec_TableLines.j0 k y0 y1 y2 y3) (spec_TableLines.j0 (k + 1) y0 y1 y2 y3)) ∧ (∀ y0 y1 y2 y3 y4, LeO (spec_TableLines.l0 k y0 y1 y2 y3 y4) (spec_TableLines.l0 (k + 1) y0 y1 y2 y3 y4)) ∧ (∀ y0 y1 y2 y3 y4 y5 y6, LeO (spec_TableLines.l1 k y0 y1 y2 y3 y4 y5 y6) (spec_TableLines.l1 (k + 1) y0 y1 y2 y3 y4 y5 y6))
 | 0 => ⟨fun _ _ _ _ r h => by simp [spec_TableLines.j0] at h, fun _ _ _ _ _ r h => by simp [spec_TableLines.l0] at h, fun _ _ _ _ _ _ _ r h => by simp [spec_TableLines.l1] at h⟩
 | k + 1 => by
  obtain ⟨ih0, ih1, ih2⟩ := spec_TableLines.mono_l k
  refine ⟨?_, ?_, ?_⟩
  ·intro y0 y1 y2 y3
   unfold spec_TableLines.j0
   repeat' first
   | (with_reducible exact ih0 _ _ _ _)
   | (with_reducible exact ih1 _ _ _ _ _)
   | (with_reducible exact ih2 _ _ _ _ _ _ _)
   | (with_reducible exact spec_l13Cells.mono _ _)
   | (with_reducible exact spec_l13Widths.mono _ _)
   | (with_reducible exact spec_l2Spaces.mono _ _)
   | (with_reducible exact LeO.refl _)
   | (with_reducible exact LeO.none _)
   | (with_reducible refine LeO.ite ?_ ?_)
   | (with_reducible refine LeO.bind ?_ (fun _ => ?_))
   | exact ih0 _ _ _ _
   | exact ih1 _ _ _ _ _
   | exact ih2 _ _ _ _ _ _ _
   | exact spec_l13Cells.mono _ _
   | exact spec_l13Widths.mono _ _
   | exact spec_l2Spaces.mono _ _
   | exact LeO.none _
   | refine LeO.ite ?_ ?_
   | refine LeO.bind ?_ (fun _ => ?_)
  ·intro y0 y1 y2 y3 y4
   unfold spec_TableLines.l0
   repeat' first
   | (with_reducible exact ih0 _ _ _ _)
   | (with_reducible exact ih1 _ _ _ _ _)
   | (with_reducible exact ih2 _ _ _ _ _ _ _)
   | (with_reducible exact spec_l13Cells.mono _ _)
   | (with_reducible exact spec_l13Widths.mono _ _)
   | (with_reducible exact spec_l2Spaces.mono _ _)
   | (with_reducible exact LeO.refl _)
   | (with_reducible exact LeO.none _)
   | (with_reducible refine LeO.ite ?_ ?_)
   | (with_reducible refine LeO.bind ?_ (fun _ => ?_))
   | exact ih0 _ _ _ _
   | exact ih1 _ _ _ _ _
   | exact ih2 _ _ _ _ _ _ _
   | exact spec_l13Cells.mono _ _
   | exact spec_l13Widths.mono _ _
   | exact spec_l2Spaces.mono _ _
   | exact LeO.none _
   | refine LeO.ite ?_ ?_
   | refine LeO.bind ?_ (fun _ => ?_)
  ·intro y0 y1 y2 y3 y4 y5 y6
   unfold spec_TableLines.l1
   repeat' first
   | (with_reducible exact ih0 _ _ _ _)
   | (with_reducible exact ih1 _ _ _ _ _)
   | (with_reducible exact ih2 _ _ _ _ _ _ _)
   | (with_reducible exact spec_l13Cells.mono _ _)
   | (with_reducible exact spec_l13Widths.mono _ _)
   | (with_reducible exact spec_l2Spaces.mono _ _)
   | (with_reducible exact LeO.refl _)
   | (with_reducible exact LeO.none _)
   | (with_reducible refine LeO.ite ?_ ?_)
   | (with_reducible refine LeO.bind ?_ (fun _ => ?_))
   | exact ih0 _ _ _ _
   | exact ih1 _ _ _ _ _
   | exact ih2 _ _ _ _ _ _ _
   | exact spec_l13Cells.mono _ _
   | exact spec_l13Widths.mono _ _
   | exact spec_l2Spaces.mono _ _
   | exact LeO.none _
   | refine LeO.ite ?_ ?_
   | refine LeO.bind ?_ (fun _ => ?_)
theorem spec_TableLines.mono : ∀ a0 a1 k, LeO (spec_TableLines.f k a0 a1) (spec_TableLines.f (k + 1) a0 a1) := by
 intro a0 a1 k
 obtain ⟨ih0, ih1, ih2⟩ := spec_TableLines.mono_l k
 unfold spec_TableLines.f
 repeat' first
   | (with_reducible exact ih0 _ _ _ _)
   | (with_reducible exact ih1 _ _ _ _ _)
   | (with_reducible exact ih2 _ _ _ _ _ _ _)
   | (with_reducible exact spec_l13Cells.mono _ _)
   | (with_reducible exact spec_l13Widths.mono _ _)
   | (with_reducible exact spec_l2Spaces.mono _ _)
   | (with_reducible exact LeO.refl _)
   | (with_reducible exact LeO.none _)
   | (with_reducible refine LeO.ite ?_ ?_)
   | (with_reducible refine LeO.bind ?_ (fun _ => ?_))
   | exact ih0 _ _ _ _
   | exact ih1 _ _ _ _ _
   | exact ih2 _ _ _ _ _ _ _
   | exact spec_l13Cells.mono _ _
   | exact spec_l13Widths.mono _ _
   | exact spec_l2Spaces.mono _ _
   | exact LeO.none _
   | refine LeO.ite ?_ ?_
   | refine LeO.bind ?_ (fun _ => ?_)
set_option maxHeartbeats 8000000 in
set_option maxRecDepth 100000 in
theorem spec_TableLines.calls (k : Nat) (A0 : Option Addr) (c0 : Nat) (l0 : List (List ByteArray)) (a1 : Int) (r1 : List ByteArray) (r2 : Bool) (w : World) (hr0 : Kd.C (Kd.slice 9 Kd.string) w A0 l0.length l0) (hc0 : l0.length ≤ c0) (h : spec_TableLines.f k l0 a1 = some (r1, r2)) :
  Calls Try.prog 40 #[.slice A0 l0.length c0, .int .i64 a1] w fun e w' => ∃ v0_ : Value, e = .returned (.tuple #[v0_, .bool r2]) ∧ Kd.R Kd.string 9 w' w.heap.size (fun _ => True) v0_ r1 ∧ Below w.heap.size w w' := by
 have HR0 := Aside0.mk hr0
 have HC0 := Aside0.mk hc0
 clear hr0 hc0
 have HB := Aside0.mk (Below.refl w.heap.size w)
 have H : ((some (([] : List ByteArray) : List ByteArray)).bind fun y231 => ((spec_l13Cells.f k l0).bind fun t234 => (if t234 = true then (if a1 < 0 then (spec_TableLines.j0 k l0 a1 y231 true) else (spec_TableLines.j0 k l0 a1 y231 (decide (a1 > 10)))) else (spec_TableLines.j0 k l0 a1 y231 true)))) = some (r1, r2) := h
 clear h
 obtain ⟨y231, hy231⟩ : ∃ y_ : List ByteArray, y_ = (([] : List ByteArray)) := ⟨_, rfl⟩
 replace H : ((spec_l13Cells.f k l0).bind fun t234 => (if t234 = true then (if a1 < 0 then (spec_TableLines.j0 k l0 a1 y231 true) else (spec_TableLines.j0 k l0 a1 y231 (decide (a1 > 10)))) else (spec_TableLines.j0 k l0 a1 y231 true))) = some (r1, r2) := by first | (rw [hy231]; with_reducible exact H) | (have H2_ := (Option.bind_some _ _).symm.trans H; rw [hy231]; with_reducible exact H2_) | (have H2_ := (Option.bind_some _ _).symm.trans H; with_reducible exact H2_) | with_reducible exact H | (rw [hy231]; exact H) | exact H
 have Ny231 := Aside0.mk hy231
 clear hy231
 have HC3 := Aside0.mk H
 clear H
 go_enter Try.func40, Try.ntmps40
 go_upto_region 2 with (first | ((with_reducible refine gate_dst (N := 11) rfl ?_); refine Kd.R_lit Kd.string _ 9 ?hg (N := 11) ?hd (xs := ([] : List ByteArray)) (inner := []) (ok := fun _ => True) (okp := fun _ => True) ?hr ?hp (fun _ hk => hk) trivial (Below.refl _ _) (Nat.le_refl _) (by simp) ?_; (case hd => rfl); (case hg => rfl); (case hr => first | (go_simp; done) | (go_simp; rfl)); (case hp => exact (Reps.none _ _)); intro v232 w4 ho5 hb hg_ hnew_; clear hg_ hnew_; (first | rw [← Ny231.out] at ho5 | (simp only [Int.reduceToNat] at ho5; rw [← Ny231.out] at ho5)); have n0_ := Aside0.mk (Kd.R_lower ho5 (below_size (by repeat (first|(with_reducible first|exact HB.out|apply below_alloc|apply pw_below_drewN|apply below_drew1)|exact HB.out)))); have n1_ := Aside0.mk (below_step (by repeat (first|(with_reducible first|exact HB.out|apply below_alloc|apply pw_below_drewN|apply below_drew1)|exact HB.out)) hb); clear HB; have HO233 := n0_; have HB := n1_; clear n0_ n1_; clear hb ho5))
 repeat (go_quiet (first | ((with_reducible refine gate_dst (N := 11) rfl ?_); refine Kd.R_lit Kd.string _ 9 ?hg (N := 11) ?hd (xs := ([] : List ByteArray)) (inner := []) (ok := fun _ => True) (okp := fun _ => True) ?hr ?hp (fun _ hk => hk) trivial (Below.refl _ _) (Nat.le_refl _) (by simp) ?_; (case hd => rfl); (case hg => rfl); (case hr => first | (go_simp; done) | (go_simp; rfl)); (case hp => exact (Reps.none _ _)); intro v232 w4 ho5 hb hg_ hnew_; clear hg_ hnew_; (first | rw [← Ny231.out] at ho5 | (simp only [Int.reduceToNat] at ho5; rw [← Ny231.out] at ho5)); have n0_ := Aside0.mk (Kd.R_lower ho5 (below_size (by repeat (first|(with_reducible first|exact HB.out|apply below_alloc|apply pw_below_drewN|apply below_drew1)|exact HB.out)))); have n1_ := Aside0.mk (below_step (by repeat (first|(with_reducible first|exact HB.out|apply below_alloc|apply pw_below_drewN|apply below_drew1)|exact HB.out)) hb); clear HB; have HO233 := n0_; have HB := n1_; clear n0_ n1_; clear hb ho5)); go_upto_region 2 with (first | ((with_reducible refine gate_dst (N := 11) rfl ?_); refine Kd.R_lit Kd.string _ 9 ?hg (N := 11) ?hd (xs := ([] : List ByteArray)) (inner := []) (ok := fun _ => True) (okp := fun _ => True) ?hr ?hp (fun _ hk => hk) trivial (Below.refl _ _) (Nat.le_refl _) (by simp) ?_; (case hd => rfl); (case hg => rfl); (case hr => first | (go_simp; done) | (go_simp; rfl)); (case hp => exact (Reps.none _ _)); intro v232 w4 ho5 hb hg_ hnew_; clear hg_ hnew_; (first | rw [← Ny231.out] at ho5 | (simp only [Int.reduceToNat] at ho5; rw [← Ny231.out] at ho5)); have n0_ := Aside0.mk (Kd.R_lower ho5 (below_size (by repeat (first|(with_reducible first|exact HB.out|apply below_alloc|apply pw_below_drewN|apply below_drew1)|exact HB.out)))); have n1_ := Aside0.mk (below_step (by repeat (first|(with_reducible first|exact HB.out|apply below_alloc|apply pw_below_drewN|apply below_drew1)|exact HB.out)) hb); clear HB; have HO233 := n0_; have HB := n1_; clear n0_ n1_; clear hb ho5)))
 (try simp only [Act.put, List.setIfInBounds_toArray, List.set_cons_zero, List.set_cons_succ])
 go_cut [22] (fun v22 wc => ∃ (kq : Nat) (x22_2 : Bool), v22 = .bool x22_2 ∧ Aside0 (spec_TableLines.j0 kq l0 a1 y231 x22_2 = some (r1, r2)) ∧ Aside0 (kq ≤ k) ∧ Aside0 (Kd.R Kd.string 9 wc w.heap.size (fun _ => True) v232 y231) ∧ Aside0 (Below w.heap.size w wc))
 case first =>
  have H := HC3.out
  clear HC3
  replace H := Option.bind_eq_some_iff.mp H
  obtain ⟨t234, A60, H⟩ := H
  replace H : (if t234 = true then (if a1 < 0 then (spec_TableLines.j0 k l0 a1 y231 true) else (spec_TableLines.j0 k l0 a1 y231 (decide (a1 > 10)))) else (spec_TableLines.j0 k l0 a1 y231 true)) = some (r1, r2) := H
  have A6 := Aside0.mk A60
  clear A60
  by_cases c7 : t234 = true
  ·subst c7
   have H1 : (if a1 < 0 then (spec_TableLines.j0 k l0 a1 y231 true) else (spec_TableLines.j0 k l0 a1 y231 (decide (a1 > 10)))) = some (r1, r2) := by rw [if_pos rfl] at H; exact H
   clear H
   have H := H1
   clear H1
   by_cases c8 : a1 < 0
   ·rw [if_pos c8] at H
    have c8b0 : decide (a1 < 0) = true := decide_eq_true c8
    clear c8
    (first | rw [c8b0] | (simp only [i64_w, i32_w]; rw [c8b0]) | skip)
    have H' := Aside0.mk H
    clear H
    go_wp2_with (first | (go_at_call 66; (with_reducible refine (spec_l13Cells.calls k _ _ l0 true _ ?side1 ?side2 A6.out).mono ?_); (case side1 => repeat (first | exact (Kd.C_below HR0.out HB.out) | (with_reducible refine Kd.C_alloc ?_ _) | (with_reducible refine Kd.C_drewN ?_ _) | (with_reducible refine Kd.C_drew ?_))); (case side2 => exact HC0.out); rintro e w' ⟨rfl, ⟨nd, rfl⟩⟩; (try first | exact ⟨rfl, _, World.drewN_drewN _ _ _⟩ | exact ⟨rfl, _, Eq.trans (World.drewN_drewN _ _ _) (congrArg (World.drewN _) (Nat.add_assoc _ _ _))⟩)))
    repeat (go_quiet (first | (go_at_call 66; (with_reducible refine (spec_l13Cells.calls k _ _ l0 true _ ?side1 ?side2 A6.out).mono ?_); (case side1 => repeat (first | exact (Kd.C_below HR0.out HB.out) | (with_reducible refine Kd.C_alloc ?_ _) | (with_reducible refine Kd.C_drewN ?_ _) | (with_reducible refine Kd.C_drew ?_))); (case side2 => exact HC0.out); rintro e w' ⟨rfl, ⟨nd, rfl⟩⟩; (try first | exact ⟨rfl, _, World.drewN_drewN _ _ _⟩ | exact ⟨rfl, _, Eq.trans (World.drewN_drewN _ _ _) (congrArg (World.drewN _) (Nat.add_assoc _ _ _))⟩))); try go_wp2_with (first | (go_at_call 66; (with_reducible refine (spec_l13Cells.calls k _ _ l0 true _ ?side1 ?side2 A6.out).mono ?_); (case side1 => repeat (first | exact (Kd.C_below HR0.out HB.out) | (with_reducible refine Kd.C_alloc ?_ _) | (with_reducible refine Kd.C_drewN ?_ _) | (with_reducible refine Kd.C_drew ?_))); (case side2 => exact HC0.out); rintro e w' ⟨rfl, ⟨nd, rfl⟩⟩; (try first | exact ⟨rfl, _, World.drewN_drewN _ _ _⟩ | exact ⟨rfl, _, Eq.trans (World.drewN_drewN _ _ _) (congrArg (World.drewN _) (Nat.add_assoc _ _ _))⟩))))
    go_meet
    case rel => exact ⟨_, (true), (by first|rfl|(simp;done)|(simp[*];done)), H', ⟨by first | omega | exact Nat.le_refl _⟩, ⟨by (with_reducible repeat (first|apply Kd.R_alloc|apply Kd.R_drewN|apply Kd.R_drew)); exact HO233.out⟩, ⟨by repeat (first|(with_reducible first|exact HB.out|apply below_alloc|apply pw_below_drewN|apply below_drew1)|exact HB.out)⟩⟩
   ·rw [if_neg c8] at H
    have c8b0 : decide (a1 < 0) = false := decide_eq_false c8
    clear c8
    (first | rw [c8b0] | (simp only [i64_w, i32_w]; rw [c8b0]) | skip)
    have H' := Aside0.mk H
    clear H
    go_wp2_with (first | (go_at_call 66; (with_reducible refine (spec_l13Cells.calls k _ _ l0 true _ ?side1 ?side2 A6.out).mono ?_); (case side1 => repeat (first | exact (Kd.C_below HR0.out HB.out) | (with_reducible refine Kd.C_alloc ?_ _) | (with_reducible refine Kd.C_drewN ?_ _) | (with_reducible refine Kd.C_drew ?_))); (case side2 => exact HC0.out); rintro e w' ⟨rfl, ⟨nd, rfl⟩⟩; (try first | exact ⟨rfl, _, World.drewN_drewN _ _ _⟩ | exact ⟨rfl, _, Eq.trans (World.drewN_drewN _ _ _) (congrArg (World.drewN _) (Nat.add_assoc _ _ _))⟩)))
    repeat (go_quiet (first | (go_at_call 66; (with_reducible refine (spec_l13Cells.calls k _ _ l0 true _ ?side1 ?side2 A6.out).mono ?_); (case side1 => repeat (first | exact (Kd.C_below HR0.out HB.out) | (with_reducible refine Kd.C_alloc ?_ _) | (with_reducible refine Kd.C_drewN ?_ _) | (with_reducible refine Kd.C_drew ?_))); (case side2 => exact HC0.out); rintro e w' ⟨rfl, ⟨nd, rfl⟩⟩; (try first | exact ⟨rfl, _, World.drewN_drewN _ _ _⟩ | exact ⟨rfl, _, Eq.trans (World.drewN_drewN _ _ _) (congrArg (World.drewN _) (Nat.add_assoc _ _ _))⟩))); try go_wp2_with (first | (go_at_call 66; (with_reducible refine (spec_l13Cells.calls k _ _ l0 true _ ?side1 ?side2 A6.out).mono ?_); (case side1 => repeat (first | exact (Kd.C_below HR0.out HB.out) | (with_reducible refine Kd.C_alloc ?_ _) | (with_reducible refine Kd.C_drewN ?_ _) | (with_reducible refine Kd.C_drew ?_))); (case side2 => exact HC0.out); rintro e w' ⟨rfl, ⟨nd, rfl⟩⟩; (try first | exact ⟨rfl, _, World.drewN_drewN _ _ _⟩ | exact ⟨rfl, _, Eq.trans (World.drewN_drewN _ _ _) (congrArg (World.drewN _) (Nat.add_assoc _ _ _))⟩))))
    go_meet
    case rel => exact ⟨_, (decide (a1 > 10)), (by first|rfl|(simp;done)|(simp[*];done)), H', ⟨by first | omega | exact Nat.le_refl _⟩, ⟨by (with_reducible repeat (first|apply Kd.R_alloc|apply Kd.R_drewN|apply Kd.R_drew)); exact HO233.out⟩, ⟨by repeat (first|(with_reducible first|exact HB.out|apply below_alloc|apply pw_below_drewN|apply below_drew1)|exact HB.out)⟩⟩
  ·replace c7 := Bool.eq_false_iff.mpr c7
   subst c7
   have H1 : (spec_TableLines.j0 k l0 a1 y231 true) = some (r1, r2) := by rw [if_neg (show ¬ (false = true) by decide)] at H; exact H
   clear H
   have H := H1
   clear H1
   have H' := Aside0.mk H
   clear H
   go_wp2_with (first | (go_at_call 66; (with_reducible refine (spec_l13Cells.calls k _ _ l0 false _ ?side1 ?side2 A6.out).mono ?_); (case side1 => repeat (first | exact (Kd.C_below HR0.out HB.out) | (with_reducible refine Kd.C_alloc ?_ _) | (with_reducible refine Kd.C_drewN ?_ _) | (with_reducible refine Kd.C_drew ?_))); (case side2 => exact HC0.out); rintro e w' ⟨rfl, ⟨nd, rfl⟩⟩; (try first | exact ⟨rfl, _, World.drewN_drewN _ _ _⟩ | exact ⟨rfl, _, Eq.trans (World.drewN_drewN _ _ _) (congrArg (World.drewN _) (Nat.add_assoc _ _ _))⟩)))
   repeat (go_quiet (first | (go_at_call 66; (with_reducible refine (spec_l13Cells.calls k _ _ l0 false _ ?side1 ?side2 A6.out).mono ?_); (case side1 => repeat (first | exact (Kd.C_below HR0.out HB.out) | (with_reducible refine Kd.C_alloc ?_ _) | (with_reducible refine Kd.C_drewN ?_ _) | (with_reducible refine Kd.C_drew ?_))); (case side2 => exact HC0.out); rintro e w' ⟨rfl, ⟨nd, rfl⟩⟩; (try first | exact ⟨rfl, _, World.drewN_drewN _ _ _⟩ | exact ⟨rfl, _, Eq.trans (World.drewN_drewN _ _ _) (congrArg (World.drewN _) (Nat.add_assoc _ _ _))⟩))); try go_wp2_with (first | (go_at_call 66; (with_reducible refine (spec_l13Cells.calls k _ _ l0 false _ ?side1 ?side2 A6.out).mono ?_); (case side1 => repeat (first | exact (Kd.C_below HR0.out HB.out) | (with_reducible refine Kd.C_alloc ?_ _) | (with_reducible refine Kd.C_drewN ?_ _) | (with_reducible refine Kd.C_drew ?_))); (case side2 => exact HC0.out); rintro e w' ⟨rfl, ⟨nd, rfl⟩⟩; (try first | exact ⟨rfl, _, World.drewN_drewN _ _ _⟩ | exact ⟨rfl, _, Eq.trans (World.drewN_drewN _ _ _) (congrArg (World.drewN _) (Nat.add_assoc _ _ _))⟩))))
   go_meet
   case rel => exact ⟨_, (true), (by first|rfl|(simp;done)|(simp[*];done)), H', ⟨by first | omega | exact Nat.le_refl _⟩, ⟨by (with_reducible repeat (first|apply Kd.R_alloc|apply Kd.R_drewN|apply Kd.R_drew)); exact HO233.out⟩, ⟨by repeat (first|(with_reducible first|exact HB.out|apply below_alloc|apply pw_below_drewN|apply below_drew1)|exact HB.out)⟩⟩
 case rest =>
  clear HC3
  try clear p2
  try clear c4
  try clear c7
  try clear c8
  try clear c8b0
  obtain ⟨kq, x22_2, rfl, HA, HJ2, HO_6, HB⟩ := hcut
  cases kq with
  | zero => exact absurd HA.out (by simp [spec_TableLines.j0])
  | succ kj2 =>
   have H := HA.out
   clear HA
   simp only [spec_TableLines.j0] at H
   by_cases c9 : x22_2 = true
   ·subst c9
    have H1 : (some (y231, false)) = some (r1, r2) := by rw [if_pos rfl] at H; exact H
    clear H
    have H := H1
    clear H1
    simp only [Option.some.injEq, Prod.mk.injEq] at H
    obtain ⟨rfl, rfl⟩ := H
    go_wp2
    repeat (go_quiet (fail); try go_wp2)
    go_ret2
    exact ⟨_, by first | rfl | (simp [errW_none, errW_some] <;> rfl) | (simp [*, errW_none, errW_some] <;> rfl), by (with_reducible repeat (first|apply Kd.R_alloc|apply Kd.R_drewN|apply Kd.R_drew)); exact HO_6.out, by repeat (first|(with_reducible first|exact HB.out|apply below_alloc|apply pw_below_drewN|apply below_drew1)|exact HB.out)⟩
   ·replace c9 := Bool.eq_false_iff.mpr c9
    subst c9
    have H1 : ((spec_l13Widths.f kj2 l0).bind fun t235 => (spec_TableLines.l0 kj2 l0 a1 y231 t235 0)) = some (r1, r2) := by rw [if_neg (show ¬ (false = true) by decide)] at H; exact H
    clear H
    have H := H1
    clear H1
    replace H := Option.bind_eq_some_iff.mp H
    obtain ⟨t235, A100, H⟩ := H
    replace H : (spec_TableLines.l0 kj2 l0 a1 y231 t235 0) = some (r1, r2) := H
    have A10 := Aside0.mk A100
    clear A100
    have H' := Aside0.mk H
    clear H
    go_wp2_with (first | (go_at_call 67; (with_reducible refine (spec_l13Widths.calls kj2 _ _ l0 t235 _ ?side1 ?side2 A10.out).mono ?_); (case side1 => repeat (first | exact (Kd.C_below HR0.out HB.out) | (with_reducible refine Kd.C_alloc ?_ _) | (with_reducible refine Kd.C_drewN ?_ _) | (with_reducible refine Kd.C_drew ?_))); (case side2 => exact HC0.out); rintro e w11 ⟨v236, rfl, ho0, hb⟩; have n0_ := Aside0.mk (Kd.R_below (by (with_reducible repeat (first|apply Kd.R_alloc|apply Kd.R_drewN|apply Kd.R_drew)); exact HO_6.out) hb); have n1_ := Aside0.mk (Kd.R_lower ho0 (below_size (by repeat (first|(with_reducible first|exact HB.out|apply below_alloc|apply pw_below_drewN|apply below_drew1)|exact HB.out)))); have n2_ := Aside0.mk (below_step (by repeat (first|(with_reducible first|exact HB.out|apply below_alloc|apply pw_below_drewN|apply below_drew1)|exact HB.out)) hb); clear HO_6; clear HB; have HO_6 := n0_; have HO237 := n1_; have HB := n2_; clear n0_ n1_ n2_; (try clear hb); (try clear hb2); (try clear hk); (try clear hi); (try clear ho0)))
    repeat (go_quiet (first | (go_at_call 67; (with_reducible refine (spec_l13Widths.calls kj2 _ _ l0 t235 _ ?side1 ?side2 A10.out).mono ?_); (case side1 => repeat (first | exact (Kd.C_below HR0.out HB.out) | (with_reducible refine Kd.C_alloc ?_ _) | (with_reducible refine Kd.C_drewN ?_ _) | (with_reducible refine Kd.C_drew ?_))); (case side2 => exact HC0.out); rintro e w11 ⟨v236, rfl, ho0, hb⟩; have n0_ := Aside0.mk (Kd.R_below (by (with_reducible repeat (first|apply Kd.R_alloc|apply Kd.R_drewN|apply Kd.R_drew)); exact HO_6.out) hb); have n1_ := Aside0.mk (Kd.R_lower ho0 (below_size (by repeat (first|(with_reducible first|exact HB.out|apply below_alloc|apply pw_below_drewN|apply below_drew1)|exact HB.out)))); have n2_ := Aside0.mk (below_step (by repeat (first|(with_reducible first|exact HB.out|apply below_alloc|apply pw_below_drewN|apply below_drew1)|exact HB.out)) hb); clear HO_6; clear HB; have HO_6 := n0_; have HO237 := n1_; have HB := n2_; clear n0_ n1_ n2_; (try clear hb); (try clear hb2); (try clear hk); (try clear hi); (try clear ho0))); try go_wp2_with (first | (go_at_call 67; (with_reducible refine (spec_l13Widths.calls kj2 _ _ l0 t235 _ ?side1 ?side2 A10.out).mono ?_); (case side1 => repeat (first | exact (Kd.C_below HR0.out HB.out) | (with_reducible refine Kd.C_alloc ?_ _) | (with_reducible refine Kd.C_drewN ?_ _) | (with_reducible refine Kd.C_drew ?_))); (case side2 => exact HC0.out); rintro e w11 ⟨v236, rfl, ho0, hb⟩; have n0_ := Aside0.mk (Kd.R_below (by (with_reducible repeat (first|apply Kd.R_alloc|apply Kd.R_drewN|apply Kd.R_drew)); exact HO_6.out) hb); have n1_ := Aside0.mk (Kd.R_lower ho0 (below_size (by repeat (first|(with_reducible first|exact HB.out|apply below_alloc|apply pw_below_drewN|apply below_drew1)|exact HB.out)))); have n2_ := Aside0.mk (below_step (by repeat (first|(with_reducible first|exact HB.out|apply below_alloc|apply pw_below_drewN|apply below_drew1)|exact HB.out)) hb); clear HO_6; clear HB; have HO_6 := n0_; have HO237 := n1_; have HB := n2_; clear n0_ n1_ n2_; (try clear hb); (try clear hb2); (try clear hk); (try clear hi); (try clear ho0))))
    go_loopg [6, 8] kj2 (fun kq v6 v8 w' => ∃ (x6_2 : List ByteArray) (x8_2 : Int), v8 = .int .i64 x8_2 ∧ Aside0 (spec_TableLines.l0 kq l0 a1 x6_2 t235 x8_2 = some (r1, r2)) ∧ Aside0 (kq ≤ kj2) ∧ Aside0 (Kd.R Kd.string 9 w' w.heap.size (fun _ => True) v6 x6_2) ∧ Aside0 (Kd.R (Kd.int .i64) 3 w' w.heap.size (fun _ => True) v236 t235) ∧ Aside0 (Below w.heap.size w w'))
    case atStart => exact ⟨(y231), (0), (by first|rfl|(simp;done)|(simp[*];done)), H', ⟨Nat.le_refl _⟩, ⟨by (with_reducible repeat (first|apply Kd.R_alloc|apply Kd.R_drewN|apply Kd.R_drew)); exact HO_6.out⟩, ⟨by (with_reducible repeat (first|apply Kd.R_alloc|apply Kd.R_drewN|apply Kd.R_drew)); exact HO237.out⟩, ⟨by repeat (first|(with_reducible first|exact HB.out|apply below_alloc|apply pw_below_drewN|apply below_drew1)|exact HB.out)⟩⟩
    case round =>
     clear H'
     try clear p2
     try clear c4
     try clear c7
     try clear c8
     try clear c8b0
     try clear c9
     try clear p2
     obtain ⟨x6_2, x8_2, rfl, HA, HK2, HO_6, HO_7, HB⟩ := hrel
     cases gk with
     | zero => exact absurd HA.out (by simp [spec_TableLines.l0])
     | succ k2 =>
      have H := HA.out
      clear HA
      simp only [spec_TableLines.l0] at H
      by_cases c12 : x8_2 < (l0.length : Int)
      ·rw [if_pos c12] at H
       have c12b0 : decide (x8_2 < (l0.length : Int)) = true := decide_eq_true c12
       clear c12
       have H' := Aside0.mk H
       clear H
       go_wp2
       repeat (go_quiet (fail); try go_wp2)
       go_loopg [9, 10] k2 (fun kq v9 v10 w' => ∃ (x9_3 : ByteArray) (x10_3 : Int), v9 = .string x9_3 ∧ v10 = .int .i64 x10_3 ∧ Aside0 (spec_TableLines.l1 kq l0 a1 x6_2 t235 x8_2 x9_3 x10_3 = some (r1, r2)) ∧ Aside0 (kq ≤ k2) ∧ Aside0 (Kd.R Kd.string 9 w' w.heap.size (fun _ => True) u6 x6_2) ∧ Aside0 (Kd.R (Kd.int .i64) 3 w' w.heap.size (fun _ => True) v236 t235) ∧ Aside0 (Below w.heap.size w w'))
       case atStart => exact ⟨((⟨#[]⟩ : ByteArray)), (0), (by first|rfl|(simp;done)|(simp[*];done)), (by first|rfl|(simp;done)|(simp[*];done)), H', ⟨Nat.le_refl _⟩, ⟨by (with_reducible repeat (first|apply Kd.R_alloc|apply Kd.R_drewN|apply Kd.R_drew)); exact HO_6.out⟩, ⟨by (with_reducible repeat (first|apply Kd.R_alloc|apply Kd.R_drewN|apply Kd.R_drew)); exact HO_7.out⟩, ⟨by repeat (first|(with_reducible first|exact HB.out|apply below_alloc|apply pw_below_drewN|apply below_drew1)|exact HB.out)⟩⟩
       case round =>
        clear H'
        try clear c1
        try clear p2
        try clear c4
        try clear c7
        try clear c8
        try clear c8b0
        try clear c9
        try clear c12
        try clear c12b0
        try clear p2
        obtain ⟨x9_3, x10_3, rfl, rfl, HA, HK3, HO_6, HO_7, HB⟩ := hrel
        cases gk with
        | zero => exact absurd HA.out (by simp [spec_TableLines.l1])
        | succ k3 =>
         have H := HA.out
         clear HA
         simp only [spec_TableLines.l1] at H
         by_cases c13 : 0 ≤ x8_2
         ·rw [if_pos c13] at H
          have c13b0 : decide (0 ≤ x8_2) = true := decide_eq_true c13
          clear c13
          by_cases c14 : x8_2 < (l0.length : Int)
          ·rw [if_pos c14] at H
           have c14b0 : decide (x8_2 < (l0.length : Int)) = true := decide_eq_true c14
           clear c14
           by_cases c15 : x10_3 < ((rd_L3 l0 x8_2).length : Int)
           ·rw [if_pos c15] at H
            have c15b0 : decide (x10_3 < ((rd_L3 l0 x8_2).length : Int)) = true := decide_eq_true c15
            clear c15
            by_cases c16 : x10_3 > 0
            ·rw [if_pos c16] at H
             have c16b0 : decide (0 < x10_3) = true := decide_eq_true c16
             clear c16
             replace H := Option.bind_eq_some_iff.mp H
             obtain ⟨t242, A170, H⟩ := H
             replace H : (if x9_3.size + t242.size ≤ 9223372036854775807 then (if 0 ≤ x10_3 then (if (x9_3 ++ t242).size + (rdOf ByteArray.empty (rd_L3 l0 x8_2) x10_3).size ≤ 9223372036854775807 then (if x10_3 < (t235.length : Int) then ((spec_l2Spaces.f k3 (wrap64 ((rd t235 x10_3) - ((rdOf ByteArray.empty (rd_L3 l0 x8_2) x10_3).size : Int)))).bind fun t248 => (if ((x9_3 ++ t242) ++ (rdOf ByteArray.empty (rd_L3 l0 x8_2) x10_3)).size + t248.size ≤ 9223372036854775807 then (spec_TableLines.l1 k3 l0 a1 x6_2 t235 x8_2 (((x9_3 ++ t242) ++ (rdOf ByteArray.empty (rd_L3 l0 x8_2) x10_3)) ++ t248) (wrap64 (x10_3 + 1))) else (none))) else (none)) else (none)) else (none)) else (none)) = some (r1, r2) := H
             have A17 := Aside0.mk A170
             clear A170
             by_cases c18 : x9_3.size + t242.size ≤ 9223372036854775807
             ·rw [if_pos c18] at H
              have c18b0 := eq_true c18
              have c18b1 : decide (x9_3.size + t242.size ≤ 9223372036854775807) = true := decide_eq_true c18
              try have c18b2 : (9223372036854775807 < x9_3.size + t242.size) = False := eq_false (Nat.not_lt.2 c18)
              by_cases c19 : 0 ≤ x10_3
              ·rw [if_pos c19] at H
               have c19b0 : decide (0 ≤ x10_3) = true := decide_eq_true c19
               clear c19
               by_cases c20 : (x9_3 ++ t242).size + (rdOf ByteArray.empty (rd_L3 l0 x8_2) x10_3).size ≤ 9223372036854775807
               ·rw [if_pos c20] at H
                have c20b0 := eq_true c20
                have c20b1 : decide ((x9_3 ++ t242).size + (rdOf ByteArray.empty (rd_L3 l0 x8_2) x10_3).size ≤ 9223372036854775807) = true := decide_eq_true c20
                try have c20b2 : (9223372036854775807 < (x9_3 ++ t242).size + (rdOf ByteArray.empty (rd_L3 l0 x8_2) x10_3).size) = False := eq_false (Nat.not_lt.2 c20)
                try have c20b3 : (9223372036854775807 < x9_3.size + t242.size + (rdOf ByteArray.empty (rd_L3 l0 x8_2) x10_3).size) = False := eq_false (Nat.not_lt.2 (by have q_ := c20; simp only [ByteArray.size_append] at q_; exact q_))
                by_cases c21 : x10_3 < (t235.length : Int)
                ·rw [if_pos c21] at H
                 have c21b0 : decide (x10_3 < (t235.length : Int)) = true := decide_eq_true c21
                 clear c21
                 replace H := Option.bind_eq_some_iff.mp H
                 obtain ⟨t248, A220, H⟩ := H
                 replace H : (if ((x9_3 ++ t242) ++ (rdOf ByteArray.empty (rd_L3 l0 x8_2) x10_3)).size + t248.size ≤ 9223372036854775807 then (spec_TableLines.l1 k3 l0 a1 x6_2 t235 x8_2 (((x9_3 ++ t242) ++ (rdOf ByteArray.empty (rd_L3 l0 x8_2) x10_3)) ++ t248) (wrap64 (x10_3 + 1))) else (none)) = some (r1, r2) := H
                 have A22 := Aside0.mk A220
                 clear A220
                 by_cases c23 : ((x9_3 ++ t242) ++ (rdOf ByteArray.empty (rd_L3 l0 x8_2) x10_3)).size + t248.size ≤ 9223372036854775807
                 ·rw [if_pos c23] at H
                  have c23b0 := eq_true c23
                  have c23b1 : decide (((x9_3 ++ t242) ++ (rdOf ByteArray.empty (rd_L3 l0 x8_2) x10_3)).size + t248.size ≤ 9223372036854775807) = true := decide_eq_true c23
                  try have c23b2 : (9223372036854775807 < ((x9_3 ++ t242) ++ (rdOf ByteArray.empty (rd_L3 l0 x8_2) x10_3)).size + t248.size) = False := eq_false (Nat.not_lt.2 c23)
                  try have c23b3 : (9223372036854775807 < x9_3.size + t242.size + (rdOf ByteArray.empty (rd_L3 l0 x8_2) x10_3).size + t248.size) = False := eq_false (Nat.not_lt.2 (by have q_ := c23; simp only [ByteArray.size_append] at q_; exact q_))
                  have H' := Aside0.mk H
                  clear H
                  have p238 : 0 ≤ (x8_2 : Int) := of_decide_eq_true (by first|(with_reducible assumption)|assumption)
                  have q238 : x8_2 < (l0.length : Int) := of_decide_eq_true (by first|(with_reducible assumption)|assumption)
                  obtain ⟨ad238, A238_0, c238_0, e238, hx238_0, hl238_0, hi238_0⟩ := at_L3 HR0.out x8_2 p238 q238
                  cases e238
                  replace hx238_0 := (HB.out.cell (World.block_lt_of_cell? w _ hx238_0)).trans hx238_0
                  have HR238_0 := Aside0.mk hi238_0
                  have HC238_0 := Aside0.mk hl238_0
                  clear hi238_0 hl238_0
                  replace p238 := eq_true p238
                  replace q238 := eq_true q238
                  go_wp2_with (first | (go_at_call 58; (with_reducible refine (spec_l2Spaces.calls k3 a1 t242 _ A17.out).mono ?_); rintro e w' ⟨rfl, ⟨nd, rfl⟩⟩; (try first | exact ⟨rfl, _, World.drewN_drewN _ _ _⟩ | exact ⟨rfl, _, Eq.trans (World.drewN_drewN _ _ _) (congrArg (World.drewN _) (Nat.add_assoc _ _ _))⟩); have p243 : 0 ≤ (x8_2 : Int) := of_decide_eq_true (by first|(with_reducible assumption)|assumption); have q243 : x8_2 < (l0.length : Int) := of_decide_eq_true (by first|(with_reducible assumption)|assumption); obtain ⟨ad243, A243_0, c243_0, e243, hx243_0, hl243_0, hi243_0⟩ := at_L3 HR0.out x8_2 p243 q243; obtain rfl : ad238 = ad243 := (by injection e243); replace hx243_0 := (HB.out.cell (World.block_lt_of_cell? w _ hx243_0)).trans hx243_0; have HR243_0 := Aside0.mk hi243_0; have HC243_0 := Aside0.mk hl243_0; clear hi243_0 hl243_0; replace p243 := eq_true p243; replace q243 := eq_true q243; have ea_ := Option.some.inj (hx238_0.symm.trans hx243_0); injection ea_ with ea_ en_ ec_; subst ea_; subst ec_; clear en_; have p244 : 0 ≤ (x10_3 : Int) := of_decide_eq_true (by first|(with_reducible assumption)|assumption); have q244 : x10_3 < ((rd_L3 l0 x8_2).length : Int) := of_decide_eq_true (by first|(with_reducible assumption)|assumption); obtain ⟨ad244, e244, hx244_0⟩ := Kd.at_string HR243_0.out x10_3 p244 q244; cases e244; replace hx244_0 := (HB.out.cell (World.block_lt_of_cell? w _ hx244_0)).trans hx244_0; replace p244 := eq_true p244; replace q244 := eq_true q244; obtain ⟨Ao24, co24, eo24⟩ := Kd.R_slice HO_7.out; subst eo24; have p245 : 0 ≤ (x10_3 : Int) := of_decide_eq_true (by first|(with_reducible assumption)|assumption); have q245 : x10_3 < (t235.length : Int) := of_decide_eq_true (by first|(with_reducible assumption)|assumption); obtain ⟨ad245, e245, hx245_0⟩ := Kd.at_int (Kd.R_reads' HO_7.out).2.2 x10_3 p245 q245; cases e245; replace p245 := eq_true p245; replace q245 := eq_true q245; have p246 : 0 ≤ (x8_2 : Int) := of_decide_eq_true (by first|(with_reducible assumption)|assumption); have q246 : x8_2 < (l0.length : Int) := of_decide_eq_true (by first|(with_reducible assumption)|assumption); obtain ⟨ad246, A246_0, c246_0, e246, hx246_0, hl246_0, hi246_0⟩ := at_L3 HR0.out x8_2 p246 q246; obtain rfl : ad238 = ad246 := (by injection e246); replace hx246_0 := (HB.out.cell (World.block_lt_of_cell? w _ hx246_0)).trans hx246_0; have HR246_0 := Aside0.mk hi246_0; have HC246_0 := Aside0.mk hl246_0; clear hi246_0 hl246_0; replace p246 := eq_true p246; replace q246 := eq_true q246; have ea_ := Option.some.inj (hx238_0.symm.trans hx246_0); injection ea_ with ea_ en_ ec_; subst ea_; subst ec_; clear en_; have p247 : 0 ≤ (x10_3 : Int) := of_decide_eq_true (by first|(with_reducible assumption)|assumption); have q247 : x10_3 < ((rd_L3 l0 x8_2).length : Int) := of_decide_eq_true (by first|(with_reducible assumption)|assumption); obtain ⟨ad247, e247, hx247_0⟩ := Kd.at_string HR246_0.out x10_3 p247 q247; cases e247; replace hx247_0 := (HB.out.cell (World.block_lt_of_cell? w _ hx247_0)).trans hx247_0; replace p247 := eq_true p247; replace q247 := eq_true q247) | (go_at_call 58; (with_reducible refine (spec_l2Spaces.calls k3 (wrap64 ((rd t235 x10_3) - ((rdOf ByteArray.empty (rd_L3 l0 x8_2) x10_3).size : Int))) t248 _ A22.out).mono ?_); rintro e w' ⟨rfl, ⟨nd, rfl⟩⟩; (try first | exact ⟨rfl, _, World.drewN_drewN _ _ _⟩ | exact ⟨rfl, _, Eq.trans (World.drewN_drewN _ _ _) (congrArg (World.drewN _) (Nat.add_assoc _ _ _))⟩)))
                  repeat (go_quiet (first | (go_at_call 58; (with_reducible refine (spec_l2Spaces.calls k3 a1 t242 _ A17.out).mono ?_); rintro e w' ⟨rfl, ⟨nd, rfl⟩⟩; (try first | exact ⟨rfl, _, World.drewN_drewN _ _ _⟩ | exact ⟨rfl, _, Eq.trans (World.drewN_drewN _ _ _) (congrArg (World.drewN _) (Nat.add_assoc _ _ _))⟩); have p243 : 0 ≤ (x8_2 : Int) := of_decide_eq_true (by first|(with_reducible assumption)|assumption); have q243 : x8_2 < (l0.length : Int) := of_decide_eq_true (by first|(with_reducible assumption)|assumption); obtain ⟨ad243, A243_0, c243_0, e243, hx243_0, hl243_0, hi243_0⟩ := at_L3 HR0.out x8_2 p243 q243; obtain rfl : ad238 = ad243 := (by injection e243); replace hx243_0 := (HB.out.cell (World.block_lt_of_cell? w _ hx243_0)).trans hx243_0; have HR243_0 := Aside0.mk hi243_0; have HC243_0 := Aside0.mk hl243_0; clear hi243_0 hl243_0; replace p243 := eq_true p243; replace q243 := eq_true q243; have ea_ := Option.some.inj (hx238_0.symm.trans hx243_0); injection ea_ with ea_ en_ ec_; subst ea_; subst ec_; clear en_; have p244 : 0 ≤ (x10_3 : Int) := of_decide_eq_true (by first|(with_reducible assumption)|assumption); have q244 : x10_3 < ((rd_L3 l0 x8_2).length : Int) := of_decide_eq_true (by first|(with_reducible assumption)|assumption); obtain ⟨ad244, e244, hx244_0⟩ := Kd.at_string HR243_0.out x10_3 p244 q244; cases e244; replace hx244_0 := (HB.out.cell (World.block_lt_of_cell? w _ hx244_0)).trans hx244_0; replace p244 := eq_true p244; replace q244 := eq_true q244; obtain ⟨Ao24, co24, eo24⟩ := Kd.R_slice HO_7.out; subst eo24; have p245 : 0 ≤ (x10_3 : Int) := of_decide_eq_true (by first|(with_reducible assumption)|assumption); have q245 : x10_3 < (t235.length : Int) := of_decide_eq_true (by first|(with_reducible assumption)|assumption); obtain ⟨ad245, e245, hx245_0⟩ := Kd.at_int (Kd.R_reads' HO_7.out).2.2 x10_3 p245 q245; cases e245; replace p245 := eq_true p245; replace q245 := eq_true q245; have p246 : 0 ≤ (x8_2 : Int) := of_decide_eq_true (by first|(with_reducible assumption)|assumption); have q246 : x8_2 < (l0.length : Int) := of_decide_eq_true (by first|(with_reducible assumption)|assumption); obtain ⟨ad246, A246_0, c246_0, e246, hx246_0, hl246_0, hi246_0⟩ := at_L3 HR0.out x8_2 p246 q246; obtain rfl : ad238 = ad246 := (by injection e246); replace hx246_0 := (HB.out.cell (World.block_lt_of_cell? w _ hx246_0)).trans hx246_0; have HR246_0 := Aside0.mk hi246_0; have HC246_0 := Aside0.mk hl246_0; clear hi246_0 hl246_0; replace p246 := eq_true p246; replace q246 := eq_true q246; have ea_ := Option.some.inj (hx238_0.symm.trans hx246_0); injection ea_ with ea_ en_ ec_; subst ea_; subst ec_; clear en_; have p247 : 0 ≤ (x10_3 : Int) := of_decide_eq_true (by first|(with_reducible assumption)|assumption); have q247 : x10_3 < ((rd_L3 l0 x8_2).length : Int) := of_decide_eq_true (by first|(with_reducible assumption)|assumption); obtain ⟨ad247, e247, hx247_0⟩ := Kd.at_string HR246_0.out x10_3 p247 q247; cases e247; replace hx247_0 := (HB.out.cell (World.block_lt_of_cell? w _ hx247_0)).trans hx247_0; replace p247 := eq_true p247; replace q247 := eq_true q247) | (go_at_call 58; (with_reducible refine (spec_l2Spaces.calls k3 (wrap64 ((rd t235 x10_3) - ((rdOf ByteArray.empty (rd_L3 l0 x8_2) x10_3).size : Int))) t248 _ A22.out).mono ?_); rintro e w' ⟨rfl, ⟨nd, rfl⟩⟩; (try first | exact ⟨rfl, _, World.drewN_drewN _ _ _⟩ | exact ⟨rfl, _, Eq.trans (World.drewN_drewN _ _ _) (congrArg (World.drewN _) (Nat.add_assoc _ _ _))⟩))); try go_wp2_with (first | (go_at_call 58; (with_reducible refine (spec_l2Spaces.calls k3 a1 t242 _ A17.out).mono ?_); rintro e w' ⟨rfl, ⟨nd, rfl⟩⟩; (try first | exact ⟨rfl, _, World.drewN_drewN _ _ _⟩ | exact ⟨rfl, _, Eq.trans (World.drewN_drewN _ _ _) (congrArg (World.drewN _) (Nat.add_assoc _ _ _))⟩); have p243 : 0 ≤ (x8_2 : Int) := of_decide_eq_true (by first|(with_reducible assumption)|assumption); have q243 : x8_2 < (l0.length : Int) := of_decide_eq_true (by first|(with_reducible assumption)|assumption); obtain ⟨ad243, A243_0, c243_0, e243, hx243_0, hl243_0, hi243_0⟩ := at_L3 HR0.out x8_2 p243 q243; obtain rfl : ad238 = ad243 := (by injection e243); replace hx243_0 := (HB.out.cell (World.block_lt_of_cell? w _ hx243_0)).trans hx243_0; have HR243_0 := Aside0.mk hi243_0; have HC243_0 := Aside0.mk hl243_0; clear hi243_0 hl243_0; replace p243 := eq_true p243; replace q243 := eq_true q243; have ea_ := Option.some.inj (hx238_0.symm.trans hx243_0); injection ea_ with ea_ en_ ec_; subst ea_; subst ec_; clear en_; have p244 : 0 ≤ (x10_3 : Int) := of_decide_eq_true (by first|(with_reducible assumption)|assumption); have q244 : x10_3 < ((rd_L3 l0 x8_2).length : Int) := of_decide_eq_true (by first|(with_reducible assumption)|assumption); obtain ⟨ad244, e244, hx244_0⟩ := Kd.at_string HR243_0.out x10_3 p244 q244; cases e244; replace hx244_0 := (HB.out.cell (World.block_lt_of_cell? w _ hx244_0)).trans hx244_0; replace p244 := eq_true p244; replace q244 := eq_true q244; obtain ⟨Ao24, co24, eo24⟩ := Kd.R_slice HO_7.out; subst eo24; have p245 : 0 ≤ (x10_3 : Int) := of_decide_eq_true (by first|(with_reducible assumption)|assumption); have q245 : x10_3 < (t235.length : Int) := of_decide_eq_true (by first|(with_reducible assumption)|assumption); obtain ⟨ad245, e245, hx245_0⟩ := Kd.at_int (Kd.R_reads' HO_7.out).2.2 x10_3 p245 q245; cases e245; replace p245 := eq_true p245; replace q245 := eq_true q245; have p246 : 0 ≤ (x8_2 : Int) := of_decide_eq_true (by first|(with_reducible assumption)|assumption); have q246 : x8_2 < (l0.length : Int) := of_decide_eq_true (by first|(with_reducible assumption)|assumption); obtain ⟨ad246, A246_0, c246_0, e246, hx246_0, hl246_0, hi246_0⟩ := at_L3 HR0.out x8_2 p246 q246; obtain rfl : ad238 = ad246 := (by injection e246); replace hx246_0 := (HB.out.cell (World.block_lt_of_cell? w _ hx246_0)).trans hx246_0; have HR246_0 := Aside0.mk hi246_0; have HC246_0 := Aside0.mk hl246_0; clear hi246_0 hl246_0; replace p246 := eq_true p246; replace q246 := eq_true q246; have ea_ := Option.some.inj (hx238_0.symm.trans hx246_0); injection ea_ with ea_ en_ ec_; subst ea_; subst ec_; clear en_; have p247 : 0 ≤ (x10_3 : Int) := of_decide_eq_true (by first|(with_reducible assumption)|assumption); have q247 : x10_3 < ((rd_L3 l0 x8_2).length : Int) := of_decide_eq_true (by first|(with_reducible assumption)|assumption); obtain ⟨ad247, e247, hx247_0⟩ := Kd.at_string HR246_0.out x10_3 p247 q247; cases e247; replace hx247_0 := (HB.out.cell (World.block_lt_of_cell? w _ hx247_0)).trans hx247_0; replace p247 := eq_true p247; replace q247 := eq_true q247) | (go_at_call 58; (with_reducible refine (spec_l2Spaces.calls k3 (wrap64 ((rd t235 x10_3) - ((rdOf ByteArray.empty (rd_L3 l0 x8_2) x10_3).size : Int))) t248 _ A22.out).mono ?_); rintro e w' ⟨rfl, ⟨nd, rfl⟩⟩; (try first | exact ⟨rfl, _, World.drewN_drewN _ _ _⟩ | exact ⟨rfl, _, Eq.trans (World.drewN_drewN _ _ _) (congrArg (World.drewN _) (Nat.add_assoc _ _ _))⟩))))
                  go_roundg k3
                  case measure => have := HJ2.out; have := HK2.out; have := HK3.out; omega
                  case rel => exact ⟨(((x9_3 ++ t242) ++ (rdOf ByteArray.empty (rd_L3 l0 x8_2) x10_3)) ++ t248), (wrap64 (x10_3 + 1)), (by first|rfl|(simp;done)|(simp[*];done)), (by first|rfl|(simp;done)|(simp[*];done)), H', ⟨by have := HJ2.out; have := HK2.out; have := HK3.out; omega⟩, ⟨by (with_reducible repeat (first|apply Kd.R_alloc|apply Kd.R_drewN|apply Kd.R_drew)); exact HO_6.out⟩, ⟨by (with_reducible repeat (first|apply Kd.R_alloc|apply Kd.R_drewN|apply Kd.R_drew)); exact HO_7.out⟩, ⟨by repeat (first|(with_reducible first|exact HB.out|apply below_alloc|apply pw_below_drewN|apply below_drew1)|exact HB.out)⟩⟩
                 ·rw [if_neg c23] at H
                  exact absurd H (by simp)
                ·rw [if_neg c21] at H
                 exact absurd H (by simp)
               ·rw [if_neg c20] at H
                exact absurd H (by simp)
              ·rw [if_neg c19] at H
               exact absurd H (by simp)
             ·rw [if_neg c18] at H
              exact absurd H (by simp)
            ·rw [if_neg c16] at H
             have c16b0 : decide (0 < x10_3) = false := decide_eq_false c16
             clear c16
             by_cases c25 : 0 ≤ x10_3
             ·rw [if_pos c25] at H
              have c25b0 : decide (0 ≤ x10_3) = true := decide_eq_true c25
              clear c25
              by_cases c26 : x9_3.size + (rdOf ByteArray.empty (rd_L3 l0 x8_2) x10_3).size ≤ 9223372036854775807
              ·rw [if_pos c26] at H
               have c26b0 := eq_true c26
               have c26b1 : decide (x9_3.size + (rdOf ByteArray.empty (rd_L3 l0 x8_2) x10_3).size ≤ 9223372036854775807) = true := decide_eq_true c26
               try have c26b2 : (9223372036854775807 < x9_3.size + (rdOf ByteArray.empty (rd_L3 l0 x8_2) x10_3).size) = False := eq_false (Nat.not_lt.2 c26)
               by_cases c27 : x10_3 < (t235.length : Int)
               ·rw [if_pos c27] at H
                have c27b0 : decide (x10_3 < (t235.length : Int)) = true := decide_eq_true c27
                clear c27
                replace H := Option.bind_eq_some_iff.mp H
                obtain ⟨t254, A280, H⟩ := H
                replace H : (if (x9_3 ++ (rdOf ByteArray.empty (rd_L3 l0 x8_2) x10_3)).size + t254.size ≤ 9223372036854775807 then (spec_TableLines.l1 k3 l0 a1 x6_2 t235 x8_2 ((x9_3 ++ (rdOf ByteArray.empty (rd_L3 l0 x8_2) x10_3)) ++ t254) (wrap64 (x10_3 + 1))) else (none)) = some (r1, r2) := H
                have A28 := Aside0.mk A280
                clear A280
                by_cases c29 : (x9_3 ++ (rdOf ByteArray.empty (rd_L3 l0 x8_2) x10_3)).size + t254.size ≤ 9223372036854775807
                ·rw [if_pos c29] at H
                 have c29b0 := eq_true c29
                 have c29b1 : decide ((x9_3 ++ (rdOf ByteArray.empty (rd_L3 l0 x8_2) x10_3)).size + t254.size ≤ 9223372036854775807) = true := decide_eq_true c29
                 try have c29b2 : (9223372036854775807 < (x9_3 ++ (rdOf ByteArray.empty (rd_L3 l0 x8_2) x10_3)).size + t254.size) = False := eq_false (Nat.not_lt.2 c29)
                 try have c29b3 : (9223372036854775807 < x9_3.size + (rdOf ByteArray.empty (rd_L3 l0 x8_2) x10_3).size + t254.size) = False := eq_false (Nat.not_lt.2 (by have q_ := c29; simp only [ByteArray.size_append] at q_; exact q_))
                 have H' := Aside0.mk H
                 clear H
                 have p238 : 0 ≤ (x8_2 : Int) := of_decide_eq_true (by first|(with_reducible assumption)|assumption)
                 have q238 : x8_2 < (l0.length : Int) := of_decide_eq_true (by first|(with_reducible assumption)|assumption)
                 obtain ⟨ad238, A238_0, c238_0, e238, hx238_0, hl238_0, hi238_0⟩ := at_L3 HR0.out x8_2 p238 q238
                 cases e238
                 replace hx238_0 := (HB.out.cell (World.block_lt_of_cell? w _ hx238_0)).trans hx238_0
                 have HR238_0 := Aside0.mk hi238_0
                 have HC238_0 := Aside0.mk hl238_0
                 clear hi238_0 hl238_0
                 replace p238 := eq_true p238
                 replace q238 := eq_true q238
                 have p249 : 0 ≤ (x8_2 : Int) := of_decide_eq_true (by first|(with_reducible assumption)|assumption)
                 have q249 : x8_2 < (l0.length : Int) := of_decide_eq_true (by first|(with_reducible assumption)|assumption)
                 obtain ⟨ad249, A249_0, c249_0, e249, hx249_0, hl249_0, hi249_0⟩ := at_L3 HR0.out x8_2 p249 q249
                 obtain rfl : ad238 = ad249 := (by injection e249)
                 replace hx249_0 := (HB.out.cell (World.block_lt_of_cell? w _ hx249_0)).trans hx249_0
                 have HR249_0 := Aside0.mk hi249_0
                 have HC249_0 := Aside0.mk hl249_0
                 clear hi249_0 hl249_0
                 replace p249 := eq_true p249
                 replace q249 := eq_true q249
                 have ea_ := Option.some.inj (hx238_0.symm.trans hx249_0)
                 injection ea_ with ea_ en_ ec_
                 subst ea_
                 subst ec_
                 clear en_
                 have p250 : 0 ≤ (x10_3 : Int) := of_decide_eq_true (by first|(with_reducible assumption)|assumption)
                 have q250 : x10_3 < ((rd_L3 l0 x8_2).length : Int) := of_decide_eq_true (by first|(with_reducible assumption)|assumption)
                 obtain ⟨ad250, e250, hx250_0⟩ := Kd.at_string HR249_0.out x10_3 p250 q250
                 cases e250
                 replace hx250_0 := (HB.out.cell (World.block_lt_of_cell? w _ hx250_0)).trans hx250_0
                 replace p250 := eq_true p250
                 replace q250 := eq_true q250
                 obtain ⟨Ao30, co30, eo30⟩ := Kd.R_slice HO_7.out
                 subst eo30
                 have p251 : 0 ≤ (x10_3 : Int) := of_decide_eq_true (by first|(with_reducible assumption)|assumption)
                 have q251 : x10_3 < (t235.length : Int) := of_decide_eq_true (by first|(with_reducible assumption)|assumption)
                 obtain ⟨ad251, e251, hx251_0⟩ := Kd.at_int (Kd.R_reads' HO_7.out).2.2 x10_3 p251 q251
                 cases e251
                 replace p251 := eq_true p251
                 replace q251 := eq_true q251
                 have p252 : 0 ≤ (x8_2 : Int) := of_decide_eq_true (by first|(with_reducible assumption)|assumption)
                 have q252 : x8_2 < (l0.length : Int) := of_decide_eq_true (by first|(with_reducible assumption)|assumption)
                 obtain ⟨ad252, A252_0, c252_0, e252, hx252_0, hl252_0, hi252_0⟩ := at_L3 HR0.out x8_2 p252 q252
                 obtain rfl : ad238 = ad252 := (by injection e252)
                 replace hx252_0 := (HB.out.cell (World.block_lt_of_cell? w _ hx252_0)).trans hx252_0
                 have HR252_0 := Aside0.mk hi252_0
                 have HC252_0 := Aside0.mk hl252_0
                 clear hi252_0 hl252_0
                 replace p252 := eq_true p252
                 replace q252 := eq_true q252
                 have ea_ := Option.some.inj (hx238_0.symm.trans hx252_0)
                 injection ea_ with ea_ en_ ec_
                 subst ea_
                 subst ec_
                 clear en_
                 have p253 : 0 ≤ (x10_3 : Int) := of_decide_eq_true (by first|(with_reducible assumption)|assumption)
                 have q253 : x10_3 < ((rd_L3 l0 x8_2).length : Int) := of_decide_eq_true (by first|(with_reducible assumption)|assumption)
                 obtain ⟨ad253, e253, hx253_0⟩ := Kd.at_string HR252_0.out x10_3 p253 q253
                 cases e253
                 replace hx253_0 := (HB.out.cell (World.block_lt_of_cell? w _ hx253_0)).trans hx253_0
                 replace p253 := eq_true p253
                 replace q253 := eq_true q253
                 go_wp2_with (first | (go_at_call 58; (with_reducible refine (spec_l2Spaces.calls k3 (wrap64 ((rd t235 x10_3) - ((rdOf ByteArray.empty (rd_L3 l0 x8_2) x10_3).size : Int))) t254 _ A28.out).mono ?_); rintro e w' ⟨rfl, ⟨nd, rfl⟩⟩; (try first | exact ⟨rfl, _, World.drewN_drewN _ _ _⟩ | exact ⟨rfl, _, Eq.trans (World.drewN_drewN _ _ _) (congrArg (World.drewN _) (Nat.add_assoc _ _ _))⟩)))
                 repeat (go_quiet (first | (go_at_call 58; (with_reducible refine (spec_l2Spaces.calls k3 (wrap64 ((rd t235 x10_3) - ((rdOf ByteArray.empty (rd_L3 l0 x8_2) x10_3).size : Int))) t254 _ A28.out).mono ?_); rintro e w' ⟨rfl, ⟨nd, rfl⟩⟩; (try first | exact ⟨rfl, _, World.drewN_drewN _ _ _⟩ | exact ⟨rfl, _, Eq.trans (World.drewN_drewN _ _ _) (congrArg (World.drewN _) (Nat.add_assoc _ _ _))⟩))); try go_wp2_with (first | (go_at_call 58; (with_reducible refine (spec_l2Spaces.calls k3 (wrap64 ((rd t235 x10_3) - ((rdOf ByteArray.empty (rd_L3 l0 x8_2) x10_3).size : Int))) t254 _ A28.out).mono ?_); rintro e w' ⟨rfl, ⟨nd, rfl⟩⟩; (try first | exact ⟨rfl, _, World.drewN_drewN _ _ _⟩ | exact ⟨rfl, _, Eq.trans (World.drewN_drewN _ _ _) (congrArg (World.drewN _) (Nat.add_assoc _ _ _))⟩))))
                 go_roundg k3
                 case measure => have := HJ2.out; have := HK2.out; have := HK3.out; omega
                 case rel => exact ⟨((x9_3 ++ (rdOf ByteArray.empty (rd_L3 l0 x8_2) x10_3)) ++ t254), (wrap64 (x10_3 + 1)), (by first|rfl|(simp;done)|(simp[*];done)), (by first|rfl|(simp;done)|(simp[*];done)), H', ⟨by have := HJ2.out; have := HK2.out; have := HK3.out; omega⟩, ⟨by (with_reducible repeat (first|apply Kd.R_alloc|apply Kd.R_drewN|apply Kd.R_drew)); exact HO_6.out⟩, ⟨by (with_reducible repeat (first|apply Kd.R_alloc|apply Kd.R_drewN|apply Kd.R_drew)); exact HO_7.out⟩, ⟨by repeat (first|(with_reducible first|exact HB.out|apply below_alloc|apply pw_below_drewN|apply below_drew1)|exact HB.out)⟩⟩
                ·rw [if_neg c29] at H
                 exact absurd H (by simp)
               ·rw [if_neg c27] at H
                exact absurd H (by simp)
              ·rw [if_neg c26] at H
               exact absurd H (by simp)
             ·rw [if_neg c25] at H
              exact absurd H (by simp)
           ·rw [if_neg c15] at H
            have c15b0 : decide (x10_3 < ((rd_L3 l0 x8_2).length : Int)) = false := decide_eq_false c15
            clear c15
            by_cases c31 : x6_2.length < 8796093022208
            ·rw [if_pos c31] at H
             have LMc31 := Aside0.mk c31
             clear c31
             obtain ⟨y239, hy239⟩ : ∃ y_ : List ByteArray, y_ = (x6_2 ++ [x9_3]) := ⟨_, rfl⟩
             replace H : (spec_TableLines.l0 k3 l0 a1 y239 t235 (wrap64 (x8_2 + 1))) = some (r1, r2) := by first | (rw [hy239]; with_reducible exact H) | (have H2_ := (Option.bind_some _ _).symm.trans H; rw [hy239]; with_reducible exact H2_) | (have H2_ := (Option.bind_some _ _).symm.trans H; with_reducible exact H2_) | with_reducible exact H | (rw [hy239]; exact H) | exact H
             have Ny239 := Aside0.mk hy239
             clear hy239
             have H' := Aside0.mk H
             clear H
             have p238 : 0 ≤ (x8_2 : Int) := of_decide_eq_true (by first|(with_reducible assumption)|assumption)
             have q238 : x8_2 < (l0.length : Int) := of_decide_eq_true (by first|(with_reducible assumption)|assumption)
             obtain ⟨ad238, A238_0, c238_0, e238, hx238_0, hl238_0, hi238_0⟩ := at_L3 HR0.out x8_2 p238 q238
             cases e238
             replace hx238_0 := (HB.out.cell (World.block_lt_of_cell? w _ hx238_0)).trans hx238_0
             have HR238_0 := Aside0.mk hi238_0
             have HC238_0 := Aside0.mk hl238_0
             clear hi238_0 hl238_0
             replace p238 := eq_true p238
             replace q238 := eq_true q238
             go_wp2_with (first | ((with_reducible refine gate_builtin (b := .append) (xs := #[.tmp 71, .tmp 73]) rfl ?_); at_builtin; refine Kd.R_append Kd.string (w0 := w) w.heap.size rfl (.tmp 71) (.tmp 73) 39 9 (.string ⟨#[]⟩) 16 rfl Try.underlying39 info9 rfl (by decide) (by omega) u6 x6_2 x9_3 [.string x9_3] (fun _ => True) (fun _ => False) rfl rfl ?aP (fun _ hk => hk.elim) ?aF ?aO ?aB ?aS ?aL ?_; (case aP => exact rfl); (case aB => exact (by repeat (first|(with_reducible first|exact HB.out|apply below_alloc|apply pw_below_drewN|apply below_drew1)|exact HB.out))); (case aF => exact (fun _ _ => trivial)); (case aO => exact (by (with_reducible repeat (first|apply Kd.R_alloc|apply Kd.R_drewN|apply Kd.R_drew)); exact HO_6.out)); (case aS => exact (below_size (by repeat (first|(with_reducible first|exact HB.out|apply below_alloc|apply pw_below_drewN|apply below_drew1)|exact HB.out)))); (case aL => have := LMc31.out; omega); intro v240 w32 ho hb hg hat; rw [← Ny239.out] at ho; have n0_ := Aside0.mk (Kd.R_over' (by (with_reducible repeat (first|apply Kd.R_alloc|apply Kd.R_drewN|apply Kd.R_drew)); exact HO_7.out) (Kd.R_typed (by (with_reducible repeat (first|apply Kd.R_alloc|apply Kd.R_drewN|apply Kd.R_drew)); exact HO_6.out)) (by decide) hg); have n1_ := Aside0.mk (hb); have n2_ := Aside0.mk (ho); clear HO_7; clear HB; clear HO_6; have HO_7 := n0_; have HB := n1_; have HO241 := n2_; clear n0_ n1_ n2_; clear ho hb hg hat))
             repeat (go_quiet (first | ((with_reducible refine gate_builtin (b := .append) (xs := #[.tmp 71, .tmp 73]) rfl ?_); at_builtin; refine Kd.R_append Kd.string (w0 := w) w.heap.size rfl (.tmp 71) (.tmp 73) 39 9 (.string ⟨#[]⟩) 16 rfl Try.underlying39 info9 rfl (by decide) (by omega) u6 x6_2 x9_3 [.string x9_3] (fun _ => True) (fun _ => False) rfl rfl ?aP (fun _ hk => hk.elim) ?aF ?aO ?aB ?aS ?aL ?_; (case aP => exact rfl); (case aB => exact (by repeat (first|(with_reducible first|exact HB.out|apply below_alloc|apply pw_below_drewN|apply below_drew1)|exact HB.out))); (case aF => exact (fun _ _ => trivial)); (case aO => exact (by (with_reducible repeat (first|apply Kd.R_alloc|apply Kd.R_drewN|apply Kd.R_drew)); exact HO_6.out)); (case aS => exact (below_size (by repeat (first|(with_reducible first|exact HB.out|apply below_alloc|apply pw_below_drewN|apply below_drew1)|exact HB.out)))); (case aL => have := LMc31.out; omega); intro v240 w32 ho hb hg hat; rw [← Ny239.out] at ho; have n0_ := Aside0.mk (Kd.R_over' (by (with_reducible repeat (first|apply Kd.R_alloc|apply Kd.R_drewN|apply Kd.R_drew)); exact HO_7.out) (Kd.R_typed (by (with_reducible repeat (first|apply Kd.R_alloc|apply Kd.R_drewN|apply Kd.R_drew)); exact HO_6.out)) (by decide) hg); have n1_ := Aside0.mk (hb); have n2_ := Aside0.mk (ho); clear HO_7; clear HB; clear HO_6; have HO_7 := n0_; have HB := n1_; have HO241 := n2_; clear n0_ n1_ n2_; clear ho hb hg hat)); try go_wp2_with (first | ((with_reducible refine gate_builtin (b := .append) (xs := #[.tmp 71, .tmp 73]) rfl ?_); at_builtin; refine Kd.R_append Kd.string (w0 := w) w.heap.size rfl (.tmp 71) (.tmp 73) 39 9 (.string ⟨#[]⟩) 16 rfl Try.underlying39 info9 rfl (by decide) (by omega) u6 x6_2 x9_3 [.string x9_3] (fun _ => True) (fun _ => False) rfl rfl ?aP (fun _ hk => hk.elim) ?aF ?aO ?aB ?aS ?aL ?_; (case aP => exact rfl); (case aB => exact (by repeat (first|(with_reducible first|exact HB.out|apply below_alloc|apply pw_below_drewN|apply below_drew1)|exact HB.out))); (case aF => exact (fun _ _ => trivial)); (case aO => exact (by (with_reducible repeat (first|apply Kd.R_alloc|apply Kd.R_drewN|apply Kd.R_drew)); exact HO_6.out)); (case aS => exact (below_size (by repeat (first|(with_reducible first|exact HB.out|apply below_alloc|apply pw_below_drewN|apply below_drew1)|exact HB.out)))); (case aL => have := LMc31.out; omega); intro v240 w32 ho hb hg hat; rw [← Ny239.out] at ho; have n0_ := Aside0.mk (Kd.R_over' (by (with_reducible repeat (first|apply Kd.R_alloc|apply Kd.R_drewN|apply Kd.R_drew)); exact HO_7.out) (Kd.R_typed (by (with_reducible repeat (first|apply Kd.R_alloc|apply Kd.R_drewN|apply Kd.R_drew)); exact HO_6.out)) (by decide) hg); have n1_ := Aside0.mk (hb); have n2_ := Aside0.mk (ho); clear HO_7; clear HB; clear HO_6; have HO_7 := n0_; have HB := n1_; have HO241 := n2_; clear n0_ n1_ n2_; clear ho hb hg hat)))
             go_roundg k3
             case measure => have := HJ2.out; have := HK2.out; have := HK3.out; omega
             case rel => exact ⟨(y239), (wrap64 (x8_2 + 1)), (by first|rfl|(simp;done)|(simp[*];done)), H', ⟨by have := HJ2.out; have := HK2.out; have := HK3.out; omega⟩, ⟨by (with_reducible repeat (first|apply Kd.R_alloc|apply Kd.R_drewN|apply Kd.R_drew)); exact HO241.out⟩, ⟨by (with_reducible repeat (first|apply Kd.R_alloc|apply Kd.R_drewN|apply Kd.R_drew)); exact HO_7.out⟩, ⟨by repeat (first|(with_reducible first|exact HB.out|apply below_alloc|apply pw_below_drewN|apply below_drew1)|exact HB.out)⟩⟩
            ·rw [if_neg c31] at H
             exact absurd H (by simp)
          ·rw [if_neg c14] at H
           exact absurd H (by simp)
         ·rw [if_neg c13] at H
          exact absurd H (by simp)
      ·rw [if_neg c12] at H
       have c12b0 : decide (x8_2 < (l0.length : Int)) = false := decide_eq_false c12
       clear c12
       simp only [Option.some.injEq, Prod.mk.injEq] at H
       obtain ⟨rfl, rfl⟩ := H
       go_wp2
       repeat (go_quiet (fail); try go_wp2)
       go_ret2
       exact ⟨_, by first | rfl | (simp [errW_none, errW_some] <;> rfl) | (simp [*, errW_none, errW_some] <;> rfl), by (with_reducible repeat (first|apply Kd.R_alloc|apply Kd.R_drewN|apply Kd.R_drew)); exact HO_6.out, by repeat (first|(with_reducible first|exact HB.out|apply below_alloc|apply pw_below_drewN|apply below_drew1)|exact HB.out)⟩

end Go.Proofs.Ythcfocpimoghbaa.PTa
