-- Written by a program of this session (xprint).
import Derived.Test.YtcbjlaphoajngaaPCex0
import Derived.Test.YtcbjlaphoajngaaPCex4
import Derived.Test.YtcbjlaphoajngaaPCex6
namespace Go.Proofs.Ytcbjlaphoajngaa.PCe
open Go.RowKit Go.Proofs.YtcbjlaphoajngaaW.PrintWords Go.Proofs.YtcbjlaphoajngaaW.PrintLast Go.Proofs.YtcbjlaphoajngaaW.PrintMore
attribute [local go_sem] max2_int min2_int max_two min_two max_three min_three max_four min_four   -- for this text's walks alone
set_option linter.unusedVariables false
set_option linter.unusedSimpArgs false

/-! ### impl_ColumnWidths: function 37 -/
mutual
def impl_ColumnWidths.l0 : Nat → List Int → List (List ByteArray) → Int → Int → Option (List Int × Bool)
  | 0, _, _, _, _ => none
  | k + 1, x4, x17, x18, x19 => if x19 < x18 then (if 0 ≤ x19 then (if x19 < (x17.length : Int) then (impl_ColumnWidths.l1 k x4 x17 x18 x19 (rd_L3 x17 x19) ((rd_L3 x17 x19).length : Int) 0) else (none)) else (none)) else (some (x4, true))
def impl_ColumnWidths.l1 : Nat → List Int → List (List ByteArray) → Int → Int → List ByteArray → Int → Int → Option (List Int × Bool)
  | 0, _, _, _, _, _, _, _ => none
  | k + 1, x4, x17, x18, x19, x23, x24, x25 => if x25 < x24 then (if 0 ≤ x25 then (if x25 < (x23.length : Int) then (if x25 < (x4.length : Int) then (impl_ColumnWidths.l1 k (x4.set (x25 : Int).toNat (mx (rd x4 x25) ((rdOf ByteArray.empty x23 x25).size : Int))) x17 x18 x19 x23 x24 (wrap64 (x25 + 1))) else (none)) else (none)) else (none)) else (impl_ColumnWidths.l0 k x4 x17 x18 (wrap64 (x19 + 1)))
end
def impl_ColumnWidths.f (k : Nat) (l0 : List (List ByteArray)) : Option (List Int × Bool) := (impl_tableOk.f k l0).bind fun t242 => (if t242 = true then (if 0 < (l0.length : Int) then (if 0 ≤ ((rd_L3 l0 0).length : Int) then (if (((rd_L3 l0 0).length : Int) : Int).toNat ≤ 35184372088832 then (impl_ColumnWidths.l0 k (List.replicate (((rd_L3 l0 0).length : Int) : Int).toNat 0) l0 (l0.length : Int) 0) else (none)) else (none)) else (none)) else (some (([] : List Int), false)))
theorem impl_ColumnWidths.mono_l : ∀ k, (∀ y0 y1 y2 y3, LeO (impl_ColumnWidths.l0 k y0 y1 y2 y3) (impl_ColumnWidths.l0 (k + 1) y0 y1 y2 y3)) ∧ (∀ y0 y1 y2 y3 y4 y5 y6, LeO (impl_ColumnWidths.l1 k y0 y1 y2 y3 y4 y5 y6) (impl_ColumnWidths.l1 (k + 1) y0 y1 y2 y3 y4 y5 y6))
  | 0 => ⟨fun _ _ _ _ r h => by simp [impl_ColumnWidths.l0] at h, fun _ _ _ _ _ _ _ r h => by simp [impl_ColumnWidths.l1] at h⟩
  | k + 1 => by
    obtain ⟨ih0, ih1⟩ := impl_ColumnWidths.mono_l k
    refine ⟨?_, ?_⟩
    · intro y0 y1 y2 y3
      unfold impl_ColumnWidths.l0
      repeat' first
      | (with_reducible exact ih0 _ _ _ _)
      | (with_reducible exact ih1 _ _ _ _ _ _ _)
      | (with_reducible exact impl_tableOk.mono _ _)
      | (with_reducible exact LeO.refl _)
      | (with_reducible exact LeO.none _)
      | (with_reducible refine LeO.ite ?_ ?_)
      | (with_reducible refine LeO.bind ?_ (fun _ => ?_))
      | exact ih0 _ _ _ _
      | exact ih1 _ _ _ _ _ _ _
      | exact impl_tableOk.mono _ _
      | exact LeO.none _
      | refine LeO.ite ?_ ?_
      | refine LeO.bind ?_ (fun _ => ?_)
    · intro y0 y1 y2 y3 y4 y5 y6
      unfold impl_ColumnWidths.l1
      repeat' first
      | (with_reducible exact ih0 _ _ _ _)
      | (with_reducible exact ih1 _ _ _ _ _ _ _)
      | (with_reducible exact impl_tableOk.mono _ _)
      | (with_reducible exact LeO.refl _)
      | (with_reducible exact LeO.none _)
      | (with_reducible refine LeO.ite ?_ ?_)
      | (with_reducible refine LeO.bind ?_ (fun _ => ?_))
      | exact ih0 _ _ _ _
      | exact ih1 _ _ _ _ _ _ _
      | exact impl_tableOk.mono _ _
      | exact LeO.none _
      | refine LeO.ite ?_ ?_
      | refine LeO.bind ?_ (fun _ => ?_)
theorem impl_ColumnWidths.mono : ∀ a0 k, LeO (impl_ColumnWidths.f k a0) (impl_ColumnWidths.f (k + 1) a0) := by
  intro a0 k
  obtain ⟨ih0, ih1⟩ := impl_ColumnWidths.mono_l k
  unfold impl_ColumnWidths.f
  repeat' first
      | (with_reducible exact ih0 _ _ _ _)
      | (with_reducible exact ih1 _ _ _ _ _ _ _)
      | (with_reducible exact impl_tableOk.mono _ _)
      | (with_reducible exact LeO.refl _)
      | (with_reducible exact LeO.none _)
      | (with_reducible refine LeO.ite ?_ ?_)
      | (with_reducible refine LeO.bind ?_ (fun _ => ?_))
      | exact ih0 _ _ _ _
      | exact ih1 _ _ _ _ _ _ _
      | exact impl_tableOk.mono _ _
      | exact LeO.none _
      | refine LeO.ite ?_ ?_
      | refine LeO.bind ?_ (fun _ => ?_)
set_option maxHeartbeats 8000000 in
set_option maxRecDepth 100000 in
theorem impl_ColumnWidths.calls (k : Nat) (A0 : Option Addr) (c0 : Nat) (l0 : List (List ByteArray)) (r1 : List Int) (r2 : Bool) (w : World) (hr0 : Kd.C (Kd.slice 9 Kd.string) w A0 l0.length l0) (hc0 : l0.length ≤ c0) (h : impl_ColumnWidths.f k l0 = some (r1, r2)) :
    Calls Try.prog 37 #[.slice A0 l0.length c0] w fun e w' => ∃ v0_ : Value, e = .returned (.tuple #[v0_, .bool r2]) ∧ Kd.R (Kd.int .i64) 3 w' w.heap.size (fun _ => True) v0_ r1 ∧ Below w.heap.size w w' := by
  have HR0 := Aside0.mk hr0
  have HC0 := Aside0.mk hc0
  clear hr0 hc0
  have HB := Aside0.mk (Below.refl w.heap.size w)
  have H : ((impl_tableOk.f k l0).bind fun t242 => (if t242 = true then (if 0 < (l0.length : Int) then (if 0 ≤ ((rd_L3 l0 0).length : Int) then (if (((rd_L3 l0 0).length : Int) : Int).toNat ≤ 35184372088832 then (impl_ColumnWidths.l0 k (List.replicate (((rd_L3 l0 0).length : Int) : Int).toNat 0) l0 (l0.length : Int) 0) else (none)) else (none)) else (none)) else (some (([] : List Int), false)))) = some (r1, r2) := h
  clear h
  replace H := Option.bind_eq_some_iff.mp H
  obtain ⟨t242, A20, H⟩ := H
  replace H : (if t242 = true then (if 0 < (l0.length : Int) then (if 0 ≤ ((rd_L3 l0 0).length : Int) then (if (((rd_L3 l0 0).length : Int) : Int).toNat ≤ 35184372088832 then (impl_ColumnWidths.l0 k (List.replicate (((rd_L3 l0 0).length : Int) : Int).toNat 0) l0 (l0.length : Int) 0) else (none)) else (none)) else (none)) else (some (([] : List Int), false))) = some (r1, r2) := H
  have A2 := Aside0.mk A20
  clear A20
  by_cases c3 : t242 = true
  · subst c3
    have H1 : (if 0 < (l0.length : Int) then (if 0 ≤ ((rd_L3 l0 0).length : Int) then (if (((rd_L3 l0 0).length : Int) : Int).toNat ≤ 35184372088832 then (impl_ColumnWidths.l0 k (List.replicate (((rd_L3 l0 0).length : Int) : Int).toNat 0) l0 (l0.length : Int) 0) else (none)) else (none)) else (none)) = some (r1, r2) := by rw [if_pos rfl] at H; exact H
    clear H
    have H := H1
    clear H1
    by_cases c4 : 0 < (l0.length : Int)
    · rw [if_pos c4] at H
      have c4b0 : decide (0 < (l0.length : Int)) = true := decide_eq_true c4
      have c4b1 : decide (0 < l0.length) = true := decide_eq_true (by omega)
      clear c4
      by_cases c5 : 0 ≤ ((rd_L3 l0 0).length : Int)
      · rw [if_pos c5] at H
        have c5b0 := eq_true c5
        have c5b1 : decide (0 ≤ ((rd_L3 l0 0).length : Int)) = true := decide_eq_true c5
        clear c5
        by_cases c6 : (((rd_L3 l0 0).length : Int) : Int).toNat ≤ 35184372088832
        · rw [if_pos c6] at H
          have c6b0 := eq_true c6
          have c6b1 : decide ((((rd_L3 l0 0).length : Int) : Int).toNat ≤ 35184372088832) = true := decide_eq_true c6
          clear c6
          obtain ⟨y244, hy244⟩ : ∃ y_ : List Int, y_ = (List.replicate (((rd_L3 l0 0).length : Int) : Int).toNat 0) := ⟨_, rfl⟩
          replace H : (impl_ColumnWidths.l0 k y244 l0 (l0.length : Int) 0) = some (r1, r2) := by first | (rw [hy244]; with_reducible exact H) | (have H2_ := (Option.bind_some _ _).symm.trans H; rw [hy244]; with_reducible exact H2_) | (have H2_ := (Option.bind_some _ _).symm.trans H; with_reducible exact H2_) | with_reducible exact H | (rw [hy244]; exact H) | exact H
          have Ny244 := Aside0.mk hy244
          clear hy244
          have H' := Aside0.mk H
          clear H
          go_enter Try.func37, Try.ntmps37
          go_wp2_with (first | ((with_reducible refine gate_callee (f := 54) rfl ?_); refine goesL_ (some 10) rfl rfl Try.func54 (by kernel_rfl) rfl #[.slice A0 l0.length c0] rfl (by (try simp only [List.map_toArray, List.map_cons, List.map_nil]); first | done | rfl | (simp only [List.length_drop, List.length_take]; rfl)) ?_; (with_reducible refine (impl_tableOk.calls k _ _ l0 true _ ?side1 ?side2 A2.out).mono ?_); (case side1 => repeat (first | exact HR0.out | (with_reducible refine Kd.C_alloc ?_ _) | (with_reducible refine Kd.C_drewN ?_ _) | (with_reducible refine Kd.C_drew ?_))); (case side2 => exact HC0.out); rintro e w' ⟨rfl, ⟨nd, rfl⟩⟩; refine ⟨_, rfl, ?_⟩; have p243 : 0 ≤ (0 : Int) := (by omega); have q243 : 0 < (l0.length : Int) := of_decide_eq_true (by first | (with_reducible assumption) | assumption); obtain ⟨ad243, A243_0, c243_0, e243, hx243_0, hl243_0, hi243_0⟩ := at_L3 HR0.out 0 p243 q243; cases e243; have qi243 : (0 < l0.length) = True := eq_true (by omega); (try rw [show ((0 : Int)).toNat = 0 from rfl] at hx243_0); (try rw [Addr.add_zero'] at hx243_0); have HR243_0 := Aside0.mk hi243_0; have HC243_0 := Aside0.mk hl243_0; clear hi243_0 hl243_0; replace p243 := eq_true p243; replace q243 := eq_true q243) | ((with_reducible refine gate_dst (N := 16) rfl ?_); refine Kd.R_make (Kd.int .i64) _ 3 rfl (N := 16) rfl 27 _ _ rfl ((rd_L3 l0 0).length : Int) rfl rfl Try.underlying27 (.int .i64 0) 8 info3 rfl (by decide) (by omega) 0 (ok := fun _ => True) (okp := fun _ => True) rfl (fun _ hk => hk) trivial (of_decide_eq_true (by first | (with_reducible assumption) | assumption)) (Nat.le_trans (Nat.mul_le_mul_right _ (of_decide_eq_true (by first | (with_reducible assumption) | assumption) : ((rd_L3 l0 0).length : Int).toNat ≤ 35184372088832)) (by omega)) (Below.refl _ _) (Nat.le_refl _) ?_; intro v245 w7 ho8 hb hg_ hnew_; clear hg_ hnew_; (first | rw [← Ny244.out] at ho8 | (simp only [Int.reduceToNat] at ho8; rw [← Ny244.out] at ho8)); have n0_ := Aside0.mk (Kd.R_lower ho8 (below_size (by repeat (first | (with_reducible first | exact HB.out | apply below_alloc | apply pw_below_drewN | apply below_drew1) | exact HB.out)))); have n1_ := Aside0.mk (below_step (by repeat (first | (with_reducible first | exact HB.out | apply below_alloc | apply pw_below_drewN | apply below_drew1) | exact HB.out)) hb); clear HB; have HO246 := n0_; have HB := n1_; clear n0_ n1_; clear hb ho8))
          go_loopg [19] k (fun kq v19 w' => ∃ (x4_1 : List Int) (x19_1 : Int), v19 = .int .i64 x19_1 ∧ Aside0 (impl_ColumnWidths.l0 kq x4_1 l0 (l0.length : Int) x19_1 = some (r1, r2)) ∧ Aside0 (kq ≤ k) ∧ Aside0 (Kd.R (Kd.int .i64) 3 w' w.heap.size (fun _ => True) v245 x4_1) ∧ Aside0 (Below w.heap.size w w'))
          case atStart => exact ⟨(y244), (0), (by first | rfl | (simp; done) | (simp [*]; done)), H', ⟨Nat.le_refl _⟩, ⟨by (with_reducible repeat (first | apply Kd.R_alloc | apply Kd.R_drewN | apply Kd.R_drew)); exact HO246.out⟩, ⟨by repeat (first | (with_reducible first | exact HB.out | apply below_alloc | apply pw_below_drewN | apply below_drew1) | exact HB.out)⟩⟩
          case round =>
            clear H'
            try clear c2
            try clear p2
            try clear q2
            try clear hx2
            try clear qi2
            try clear c3
            try clear c4
            try clear c4b0
            try clear c4b1
            try clear c5
            try clear c5b0
            try clear c5b1
            try clear c6
            try clear c6b0
            try clear c6b1
            try clear hx243_0
            try clear p243
            try clear q243
            obtain ⟨x4_1, x19_1, rfl, HA, HK1, HO_4, HB⟩ := hrel
            cases gk with
            | zero => exact absurd HA.out (by simp [impl_ColumnWidths.l0])
            | succ k1 =>
              have H := HA.out
              clear HA
              simp only [impl_ColumnWidths.l0] at H
              by_cases c9 : x19_1 < (l0.length : Int)
              · rw [if_pos c9] at H
                have c9b0 : decide (x19_1 < (l0.length : Int)) = true := decide_eq_true c9
                clear c9
                by_cases c10 : 0 ≤ x19_1
                · rw [if_pos c10] at H
                  have c10b0 : decide (0 ≤ x19_1) = true := decide_eq_true c10
                  clear c10
                  by_cases c11 : x19_1 < (l0.length : Int)
                  · rw [if_pos c11] at H
                    have c11b0 : decide (x19_1 < (l0.length : Int)) = true := decide_eq_true c11
                    clear c11
                    have H' := Aside0.mk H
                    clear H
                    have p247 : 0 ≤ (x19_1 : Int) := of_decide_eq_true (by first | (with_reducible assumption) | assumption)
                    have q247 : x19_1 < (l0.length : Int) := of_decide_eq_true (by first | (with_reducible assumption) | assumption)
                    obtain ⟨ad247, A247_0, c247_0, e247, hx247_0, hl247_0, hi247_0⟩ := at_L3 HR0.out x19_1 p247 q247
                    obtain rfl : ad243 = ad247 := (by injection e247)
                    replace hx247_0 := (HB.out.cell (World.block_lt_of_cell? w _ hx247_0)).trans hx247_0
                    have HR247_0 := Aside0.mk hi247_0
                    have HC247_0 := Aside0.mk hl247_0
                    clear hi247_0 hl247_0
                    replace p247 := eq_true p247
                    replace q247 := eq_true q247
                    go_wp2
                    go_loopg [25] k1 (fun kq v25 w' => ∃ (x4_2 : List Int) (x25_2 : Int), v25 = .int .i64 x25_2 ∧ Aside0 (impl_ColumnWidths.l1 kq x4_2 l0 (l0.length : Int) x19_1 (rd_L3 l0 x19_1) ((rd_L3 l0 x19_1).length : Int) x25_2 = some (r1, r2)) ∧ Aside0 (kq ≤ k1) ∧ Aside0 (Kd.R (Kd.int .i64) 3 w' w.heap.size (fun _ => True) v245 x4_2) ∧ Aside0 (Below w.heap.size w w'))
                    case atStart => exact ⟨(x4_1), (0), (by first | rfl | (simp; done) | (simp [*]; done)), H', ⟨Nat.le_refl _⟩, ⟨by (with_reducible repeat (first | apply Kd.R_alloc | apply Kd.R_drewN | apply Kd.R_drew)); exact HO_4.out⟩, ⟨by repeat (first | (with_reducible first | exact HB.out | apply below_alloc | apply pw_below_drewN | apply below_drew1) | exact HB.out)⟩⟩
                    case round =>
                      clear H'
                      try clear c1
                      try clear c2
                      try clear p2
                      try clear q2
                      try clear hx2
                      try clear qi2
                      try clear c3
                      try clear c4
                      try clear c4b0
                      try clear c4b1
                      try clear c5
                      try clear c5b0
                      try clear c5b1
                      try clear c6
                      try clear c6b0
                      try clear c6b1
                      try clear c9
                      try clear c9b0
                      try clear c10
                      try clear c10b0
                      try clear c11
                      try clear c11b0
                      try clear hx243_0
                      try clear hx247_0
                      try clear p2
                      try clear p243
                      try clear p247
                      try clear q2
                      try clear q243
                      try clear q247
                      obtain ⟨x4_2, x25_2, rfl, HA, HK2, HO_4, HB⟩ := hrel
                      cases gk with
                      | zero => exact absurd HA.out (by simp [impl_ColumnWidths.l1])
                      | succ k2 =>
                        have H := HA.out
                        clear HA
                        simp only [impl_ColumnWidths.l1] at H
                        by_cases c12 : x25_2 < ((rd_L3 l0 x19_1).length : Int)
                        · rw [if_pos c12] at H
                          have c12b0 : decide (x25_2 < ((rd_L3 l0 x19_1).length : Int)) = true := decide_eq_true c12
                          clear c12
                          by_cases c13 : 0 ≤ x25_2
                          · rw [if_pos c13] at H
                            have c13b0 : decide (0 ≤ x25_2) = true := decide_eq_true c13
                            clear c13
                            by_cases c14 : x25_2 < ((rd_L3 l0 x19_1).length : Int)
                            · rw [if_pos c14] at H
                              have c14b0 : decide (x25_2 < ((rd_L3 l0 x19_1).length : Int)) = true := decide_eq_true c14
                              clear c14
                              by_cases c15 : x25_2 < (x4_2.length : Int)
                              · rw [if_pos c15] at H
                                have c15b0 : decide (x25_2 < (x4_2.length : Int)) = true := decide_eq_true c15
                                clear c15
                                obtain ⟨ji16, hji16⟩ : ∃ j_ : Int, (mx (rd x4_2 x25_2) ((rdOf ByteArray.empty (rd_L3 l0 x19_1) x25_2).size : Int)) = j_ := ⟨_, rfl⟩
                                replace H : (impl_ColumnWidths.l1 k2 (x4_2.set (x25_2 : Int).toNat (ji16)) l0 (l0.length : Int) x19_1 (rd_L3 l0 x19_1) ((rd_L3 l0 x19_1).length : Int) (wrap64 (x25_2 + 1))) = some (r1, r2) := by first | (rw [hji16] at H; exact H) | (simp only [hji16] at H ⊢; exact H)
                                have hji16_ : (if (rd x4_2 x25_2) < ((rdOf ByteArray.empty (rd_L3 l0 x19_1) x25_2).size : Int) then ((rdOf ByteArray.empty (rd_L3 l0 x19_1) x25_2).size : Int) else (rd x4_2 x25_2)) = ji16 := hji16
                                obtain ⟨y250, hy250⟩ : ∃ y_ : List Int, y_ = (x4_2.set (x25_2 : Int).toNat (ji16)) := ⟨_, rfl⟩
                                replace H : (impl_ColumnWidths.l1 k2 y250 l0 (l0.length : Int) x19_1 (rd_L3 l0 x19_1) ((rd_L3 l0 x19_1).length : Int) (wrap64 (x25_2 + 1))) = some (r1, r2) := by first | (rw [hy250]; with_reducible exact H) | (have H2_ := (Option.bind_some _ _).symm.trans H; rw [hy250]; with_reducible exact H2_) | (have H2_ := (Option.bind_some _ _).symm.trans H; with_reducible exact H2_) | with_reducible exact H | (rw [hy250]; exact H) | exact H
                                have Ny250 := Aside0.mk hy250
                                clear hy250
                                have H' := Aside0.mk H
                                clear H
                                have p248 : 0 ≤ (x25_2 : Int) := of_decide_eq_true (by first | (with_reducible assumption) | assumption)
                                have q248 : x25_2 < ((rd_L3 l0 x19_1).length : Int) := of_decide_eq_true (by first | (with_reducible assumption) | assumption)
                                obtain ⟨ad248, e248, hx248_0⟩ := Kd.at_string HR247_0.out x25_2 p248 q248
                                cases e248
                                replace hx248_0 := (HB.out.cell (World.block_lt_of_cell? w _ hx248_0)).trans hx248_0
                                replace p248 := eq_true p248
                                replace q248 := eq_true q248
                                obtain ⟨Ao18, co18, eo18⟩ := Kd.R_slice HO_4.out
                                subst eo18
                                have p249 : 0 ≤ (x25_2 : Int) := of_decide_eq_true (by first | (with_reducible assumption) | assumption)
                                have q249 : x25_2 < (x4_2.length : Int) := of_decide_eq_true (by first | (with_reducible assumption) | assumption)
                                obtain ⟨ad249, e249, hx249_0⟩ := Kd.at_int (Kd.R_reads' HO_4.out).2.2 x25_2 p249 q249
                                cases e249
                                replace p249 := eq_true p249
                                replace q249 := eq_true q249
                                have p17 : 0 ≤ (x25_2 : Int) := of_decide_eq_true (by first | (with_reducible assumption) | assumption)
                                have q17 : (x25_2 : Int) < ((x4_2.length : Int) : Int) := of_decide_eq_true (by first | (with_reducible assumption) | assumption)
                                obtain ⟨go17, co17, eo17, gb17, gl17, cl17, HG17⟩ := Kd.R_form HO_4.out (by omega)
                                (first | cases eo17 | (injection eo17 with ea_ en_ ec_; (first | subst ea_ | (injection ea_ with ea_; subst ea_)); subst ec_; clear en_))
                                have GB17 := Aside0.mk gb17
                                have GG17 := Aside0.mk HG17
                                clear gb17 gl17 HG17
                                (first | simp only [add_plain] at hx249_0 | skip)
                                obtain ⟨hx17_0, hf17_0⟩ := Kd.R_celln 0 HO_4.out (x25_2 : Int) p17 q17
                                replace p17 := eq_true p17
                                replace q17 := eq_true q17
                                have HP19 := Kd.R_putg HO_4.out (x25_2 : Int) ji16
                                go_wp2_with (first | ((with_reducible refine gate_store (t := 3) (p := 39) rfl ?_); refine store_event (t := 3) (p := 39) (v := ?vo_w20) (w1 := (wr.setCell ⟨go17, (x25_2 : Int).toNat, none⟩ (.int .i64 ji16))) ?hg ?ho ?hn ?hr ?_; (case ho => rfl); (case hg => rfl); (case hn => rfl); (case hr => first | (go_simp; done) | (go_simp; rfl)); intro w20 hw; have hg : wr.grownBy w20 (some go17) := (by rw [hw]; exact HP19.2); have hp_ : Kd.R (Kd.int .i64) 3 w20 w.heap.size (fun _ => True) (.slice (some ⟨go17, 0, none⟩) x4_2.length co18) y250 := (by rw [hw, Ny250.out]; exact HP19.1); clear HP19; have n0_ := Aside0.mk (hp_); have n1_ := Aside0.mk ((by rw [hw]; exact below_set (HB.out) GB17.out : Below w.heap.size w w20)); clear HO_4; clear HB; have HO_4 := n0_; have HB := n1_; clear n0_ n1_; clear hg hw hp_))
                                go_roundg k2
                                case measure => have := HK1.out; have := HK2.out; omega
                                case rel => exact ⟨(y250), (wrap64 (x25_2 + 1)), (by first | rfl | (simp; done) | (simp [*]; done)), H', ⟨by have := HK1.out; have := HK2.out; omega⟩, ⟨by (with_reducible repeat (first | apply Kd.R_alloc | apply Kd.R_drewN | apply Kd.R_drew)); exact HO_4.out⟩, ⟨by repeat (first | (with_reducible first | exact HB.out | apply below_alloc | apply pw_below_drewN | apply below_drew1) | exact HB.out)⟩⟩
                              · rw [if_neg c15] at H
                                exact absurd H (by simp)
                            · rw [if_neg c14] at H
                              exact absurd H (by simp)
                          · rw [if_neg c13] at H
                            exact absurd H (by simp)
                        · rw [if_neg c12] at H
                          have c12b0 : decide (x25_2 < ((rd_L3 l0 x19_1).length : Int)) = false := decide_eq_false c12
                          clear c12
                          have H' := Aside0.mk H
                          clear H
                          go_wp2
                          go_roundg k2
                          case measure => have := HK1.out; have := HK2.out; omega
                          case rel => exact ⟨(x4_2), (wrap64 (x19_1 + 1)), (by first | rfl | (simp; done) | (simp [*]; done)), H', ⟨by have := HK1.out; have := HK2.out; omega⟩, ⟨by (with_reducible repeat (first | apply Kd.R_alloc | apply Kd.R_drewN | apply Kd.R_drew)); exact HO_4.out⟩, ⟨by repeat (first | (with_reducible first | exact HB.out | apply below_alloc | apply pw_below_drewN | apply below_drew1) | exact HB.out)⟩⟩
                  · rw [if_neg c11] at H
                    exact absurd H (by simp)
                · rw [if_neg c10] at H
                  exact absurd H (by simp)
              · rw [if_neg c9] at H
                have c9b0 : decide (x19_1 < (l0.length : Int)) = false := decide_eq_false c9
                clear c9
                simp only [Option.some.injEq, Prod.mk.injEq] at H
                obtain ⟨rfl, rfl⟩ := H
                go_wp2
                go_ret2
                exact ⟨_, by first | rfl | (simp [errW_none, errW_some] <;> rfl) | (simp [*, errW_none, errW_some] <;> rfl), by (with_reducible repeat (first | apply Kd.R_alloc | apply Kd.R_drewN | apply Kd.R_drew)); exact HO_4.out, by repeat (first | (with_reducible first | exact HB.out | apply below_alloc | apply pw_below_drewN | apply below_drew1) | exact HB.out)⟩
        · rw [if_neg c6] at H
          exact absurd H (by simp)
      · rw [if_neg c5] at H
        exact absurd H (by simp)
    · rw [if_neg c4] at H
      exact absurd H (by simp)
  · replace c3 := Bool.eq_false_iff.mpr c3
    subst c3
    have H1 : (some (([] : List Int), false)) = some (r1, r2) := by rw [if_neg (show ¬ (false = true) by decide)] at H; exact H
    clear H
    have H := H1
    clear H1
    simp only [Option.some.injEq, Prod.mk.injEq] at H
    obtain ⟨rfl, rfl⟩ := H
    go_enter Try.func37, Try.ntmps37
    go_wp2_with (first | ((with_reducible refine gate_callee (f := 54) rfl ?_); refine goesL_ (some 10) rfl rfl Try.func54 (by kernel_rfl) rfl #[.slice A0 l0.length c0] rfl (by (try simp only [List.map_toArray, List.map_cons, List.map_nil]); first | done | rfl | (simp only [List.length_drop, List.length_take]; rfl)) ?_; (with_reducible refine (impl_tableOk.calls k _ _ l0 false _ ?side1 ?side2 A2.out).mono ?_); (case side1 => repeat (first | exact HR0.out | (with_reducible refine Kd.C_alloc ?_ _) | (with_reducible refine Kd.C_drewN ?_ _) | (with_reducible refine Kd.C_drew ?_))); (case side2 => exact HC0.out); rintro e w' ⟨rfl, ⟨nd, rfl⟩⟩; refine ⟨_, rfl, ?_⟩))
    go_ret2
    exact ⟨_, by first | rfl | (simp [errW_none, errW_some] <;> rfl) | (simp [*, errW_none, errW_some] <;> rfl), by first | exact Kd.R_nil _ _ _ _ _ | exact Kd.N_nil _ _ _ _ _ | exact Kd.V_nil _ _ _ _ _ | exact Kd.Q_nil _ _ _ _ _ | exact Kd.S_nil _ _ _ _ _, by repeat (first | (with_reducible first | exact HB.out | apply below_alloc | apply pw_below_drewN | apply below_drew1) | exact HB.out)⟩

/-! ### spec_l13Widths: function 56 -/
mutual
def spec_l13Widths.l0 : Nat → List (List ByteArray) → List Int → Int → Option (List Int)
  | 0, _, _, _ => none
  | k + 1, x0, x3, x4 => if x4 < (x0.length : Int) then (spec_l13Widths.l1 k x0 x3 x4 0) else (some x3)
def spec_l13Widths.l1 : Nat → List (List ByteArray) → List Int → Int → Int → Option (List Int)
  | 0, _, _, _, _ => none
  | k + 1, x0, x3, x4, x5 => if 0 ≤ x4 then (if x4 < (x0.length : Int) then (if x5 < ((rd_L3 x0 x4).length : Int) then (if 0 ≤ x5 then (if x5 < (x3.length : Int) then (if ((rdOf ByteArray.empty (rd_L3 x0 x4) x5).size : Int) > (rd x3 x5) then (spec_l13Widths.l1 k x0 (x3.set (x5 : Int).toNat ((rdOf ByteArray.empty (rd_L3 x0 x4) x5).size : Int)) x4 (wrap64 (x5 + 1))) else (spec_l13Widths.l1 k x0 x3 x4 (wrap64 (x5 + 1)))) else (none)) else (none)) else (spec_l13Widths.l0 k x0 x3 (wrap64 (x4 + 1)))) else (none)) else (none)
end
def spec_l13Widths.f (k : Nat) (l0 : List (List ByteArray)) : Option (List Int) := if 0 < (l0.length : Int) then (if 0 ≤ ((rd_L3 l0 0).length : Int) then (if (((rd_L3 l0 0).length : Int) : Int).toNat ≤ 35184372088832 then (spec_l13Widths.l0 k l0 (List.replicate (((rd_L3 l0 0).length : Int) : Int).toNat 0) 0) else (none)) else (none)) else (none)
theorem spec_l13Widths.mono_l : ∀ k, (∀ y0 y1 y2, LeO (spec_l13Widths.l0 k y0 y1 y2) (spec_l13Widths.l0 (k + 1) y0 y1 y2)) ∧ (∀ y0 y1 y2 y3, LeO (spec_l13Widths.l1 k y0 y1 y2 y3) (spec_l13Widths.l1 (k + 1) y0 y1 y2 y3))
  | 0 => ⟨fun _ _ _ r h => by simp [spec_l13Widths.l0] at h, fun _ _ _ _ r h => by simp [spec_l13Widths.l1] at h⟩
  | k + 1 => by
    obtain ⟨ih0, ih1⟩ := spec_l13Widths.mono_l k
    refine ⟨?_, ?_⟩
    · intro y0 y1 y2
      unfold spec_l13Widths.l0
      repeat' first
      | (with_reducible exact ih0 _ _ _)
      | (with_reducible exact ih1 _ _ _ _)
      | (with_reducible exact LeO.refl _)
      | (with_reducible exact LeO.none _)
      | (with_reducible refine LeO.ite ?_ ?_)
      | (with_reducible refine LeO.bind ?_ (fun _ => ?_))
      | exact ih0 _ _ _
      | exact ih1 _ _ _ _
      | exact LeO.none _
      | refine LeO.ite ?_ ?_
      | refine LeO.bind ?_ (fun _ => ?_)
    · intro y0 y1 y2 y3
      unfold spec_l13Widths.l1
      repeat' first
      | (with_reducible exact ih0 _ _ _)
      | (with_reducible exact ih1 _ _ _ _)
      | (with_reducible exact LeO.refl _)
      | (with_reducible exact LeO.none _)
      | (with_reducible refine LeO.ite ?_ ?_)
      | (with_reducible refine LeO.bind ?_ (fun _ => ?_))
      | exact ih0 _ _ _
      | exact ih1 _ _ _ _
      | exact LeO.none _
      | refine LeO.ite ?_ ?_
      | refine LeO.bind ?_ (fun _ => ?_)
theorem spec_l13Widths.mono : ∀ a0 k, LeO (spec_l13Widths.f k a0) (spec_l13Widths.f (k + 1) a0) := by
  intro a0 k
  obtain ⟨ih0, ih1⟩ := spec_l13Widths.mono_l k
  unfold spec_l13Widths.f
  repeat' first
      | (with_reducible exact ih0 _ _ _)
      | (with_reducible exact ih1 _ _ _ _)
      | (with_reducible exact LeO.refl _)
      | (with_reducible exact LeO.none _)
      | (with_reducible refine LeO.ite ?_ ?_)
      | (with_reducible refine LeO.bind ?_ (fun _ => ?_))
      | exact ih0 _ _ _
      | exact ih1 _ _ _ _
      | exact LeO.none _
      | refine LeO.ite ?_ ?_
      | refine LeO.bind ?_ (fun _ => ?_)
set_option maxHeartbeats 8000000 in
set_option maxRecDepth 100000 in
theorem spec_l13Widths.calls (k : Nat) (A0 : Option Addr) (c0 : Nat) (l0 : List (List ByteArray)) (r : List Int) (w : World) (hr0 : Kd.C (Kd.slice 9 Kd.string) w A0 l0.length l0) (hc0 : l0.length ≤ c0) (h : spec_l13Widths.f k l0 = some r) :
    Calls Try.prog 56 #[.slice A0 l0.length c0] w fun e w' => ∃ v0_ : Value, e = .returned (v0_) ∧ Kd.R (Kd.int .i64) 3 w' w.heap.size (fun _ => True) v0_ r ∧ Below w.heap.size w w' := by
  have HR0 := Aside0.mk hr0
  have HC0 := Aside0.mk hc0
  clear hr0 hc0
  have HB := Aside0.mk (Below.refl w.heap.size w)
  have H : (if 0 < (l0.length : Int) then (if 0 ≤ ((rd_L3 l0 0).length : Int) then (if (((rd_L3 l0 0).length : Int) : Int).toNat ≤ 35184372088832 then (spec_l13Widths.l0 k l0 (List.replicate (((rd_L3 l0 0).length : Int) : Int).toNat 0) 0) else (none)) else (none)) else (none)) = some r := h
  clear h
  by_cases c2 : 0 < (l0.length : Int)
  · rw [if_pos c2] at H
    have c2b0 : decide (0 < (l0.length : Int)) = true := decide_eq_true c2
    have c2b1 : decide (0 < l0.length) = true := decide_eq_true (by omega)
    clear c2
    by_cases c3 : 0 ≤ ((rd_L3 l0 0).length : Int)
    · rw [if_pos c3] at H
      have c3b0 := eq_true c3
      have c3b1 : decide (0 ≤ ((rd_L3 l0 0).length : Int)) = true := decide_eq_true c3
      clear c3
      by_cases c4 : (((rd_L3 l0 0).length : Int) : Int).toNat ≤ 35184372088832
      · rw [if_pos c4] at H
        have c4b0 := eq_true c4
        have c4b1 : decide ((((rd_L3 l0 0).length : Int) : Int).toNat ≤ 35184372088832) = true := decide_eq_true c4
        clear c4
        obtain ⟨y252, hy252⟩ : ∃ y_ : List Int, y_ = (List.replicate (((rd_L3 l0 0).length : Int) : Int).toNat 0) := ⟨_, rfl⟩
        replace H : (spec_l13Widths.l0 k l0 y252 0) = some r := by first | (rw [hy252]; with_reducible exact H) | (have H2_ := (Option.bind_some _ _).symm.trans H; rw [hy252]; with_reducible exact H2_) | (have H2_ := (Option.bind_some _ _).symm.trans H; with_reducible exact H2_) | with_reducible exact H | (rw [hy252]; exact H) | exact H
        have Ny252 := Aside0.mk hy252
        clear hy252
        have H' := Aside0.mk H
        clear H
        have p251 : 0 ≤ (0 : Int) := (by omega)
        have q251 : 0 < (l0.length : Int) := of_decide_eq_true (by first | (with_reducible assumption) | assumption)
        obtain ⟨ad251, A251_0, c251_0, e251, hx251_0, hl251_0, hi251_0⟩ := at_L3 HR0.out 0 p251 q251
        cases e251
        have qi251 : (0 < l0.length) = True := eq_true (by omega)
        (try rw [show ((0 : Int)).toNat = 0 from rfl] at hx251_0)
        (try rw [Addr.add_zero'] at hx251_0)
        have HR251_0 := Aside0.mk hi251_0
        have HC251_0 := Aside0.mk hl251_0
        clear hi251_0 hl251_0
        replace p251 := eq_true p251
        replace q251 := eq_true q251
        go_enter Try.func56, Try.ntmps56
        go_wp2_with (first | ((with_reducible refine gate_dst (N := 10) rfl ?_); refine Kd.R_make (Kd.int .i64) _ 3 rfl (N := 10) rfl 27 _ _ rfl ((rd_L3 l0 0).length : Int) rfl rfl Try.underlying27 (.int .i64 0) 8 info3 rfl (by decide) (by omega) 0 (ok := fun _ => True) (okp := fun _ => True) rfl (fun _ hk => hk) trivial (of_decide_eq_true (by first | (with_reducible assumption) | assumption)) (Nat.le_trans (Nat.mul_le_mul_right _ (of_decide_eq_true (by first | (with_reducible assumption) | assumption) : ((rd_L3 l0 0).length : Int).toNat ≤ 35184372088832)) (by omega)) (Below.refl _ _) (Nat.le_refl _) ?_; intro v253 w5 ho6 hb hg_ hnew_; clear hg_ hnew_; (first | rw [← Ny252.out] at ho6 | (simp only [Int.reduceToNat] at ho6; rw [← Ny252.out] at ho6)); have n0_ := Aside0.mk (Kd.R_lower ho6 (below_size (by repeat (first | (with_reducible first | exact HB.out | apply below_alloc | apply pw_below_drewN | apply below_drew1) | exact HB.out)))); have n1_ := Aside0.mk (below_step (by repeat (first | (with_reducible first | exact HB.out | apply below_alloc | apply pw_below_drewN | apply below_drew1) | exact HB.out)) hb); clear HB; have HO254 := n0_; have HB := n1_; clear n0_ n1_; clear hb ho6))
        repeat (go_quiet (first | ((with_reducible refine gate_dst (N := 10) rfl ?_); refine Kd.R_make (Kd.int .i64) _ 3 rfl (N := 10) rfl 27 _ _ rfl ((rd_L3 l0 0).length : Int) rfl rfl Try.underlying27 (.int .i64 0) 8 info3 rfl (by decide) (by omega) 0 (ok := fun _ => True) (okp := fun _ => True) rfl (fun _ hk => hk) trivial (of_decide_eq_true (by first | (with_reducible assumption) | assumption)) (Nat.le_trans (Nat.mul_le_mul_right _ (of_decide_eq_true (by first | (with_reducible assumption) | assumption) : ((rd_L3 l0 0).length : Int).toNat ≤ 35184372088832)) (by omega)) (Below.refl _ _) (Nat.le_refl _) ?_; intro v253 w5 ho6 hb hg_ hnew_; clear hg_ hnew_; (first | rw [← Ny252.out] at ho6 | (simp only [Int.reduceToNat] at ho6; rw [← Ny252.out] at ho6)); have n0_ := Aside0.mk (Kd.R_lower ho6 (below_size (by repeat (first | (with_reducible first | exact HB.out | apply below_alloc | apply pw_below_drewN | apply below_drew1) | exact HB.out)))); have n1_ := Aside0.mk (below_step (by repeat (first | (with_reducible first | exact HB.out | apply below_alloc | apply pw_below_drewN | apply below_drew1) | exact HB.out)) hb); clear HB; have HO254 := n0_; have HB := n1_; clear n0_ n1_; clear hb ho6)); try go_wp2_with (first | ((with_reducible refine gate_dst (N := 10) rfl ?_); refine Kd.R_make (Kd.int .i64) _ 3 rfl (N := 10) rfl 27 _ _ rfl ((rd_L3 l0 0).length : Int) rfl rfl Try.underlying27 (.int .i64 0) 8 info3 rfl (by decide) (by omega) 0 (ok := fun _ => True) (okp := fun _ => True) rfl (fun _ hk => hk) trivial (of_decide_eq_true (by first | (with_reducible assumption) | assumption)) (Nat.le_trans (Nat.mul_le_mul_right _ (of_decide_eq_true (by first | (with_reducible assumption) | assumption) : ((rd_L3 l0 0).length : Int).toNat ≤ 35184372088832)) (by omega)) (Below.refl _ _) (Nat.le_refl _) ?_; intro v253 w5 ho6 hb hg_ hnew_; clear hg_ hnew_; (first | rw [← Ny252.out] at ho6 | (simp only [Int.reduceToNat] at ho6; rw [← Ny252.out] at ho6)); have n0_ := Aside0.mk (Kd.R_lower ho6 (below_size (by repeat (first | (with_reducible first | exact HB.out | apply below_alloc | apply pw_below_drewN | apply below_drew1) | exact HB.out)))); have n1_ := Aside0.mk (below_step (by repeat (first | (with_reducible first | exact HB.out | apply below_alloc | apply pw_below_drewN | apply below_drew1) | exact HB.out)) hb); clear HB; have HO254 := n0_; have HB := n1_; clear n0_ n1_; clear hb ho6)))
        go_loopg [4] k (fun kq v4 w' => ∃ (x3_1 : List Int) (x4_1 : Int), v4 = .int .i64 x4_1 ∧ Aside0 (spec_l13Widths.l0 kq l0 x3_1 x4_1 = some r) ∧ Aside0 (kq ≤ k) ∧ Aside0 (Kd.R (Kd.int .i64) 3 w' w.heap.size (fun _ => True) v253 x3_1) ∧ Aside0 (Below w.heap.size w w'))
        case atStart => exact ⟨(y252), (0), (by first | rfl | (simp; done) | (simp [*]; done)), H', ⟨Nat.le_refl _⟩, ⟨by (with_reducible repeat (first | apply Kd.R_alloc | apply Kd.R_drewN | apply Kd.R_drew)); exact HO254.out⟩, ⟨by repeat (first | (with_reducible first | exact HB.out | apply below_alloc | apply pw_below_drewN | apply below_drew1) | exact HB.out)⟩⟩
        case round =>
          clear H'
          try clear c2
          try clear c2b0
          try clear c2b1
          try clear p2
          try clear q2
          try clear hx2
          try clear qi2
          try clear c3
          try clear c3b0
          try clear c3b1
          try clear c4
          try clear c4b0
          try clear c4b1
          try clear c5
          try clear hx251_0
          try clear p251
          try clear q251
          obtain ⟨x3_1, x4_1, rfl, HA, HK1, HO_3, HB⟩ := hrel
          cases gk with
          | zero => exact absurd HA.out (by simp [spec_l13Widths.l0])
          | succ k1 =>
            have H := HA.out
            clear HA
            simp only [spec_l13Widths.l0] at H
            by_cases c7 : x4_1 < (l0.length : Int)
            · rw [if_pos c7] at H
              have c7b0 : decide (x4_1 < (l0.length : Int)) = true := decide_eq_true c7
              clear c7
              have H' := Aside0.mk H
              clear H
              go_wp2
              repeat (go_quiet (fail); try go_wp2)
              go_loopg [5] k1 (fun kq v5 w' => ∃ (x3_2 : List Int) (x5_2 : Int), v5 = .int .i64 x5_2 ∧ Aside0 (spec_l13Widths.l1 kq l0 x3_2 x4_1 x5_2 = some r) ∧ Aside0 (kq ≤ k1) ∧ Aside0 (Kd.R (Kd.int .i64) 3 w' w.heap.size (fun _ => True) v253 x3_2) ∧ Aside0 (Below w.heap.size w w'))
              case atStart => exact ⟨(x3_1), (0), (by first | rfl | (simp; done) | (simp [*]; done)), H', ⟨Nat.le_refl _⟩, ⟨by (with_reducible repeat (first | apply Kd.R_alloc | apply Kd.R_drewN | apply Kd.R_drew)); exact HO_3.out⟩, ⟨by repeat (first | (with_reducible first | exact HB.out | apply below_alloc | apply pw_below_drewN | apply below_drew1) | exact HB.out)⟩⟩
              case round =>
                clear H'
                try clear c2
                try clear c2b0
                try clear c2b1
                try clear p2
                try clear q2
                try clear hx2
                try clear qi2
                try clear c3
                try clear c3b0
                try clear c3b1
                try clear c4
                try clear c4b0
                try clear c4b1
                try clear c5
                try clear c7
                try clear c7b0
                try clear hx251_0
                try clear p2
                try clear p251
                try clear q2
                try clear q251
                obtain ⟨x3_2, x5_2, rfl, HA, HK2, HO_3, HB⟩ := hrel
                cases gk with
                | zero => exact absurd HA.out (by simp [spec_l13Widths.l1])
                | succ k2 =>
                  have H := HA.out
                  clear HA
                  simp only [spec_l13Widths.l1] at H
                  by_cases c8 : 0 ≤ x4_1
                  · rw [if_pos c8] at H
                    have c8b0 : decide (0 ≤ x4_1) = true := decide_eq_true c8
                    clear c8
                    by_cases c9 : x4_1 < (l0.length : Int)
                    · rw [if_pos c9] at H
                      have c9b0 : decide (x4_1 < (l0.length : Int)) = true := decide_eq_true c9
                      clear c9
                      by_cases c10 : x5_2 < ((rd_L3 l0 x4_1).length : Int)
                      · rw [if_pos c10] at H
                        have c10b0 : decide (x5_2 < ((rd_L3 l0 x4_1).length : Int)) = true := decide_eq_true c10
                        clear c10
                        by_cases c11 : 0 ≤ x5_2
                        · rw [if_pos c11] at H
                          have c11b0 : decide (0 ≤ x5_2) = true := decide_eq_true c11
                          clear c11
                          by_cases c12 : x5_2 < (x3_2.length : Int)
                          · rw [if_pos c12] at H
                            have c12b0 : decide (x5_2 < (x3_2.length : Int)) = true := decide_eq_true c12
                            clear c12
                            by_cases c13 : ((rdOf ByteArray.empty (rd_L3 l0 x4_1) x5_2).size : Int) > (rd x3_2 x5_2)
                            · rw [if_pos c13] at H
                              have c13b0 : decide ((rd x3_2 x5_2) < ((rdOf ByteArray.empty (rd_L3 l0 x4_1) x5_2).size : Int)) = true := decide_eq_true c13
                              clear c13
                              obtain ⟨y261, hy261⟩ : ∃ y_ : List Int, y_ = (x3_2.set (x5_2 : Int).toNat ((rdOf ByteArray.empty (rd_L3 l0 x4_1) x5_2).size : Int)) := ⟨_, rfl⟩
                              replace H : (spec_l13Widths.l1 k2 l0 y261 x4_1 (wrap64 (x5_2 + 1))) = some r := by first | (rw [hy261]; with_reducible exact H) | (have H2_ := (Option.bind_some _ _).symm.trans H; rw [hy261]; with_reducible exact H2_) | (have H2_ := (Option.bind_some _ _).symm.trans H; with_reducible exact H2_) | with_reducible exact H | (rw [hy261]; exact H) | exact H
                              have Ny261 := Aside0.mk hy261
                              clear hy261
                              have H' := Aside0.mk H
                              clear H
                              have p255 : 0 ≤ (x4_1 : Int) := of_decide_eq_true (by first | (with_reducible assumption) | assumption)
                              have q255 : x4_1 < (l0.length : Int) := of_decide_eq_true (by first | (with_reducible assumption) | assumption)
                              obtain ⟨ad255, A255_0, c255_0, e255, hx255_0, hl255_0, hi255_0⟩ := at_L3 HR0.out x4_1 p255 q255
                              obtain rfl : ad251 = ad255 := (by injection e255)
                              replace hx255_0 := (HB.out.cell (World.block_lt_of_cell? w _ hx255_0)).trans hx255_0
                              have HR255_0 := Aside0.mk hi255_0
                              have HC255_0 := Aside0.mk hl255_0
                              clear hi255_0 hl255_0
                              replace p255 := eq_true p255
                              replace q255 := eq_true q255
                              have p256 : 0 ≤ (x4_1 : Int) := of_decide_eq_true (by first | (with_reducible assumption) | assumption)
                              have q256 : x4_1 < (l0.length : Int) := of_decide_eq_true (by first | (with_reducible assumption) | assumption)
                              obtain ⟨ad256, A256_0, c256_0, e256, hx256_0, hl256_0, hi256_0⟩ := at_L3 HR0.out x4_1 p256 q256
                              obtain rfl : ad251 = ad256 := (by injection e256)
                              replace hx256_0 := (HB.out.cell (World.block_lt_of_cell? w _ hx256_0)).trans hx256_0
                              have HR256_0 := Aside0.mk hi256_0
                              have HC256_0 := Aside0.mk hl256_0
                              clear hi256_0 hl256_0
                              replace p256 := eq_true p256
                              replace q256 := eq_true q256
                              have ea_ := Option.some.inj (hx255_0.symm.trans hx256_0)
                              injection ea_ with ea_ en_ ec_
                              subst ea_
                              subst ec_
                              clear en_
                              have p257 : 0 ≤ (x5_2 : Int) := of_decide_eq_true (by first | (with_reducible assumption) | assumption)
                              have q257 : x5_2 < ((rd_L3 l0 x4_1).length : Int) := of_decide_eq_true (by first | (with_reducible assumption) | assumption)
                              obtain ⟨ad257, e257, hx257_0⟩ := Kd.at_string HR256_0.out x5_2 p257 q257
                              cases e257
                              replace hx257_0 := (HB.out.cell (World.block_lt_of_cell? w _ hx257_0)).trans hx257_0
                              replace p257 := eq_true p257
                              replace q257 := eq_true q257
                              obtain ⟨Ao15, co15, eo15⟩ := Kd.R_slice HO_3.out
                              subst eo15
                              have p258 : 0 ≤ (x5_2 : Int) := of_decide_eq_true (by first | (with_reducible assumption) | assumption)
                              have q258 : x5_2 < (x3_2.length : Int) := of_decide_eq_true (by first | (with_reducible assumption) | assumption)
                              obtain ⟨ad258, e258, hx258_0⟩ := Kd.at_int (Kd.R_reads' HO_3.out).2.2 x5_2 p258 q258
                              cases e258
                              replace p258 := eq_true p258
                              replace q258 := eq_true q258
                              have p259 : 0 ≤ (x4_1 : Int) := of_decide_eq_true (by first | (with_reducible assumption) | assumption)
                              have q259 : x4_1 < (l0.length : Int) := of_decide_eq_true (by first | (with_reducible assumption) | assumption)
                              obtain ⟨ad259, A259_0, c259_0, e259, hx259_0, hl259_0, hi259_0⟩ := at_L3 HR0.out x4_1 p259 q259
                              obtain rfl : ad251 = ad259 := (by injection e259)
                              replace hx259_0 := (HB.out.cell (World.block_lt_of_cell? w _ hx259_0)).trans hx259_0
                              have HR259_0 := Aside0.mk hi259_0
                              have HC259_0 := Aside0.mk hl259_0
                              clear hi259_0 hl259_0
                              replace p259 := eq_true p259
                              replace q259 := eq_true q259
                              have ea_ := Option.some.inj (hx255_0.symm.trans hx259_0)
                              injection ea_ with ea_ en_ ec_
                              subst ea_
                              subst ec_
                              clear en_
                              have p260 : 0 ≤ (x5_2 : Int) := of_decide_eq_true (by first | (with_reducible assumption) | assumption)
                              have q260 : x5_2 < ((rd_L3 l0 x4_1).length : Int) := of_decide_eq_true (by first | (with_reducible assumption) | assumption)
                              obtain ⟨ad260, e260, hx260_0⟩ := Kd.at_string HR259_0.out x5_2 p260 q260
                              cases e260
                              replace hx260_0 := (HB.out.cell (World.block_lt_of_cell? w _ hx260_0)).trans hx260_0
                              replace p260 := eq_true p260
                              replace q260 := eq_true q260
                              have p14 : 0 ≤ (x5_2 : Int) := of_decide_eq_true (by first | (with_reducible assumption) | assumption)
                              have q14 : (x5_2 : Int) < ((x3_2.length : Int) : Int) := of_decide_eq_true (by first | (with_reducible assumption) | assumption)
                              obtain ⟨go14, co14, eo14, gb14, gl14, cl14, HG14⟩ := Kd.R_form HO_3.out (by omega)
                              (first | cases eo14 | (injection eo14 with ea_ en_ ec_; (first | subst ea_ | (injection ea_ with ea_; subst ea_)); subst ec_; clear en_))
                              have GB14 := Aside0.mk gb14
                              have GG14 := Aside0.mk HG14
                              clear gb14 gl14 HG14
                              (first | simp only [add_plain] at hx258_0 | skip)
                              obtain ⟨hx14_0, hf14_0⟩ := Kd.R_celln 0 HO_3.out (x5_2 : Int) p14 q14
                              replace p14 := eq_true p14
                              replace q14 := eq_true q14
                              have HP16 := Kd.R_putg HO_3.out (x5_2 : Int) ((rdOf ByteArray.empty (rd_L3 l0 x4_1) x5_2).size : Int)
                              go_wp2_with (first | ((with_reducible refine gate_store (t := 3) (p := 49) rfl ?_); (try (rw [drewN_self wr]; generalize hq_ : World.drewN wr _ = wr; have n0_ := Aside0.mk (Kd.R_at hq_ HO_3.out); have n1_ := Aside0.mk (below_at hq_ HB.out); clear hq_ HO_3 HB; have HO_3 := n0_; have HB := n1_; clear n0_ n1_; (try (have HP16 := Kd.R_putg HO_3.out (x5_2 : Int) ((rdOf ByteArray.empty (rd_L3 l0 x4_1) x5_2).size : Int))))); refine store_event (t := 3) (p := 49) (v := ?vo_w17) (w1 := (wr.setCell ⟨go14, (x5_2 : Int).toNat, none⟩ (.int .i64 ((rdOf ByteArray.empty (rd_L3 l0 x4_1) x5_2).size : Int)))) ?hg ?ho ?hn ?hr ?_; (case ho => rfl); (case hg => rfl); (case hn => rfl); (case hr => first | (go_simp; done) | (go_simp; rfl)); intro w17 hw; have hg : wr.grownBy w17 (some go14) := (by rw [hw]; exact HP16.2); have hp_ : Kd.R (Kd.int .i64) 3 w17 w.heap.size (fun _ => True) (.slice (some ⟨go14, 0, none⟩) x3_2.length co15) y261 := (by rw [hw, Ny261.out]; exact HP16.1); clear HP16; have n0_ := Aside0.mk (hp_); have n1_ := Aside0.mk ((by rw [hw]; exact below_set (HB.out) GB14.out : Below w.heap.size w w17)); clear HO_3; clear HB; have HO_3 := n0_; have HB := n1_; clear n0_ n1_; clear hg hw hp_))
                              repeat (go_quiet (first | ((with_reducible refine gate_store (t := 3) (p := 49) rfl ?_); (try (rw [drewN_self wr]; generalize hq_ : World.drewN wr _ = wr; have n0_ := Aside0.mk (Kd.R_at hq_ HO_3.out); have n1_ := Aside0.mk (below_at hq_ HB.out); clear hq_ HO_3 HB; have HO_3 := n0_; have HB := n1_; clear n0_ n1_; (try (have HP16 := Kd.R_putg HO_3.out (x5_2 : Int) ((rdOf ByteArray.empty (rd_L3 l0 x4_1) x5_2).size : Int))))); refine store_event (t := 3) (p := 49) (v := ?vo_w17) (w1 := (wr.setCell ⟨go14, (x5_2 : Int).toNat, none⟩ (.int .i64 ((rdOf ByteArray.empty (rd_L3 l0 x4_1) x5_2).size : Int)))) ?hg ?ho ?hn ?hr ?_; (case ho => rfl); (case hg => rfl); (case hn => rfl); (case hr => first | (go_simp; done) | (go_simp; rfl)); intro w17 hw; have hg : wr.grownBy w17 (some go14) := (by rw [hw]; exact HP16.2); have hp_ : Kd.R (Kd.int .i64) 3 w17 w.heap.size (fun _ => True) (.slice (some ⟨go14, 0, none⟩) x3_2.length co15) y261 := (by rw [hw, Ny261.out]; exact HP16.1); clear HP16; have n0_ := Aside0.mk (hp_); have n1_ := Aside0.mk ((by rw [hw]; exact below_set (HB.out) GB14.out : Below w.heap.size w w17)); clear HO_3; clear HB; have HO_3 := n0_; have HB := n1_; clear n0_ n1_; clear hg hw hp_)); try go_wp2_with (first | ((with_reducible refine gate_store (t := 3) (p := 49) rfl ?_); (try (rw [drewN_self wr]; generalize hq_ : World.drewN wr _ = wr; have n0_ := Aside0.mk (Kd.R_at hq_ HO_3.out); have n1_ := Aside0.mk (below_at hq_ HB.out); clear hq_ HO_3 HB; have HO_3 := n0_; have HB := n1_; clear n0_ n1_; (try (have HP16 := Kd.R_putg HO_3.out (x5_2 : Int) ((rdOf ByteArray.empty (rd_L3 l0 x4_1) x5_2).size : Int))))); refine store_event (t := 3) (p := 49) (v := ?vo_w17) (w1 := (wr.setCell ⟨go14, (x5_2 : Int).toNat, none⟩ (.int .i64 ((rdOf ByteArray.empty (rd_L3 l0 x4_1) x5_2).size : Int)))) ?hg ?ho ?hn ?hr ?_; (case ho => rfl); (case hg => rfl); (case hn => rfl); (case hr => first | (go_simp; done) | (go_simp; rfl)); intro w17 hw; have hg : wr.grownBy w17 (some go14) := (by rw [hw]; exact HP16.2); have hp_ : Kd.R (Kd.int .i64) 3 w17 w.heap.size (fun _ => True) (.slice (some ⟨go14, 0, none⟩) x3_2.length co15) y261 := (by rw [hw, Ny261.out]; exact HP16.1); clear HP16; have n0_ := Aside0.mk (hp_); have n1_ := Aside0.mk ((by rw [hw]; exact below_set (HB.out) GB14.out : Below w.heap.size w w17)); clear HO_3; clear HB; have HO_3 := n0_; have HB := n1_; clear n0_ n1_; clear hg hw hp_)))
                              go_roundg k2
                              case measure => have := HK1.out; have := HK2.out; omega
                              case rel => exact ⟨(y261), (wrap64 (x5_2 + 1)), (by first | rfl | (simp; done) | (simp [*]; done)), H', ⟨by have := HK1.out; have := HK2.out; omega⟩, ⟨by first | ((with_reducible repeat (first | apply Kd.R_alloc | apply Kd.R_drewN | apply Kd.R_drew)); exact HO_3.out) | (rw [Ny261.out]; exact (Kd.R_putg (Kd.R_drewN HO_3.out _) (x5_2 : Int) ((rdOf ByteArray.empty (rd_L3 l0 x4_1) x5_2).size : Int)).1)⟩, ⟨by first | ((repeat (first | (with_reducible first | exact HB.out | apply below_alloc | apply pw_below_drewN | apply below_drew1) | exact HB.out)); done) | exact below_set (pw_below_drewN HB.out _) GB14.out | exact below_set (pw_below_drewN HB.out) GB14.out⟩⟩
                            · rw [if_neg c13] at H
                              have c13b0 : decide ((rd x3_2 x5_2) < ((rdOf ByteArray.empty (rd_L3 l0 x4_1) x5_2).size : Int)) = false := decide_eq_false c13
                              clear c13
                              have H' := Aside0.mk H
                              clear H
                              have p255 : 0 ≤ (x4_1 : Int) := of_decide_eq_true (by first | (with_reducible assumption) | assumption)
                              have q255 : x4_1 < (l0.length : Int) := of_decide_eq_true (by first | (with_reducible assumption) | assumption)
                              obtain ⟨ad255, A255_0, c255_0, e255, hx255_0, hl255_0, hi255_0⟩ := at_L3 HR0.out x4_1 p255 q255
                              obtain rfl : ad251 = ad255 := (by injection e255)
                              replace hx255_0 := (HB.out.cell (World.block_lt_of_cell? w _ hx255_0)).trans hx255_0
                              have HR255_0 := Aside0.mk hi255_0
                              have HC255_0 := Aside0.mk hl255_0
                              clear hi255_0 hl255_0
                              replace p255 := eq_true p255
                              replace q255 := eq_true q255
                              have p256 : 0 ≤ (x4_1 : Int) := of_decide_eq_true (by first | (with_reducible assumption) | assumption)
                              have q256 : x4_1 < (l0.length : Int) := of_decide_eq_true (by first | (with_reducible assumption) | assumption)
                              obtain ⟨ad256, A256_0, c256_0, e256, hx256_0, hl256_0, hi256_0⟩ := at_L3 HR0.out x4_1 p256 q256
                              obtain rfl : ad251 = ad256 := (by injection e256)
                              replace hx256_0 := (HB.out.cell (World.block_lt_of_cell? w _ hx256_0)).trans hx256_0
                              have HR256_0 := Aside0.mk hi256_0
                              have HC256_0 := Aside0.mk hl256_0
                              clear hi256_0 hl256_0
                              replace p256 := eq_true p256
                              replace q256 := eq_true q256
                              have ea_ := Option.some.inj (hx255_0.symm.trans hx256_0)
                              injection ea_ with ea_ en_ ec_
                              subst ea_
                              subst ec_
                              clear en_
                              have p257 : 0 ≤ (x5_2 : Int) := of_decide_eq_true (by first | (with_reducible assumption) | assumption)
                              have q257 : x5_2 < ((rd_L3 l0 x4_1).length : Int) := of_decide_eq_true (by first | (with_reducible assumption) | assumption)
                              obtain ⟨ad257, e257, hx257_0⟩ := Kd.at_string HR256_0.out x5_2 p257 q257
                              cases e257
                              replace hx257_0 := (HB.out.cell (World.block_lt_of_cell? w _ hx257_0)).trans hx257_0
                              replace p257 := eq_true p257
                              replace q257 := eq_true q257
                              obtain ⟨Ao18, co18, eo18⟩ := Kd.R_slice HO_3.out
                              subst eo18
                              have p258 : 0 ≤ (x5_2 : Int) := of_decide_eq_true (by first | (with_reducible assumption) | assumption)
                              have q258 : x5_2 < (x3_2.length : Int) := of_decide_eq_true (by first | (with_reducible assumption) | assumption)
                              obtain ⟨ad258, e258, hx258_0⟩ := Kd.at_int (Kd.R_reads' HO_3.out).2.2 x5_2 p258 q258
                              cases e258
                              replace p258 := eq_true p258
                              replace q258 := eq_true q258
                              go_wp2
                              repeat (go_quiet (fail); try go_wp2)
                              go_roundg k2
                              case measure => have := HK1.out; have := HK2.out; omega
                              case rel => exact ⟨(x3_2), (wrap64 (x5_2 + 1)), (by first | rfl | (simp; done) | (simp [*]; done)), H', ⟨by have := HK1.out; have := HK2.out; omega⟩, ⟨by (with_reducible repeat (first | apply Kd.R_alloc | apply Kd.R_drewN | apply Kd.R_drew)); exact HO_3.out⟩, ⟨by repeat (first | (with_reducible first | exact HB.out | apply below_alloc | apply pw_below_drewN | apply below_drew1) | exact HB.out)⟩⟩
                          · rw [if_neg c12] at H
                            exact absurd H (by simp)
                        · rw [if_neg c11] at H
                          exact absurd H (by simp)
                      · rw [if_neg c10] at H
                        have c10b0 : decide (x5_2 < ((rd_L3 l0 x4_1).length : Int)) = false := decide_eq_false c10
                        clear c10
                        have H' := Aside0.mk H
                        clear H
                        have p255 : 0 ≤ (x4_1 : Int) := of_decide_eq_true (by first | (with_reducible assumption) | assumption)
                        have q255 : x4_1 < (l0.length : Int) := of_decide_eq_true (by first | (with_reducible assumption) | assumption)
                        obtain ⟨ad255, A255_0, c255_0, e255, hx255_0, hl255_0, hi255_0⟩ := at_L3 HR0.out x4_1 p255 q255
                        obtain rfl : ad251 = ad255 := (by injection e255)
                        replace hx255_0 := (HB.out.cell (World.block_lt_of_cell? w _ hx255_0)).trans hx255_0
                        have HR255_0 := Aside0.mk hi255_0
                        have HC255_0 := Aside0.mk hl255_0
                        clear hi255_0 hl255_0
                        replace p255 := eq_true p255
                        replace q255 := eq_true q255
                        go_wp2
                        repeat (go_quiet (fail); try go_wp2)
                        go_roundg k2
                        case measure => have := HK1.out; have := HK2.out; omega
                        case rel => exact ⟨(x3_2), (wrap64 (x4_1 + 1)), (by first | rfl | (simp; done) | (simp [*]; done)), H', ⟨by have := HK1.out; have := HK2.out; omega⟩, ⟨by (with_reducible repeat (first | apply Kd.R_alloc | apply Kd.R_drewN | apply Kd.R_drew)); exact HO_3.out⟩, ⟨by repeat (first | (with_reducible first | exact HB.out | apply below_alloc | apply pw_below_drewN | apply below_drew1) | exact HB.out)⟩⟩
                    · rw [if_neg c9] at H
                      exact absurd H (by simp)
                  · rw [if_neg c8] at H
                    exact absurd H (by simp)
            · rw [if_neg c7] at H
              have c7b0 : decide (x4_1 < (l0.length : Int)) = false := decide_eq_false c7
              clear c7
              obtain rfl := Option.some.inj H
              go_wp2
              repeat (go_quiet (fail); try go_wp2)
              go_ret
              exact ⟨_, by first | rfl | (simp [errW_none, errW_some] <;> rfl) | (simp [*, errW_none, errW_some] <;> rfl), by (with_reducible repeat (first | apply Kd.R_alloc | apply Kd.R_drewN | apply Kd.R_drew)); exact HO_3.out, by repeat (first | (with_reducible first | exact HB.out | apply below_alloc | apply pw_below_drewN | apply below_drew1) | exact HB.out)⟩
      · rw [if_neg c4] at H
        exact absurd H (by simp)
    · rw [if_neg c3] at H
      exact absurd H (by simp)
  · rw [if_neg c2] at H
    exact absurd H (by simp)

/-! ### spec_ColumnWidths: function 38 -/
def spec_ColumnWidths.f (k : Nat) (l0 : List (List ByteArray)) : Option (List Int × Bool) := (spec_l13Cells.f k l0).bind fun t262 => (if t262 = true then ((spec_l13Widths.f k l0).bind fun t263 => (some (t263, true))) else (some ((([] : List Int)), false)))
theorem spec_ColumnWidths.mono : ∀ a0 k, LeO (spec_ColumnWidths.f k a0) (spec_ColumnWidths.f (k + 1) a0) := by
  intro a0 k
  unfold spec_ColumnWidths.f
  repeat' first
      | (with_reducible exact spec_l13Cells.mono _ _)
      | (with_reducible exact spec_l13Widths.mono _ _)
      | (with_reducible exact LeO.refl _)
      | (with_reducible exact LeO.none _)
      | (with_reducible refine LeO.ite ?_ ?_)
      | (with_reducible refine LeO.bind ?_ (fun _ => ?_))
      | exact spec_l13Cells.mono _ _
      | exact spec_l13Widths.mono _ _
      | exact LeO.none _
      | refine LeO.ite ?_ ?_
      | refine LeO.bind ?_ (fun _ => ?_)
set_option maxHeartbeats 8000000 in
set_option maxRecDepth 100000 in
theorem spec_ColumnWidths.calls (k : Nat) (A0 : Option Addr) (c0 : Nat) (l0 : List (List ByteArray)) (r1 : List Int) (r2 : Bool) (w : World) (hr0 : Kd.C (Kd.slice 9 Kd.string) w A0 l0.length l0) (hc0 : l0.length ≤ c0) (h : spec_ColumnWidths.f k l0 = some (r1, r2)) :
    Calls Try.prog 38 #[.slice A0 l0.length c0] w fun e w' => ∃ v0_ : Value, e = .returned (.tuple #[v0_, .bool r2]) ∧ Kd.R (Kd.int .i64) 3 w' w.heap.size (fun _ => True) v0_ r1 ∧ Below w.heap.size w w' := by
  have HR0 := Aside0.mk hr0
  have HC0 := Aside0.mk hc0
  clear hr0 hc0
  have HB := Aside0.mk (Below.refl w.heap.size w)
  have H : ((spec_l13Cells.f k l0).bind fun t262 => (if t262 = true then ((spec_l13Widths.f k l0).bind fun t263 => (some (t263, true))) else (some ((([] : List Int)), false)))) = some (r1, r2) := h
  clear h
  replace H := Option.bind_eq_some_iff.mp H
  obtain ⟨t262, A20, H⟩ := H
  replace H : (if t262 = true then ((spec_l13Widths.f k l0).bind fun t263 => (some (t263, true))) else (some ((([] : List Int)), false))) = some (r1, r2) := H
  have A2 := Aside0.mk A20
  clear A20
  by_cases c3 : t262 = true
  · subst c3
    have H1 : ((spec_l13Widths.f k l0).bind fun t263 => (some (t263, true))) = some (r1, r2) := by rw [if_pos rfl] at H; exact H
    clear H
    have H := H1
    clear H1
    replace H := Option.bind_eq_some_iff.mp H
    obtain ⟨t263, A40, H⟩ := H
    replace H : (some (t263, true)) = some (r1, r2) := H
    have A4 := Aside0.mk A40
    clear A40
    simp only [Option.some.injEq, Prod.mk.injEq] at H
    obtain ⟨rfl, rfl⟩ := H
    go_enter Try.func38, Try.ntmps38
    go_wp2_with (first | ((with_reducible refine gate_callee (f := 55) rfl ?_); refine goesL_ (some 5) rfl rfl Try.func55 (by kernel_rfl) rfl #[.slice A0 l0.length c0] rfl (by (try simp only [List.map_toArray, List.map_cons, List.map_nil]); first | done | rfl | (simp only [List.length_drop, List.length_take]; rfl)) ?_; (with_reducible refine (spec_l13Cells.calls k _ _ l0 true _ ?side1 ?side2 A2.out).mono ?_); (case side1 => repeat (first | exact HR0.out | (with_reducible refine Kd.C_alloc ?_ _) | (with_reducible refine Kd.C_drewN ?_ _) | (with_reducible refine Kd.C_drew ?_))); (case side2 => exact HC0.out); rintro e w' ⟨rfl, ⟨nd, rfl⟩⟩; refine ⟨_, rfl, ?_⟩) | ((with_reducible refine gate_callee (f := 56) rfl ?_); refine goesL_ (some 9) rfl rfl Try.func56 (by kernel_rfl) rfl #[.slice A0 l0.length c0] rfl (by (try simp only [List.map_toArray, List.map_cons, List.map_nil]); first | done | rfl | (simp only [List.length_drop, List.length_take]; rfl)) ?_; (with_reducible refine (spec_l13Widths.calls k _ _ l0 t263 _ ?side1 ?side2 A4.out).mono ?_); (case side1 => repeat (first | exact HR0.out | (with_reducible refine Kd.C_alloc ?_ _) | (with_reducible refine Kd.C_drewN ?_ _) | (with_reducible refine Kd.C_drew ?_))); (case side2 => exact HC0.out); rintro e w5 ⟨v264, rfl, ho0, hb⟩; refine ⟨_, rfl, ?_⟩; have n0_ := Aside0.mk (Kd.R_lower ho0 (below_size (by repeat (first | (with_reducible first | exact HB.out | apply below_alloc | apply pw_below_drewN | apply below_drew1) | exact HB.out)))); have n1_ := Aside0.mk (below_step (by repeat (first | (with_reducible first | exact HB.out | apply below_alloc | apply pw_below_drewN | apply below_drew1) | exact HB.out)) hb); clear HB; have HO265 := n0_; have HB := n1_; clear n0_ n1_; (try clear hb); (try clear hb2); (try clear hk); (try clear hi); (try clear ho0)))
    go_ret2
    exact ⟨_, by first | rfl | (simp [errW_none, errW_some] <;> rfl) | (simp [*, errW_none, errW_some] <;> rfl), by (with_reducible repeat (first | apply Kd.R_alloc | apply Kd.R_drewN | apply Kd.R_drew)); exact HO265.out, by repeat (first | (with_reducible first | exact HB.out | apply below_alloc | apply pw_below_drewN | apply below_drew1) | exact HB.out)⟩
  · replace c3 := Bool.eq_false_iff.mpr c3
    subst c3
    have H1 : (some ((([] : List Int)), false)) = some (r1, r2) := by rw [if_neg (show ¬ (false = true) by decide)] at H; exact H
    clear H
    have H := H1
    clear H1
    obtain ⟨y266, hy266⟩ : ∃ y_ : List Int, y_ = (([] : List Int)) := ⟨_, rfl⟩
    replace H : (some (y266, false)) = some (r1, r2) := by first | (rw [hy266]; with_reducible exact H) | (have H2_ := (Option.bind_some _ _).symm.trans H; rw [hy266]; with_reducible exact H2_) | (have H2_ := (Option.bind_some _ _).symm.trans H; with_reducible exact H2_) | with_reducible exact H | (rw [hy266]; exact H) | exact H
    have Ny266 := Aside0.mk hy266
    clear hy266
    simp only [Option.some.injEq, Prod.mk.injEq] at H
    obtain ⟨rfl, rfl⟩ := H
    go_enter Try.func38, Try.ntmps38
    go_wp2_with (first | ((with_reducible refine gate_callee (f := 55) rfl ?_); refine goesL_ (some 5) rfl rfl Try.func55 (by kernel_rfl) rfl #[.slice A0 l0.length c0] rfl (by (try simp only [List.map_toArray, List.map_cons, List.map_nil]); first | done | rfl | (simp only [List.length_drop, List.length_take]; rfl)) ?_; (with_reducible refine (spec_l13Cells.calls k _ _ l0 false _ ?side1 ?side2 A2.out).mono ?_); (case side1 => repeat (first | exact HR0.out | (with_reducible refine Kd.C_alloc ?_ _) | (with_reducible refine Kd.C_drewN ?_ _) | (with_reducible refine Kd.C_drew ?_))); (case side2 => exact HC0.out); rintro e w' ⟨rfl, ⟨nd, rfl⟩⟩; refine ⟨_, rfl, ?_⟩) | ((with_reducible refine gate_dst (N := 7) rfl ?_); refine Kd.R_lit (Kd.int .i64) _ 3 ?hg (N := 7) ?hd (xs := ([] : List Int)) (inner := []) (ok := fun _ => True) (okp := fun _ => True) ?hr ?hp (fun _ hk => hk) trivial (Below.refl _ _) (Nat.le_refl _) (by simp) ?_; (case hd => rfl); (case hg => rfl); (case hr => first | (go_simp; done) | (go_simp; rfl)); (case hp => exact (Reps.none _ _)); intro v267 w6 ho7 hb hg_ hnew_; clear hg_ hnew_; (first | rw [← Ny266.out] at ho7 | (simp only [Int.reduceToNat] at ho7; rw [← Ny266.out] at ho7)); have n0_ := Aside0.mk (Kd.R_lower ho7 (below_size (by repeat (first | (with_reducible first | exact HB.out | apply below_alloc | apply pw_below_drewN | apply below_drew1) | exact HB.out)))); have n1_ := Aside0.mk (below_step (by repeat (first | (with_reducible first | exact HB.out | apply below_alloc | apply pw_below_drewN | apply below_drew1) | exact HB.out)) hb); clear HB; have HO268 := n0_; have HB := n1_; clear n0_ n1_; clear hb ho7))
    go_ret2
    exact ⟨_, by first | rfl | (simp [errW_none, errW_some] <;> rfl) | (simp [*, errW_none, errW_some] <;> rfl), by (with_reducible repeat (first | apply Kd.R_alloc | apply Kd.R_drewN | apply Kd.R_drew)); exact HO268.out, by repeat (first | (with_reducible first | exact HB.out | apply below_alloc | apply pw_below_drewN | apply below_drew1) | exact HB.out)⟩

end Go.Proofs.Ytcbjlaphoajngaa.PCe
