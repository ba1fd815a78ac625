-- Written by a program of this session (xprint).
import Derived.Test.YtcbjlaphoajngaaPSpx0
import Derived.Test.YtcbjlaphoajngaaPSpx1
import Derived.Test.YtcbjlaphoajngaaPSpx2
import Derived.Test.YtcbjlaphoajngaaPSpx4
namespace Go.Proofs.Ytcbjlaphoajngaa.PSp
open Go.RowKit Go.Proofs.YtcbjlaphoajngaaW.PrintWords Go.Proofs.YtcbjlaphoajngaaW.PrintLast Go.Proofs.YtcbjlaphoajngaaW.PrintMore
attribute [local go_sem] max2_int min2_int max_two min_two max_three min_three max_four min_four   -- for this text's walks alone
set_option linter.unusedVariables false
set_option linter.unusedSimpArgs false

/-! ### laws_FnSplitWidths: function 6 -/
mutual
def laws_FnSplitWidths.j0 : Nat → List Int → Int → List Int → Bool → List Int → Bool → Bool → Option (Bool)
  | 0, _, _, _, _, _, _, _ => none
  | k + 1, x3, x4, x5, x6, x7, x8, x45 => if x45 = true then ((laws_daInts.f k x5 x7).bind fun t245 => (if t245 = true then (some (x6 == x8)) else (some false))) else (laws_FnSplitWidths.l0 k x3 x4 x5 0 0 0)
def laws_FnSplitWidths.l0 : Nat → List Int → Int → List Int → Int → Int → Int → Option (Bool)
  | 0, _, _, _, _, _, _ => none
  | k + 1, x3, x4, x5, x9, x10, x11 => if x11 < (x5.length : Int) then (if 0 ≤ x11 then (if (rd x5 x11) < 0 then (laws_FnSplitWidths.j2 k x3 x4 x5 x9 x10 x11 true) else (if x11 < (x3.length : Int) then (laws_FnSplitWidths.j2 k x3 x4 x5 x9 x10 x11 (decide ((rd x5 x11) > (rd x3 x11)))) else (none))) else (none)) else (if x9 = x4 then (if x10 ≥ x4 then (some true) else (if x9 = x10 then (some (decide (x10 ≤ x4))) else (some false))) else (if x9 = x10 then (some (decide (x10 ≤ x4))) else (some false)))
def laws_FnSplitWidths.j2 : Nat → List Int → Int → List Int → Int → Int → Int → Bool → Option (Bool)
  | 0, _, _, _, _, _, _, _ => none
  | k + 1, x3, x4, x5, x9, x10, x11, x75 => if x75 = true then (some false) else (laws_FnSplitWidths.l1 k x3 x4 x5 x9 x10 x11 0)
def laws_FnSplitWidths.l1 : Nat → List Int → Int → List Int → Int → Int → Int → Int → Option (Bool)
  | 0, _, _, _, _, _, _, _ => none
  | k + 1, x3, x4, x5, x9, x10, x11, x12 => if x12 < (x5.length : Int) then (if 0 ≤ x11 then (if x11 < (x5.length : Int) then (if x11 < (x3.length : Int) then (if (rd x5 x11) < (rd x3 x11) then (if 0 ≤ x12 then (if (rd x5 x12) > (wrap64 ((rd x5 x11) + 1)) then (some false) else (laws_FnSplitWidths.l1 k x3 x4 x5 x9 x10 x11 (wrap64 (x12 + 1)))) else (none)) else (laws_FnSplitWidths.l1 k x3 x4 x5 x9 x10 x11 (wrap64 (x12 + 1)))) else (none)) else (none)) else (none)) else (if 0 ≤ x11 then (if x11 < (x5.length : Int) then (if x11 < (x3.length : Int) then (laws_FnSplitWidths.l0 k x3 x4 x5 (wrap64 (x9 + (rd x5 x11))) (wrap64 (x10 + (rd x3 x11))) (wrap64 (x11 + 1))) else (none)) else (none)) else (none))
end
def laws_FnSplitWidths.f (k : Nat) (l0 : List Int) : Option (Bool) := if (l0.length : Int) > 1048576 then (some true) else ((spec_DrawSplitWidths.f k l0).bind fun bt232 => ((impl_SplitWidths.f k bt232.1 bt232.2).bind fun bt236 => ((spec_SplitWidths.f k bt232.1 bt232.2).bind fun bt240 => ((laws_daInts.f k bt236.1 bt240.1).bind fun t244 => (if t244 = true then (if (bt236.2 != bt240.2) = true then (laws_FnSplitWidths.j0 k bt232.1 bt232.2 bt236.1 bt236.2 bt240.1 bt240.2 true) else (laws_FnSplitWidths.j0 k bt232.1 bt232.2 bt236.1 bt236.2 bt240.1 bt240.2 (!bt236.2))) else (laws_FnSplitWidths.j0 k bt232.1 bt232.2 bt236.1 bt236.2 bt240.1 bt240.2 true))))))
theorem laws_FnSplitWidths.mono_l : ∀ k, (∀ y0 y1 y2 y3 y4 y5 y6, LeO (laws_FnSplitWidths.j0 k y0 y1 y2 y3 y4 y5 y6) (laws_FnSplitWidths.j0 (k + 1) y0 y1 y2 y3 y4 y5 y6)) ∧ (∀ y0 y1 y2 y3 y4 y5, LeO (laws_FnSplitWidths.l0 k y0 y1 y2 y3 y4 y5) (laws_FnSplitWidths.l0 (k + 1) y0 y1 y2 y3 y4 y5)) ∧ (∀ y0 y1 y2 y3 y4 y5 y6, LeO (laws_FnSplitWidths.j2 k y0 y1 y2 y3 y4 y5 y6) (laws_FnSplitWidths.j2 (k + 1) y0 y1 y2 y3 y4 y5 y6)) ∧ (∀ y0 y1 y2 y3 y4 y5 y6, LeO (laws_FnSplitWidths.l1 k y0 y1 y2 y3 y4 y5 y6) (laws_FnSplitWidths.l1 (k + 1) y0 y1 y2 y3 y4 y5 y6))
  | 0 => ⟨fun _ _ _ _ _ _ _ r h => by simp [laws_FnSplitWidths.j0] at h, fun _ _ _ _ _ _ r h => by simp [laws_FnSplitWidths.l0] at h, fun _ _ _ _ _ _ _ r h => by simp [laws_FnSplitWidths.j2] at h, fun _ _ _ _ _ _ _ r h => by simp [laws_FnSplitWidths.l1] at h⟩
  | k + 1 => by
    obtain ⟨ih0, ih1, ih2, ih3⟩ := laws_FnSplitWidths.mono_l k
    refine ⟨?_, ?_, ?_, ?_⟩
    · intro y0 y1 y2 y3 y4 y5 y6
      unfold laws_FnSplitWidths.j0
      repeat' first
      | (with_reducible exact ih0 _ _ _ _ _ _ _)
      | (with_reducible exact ih1 _ _ _ _ _ _)
      | (with_reducible exact ih2 _ _ _ _ _ _ _)
      | (with_reducible exact ih3 _ _ _ _ _ _ _)
      | (with_reducible exact impl_SplitWidths.mono _ _ _)
      | (with_reducible exact laws_daInts.mono _ _ _)
      | (with_reducible exact spec_DrawSplitWidths.mono _ _)
      | (with_reducible exact spec_SplitWidths.mono _ _ _)
      | (with_reducible exact LeO.refl _)
      | (with_reducible exact LeO.none _)
      | (with_reducible refine LeO.ite ?_ ?_)
      | (with_reducible refine LeO.bind ?_ (fun _ => ?_))
      | exact ih0 _ _ _ _ _ _ _
      | exact ih1 _ _ _ _ _ _
      | exact ih2 _ _ _ _ _ _ _
      | exact ih3 _ _ _ _ _ _ _
      | exact impl_SplitWidths.mono _ _ _
      | exact laws_daInts.mono _ _ _
      | exact spec_DrawSplitWidths.mono _ _
      | exact spec_SplitWidths.mono _ _ _
      | exact LeO.none _
      | refine LeO.ite ?_ ?_
      | refine LeO.bind ?_ (fun _ => ?_)
    · intro y0 y1 y2 y3 y4 y5
      unfold laws_FnSplitWidths.l0
      repeat' first
      | (with_reducible exact ih0 _ _ _ _ _ _ _)
      | (with_reducible exact ih1 _ _ _ _ _ _)
      | (with_reducible exact ih2 _ _ _ _ _ _ _)
      | (with_reducible exact ih3 _ _ _ _ _ _ _)
      | (with_reducible exact impl_SplitWidths.mono _ _ _)
      | (with_reducible exact laws_daInts.mono _ _ _)
      | (with_reducible exact spec_DrawSplitWidths.mono _ _)
      | (with_reducible exact spec_SplitWidths.mono _ _ _)
      | (with_reducible exact LeO.refl _)
      | (with_reducible exact LeO.none _)
      | (with_reducible refine LeO.ite ?_ ?_)
      | (with_reducible refine LeO.bind ?_ (fun _ => ?_))
      | exact ih0 _ _ _ _ _ _ _
      | exact ih1 _ _ _ _ _ _
      | exact ih2 _ _ _ _ _ _ _
      | exact ih3 _ _ _ _ _ _ _
      | exact impl_SplitWidths.mono _ _ _
      | exact laws_daInts.mono _ _ _
      | exact spec_DrawSplitWidths.mono _ _
      | exact spec_SplitWidths.mono _ _ _
      | exact LeO.none _
      | refine LeO.ite ?_ ?_
      | refine LeO.bind ?_ (fun _ => ?_)
    · intro y0 y1 y2 y3 y4 y5 y6
      unfold laws_FnSplitWidths.j2
      repeat' first
      | (with_reducible exact ih0 _ _ _ _ _ _ _)
      | (with_reducible exact ih1 _ _ _ _ _ _)
      | (with_reducible exact ih2 _ _ _ _ _ _ _)
      | (with_reducible exact ih3 _ _ _ _ _ _ _)
      | (with_reducible exact impl_SplitWidths.mono _ _ _)
      | (with_reducible exact laws_daInts.mono _ _ _)
      | (with_reducible exact spec_DrawSplitWidths.mono _ _)
      | (with_reducible exact spec_SplitWidths.mono _ _ _)
      | (with_reducible exact LeO.refl _)
      | (with_reducible exact LeO.none _)
      | (with_reducible refine LeO.ite ?_ ?_)
      | (with_reducible refine LeO.bind ?_ (fun _ => ?_))
      | exact ih0 _ _ _ _ _ _ _
      | exact ih1 _ _ _ _ _ _
      | exact ih2 _ _ _ _ _ _ _
      | exact ih3 _ _ _ _ _ _ _
      | exact impl_SplitWidths.mono _ _ _
      | exact laws_daInts.mono _ _ _
      | exact spec_DrawSplitWidths.mono _ _
      | exact spec_SplitWidths.mono _ _ _
      | exact LeO.none _
      | refine LeO.ite ?_ ?_
      | refine LeO.bind ?_ (fun _ => ?_)
    · intro y0 y1 y2 y3 y4 y5 y6
      unfold laws_FnSplitWidths.l1
      repeat' first
      | (with_reducible exact ih0 _ _ _ _ _ _ _)
      | (with_reducible exact ih1 _ _ _ _ _ _)
      | (with_reducible exact ih2 _ _ _ _ _ _ _)
      | (with_reducible exact ih3 _ _ _ _ _ _ _)
      | (with_reducible exact impl_SplitWidths.mono _ _ _)
      | (with_reducible exact laws_daInts.mono _ _ _)
      | (with_reducible exact spec_DrawSplitWidths.mono _ _)
      | (with_reducible exact spec_SplitWidths.mono _ _ _)
      | (with_reducible exact LeO.refl _)
      | (with_reducible exact LeO.none _)
      | (with_reducible refine LeO.ite ?_ ?_)
      | (with_reducible refine LeO.bind ?_ (fun _ => ?_))
      | exact ih0 _ _ _ _ _ _ _
      | exact ih1 _ _ _ _ _ _
      | exact ih2 _ _ _ _ _ _ _
      | exact ih3 _ _ _ _ _ _ _
      | exact impl_SplitWidths.mono _ _ _
      | exact laws_daInts.mono _ _ _
      | exact spec_DrawSplitWidths.mono _ _
      | exact spec_SplitWidths.mono _ _ _
      | exact LeO.none _
      | refine LeO.ite ?_ ?_
      | refine LeO.bind ?_ (fun _ => ?_)
theorem laws_FnSplitWidths.mono : ∀ a0 k, LeO (laws_FnSplitWidths.f k a0) (laws_FnSplitWidths.f (k + 1) a0) := by
  intro a0 k
  obtain ⟨ih0, ih1, ih2, ih3⟩ := laws_FnSplitWidths.mono_l k
  unfold laws_FnSplitWidths.f
  repeat' first
      | (with_reducible exact ih0 _ _ _ _ _ _ _)
      | (with_reducible exact ih1 _ _ _ _ _ _)
      | (with_reducible exact ih2 _ _ _ _ _ _ _)
      | (with_reducible exact ih3 _ _ _ _ _ _ _)
      | (with_reducible exact impl_SplitWidths.mono _ _ _)
      | (with_reducible exact laws_daInts.mono _ _ _)
      | (with_reducible exact spec_DrawSplitWidths.mono _ _)
      | (with_reducible exact spec_SplitWidths.mono _ _ _)
      | (with_reducible exact LeO.refl _)
      | (with_reducible exact LeO.none _)
      | (with_reducible refine LeO.ite ?_ ?_)
      | (with_reducible refine LeO.bind ?_ (fun _ => ?_))
      | exact ih0 _ _ _ _ _ _ _
      | exact ih1 _ _ _ _ _ _
      | exact ih2 _ _ _ _ _ _ _
      | exact ih3 _ _ _ _ _ _ _
      | exact impl_SplitWidths.mono _ _ _
      | exact laws_daInts.mono _ _ _
      | exact spec_DrawSplitWidths.mono _ _
      | exact spec_SplitWidths.mono _ _ _
      | exact LeO.none _
      | refine LeO.ite ?_ ?_
      | refine LeO.bind ?_ (fun _ => ?_)
set_option maxHeartbeats 8000000 in
set_option maxRecDepth 100000 in
theorem laws_FnSplitWidths.calls (k : Nat) (A0 : Option Addr) (c0 : Nat) (l0 : List Int) (r : Bool) (w : World) (hr0 : Kd.C (Kd.int .u8) w A0 l0.length l0) (hc0 : l0.length ≤ c0) (h : laws_FnSplitWidths.f k l0 = some r) :
    Calls Try.prog 6 #[.slice A0 l0.length c0] w fun e w' => e = .returned (.bool r) ∧ Below w.heap.size w w' := by
  have HR0 := Aside0.mk hr0
  have HC0 := Aside0.mk hc0
  clear hr0 hc0
  have HB := Aside0.mk (Below.refl w.heap.size w)
  have H : (if (l0.length : Int) > 1048576 then (some true) else ((spec_DrawSplitWidths.f k l0).bind fun bt232 => ((impl_SplitWidths.f k bt232.1 bt232.2).bind fun bt236 => ((spec_SplitWidths.f k bt232.1 bt232.2).bind fun bt240 => ((laws_daInts.f k bt236.1 bt240.1).bind fun t244 => (if t244 = true then (if (bt236.2 != bt240.2) = true then (laws_FnSplitWidths.j0 k bt232.1 bt232.2 bt236.1 bt236.2 bt240.1 bt240.2 true) else (laws_FnSplitWidths.j0 k bt232.1 bt232.2 bt236.1 bt236.2 bt240.1 bt240.2 (!bt236.2))) else (laws_FnSplitWidths.j0 k bt232.1 bt232.2 bt236.1 bt236.2 bt240.1 bt240.2 true))))))) = some r := h
  clear h
  by_cases c2 : (l0.length : Int) > 1048576
  · rw [if_pos c2] at H
    have c2b0 : decide (1048576 < (l0.length : Int)) = true := decide_eq_true c2
    have c2b1 : decide (1048576 < l0.length) = true := decide_eq_true (by omega)
    clear c2
    obtain rfl := Option.some.inj H
    go_enter Try.func6, Try.ntmps6
    go_wp2
    repeat (go_quiet (fail); try go_wp2)
    go_ret
    exact ⟨by first | rfl | (simp [errW_none, errW_some] <;> rfl) | (simp [*, errW_none, errW_some] <;> rfl), by repeat (first | (with_reducible first | exact HB.out | apply below_alloc | apply pw_below_drewN | apply below_drew1) | exact HB.out)⟩
  · rw [if_neg c2] at H
    have c2b0 : decide (1048576 < (l0.length : Int)) = false := decide_eq_false c2
    have c2b1 : decide (1048576 < l0.length) = false := decide_eq_false (by omega)
    clear c2
    replace H := Option.bind_eq_some_iff.mp H
    obtain ⟨⟨t232, t233⟩, A30, H⟩ := H
    replace H : ((impl_SplitWidths.f k t232 t233).bind fun bt236 => ((spec_SplitWidths.f k t232 t233).bind fun bt240 => ((laws_daInts.f k bt236.1 bt240.1).bind fun t244 => (if t244 = true then (if (bt236.2 != bt240.2) = true then (laws_FnSplitWidths.j0 k t232 t233 bt236.1 bt236.2 bt240.1 bt240.2 true) else (laws_FnSplitWidths.j0 k t232 t233 bt236.1 bt236.2 bt240.1 bt240.2 (!bt236.2))) else (laws_FnSplitWidths.j0 k t232 t233 bt236.1 bt236.2 bt240.1 bt240.2 true))))) = some r := H
    have A3 := Aside0.mk A30
    clear A30
    replace H := Option.bind_eq_some_iff.mp H
    obtain ⟨⟨t236, t237⟩, A40, H⟩ := H
    replace H : ((spec_SplitWidths.f k t232 t233).bind fun bt240 => ((laws_daInts.f k t236 bt240.1).bind fun t244 => (if t244 = true then (if (t237 != bt240.2) = true then (laws_FnSplitWidths.j0 k t232 t233 t236 t237 bt240.1 bt240.2 true) else (laws_FnSplitWidths.j0 k t232 t233 t236 t237 bt240.1 bt240.2 (!t237))) else (laws_FnSplitWidths.j0 k t232 t233 t236 t237 bt240.1 bt240.2 true)))) = some r := H
    have A4 := Aside0.mk A40
    clear A40
    replace H := Option.bind_eq_some_iff.mp H
    obtain ⟨⟨t240, t241⟩, A50, H⟩ := H
    replace H : ((laws_daInts.f k t236 t240).bind fun t244 => (if t244 = true then (if (t237 != t241) = true then (laws_FnSplitWidths.j0 k t232 t233 t236 t237 t240 t241 true) else (laws_FnSplitWidths.j0 k t232 t233 t236 t237 t240 t241 (!t237))) else (laws_FnSplitWidths.j0 k t232 t233 t236 t237 t240 t241 true))) = some r := H
    have A5 := Aside0.mk A50
    clear A50
    have HC6 := Aside0.mk H
    clear H
    go_enter Try.func6, Try.ntmps6
    go_upto_region 6 with (first | (go_at_call 25; (with_reducible refine (spec_DrawSplitWidths.calls k _ _ l0 t232 t233 _ ?side1 ?side2 A3.out).mono ?_); (case side1 => repeat (first | exact HR0.out | (with_reducible refine Kd.C_alloc ?_ _) | (with_reducible refine Kd.C_drewN ?_ _) | (with_reducible refine Kd.C_drew ?_))); (case side2 => exact HC0.out); rintro e w7 ⟨v234, rfl, ho0, hb⟩; have n0_ := Aside0.mk (Kd.R_lower ho0 (below_size (by repeat (first | (with_reducible first | exact HB.out | apply below_alloc | apply pw_below_drewN | apply below_drew1) | exact HB.out)))); have n1_ := Aside0.mk (below_step (by repeat (first | (with_reducible first | exact HB.out | apply below_alloc | apply pw_below_drewN | apply below_drew1) | exact HB.out)) hb); clear HB; have HO235 := n0_; have HB := n1_; clear n0_ n1_; (try clear hb); (try clear hb2); (try clear hk); (try clear hi); (try clear ho0); obtain ⟨Ao8, co8, eo8⟩ := Kd.R_slice HO235.out; subst eo8) | (go_at_call 21; (with_reducible refine (impl_SplitWidths.calls k _ _ t232 t233 t236 t237 _ ?side1 ?side2 A4.out).mono ?_); (case side1 => repeat (first | exact (Kd.R_reads' HO235.out).2.2 | (with_reducible refine Kd.C_alloc ?_ _) | (with_reducible refine Kd.C_drewN ?_ _) | (with_reducible refine Kd.C_drew ?_))); (case side2 => exact (Kd.R_reads' HO235.out).2.1); rintro e w9 ⟨v238, rfl, ho0, hb⟩; have n0_ := Aside0.mk (Kd.R_elder' (by (with_reducible repeat (first | apply Kd.R_alloc | apply Kd.R_drewN | apply Kd.R_drew)); exact HO235.out) (Kd.R_base ho0) hb); have n1_ := Aside0.mk (Kd.R_lower (Kd.R_new' ho0 (Kd.R_lt (by (with_reducible repeat (first | apply Kd.R_alloc | apply Kd.R_drewN | apply Kd.R_drew)); exact HO235.out))) (below_size (by repeat (first | (with_reducible first | exact HB.out | apply below_alloc | apply pw_below_drewN | apply below_drew1) | exact HB.out)))); have n2_ := Aside0.mk (below_step (by repeat (first | (with_reducible first | exact HB.out | apply below_alloc | apply pw_below_drewN | apply below_drew1) | exact HB.out)) hb); clear HO235; clear HB; have HO235 := n0_; have HO239 := n1_; have HB := n2_; clear n0_ n1_ n2_; (try clear hb); (try clear hb2); (try clear hk); (try clear hi); (try clear ho0)) | (go_at_call 19; (with_reducible refine (spec_SplitWidths.calls k _ _ t232 t233 t240 t241 _ ?side1 ?side2 A5.out).mono ?_); (case side1 => repeat (first | exact (Kd.R_reads' HO235.out).2.2 | (with_reducible refine Kd.C_alloc ?_ _) | (with_reducible refine Kd.C_drewN ?_ _) | (with_reducible refine Kd.C_drew ?_))); (case side2 => exact (Kd.R_reads' HO235.out).2.1); rintro e w10 ⟨v242, rfl, ho0, hb⟩; have n0_ := Aside0.mk (Kd.R_elder' (by (with_reducible repeat (first | apply Kd.R_alloc | apply Kd.R_drewN | apply Kd.R_drew)); exact HO235.out) (Kd.R_base ho0) hb); have n1_ := Aside0.mk (Kd.R_elder' (by (with_reducible repeat (first | apply Kd.R_alloc | apply Kd.R_drewN | apply Kd.R_drew)); exact HO239.out) (Kd.R_base ho0) hb); have n2_ := Aside0.mk (Kd.R_lower (Kd.R_new' (Kd.R_new' ho0 (Kd.R_lt (by (with_reducible repeat (first | apply Kd.R_alloc | apply Kd.R_drewN | apply Kd.R_drew)); exact HO235.out))) (Kd.R_lt (by (with_reducible repeat (first | apply Kd.R_alloc | apply Kd.R_drewN | apply Kd.R_drew)); exact HO239.out))) (below_size (by repeat (first | (with_reducible first | exact HB.out | apply below_alloc | apply pw_below_drewN | apply below_drew1) | exact HB.out)))); have n3_ := Aside0.mk (below_step (by repeat (first | (with_reducible first | exact HB.out | apply below_alloc | apply pw_below_drewN | apply below_drew1) | exact HB.out)) hb); clear HO235; clear HO239; clear HB; have HO235 := n0_; have HO239 := n1_; have HO243 := n2_; have HB := n3_; clear n0_ n1_ n2_ n3_; (try clear hb); (try clear hb2); (try clear hk); (try clear hi); (try clear ho0)))
    repeat (go_quiet (first | (go_at_call 25; (with_reducible refine (spec_DrawSplitWidths.calls k _ _ l0 t232 t233 _ ?side1 ?side2 A3.out).mono ?_); (case side1 => repeat (first | exact HR0.out | (with_reducible refine Kd.C_alloc ?_ _) | (with_reducible refine Kd.C_drewN ?_ _) | (with_reducible refine Kd.C_drew ?_))); (case side2 => exact HC0.out); rintro e w7 ⟨v234, rfl, ho0, hb⟩; have n0_ := Aside0.mk (Kd.R_lower ho0 (below_size (by repeat (first | (with_reducible first | exact HB.out | apply below_alloc | apply pw_below_drewN | apply below_drew1) | exact HB.out)))); have n1_ := Aside0.mk (below_step (by repeat (first | (with_reducible first | exact HB.out | apply below_alloc | apply pw_below_drewN | apply below_drew1) | exact HB.out)) hb); clear HB; have HO235 := n0_; have HB := n1_; clear n0_ n1_; (try clear hb); (try clear hb2); (try clear hk); (try clear hi); (try clear ho0); obtain ⟨Ao8, co8, eo8⟩ := Kd.R_slice HO235.out; subst eo8) | (go_at_call 21; (with_reducible refine (impl_SplitWidths.calls k _ _ t232 t233 t236 t237 _ ?side1 ?side2 A4.out).mono ?_); (case side1 => repeat (first | exact (Kd.R_reads' HO235.out).2.2 | (with_reducible refine Kd.C_alloc ?_ _) | (with_reducible refine Kd.C_drewN ?_ _) | (with_reducible refine Kd.C_drew ?_))); (case side2 => exact (Kd.R_reads' HO235.out).2.1); rintro e w9 ⟨v238, rfl, ho0, hb⟩; have n0_ := Aside0.mk (Kd.R_elder' (by (with_reducible repeat (first | apply Kd.R_alloc | apply Kd.R_drewN | apply Kd.R_drew)); exact HO235.out) (Kd.R_base ho0) hb); have n1_ := Aside0.mk (Kd.R_lower (Kd.R_new' ho0 (Kd.R_lt (by (with_reducible repeat (first | apply Kd.R_alloc | apply Kd.R_drewN | apply Kd.R_drew)); exact HO235.out))) (below_size (by repeat (first | (with_reducible first | exact HB.out | apply below_alloc | apply pw_below_drewN | apply below_drew1) | exact HB.out)))); have n2_ := Aside0.mk (below_step (by repeat (first | (with_reducible first | exact HB.out | apply below_alloc | apply pw_below_drewN | apply below_drew1) | exact HB.out)) hb); clear HO235; clear HB; have HO235 := n0_; have HO239 := n1_; have HB := n2_; clear n0_ n1_ n2_; (try clear hb); (try clear hb2); (try clear hk); (try clear hi); (try clear ho0)) | (go_at_call 19; (with_reducible refine (spec_SplitWidths.calls k _ _ t232 t233 t240 t241 _ ?side1 ?side2 A5.out).mono ?_); (case side1 => repeat (first | exact (Kd.R_reads' HO235.out).2.2 | (with_reducible refine Kd.C_alloc ?_ _) | (with_reducible refine Kd.C_drewN ?_ _) | (with_reducible refine Kd.C_drew ?_))); (case side2 => exact (Kd.R_reads' HO235.out).2.1); rintro e w10 ⟨v242, rfl, ho0, hb⟩; have n0_ := Aside0.mk (Kd.R_elder' (by (with_reducible repeat (first | apply Kd.R_alloc | apply Kd.R_drewN | apply Kd.R_drew)); exact HO235.out) (Kd.R_base ho0) hb); have n1_ := Aside0.mk (Kd.R_elder' (by (with_reducible repeat (first | apply Kd.R_alloc | apply Kd.R_drewN | apply Kd.R_drew)); exact HO239.out) (Kd.R_base ho0) hb); have n2_ := Aside0.mk (Kd.R_lower (Kd.R_new' (Kd.R_new' ho0 (Kd.R_lt (by (with_reducible repeat (first | apply Kd.R_alloc | apply Kd.R_drewN | apply Kd.R_drew)); exact HO235.out))) (Kd.R_lt (by (with_reducible repeat (first | apply Kd.R_alloc | apply Kd.R_drewN | apply Kd.R_drew)); exact HO239.out))) (below_size (by repeat (first | (with_reducible first | exact HB.out | apply below_alloc | apply pw_below_drewN | apply below_drew1) | exact HB.out)))); have n3_ := Aside0.mk (below_step (by repeat (first | (with_reducible first | exact HB.out | apply below_alloc | apply pw_below_drewN | apply below_drew1) | exact HB.out)) hb); clear HO235; clear HO239; clear HB; have HO235 := n0_; have HO239 := n1_; have HO243 := n2_; have HB := n3_; clear n0_ n1_ n2_ n3_; (try clear hb); (try clear hb2); (try clear hk); (try clear hi); (try clear ho0))); go_upto_region 6 with (first | (go_at_call 25; (with_reducible refine (spec_DrawSplitWidths.calls k _ _ l0 t232 t233 _ ?side1 ?side2 A3.out).mono ?_); (case side1 => repeat (first | exact HR0.out | (with_reducible refine Kd.C_alloc ?_ _) | (with_reducible refine Kd.C_drewN ?_ _) | (with_reducible refine Kd.C_drew ?_))); (case side2 => exact HC0.out); rintro e w7 ⟨v234, rfl, ho0, hb⟩; have n0_ := Aside0.mk (Kd.R_lower ho0 (below_size (by repeat (first | (with_reducible first | exact HB.out | apply below_alloc | apply pw_below_drewN | apply below_drew1) | exact HB.out)))); have n1_ := Aside0.mk (below_step (by repeat (first | (with_reducible first | exact HB.out | apply below_alloc | apply pw_below_drewN | apply below_drew1) | exact HB.out)) hb); clear HB; have HO235 := n0_; have HB := n1_; clear n0_ n1_; (try clear hb); (try clear hb2); (try clear hk); (try clear hi); (try clear ho0); obtain ⟨Ao8, co8, eo8⟩ := Kd.R_slice HO235.out; subst eo8) | (go_at_call 21; (with_reducible refine (impl_SplitWidths.calls k _ _ t232 t233 t236 t237 _ ?side1 ?side2 A4.out).mono ?_); (case side1 => repeat (first | exact (Kd.R_reads' HO235.out).2.2 | (with_reducible refine Kd.C_alloc ?_ _) | (with_reducible refine Kd.C_drewN ?_ _) | (with_reducible refine Kd.C_drew ?_))); (case side2 => exact (Kd.R_reads' HO235.out).2.1); rintro e w9 ⟨v238, rfl, ho0, hb⟩; have n0_ := Aside0.mk (Kd.R_elder' (by (with_reducible repeat (first | apply Kd.R_alloc | apply Kd.R_drewN | apply Kd.R_drew)); exact HO235.out) (Kd.R_base ho0) hb); have n1_ := Aside0.mk (Kd.R_lower (Kd.R_new' ho0 (Kd.R_lt (by (with_reducible repeat (first | apply Kd.R_alloc | apply Kd.R_drewN | apply Kd.R_drew)); exact HO235.out))) (below_size (by repeat (first | (with_reducible first | exact HB.out | apply below_alloc | apply pw_below_drewN | apply below_drew1) | exact HB.out)))); have n2_ := Aside0.mk (below_step (by repeat (first | (with_reducible first | exact HB.out | apply below_alloc | apply pw_below_drewN | apply below_drew1) | exact HB.out)) hb); clear HO235; clear HB; have HO235 := n0_; have HO239 := n1_; have HB := n2_; clear n0_ n1_ n2_; (try clear hb); (try clear hb2); (try clear hk); (try clear hi); (try clear ho0)) | (go_at_call 19; (with_reducible refine (spec_SplitWidths.calls k _ _ t232 t233 t240 t241 _ ?side1 ?side2 A5.out).mono ?_); (case side1 => repeat (first | exact (Kd.R_reads' HO235.out).2.2 | (with_reducible refine Kd.C_alloc ?_ _) | (with_reducible refine Kd.C_drewN ?_ _) | (with_reducible refine Kd.C_drew ?_))); (case side2 => exact (Kd.R_reads' HO235.out).2.1); rintro e w10 ⟨v242, rfl, ho0, hb⟩; have n0_ := Aside0.mk (Kd.R_elder' (by (with_reducible repeat (first | apply Kd.R_alloc | apply Kd.R_drewN | apply Kd.R_drew)); exact HO235.out) (Kd.R_base ho0) hb); have n1_ := Aside0.mk (Kd.R_elder' (by (with_reducible repeat (first | apply Kd.R_alloc | apply Kd.R_drewN | apply Kd.R_drew)); exact HO239.out) (Kd.R_base ho0) hb); have n2_ := Aside0.mk (Kd.R_lower (Kd.R_new' (Kd.R_new' ho0 (Kd.R_lt (by (with_reducible repeat (first | apply Kd.R_alloc | apply Kd.R_drewN | apply Kd.R_drew)); exact HO235.out))) (Kd.R_lt (by (with_reducible repeat (first | apply Kd.R_alloc | apply Kd.R_drewN | apply Kd.R_drew)); exact HO239.out))) (below_size (by repeat (first | (with_reducible first | exact HB.out | apply below_alloc | apply pw_below_drewN | apply below_drew1) | exact HB.out)))); have n3_ := Aside0.mk (below_step (by repeat (first | (with_reducible first | exact HB.out | apply below_alloc | apply pw_below_drewN | apply below_drew1) | exact HB.out)) hb); clear HO235; clear HO239; clear HB; have HO235 := n0_; have HO239 := n1_; have HO243 := n2_; have HB := n3_; clear n0_ n1_ n2_ n3_; (try clear hb); (try clear hb2); (try clear hk); (try clear hi); (try clear ho0))))
    (try simp only [Act.put, List.setIfInBounds_toArray, List.set_cons_zero, List.set_cons_succ])
    go_cut [45] (fun v45 wc => ∃ (kq : Nat) (x45_5 : Bool), v45 = .bool x45_5 ∧ Aside0 (laws_FnSplitWidths.j0 kq t232 t233 t236 t237 t240 t241 x45_5 = some r) ∧ Aside0 (kq ≤ k) ∧ Aside0 (Kd.R (Kd.int .i64) 3 wc w.heap.size (fun k_ => some k_ ≠ (v238 : Value).ownBlock ∧ some k_ ≠ (v242 : Value).ownBlock) (.slice Ao8 t232.length co8) t232) ∧ Aside0 (Kd.R (Kd.int .i64) 3 wc w.heap.size (fun k_ => some k_ ≠ ((.slice Ao8 t232.length co8) : Value).ownBlock ∧ some k_ ≠ (v242 : Value).ownBlock) v238 t236) ∧ Aside0 (Kd.R (Kd.int .i64) 3 wc w.heap.size (fun k_ => some k_ ≠ ((.slice Ao8 t232.length co8) : Value).ownBlock ∧ some k_ ≠ (v238 : Value).ownBlock) v242 t240) ∧ Aside0 (Below w.heap.size w wc))
    case first =>
      have H := HC6.out
      clear HC6
      replace H := Option.bind_eq_some_iff.mp H
      obtain ⟨t244, A110, H⟩ := H
      replace H : (if t244 = true then (if (t237 != t241) = true then (laws_FnSplitWidths.j0 k t232 t233 t236 t237 t240 t241 true) else (laws_FnSplitWidths.j0 k t232 t233 t236 t237 t240 t241 (!t237))) else (laws_FnSplitWidths.j0 k t232 t233 t236 t237 t240 t241 true)) = some r := H
      have A11 := Aside0.mk A110
      clear A110
      by_cases c12 : t244 = true
      · subst c12
        have H1 : (if (t237 != t241) = true then (laws_FnSplitWidths.j0 k t232 t233 t236 t237 t240 t241 true) else (laws_FnSplitWidths.j0 k t232 t233 t236 t237 t240 t241 (!t237))) = some r := by rw [if_pos rfl] at H; exact H
        clear H
        have H := H1
        clear H1
        by_cases c13 : (t237 != t241) = true
        · rw [if_pos c13] at H
          have c13b0 : (t237 != t241) = true := c13
          (try (have c13b1 : decide (t237 = t241) = false := by simpa using c13))
          (try (have c13b2 : (t237 == t241) = false := by simpa using c13))
          (try (have c13b3 : ¬ (t237 = t241) := by simpa using c13))
          clear c13
          (first | rw [c13b0] | (simp only [i64_w, i32_w]; rw [c13b0]) | skip)
          have H' := Aside0.mk H
          clear H
          obtain ⟨Ao14, co14, eo14⟩ := Kd.R_slice HO239.out
          subst eo14
          obtain ⟨Ao15, co15, eo15⟩ := Kd.R_slice HO243.out
          subst eo15
          go_wp2_with (first | (go_at_call 26; (with_reducible refine (laws_daInts.calls k _ _ t236 _ _ t240 true _ ?side1 ?side2 ?side3 ?side4 A11.out).mono ?_); (case side1 => repeat (first | exact (Kd.R_reads' HO239.out).2.2 | (with_reducible refine Kd.C_alloc ?_ _) | (with_reducible refine Kd.C_drewN ?_ _) | (with_reducible refine Kd.C_drew ?_))); (case side2 => exact (Kd.R_reads' HO239.out).2.1); (case side3 => repeat (first | exact (Kd.R_reads' HO243.out).2.2 | (with_reducible refine Kd.C_alloc ?_ _) | (with_reducible refine Kd.C_drewN ?_ _) | (with_reducible refine Kd.C_drew ?_))); (case side4 => exact (Kd.R_reads' HO243.out).2.1); rintro e w' ⟨rfl, ⟨nd, rfl⟩⟩; (try first | exact ⟨rfl, _, World.drewN_drewN _ _ _⟩ | exact ⟨rfl, _, Eq.trans (World.drewN_drewN _ _ _) (congrArg (World.drewN _) (Nat.add_assoc _ _ _))⟩)))
          repeat (go_quiet (first | (go_at_call 26; (with_reducible refine (laws_daInts.calls k _ _ t236 _ _ t240 true _ ?side1 ?side2 ?side3 ?side4 A11.out).mono ?_); (case side1 => repeat (first | exact (Kd.R_reads' HO239.out).2.2 | (with_reducible refine Kd.C_alloc ?_ _) | (with_reducible refine Kd.C_drewN ?_ _) | (with_reducible refine Kd.C_drew ?_))); (case side2 => exact (Kd.R_reads' HO239.out).2.1); (case side3 => repeat (first | exact (Kd.R_reads' HO243.out).2.2 | (with_reducible refine Kd.C_alloc ?_ _) | (with_reducible refine Kd.C_drewN ?_ _) | (with_reducible refine Kd.C_drew ?_))); (case side4 => exact (Kd.R_reads' HO243.out).2.1); rintro e w' ⟨rfl, ⟨nd, rfl⟩⟩; (try first | exact ⟨rfl, _, World.drewN_drewN _ _ _⟩ | exact ⟨rfl, _, Eq.trans (World.drewN_drewN _ _ _) (congrArg (World.drewN _) (Nat.add_assoc _ _ _))⟩))); try go_wp2_with (first | (go_at_call 26; (with_reducible refine (laws_daInts.calls k _ _ t236 _ _ t240 true _ ?side1 ?side2 ?side3 ?side4 A11.out).mono ?_); (case side1 => repeat (first | exact (Kd.R_reads' HO239.out).2.2 | (with_reducible refine Kd.C_alloc ?_ _) | (with_reducible refine Kd.C_drewN ?_ _) | (with_reducible refine Kd.C_drew ?_))); (case side2 => exact (Kd.R_reads' HO239.out).2.1); (case side3 => repeat (first | exact (Kd.R_reads' HO243.out).2.2 | (with_reducible refine Kd.C_alloc ?_ _) | (with_reducible refine Kd.C_drewN ?_ _) | (with_reducible refine Kd.C_drew ?_))); (case side4 => exact (Kd.R_reads' HO243.out).2.1); rintro e w' ⟨rfl, ⟨nd, rfl⟩⟩; (try first | exact ⟨rfl, _, World.drewN_drewN _ _ _⟩ | exact ⟨rfl, _, Eq.trans (World.drewN_drewN _ _ _) (congrArg (World.drewN _) (Nat.add_assoc _ _ _))⟩))))
          go_meet
          case rel => exact ⟨_, (true), (by first | rfl | (simp; done) | (simp [*]; done)), H', ⟨by first | omega | exact Nat.le_refl _⟩, ⟨by (with_reducible repeat (first | apply Kd.R_alloc | apply Kd.R_drewN | apply Kd.R_drew)); exact Kd.R_mono HO235.out (fun _ hk => ⟨hk.1.2, hk.2⟩)⟩, ⟨by (with_reducible repeat (first | apply Kd.R_alloc | apply Kd.R_drewN | apply Kd.R_drew)); exact Kd.R_mono HO239.out (fun _ hk => ⟨hk.1.2, hk.2⟩)⟩, ⟨by (with_reducible repeat (first | apply Kd.R_alloc | apply Kd.R_drewN | apply Kd.R_drew)); exact Kd.R_mono HO243.out (fun _ hk => ⟨hk.1.2, hk.2⟩)⟩, ⟨by repeat (first | (with_reducible first | exact HB.out | apply below_alloc | apply pw_below_drewN | apply below_drew1) | exact HB.out)⟩⟩
        · rw [if_neg c13] at H
          have c13b0 : (t237 != t241) = false := by simpa using c13
          (try (have c13b1 : decide (t237 = t241) = true := by simpa using c13))
          (try (have c13b2 : (t237 == t241) = true := by simpa using c13))
          clear c13
          (first | rw [c13b0] | (simp only [i64_w, i32_w]; rw [c13b0]) | skip)
          have H' := Aside0.mk H
          clear H
          obtain ⟨Ao16, co16, eo16⟩ := Kd.R_slice HO239.out
          subst eo16
          obtain ⟨Ao17, co17, eo17⟩ := Kd.R_slice HO243.out
          subst eo17
          go_wp2_with (first | (go_at_call 26; (with_reducible refine (laws_daInts.calls k _ _ t236 _ _ t240 true _ ?side1 ?side2 ?side3 ?side4 A11.out).mono ?_); (case side1 => repeat (first | exact (Kd.R_reads' HO239.out).2.2 | (with_reducible refine Kd.C_alloc ?_ _) | (with_reducible refine Kd.C_drewN ?_ _) | (with_reducible refine Kd.C_drew ?_))); (case side2 => exact (Kd.R_reads' HO239.out).2.1); (case side3 => repeat (first | exact (Kd.R_reads' HO243.out).2.2 | (with_reducible refine Kd.C_alloc ?_ _) | (with_reducible refine Kd.C_drewN ?_ _) | (with_reducible refine Kd.C_drew ?_))); (case side4 => exact (Kd.R_reads' HO243.out).2.1); rintro e w' ⟨rfl, ⟨nd, rfl⟩⟩; (try first | exact ⟨rfl, _, World.drewN_drewN _ _ _⟩ | exact ⟨rfl, _, Eq.trans (World.drewN_drewN _ _ _) (congrArg (World.drewN _) (Nat.add_assoc _ _ _))⟩)))
          repeat (go_quiet (first | (go_at_call 26; (with_reducible refine (laws_daInts.calls k _ _ t236 _ _ t240 true _ ?side1 ?side2 ?side3 ?side4 A11.out).mono ?_); (case side1 => repeat (first | exact (Kd.R_reads' HO239.out).2.2 | (with_reducible refine Kd.C_alloc ?_ _) | (with_reducible refine Kd.C_drewN ?_ _) | (with_reducible refine Kd.C_drew ?_))); (case side2 => exact (Kd.R_reads' HO239.out).2.1); (case side3 => repeat (first | exact (Kd.R_reads' HO243.out).2.2 | (with_reducible refine Kd.C_alloc ?_ _) | (with_reducible refine Kd.C_drewN ?_ _) | (with_reducible refine Kd.C_drew ?_))); (case side4 => exact (Kd.R_reads' HO243.out).2.1); rintro e w' ⟨rfl, ⟨nd, rfl⟩⟩; (try first | exact ⟨rfl, _, World.drewN_drewN _ _ _⟩ | exact ⟨rfl, _, Eq.trans (World.drewN_drewN _ _ _) (congrArg (World.drewN _) (Nat.add_assoc _ _ _))⟩))); try go_wp2_with (first | (go_at_call 26; (with_reducible refine (laws_daInts.calls k _ _ t236 _ _ t240 true _ ?side1 ?side2 ?side3 ?side4 A11.out).mono ?_); (case side1 => repeat (first | exact (Kd.R_reads' HO239.out).2.2 | (with_reducible refine Kd.C_alloc ?_ _) | (with_reducible refine Kd.C_drewN ?_ _) | (with_reducible refine Kd.C_drew ?_))); (case side2 => exact (Kd.R_reads' HO239.out).2.1); (case side3 => repeat (first | exact (Kd.R_reads' HO243.out).2.2 | (with_reducible refine Kd.C_alloc ?_ _) | (with_reducible refine Kd.C_drewN ?_ _) | (with_reducible refine Kd.C_drew ?_))); (case side4 => exact (Kd.R_reads' HO243.out).2.1); rintro e w' ⟨rfl, ⟨nd, rfl⟩⟩; (try first | exact ⟨rfl, _, World.drewN_drewN _ _ _⟩ | exact ⟨rfl, _, Eq.trans (World.drewN_drewN _ _ _) (congrArg (World.drewN _) (Nat.add_assoc _ _ _))⟩))))
          go_meet
          case rel => exact ⟨_, (!t237), (by first | rfl | (simp; done) | (simp [*]; done)), H', ⟨by first | omega | exact Nat.le_refl _⟩, ⟨by (with_reducible repeat (first | apply Kd.R_alloc | apply Kd.R_drewN | apply Kd.R_drew)); exact Kd.R_mono HO235.out (fun _ hk => ⟨hk.1.2, hk.2⟩)⟩, ⟨by (with_reducible repeat (first | apply Kd.R_alloc | apply Kd.R_drewN | apply Kd.R_drew)); exact Kd.R_mono HO239.out (fun _ hk => ⟨hk.1.2, hk.2⟩)⟩, ⟨by (with_reducible repeat (first | apply Kd.R_alloc | apply Kd.R_drewN | apply Kd.R_drew)); exact Kd.R_mono HO243.out (fun _ hk => ⟨hk.1.2, hk.2⟩)⟩, ⟨by repeat (first | (with_reducible first | exact HB.out | apply below_alloc | apply pw_below_drewN | apply below_drew1) | exact HB.out)⟩⟩
      · replace c12 := Bool.eq_false_iff.mpr c12
        subst c12
        have H1 : (laws_FnSplitWidths.j0 k t232 t233 t236 t237 t240 t241 true) = some r := by rw [if_neg (show ¬ (false = true) by decide)] at H; exact H
        clear H
        have H := H1
        clear H1
        have H' := Aside0.mk H
        clear H
        obtain ⟨Ao18, co18, eo18⟩ := Kd.R_slice HO239.out
        subst eo18
        obtain ⟨Ao19, co19, eo19⟩ := Kd.R_slice HO243.out
        subst eo19
        go_wp2_with (first | (go_at_call 26; (with_reducible refine (laws_daInts.calls k _ _ t236 _ _ t240 false _ ?side1 ?side2 ?side3 ?side4 A11.out).mono ?_); (case side1 => repeat (first | exact (Kd.R_reads' HO239.out).2.2 | (with_reducible refine Kd.C_alloc ?_ _) | (with_reducible refine Kd.C_drewN ?_ _) | (with_reducible refine Kd.C_drew ?_))); (case side2 => exact (Kd.R_reads' HO239.out).2.1); (case side3 => repeat (first | exact (Kd.R_reads' HO243.out).2.2 | (with_reducible refine Kd.C_alloc ?_ _) | (with_reducible refine Kd.C_drewN ?_ _) | (with_reducible refine Kd.C_drew ?_))); (case side4 => exact (Kd.R_reads' HO243.out).2.1); rintro e w' ⟨rfl, ⟨nd, rfl⟩⟩; (try first | exact ⟨rfl, _, World.drewN_drewN _ _ _⟩ | exact ⟨rfl, _, Eq.trans (World.drewN_drewN _ _ _) (congrArg (World.drewN _) (Nat.add_assoc _ _ _))⟩)))
        repeat (go_quiet (first | (go_at_call 26; (with_reducible refine (laws_daInts.calls k _ _ t236 _ _ t240 false _ ?side1 ?side2 ?side3 ?side4 A11.out).mono ?_); (case side1 => repeat (first | exact (Kd.R_reads' HO239.out).2.2 | (with_reducible refine Kd.C_alloc ?_ _) | (with_reducible refine Kd.C_drewN ?_ _) | (with_reducible refine Kd.C_drew ?_))); (case side2 => exact (Kd.R_reads' HO239.out).2.1); (case side3 => repeat (first | exact (Kd.R_reads' HO243.out).2.2 | (with_reducible refine Kd.C_alloc ?_ _) | (with_reducible refine Kd.C_drewN ?_ _) | (with_reducible refine Kd.C_drew ?_))); (case side4 => exact (Kd.R_reads' HO243.out).2.1); rintro e w' ⟨rfl, ⟨nd, rfl⟩⟩; (try first | exact ⟨rfl, _, World.drewN_drewN _ _ _⟩ | exact ⟨rfl, _, Eq.trans (World.drewN_drewN _ _ _) (congrArg (World.drewN _) (Nat.add_assoc _ _ _))⟩))); try go_wp2_with (first | (go_at_call 26; (with_reducible refine (laws_daInts.calls k _ _ t236 _ _ t240 false _ ?side1 ?side2 ?side3 ?side4 A11.out).mono ?_); (case side1 => repeat (first | exact (Kd.R_reads' HO239.out).2.2 | (with_reducible refine Kd.C_alloc ?_ _) | (with_reducible refine Kd.C_drewN ?_ _) | (with_reducible refine Kd.C_drew ?_))); (case side2 => exact (Kd.R_reads' HO239.out).2.1); (case side3 => repeat (first | exact (Kd.R_reads' HO243.out).2.2 | (with_reducible refine Kd.C_alloc ?_ _) | (with_reducible refine Kd.C_drewN ?_ _) | (with_reducible refine Kd.C_drew ?_))); (case side4 => exact (Kd.R_reads' HO243.out).2.1); rintro e w' ⟨rfl, ⟨nd, rfl⟩⟩; (try first | exact ⟨rfl, _, World.drewN_drewN _ _ _⟩ | exact ⟨rfl, _, Eq.trans (World.drewN_drewN _ _ _) (congrArg (World.drewN _) (Nat.add_assoc _ _ _))⟩))))
        go_meet
        case rel => exact ⟨_, (true), (by first | rfl | (simp; done) | (simp [*]; done)), H', ⟨by first | omega | exact Nat.le_refl _⟩, ⟨by (with_reducible repeat (first | apply Kd.R_alloc | apply Kd.R_drewN | apply Kd.R_drew)); exact Kd.R_mono HO235.out (fun _ hk => ⟨hk.1.2, hk.2⟩)⟩, ⟨by (with_reducible repeat (first | apply Kd.R_alloc | apply Kd.R_drewN | apply Kd.R_drew)); exact Kd.R_mono HO239.out (fun _ hk => ⟨hk.1.2, hk.2⟩)⟩, ⟨by (with_reducible repeat (first | apply Kd.R_alloc | apply Kd.R_drewN | apply Kd.R_drew)); exact Kd.R_mono HO243.out (fun _ hk => ⟨hk.1.2, hk.2⟩)⟩, ⟨by repeat (first | (with_reducible first | exact HB.out | apply below_alloc | apply pw_below_drewN | apply below_drew1) | exact HB.out)⟩⟩
    case rest =>
      clear HC6
      try clear c1
      try clear c2
      try clear c2b0
      try clear c2b1
      try clear p2
      try clear c6
      try clear c12
      try clear c13
      try clear c13b0
      try clear c13b1
      try clear c13b2
      obtain ⟨kq, x45_5, rfl, HA, HJ5, HO_3, HO_5, HO_7, HB⟩ := hcut
      cases kq with
      | zero => exact absurd HA.out (by simp [laws_FnSplitWidths.j0])
      | succ kj5 =>
        have H := HA.out
        clear HA
        simp only [laws_FnSplitWidths.j0] at H
        by_cases c20 : x45_5 = true
        · subst c20
          have H1 : ((laws_daInts.f kj5 t236 t240).bind fun t245 => (if t245 = true then (some (t237 == t241)) else (some false))) = some r := by rw [if_pos rfl] at H; exact H
          clear H
          have H := H1
          clear H1
          replace H := Option.bind_eq_some_iff.mp H
          obtain ⟨t245, A210, H⟩ := H
          replace H : (if t245 = true then (some (t237 == t241)) else (some false)) = some r := H
          have A21 := Aside0.mk A210
          clear A210
          by_cases c22 : t245 = true
          · subst c22
            have H1 : (some (t237 == t241)) = some r := by rw [if_pos rfl] at H; exact H
            clear H
            have H := H1
            clear H1
            obtain rfl := Option.some.inj H
            obtain ⟨Ao23, co23, eo23⟩ := Kd.R_slice HO_5.out
            subst eo23
            obtain ⟨Ao24, co24, eo24⟩ := Kd.R_slice HO_7.out
            subst eo24
            go_wp2_with (first | (go_at_call 26; (with_reducible refine (laws_daInts.calls kj5 _ _ t236 _ _ t240 true _ ?side1 ?side2 ?side3 ?side4 A21.out).mono ?_); (case side1 => repeat (first | exact (Kd.R_reads' HO_5.out).2.2 | (with_reducible refine Kd.C_alloc ?_ _) | (with_reducible refine Kd.C_drewN ?_ _) | (with_reducible refine Kd.C_drew ?_))); (case side2 => exact (Kd.R_reads' HO_5.out).2.1); (case side3 => repeat (first | exact (Kd.R_reads' HO_7.out).2.2 | (with_reducible refine Kd.C_alloc ?_ _) | (with_reducible refine Kd.C_drewN ?_ _) | (with_reducible refine Kd.C_drew ?_))); (case side4 => exact (Kd.R_reads' HO_7.out).2.1); rintro e w' ⟨rfl, ⟨nd, rfl⟩⟩; (try first | exact ⟨rfl, _, World.drewN_drewN _ _ _⟩ | exact ⟨rfl, _, Eq.trans (World.drewN_drewN _ _ _) (congrArg (World.drewN _) (Nat.add_assoc _ _ _))⟩)))
            repeat (go_quiet (first | (go_at_call 26; (with_reducible refine (laws_daInts.calls kj5 _ _ t236 _ _ t240 true _ ?side1 ?side2 ?side3 ?side4 A21.out).mono ?_); (case side1 => repeat (first | exact (Kd.R_reads' HO_5.out).2.2 | (with_reducible refine Kd.C_alloc ?_ _) | (with_reducible refine Kd.C_drewN ?_ _) | (with_reducible refine Kd.C_drew ?_))); (case side2 => exact (Kd.R_reads' HO_5.out).2.1); (case side3 => repeat (first | exact (Kd.R_reads' HO_7.out).2.2 | (with_reducible refine Kd.C_alloc ?_ _) | (with_reducible refine Kd.C_drewN ?_ _) | (with_reducible refine Kd.C_drew ?_))); (case side4 => exact (Kd.R_reads' HO_7.out).2.1); rintro e w' ⟨rfl, ⟨nd, rfl⟩⟩; (try first | exact ⟨rfl, _, World.drewN_drewN _ _ _⟩ | exact ⟨rfl, _, Eq.trans (World.drewN_drewN _ _ _) (congrArg (World.drewN _) (Nat.add_assoc _ _ _))⟩))); try go_wp2_with (first | (go_at_call 26; (with_reducible refine (laws_daInts.calls kj5 _ _ t236 _ _ t240 true _ ?side1 ?side2 ?side3 ?side4 A21.out).mono ?_); (case side1 => repeat (first | exact (Kd.R_reads' HO_5.out).2.2 | (with_reducible refine Kd.C_alloc ?_ _) | (with_reducible refine Kd.C_drewN ?_ _) | (with_reducible refine Kd.C_drew ?_))); (case side2 => exact (Kd.R_reads' HO_5.out).2.1); (case side3 => repeat (first | exact (Kd.R_reads' HO_7.out).2.2 | (with_reducible refine Kd.C_alloc ?_ _) | (with_reducible refine Kd.C_drewN ?_ _) | (with_reducible refine Kd.C_drew ?_))); (case side4 => exact (Kd.R_reads' HO_7.out).2.1); rintro e w' ⟨rfl, ⟨nd, rfl⟩⟩; (try first | exact ⟨rfl, _, World.drewN_drewN _ _ _⟩ | exact ⟨rfl, _, Eq.trans (World.drewN_drewN _ _ _) (congrArg (World.drewN _) (Nat.add_assoc _ _ _))⟩))))
            go_ret
            exact ⟨by first | rfl | (simp [errW_none, errW_some] <;> rfl) | (simp [*, errW_none, errW_some] <;> rfl), by repeat (first | (with_reducible first | exact HB.out | apply below_alloc | apply pw_below_drewN | apply below_drew1) | exact HB.out)⟩
          · replace c22 := Bool.eq_false_iff.mpr c22
            subst c22
            have H1 : (some false) = some r := by rw [if_neg (show ¬ (false = true) by decide)] at H; exact H
            clear H
            have H := H1
            clear H1
            obtain rfl := Option.some.inj H
            obtain ⟨Ao25, co25, eo25⟩ := Kd.R_slice HO_5.out
            subst eo25
            obtain ⟨Ao26, co26, eo26⟩ := Kd.R_slice HO_7.out
            subst eo26
            go_wp2_with (first | (go_at_call 26; (with_reducible refine (laws_daInts.calls kj5 _ _ t236 _ _ t240 false _ ?side1 ?side2 ?side3 ?side4 A21.out).mono ?_); (case side1 => repeat (first | exact (Kd.R_reads' HO_5.out).2.2 | (with_reducible refine Kd.C_alloc ?_ _) | (with_reducible refine Kd.C_drewN ?_ _) | (with_reducible refine Kd.C_drew ?_))); (case side2 => exact (Kd.R_reads' HO_5.out).2.1); (case side3 => repeat (first | exact (Kd.R_reads' HO_7.out).2.2 | (with_reducible refine Kd.C_alloc ?_ _) | (with_reducible refine Kd.C_drewN ?_ _) | (with_reducible refine Kd.C_drew ?_))); (case side4 => exact (Kd.R_reads' HO_7.out).2.1); rintro e w' ⟨rfl, ⟨nd, rfl⟩⟩; (try first | exact ⟨rfl, _, World.drewN_drewN _ _ _⟩ | exact ⟨rfl, _, Eq.trans (World.drewN_drewN _ _ _) (congrArg (World.drewN _) (Nat.add_assoc _ _ _))⟩)))
            repeat (go_quiet (first | (go_at_call 26; (with_reducible refine (laws_daInts.calls kj5 _ _ t236 _ _ t240 false _ ?side1 ?side2 ?side3 ?side4 A21.out).mono ?_); (case side1 => repeat (first | exact (Kd.R_reads' HO_5.out).2.2 | (with_reducible refine Kd.C_alloc ?_ _) | (with_reducible refine Kd.C_drewN ?_ _) | (with_reducible refine Kd.C_drew ?_))); (case side2 => exact (Kd.R_reads' HO_5.out).2.1); (case side3 => repeat (first | exact (Kd.R_reads' HO_7.out).2.2 | (with_reducible refine Kd.C_alloc ?_ _) | (with_reducible refine Kd.C_drewN ?_ _) | (with_reducible refine Kd.C_drew ?_))); (case side4 => exact (Kd.R_reads' HO_7.out).2.1); rintro e w' ⟨rfl, ⟨nd, rfl⟩⟩; (try first | exact ⟨rfl, _, World.drewN_drewN _ _ _⟩ | exact ⟨rfl, _, Eq.trans (World.drewN_drewN _ _ _) (congrArg (World.drewN _) (Nat.add_assoc _ _ _))⟩))); try go_wp2_with (first | (go_at_call 26; (with_reducible refine (laws_daInts.calls kj5 _ _ t236 _ _ t240 false _ ?side1 ?side2 ?side3 ?side4 A21.out).mono ?_); (case side1 => repeat (first | exact (Kd.R_reads' HO_5.out).2.2 | (with_reducible refine Kd.C_alloc ?_ _) | (with_reducible refine Kd.C_drewN ?_ _) | (with_reducible refine Kd.C_drew ?_))); (case side2 => exact (Kd.R_reads' HO_5.out).2.1); (case side3 => repeat (first | exact (Kd.R_reads' HO_7.out).2.2 | (with_reducible refine Kd.C_alloc ?_ _) | (with_reducible refine Kd.C_drewN ?_ _) | (with_reducible refine Kd.C_drew ?_))); (case side4 => exact (Kd.R_reads' HO_7.out).2.1); rintro e w' ⟨rfl, ⟨nd, rfl⟩⟩; (try first | exact ⟨rfl, _, World.drewN_drewN _ _ _⟩ | exact ⟨rfl, _, Eq.trans (World.drewN_drewN _ _ _) (congrArg (World.drewN _) (Nat.add_assoc _ _ _))⟩))))
            go_ret
            exact ⟨by first | rfl | (simp [errW_none, errW_some] <;> rfl) | (simp [*, errW_none, errW_some] <;> rfl), by repeat (first | (with_reducible first | exact HB.out | apply below_alloc | apply pw_below_drewN | apply below_drew1) | exact HB.out)⟩
        · replace c20 := Bool.eq_false_iff.mpr c20
          subst c20
          have H1 : (laws_FnSplitWidths.l0 kj5 t232 t233 t236 0 0 0) = some r := by rw [if_neg (show ¬ (false = true) by decide)] at H; exact H
          clear H
          have H := H1
          clear H1
          have H' := Aside0.mk H
          clear H
          go_wp2
          repeat (go_quiet (fail); try go_wp2)
          go_loopg [9, 10, 11] kj5 (fun kq v9 v10 v11 w' => ∃ (x9_2 : Int) (x10_2 : Int) (x11_2 : Int), v9 = .int .i64 x9_2 ∧ v10 = .int .i64 x10_2 ∧ v11 = .int .i64 x11_2 ∧ Aside0 (laws_FnSplitWidths.l0 kq t232 t233 t236 x9_2 x10_2 x11_2 = some r) ∧ Aside0 (kq ≤ kj5) ∧ Aside0 (Kd.R (Kd.int .i64) 3 w' w.heap.size (fun k_ => some k_ ≠ (v238 : Value).ownBlock) (.slice Ao8 t232.length co8) t232) ∧ Aside0 (Kd.R (Kd.int .i64) 3 w' w.heap.size (fun k_ => some k_ ≠ ((.slice Ao8 t232.length co8) : Value).ownBlock) v238 t236) ∧ Aside0 (Below w.heap.size w w'))
          case atStart => exact ⟨(0), (0), (0), (by first | rfl | (simp; done) | (simp [*]; done)), (by first | rfl | (simp; done) | (simp [*]; done)), (by first | rfl | (simp; done) | (simp [*]; done)), H', ⟨Nat.le_refl _⟩, ⟨by (with_reducible repeat (first | apply Kd.R_alloc | apply Kd.R_drewN | apply Kd.R_drew)); exact Kd.R_mono HO_3.out (fun _ hk => hk.1)⟩, ⟨by (with_reducible repeat (first | apply Kd.R_alloc | apply Kd.R_drewN | apply Kd.R_drew)); exact Kd.R_mono HO_5.out (fun _ hk => hk.1)⟩, ⟨by repeat (first | (with_reducible first | exact HB.out | apply below_alloc | apply pw_below_drewN | apply below_drew1) | exact HB.out)⟩⟩
          case round =>
            clear H'
            try clear c1
            try clear c2
            try clear c2b0
            try clear c2b1
            try clear p2
            try clear c6
            try clear c12
            try clear c13
            try clear c13b0
            try clear c13b1
            try clear c13b2
            try clear c20
            try clear c22
            try clear p2
            obtain ⟨x9_2, x10_2, x11_2, rfl, rfl, rfl, HA, HK2, HO_3, HO_5, HB⟩ := hrel
            cases gk with
            | zero => exact absurd HA.out (by simp [laws_FnSplitWidths.l0])
            | succ k2 =>
              have H := HA.out
              clear HA
              simp only [laws_FnSplitWidths.l0] at H
              by_cases c27 : x11_2 < (t236.length : Int)
              · rw [if_pos c27] at H
                have c27b0 : decide (x11_2 < (t236.length : Int)) = true := decide_eq_true c27
                clear c27
                have HC28 := Aside0.mk H
                clear H
                obtain ⟨Ao29, co29, eo29⟩ := Kd.R_slice HO_5.out
                subst eo29
                go_upto_region 13 with (fail)
                repeat (go_quiet (fail); go_upto_region 13 with (fail))
                go_cut [75] (fun v75 wc => ∃ (kq : Nat) (x75_27 : Bool), v75 = .bool x75_27 ∧ Aside0 (laws_FnSplitWidths.j2 kq t232 t233 t236 x9_2 x10_2 x11_2 x75_27 = some r) ∧ Aside0 (kq ≤ k2) ∧ Aside0 (Kd.R (Kd.int .i64) 3 wc w.heap.size (fun k_ => some k_ ≠ ((.slice Ao29 t236.length co29) : Value).ownBlock) (.slice Ao8 t232.length co8) t232) ∧ Aside0 (Kd.R (Kd.int .i64) 3 wc w.heap.size (fun k_ => some k_ ≠ ((.slice Ao8 t232.length co8) : Value).ownBlock) (.slice Ao29 t236.length co29) t236) ∧ Aside0 (Below w.heap.size w wc))
                case first =>
                  have H := HC28.out
                  clear HC28
                  by_cases c30 : 0 ≤ x11_2
                  · rw [if_pos c30] at H
                    have c30b0 : decide (0 ≤ x11_2) = true := decide_eq_true c30
                    clear c30
                    (first | rw [c30b0] | (simp only [i64_w, i32_w]; rw [c30b0]) | skip)
                    by_cases c31 : (rd t236 x11_2) < 0
                    · rw [if_pos c31] at H
                      have c31b0 : decide ((rd t236 x11_2) < 0) = true := decide_eq_true c31
                      clear c31
                      have H' := Aside0.mk H
                      clear H
                      have p246 : 0 ≤ (x11_2 : Int) := of_decide_eq_true (by first | (with_reducible assumption) | assumption)
                      have q246 : x11_2 < (t236.length : Int) := of_decide_eq_true (by first | (with_reducible assumption) | assumption)
                      obtain ⟨ad246, e246, hx246_0⟩ := Kd.at_int (Kd.R_reads' HO_5.out).2.2 x11_2 p246 q246
                      cases e246
                      replace p246 := eq_true p246
                      replace q246 := eq_true q246
                      go_wp2
                      repeat (go_quiet (fail); try go_wp2)
                      go_meet
                      case rel => exact ⟨_, (true), (by first | rfl | (simp; done) | (simp [*]; done)), H', ⟨by have := HJ5.out; have := HK2.out; first | omega | exact Nat.le_refl _⟩, ⟨by (with_reducible repeat (first | apply Kd.R_alloc | apply Kd.R_drewN | apply Kd.R_drew)); exact HO_3.out⟩, ⟨by (with_reducible repeat (first | apply Kd.R_alloc | apply Kd.R_drewN | apply Kd.R_drew)); exact HO_5.out⟩, ⟨by repeat (first | (with_reducible first | exact HB.out | apply below_alloc | apply pw_below_drewN | apply below_drew1) | exact HB.out)⟩⟩
                    · rw [if_neg c31] at H
                      have c31b0 : decide ((rd t236 x11_2) < 0) = false := decide_eq_false c31
                      clear c31
                      by_cases c32 : x11_2 < (t232.length : Int)
                      · rw [if_pos c32] at H
                        have c32b0 : decide (x11_2 < (t232.length : Int)) = true := decide_eq_true c32
                        clear c32
                        have H' := Aside0.mk H
                        clear H
                        have p246 : 0 ≤ (x11_2 : Int) := of_decide_eq_true (by first | (with_reducible assumption) | assumption)
                        have q246 : x11_2 < (t236.length : Int) := of_decide_eq_true (by first | (with_reducible assumption) | assumption)
                        obtain ⟨ad246, e246, hx246_0⟩ := Kd.at_int (Kd.R_reads' HO_5.out).2.2 x11_2 p246 q246
                        cases e246
                        replace p246 := eq_true p246
                        replace q246 := eq_true q246
                        have p247 : 0 ≤ (x11_2 : Int) := of_decide_eq_true (by first | (with_reducible assumption) | assumption)
                        have q247 : x11_2 < (t236.length : Int) := of_decide_eq_true (by first | (with_reducible assumption) | assumption)
                        obtain ⟨ad247, e247, hx247_0⟩ := Kd.at_int (Kd.R_reads' HO_5.out).2.2 x11_2 p247 q247
                        obtain rfl : ad246 = ad247 := (by injection e247)
                        replace p247 := eq_true p247
                        replace q247 := eq_true q247
                        have p248 : 0 ≤ (x11_2 : Int) := of_decide_eq_true (by first | (with_reducible assumption) | assumption)
                        have q248 : x11_2 < (t232.length : Int) := of_decide_eq_true (by first | (with_reducible assumption) | assumption)
                        obtain ⟨ad248, e248, hx248_0⟩ := Kd.at_int (Kd.R_reads' HO_3.out).2.2 x11_2 p248 q248
                        cases e248
                        replace p248 := eq_true p248
                        replace q248 := eq_true q248
                        go_wp2
                        repeat (go_quiet (fail); try go_wp2)
                        go_meet
                        case rel => exact ⟨_, (decide ((rd t236 x11_2) > (rd t232 x11_2))), (by first | rfl | (simp; done) | (simp [*]; done)), H', ⟨by have := HJ5.out; have := HK2.out; first | omega | exact Nat.le_refl _⟩, ⟨by (with_reducible repeat (first | apply Kd.R_alloc | apply Kd.R_drewN | apply Kd.R_drew)); exact HO_3.out⟩, ⟨by (with_reducible repeat (first | apply Kd.R_alloc | apply Kd.R_drewN | apply Kd.R_drew)); exact HO_5.out⟩, ⟨by repeat (first | (with_reducible first | exact HB.out | apply below_alloc | apply pw_below_drewN | apply below_drew1) | exact HB.out)⟩⟩
                      · rw [if_neg c32] at H
                        exact absurd H (by simp)
                  · rw [if_neg c30] at H
                    exact absurd H (by simp)
                case rest =>
                  clear HC28
                  try clear c1
                  try clear c2
                  try clear c2b0
                  try clear c2b1
                  try clear p2
                  try clear q2
                  try clear hx2
                  try clear c3
                  try clear c6
                  try clear c12
                  try clear c13
                  try clear c13b0
                  try clear c13b1
                  try clear c13b2
                  try clear c20
                  try clear c22
                  try clear p24
                  try clear q24
                  try clear hx24
                  try clear c27
                  try clear c27b0
                  try clear c30
                  try clear c30b0
                  try clear c31
                  try clear c31b0
                  try clear c32
                  try clear c32b0
                  try clear hx246_0
                  try clear hx247_0
                  try clear hx248_0
                  try clear p2
                  try clear p246
                  try clear p247
                  try clear p248
                  try clear q246
                  try clear q247
                  try clear q248
                  obtain ⟨kq, x75_27, rfl, HA, HJ27, HO_3, HO_5, HB⟩ := hcut
                  cases kq with
                  | zero => exact absurd HA.out (by simp [laws_FnSplitWidths.j2])
                  | succ kj27 =>
                    have H := HA.out
                    clear HA
                    simp only [laws_FnSplitWidths.j2] at H
                    by_cases c33 : x75_27 = true
                    · subst c33
                      have H1 : (some false) = some r := by rw [if_pos rfl] at H; exact H
                      clear H
                      have H := H1
                      clear H1
                      obtain rfl := Option.some.inj H
                      go_wp2
                      repeat (go_quiet (fail); try go_wp2)
                      go_ret
                      exact ⟨by first | rfl | (simp [errW_none, errW_some] <;> rfl) | (simp [*, errW_none, errW_some] <;> rfl), by repeat (first | (with_reducible first | exact HB.out | apply below_alloc | apply pw_below_drewN | apply below_drew1) | exact HB.out)⟩
                    · replace c33 := Bool.eq_false_iff.mpr c33
                      subst c33
                      have H1 : (laws_FnSplitWidths.l1 kj27 t232 t233 t236 x9_2 x10_2 x11_2 0) = some r := by rw [if_neg (show ¬ (false = true) by decide)] at H; exact H
                      clear H
                      have H := H1
                      clear H1
                      have H' := Aside0.mk H
                      clear H
                      go_wp2
                      repeat (go_quiet (fail); try go_wp2)
                      go_loopg [12] kj27 (fun kq v12 w' => ∃ (x12_4 : Int), v12 = .int .i64 x12_4 ∧ Aside0 (laws_FnSplitWidths.l1 kq t232 t233 t236 x9_2 x10_2 x11_2 x12_4 = some r) ∧ Aside0 (kq ≤ kj27) ∧ Aside0 (Kd.R (Kd.int .i64) 3 w' w.heap.size (fun k_ => some k_ ≠ ((.slice Ao29 t236.length co29) : Value).ownBlock) (.slice Ao8 t232.length co8) t232) ∧ Aside0 (Kd.R (Kd.int .i64) 3 w' w.heap.size (fun k_ => some k_ ≠ ((.slice Ao8 t232.length co8) : Value).ownBlock) (.slice Ao29 t236.length co29) t236) ∧ Aside0 (Below w.heap.size w w'))
                      case atStart => exact ⟨(0), (by first | rfl | (simp; done) | (simp [*]; done)), H', ⟨Nat.le_refl _⟩, ⟨by (with_reducible repeat (first | apply Kd.R_alloc | apply Kd.R_drewN | apply Kd.R_drew)); exact HO_3.out⟩, ⟨by (with_reducible repeat (first | apply Kd.R_alloc | apply Kd.R_drewN | apply Kd.R_drew)); exact HO_5.out⟩, ⟨by repeat (first | (with_reducible first | exact HB.out | apply below_alloc | apply pw_below_drewN | apply below_drew1) | exact HB.out)⟩⟩
                      case round =>
                        clear H'
                        try clear c1
                        try clear c2
                        try clear c2b0
                        try clear c2b1
                        try clear p2
                        try clear q2
                        try clear hx2
                        try clear c3
                        try clear c6
                        try clear c12
                        try clear c13
                        try clear c13b0
                        try clear c13b1
                        try clear c13b2
                        try clear c20
                        try clear c22
                        try clear p24
                        try clear q24
                        try clear hx24
                        try clear c27
                        try clear c27b0
                        try clear c30
                        try clear c30b0
                        try clear c31
                        try clear c31b0
                        try clear c32
                        try clear c32b0
                        try clear c33
                        try clear hx246_0
                        try clear hx247_0
                        try clear hx248_0
                        try clear p2
                        try clear p24
                        try clear p246
                        try clear p247
                        try clear p248
                        try clear q2
                        try clear q24
                        try clear q246
                        try clear q247
                        try clear q248
                        obtain ⟨x12_4, rfl, HA, HK4, HO_3, HO_5, HB⟩ := hrel
                        cases gk with
                        | zero => exact absurd HA.out (by simp [laws_FnSplitWidths.l1])
                        | succ k4 =>
                          have H := HA.out
                          clear HA
                          simp only [laws_FnSplitWidths.l1] at H
                          by_cases c34 : x12_4 < (t236.length : Int)
                          · rw [if_pos c34] at H
                            have c34b0 : decide (x12_4 < (t236.length : Int)) = true := decide_eq_true c34
                            clear c34
                            by_cases c35 : 0 ≤ x11_2
                            · rw [if_pos c35] at H
                              have c35b0 : decide (0 ≤ x11_2) = true := decide_eq_true c35
                              clear c35
                              by_cases c36 : x11_2 < (t236.length : Int)
                              · rw [if_pos c36] at H
                                have c36b0 : decide (x11_2 < (t236.length : Int)) = true := decide_eq_true c36
                                clear c36
                                by_cases c37 : x11_2 < (t232.length : Int)
                                · rw [if_pos c37] at H
                                  have c37b0 : decide (x11_2 < (t232.length : Int)) = true := decide_eq_true c37
                                  clear c37
                                  by_cases c38 : (rd t236 x11_2) < (rd t232 x11_2)
                                  · rw [if_pos c38] at H
                                    have c38b0 : decide ((rd t236 x11_2) < (rd t232 x11_2)) = true := decide_eq_true c38
                                    clear c38
                                    by_cases c39 : 0 ≤ x12_4
                                    · rw [if_pos c39] at H
                                      have c39b0 : decide (0 ≤ x12_4) = true := decide_eq_true c39
                                      clear c39
                                      by_cases c40 : (rd t236 x12_4) > (wrap64 ((rd t236 x11_2) + 1))
                                      · rw [if_pos c40] at H
                                        have c40b0 : decide ((wrap64 ((rd t236 x11_2) + 1)) < (rd t236 x12_4)) = true := decide_eq_true c40
                                        clear c40
                                        obtain rfl := Option.some.inj H
                                        have p249 : 0 ≤ (x11_2 : Int) := of_decide_eq_true (by first | (with_reducible assumption) | assumption)
                                        have q249 : x11_2 < (t236.length : Int) := of_decide_eq_true (by first | (with_reducible assumption) | assumption)
                                        obtain ⟨ad249, e249, hx249_0⟩ := Kd.at_int (Kd.R_reads' HO_5.out).2.2 x11_2 p249 q249
                                        cases e249
                                        replace p249 := eq_true p249
                                        replace q249 := eq_true q249
                                        have p250 : 0 ≤ (x11_2 : Int) := of_decide_eq_true (by first | (with_reducible assumption) | assumption)
                                        have q250 : x11_2 < (t232.length : Int) := of_decide_eq_true (by first | (with_reducible assumption) | assumption)
                                        obtain ⟨ad250, e250, hx250_0⟩ := Kd.at_int (Kd.R_reads' HO_3.out).2.2 x11_2 p250 q250
                                        cases e250
                                        replace p250 := eq_true p250
                                        replace q250 := eq_true q250
                                        have p251 : 0 ≤ (x12_4 : Int) := of_decide_eq_true (by first | (with_reducible assumption) | assumption)
                                        have q251 : x12_4 < (t236.length : Int) := of_decide_eq_true (by first | (with_reducible assumption) | assumption)
                                        obtain ⟨ad251, e251, hx251_0⟩ := Kd.at_int (Kd.R_reads' HO_5.out).2.2 x12_4 p251 q251
                                        obtain rfl : ad249 = ad251 := (by injection e251)
                                        replace p251 := eq_true p251
                                        replace q251 := eq_true q251
                                        have p252 : 0 ≤ (x11_2 : Int) := of_decide_eq_true (by first | (with_reducible assumption) | assumption)
                                        have q252 : x11_2 < (t236.length : Int) := of_decide_eq_true (by first | (with_reducible assumption) | assumption)
                                        obtain ⟨ad252, e252, hx252_0⟩ := Kd.at_int (Kd.R_reads' HO_5.out).2.2 x11_2 p252 q252
                                        obtain rfl : ad249 = ad252 := (by injection e252)
                                        replace p252 := eq_true p252
                                        replace q252 := eq_true q252
                                        go_wp2
                                        repeat (go_quiet (fail); try go_wp2)
                                        go_ret
                                        exact ⟨by first | rfl | (simp [errW_none, errW_some] <;> rfl) | (simp [*, errW_none, errW_some] <;> rfl), by repeat (first | (with_reducible first | exact HB.out | apply below_alloc | apply pw_below_drewN | apply below_drew1) | exact HB.out)⟩
                                      · rw [if_neg c40] at H
                                        have c40b0 : decide ((wrap64 ((rd t236 x11_2) + 1)) < (rd t236 x12_4)) = false := decide_eq_false c40
                                        clear c40
                                        have H' := Aside0.mk H
                                        clear H
                                        have p249 : 0 ≤ (x11_2 : Int) := of_decide_eq_true (by first | (with_reducible assumption) | assumption)
                                        have q249 : x11_2 < (t236.length : Int) := of_decide_eq_true (by first | (with_reducible assumption) | assumption)
                                        obtain ⟨ad249, e249, hx249_0⟩ := Kd.at_int (Kd.R_reads' HO_5.out).2.2 x11_2 p249 q249
                                        cases e249
                                        replace p249 := eq_true p249
                                        replace q249 := eq_true q249
                                        have p250 : 0 ≤ (x11_2 : Int) := of_decide_eq_true (by first | (with_reducible assumption) | assumption)
                                        have q250 : x11_2 < (t232.length : Int) := of_decide_eq_true (by first | (with_reducible assumption) | assumption)
                                        obtain ⟨ad250, e250, hx250_0⟩ := Kd.at_int (Kd.R_reads' HO_3.out).2.2 x11_2 p250 q250
                                        cases e250
                                        replace p250 := eq_true p250
                                        replace q250 := eq_true q250
                                        have p251 : 0 ≤ (x12_4 : Int) := of_decide_eq_true (by first | (with_reducible assumption) | assumption)
                                        have q251 : x12_4 < (t236.length : Int) := of_decide_eq_true (by first | (with_reducible assumption) | assumption)
                                        obtain ⟨ad251, e251, hx251_0⟩ := Kd.at_int (Kd.R_reads' HO_5.out).2.2 x12_4 p251 q251
                                        obtain rfl : ad249 = ad251 := (by injection e251)
                                        replace p251 := eq_true p251
                                        replace q251 := eq_true q251
                                        have p252 : 0 ≤ (x11_2 : Int) := of_decide_eq_true (by first | (with_reducible assumption) | assumption)
                                        have q252 : x11_2 < (t236.length : Int) := of_decide_eq_true (by first | (with_reducible assumption) | assumption)
                                        obtain ⟨ad252, e252, hx252_0⟩ := Kd.at_int (Kd.R_reads' HO_5.out).2.2 x11_2 p252 q252
                                        obtain rfl : ad249 = ad252 := (by injection e252)
                                        replace p252 := eq_true p252
                                        replace q252 := eq_true q252
                                        go_wp2
                                        repeat (go_quiet (fail); try go_wp2)
                                        go_roundg k4
                                        case measure => have := HJ5.out; have := HK2.out; have := HJ27.out; have := HK4.out; omega
                                        case rel => exact ⟨(wrap64 (x12_4 + 1)), (by first | rfl | (simp; done) | (simp [*]; done)), H', ⟨by have := HJ5.out; have := HK2.out; have := HJ27.out; have := HK4.out; omega⟩, ⟨by (with_reducible repeat (first | apply Kd.R_alloc | apply Kd.R_drewN | apply Kd.R_drew)); exact HO_3.out⟩, ⟨by (with_reducible repeat (first | apply Kd.R_alloc | apply Kd.R_drewN | apply Kd.R_drew)); exact HO_5.out⟩, ⟨by repeat (first | (with_reducible first | exact HB.out | apply below_alloc | apply pw_below_drewN | apply below_drew1) | exact HB.out)⟩⟩
                                    · rw [if_neg c39] at H
                                      exact absurd H (by simp)
                                  · rw [if_neg c38] at H
                                    have c38b0 : decide ((rd t236 x11_2) < (rd t232 x11_2)) = false := decide_eq_false c38
                                    clear c38
                                    have H' := Aside0.mk H
                                    clear H
                                    have p249 : 0 ≤ (x11_2 : Int) := of_decide_eq_true (by first | (with_reducible assumption) | assumption)
                                    have q249 : x11_2 < (t236.length : Int) := of_decide_eq_true (by first | (with_reducible assumption) | assumption)
                                    obtain ⟨ad249, e249, hx249_0⟩ := Kd.at_int (Kd.R_reads' HO_5.out).2.2 x11_2 p249 q249
                                    cases e249
                                    replace p249 := eq_true p249
                                    replace q249 := eq_true q249
                                    have p250 : 0 ≤ (x11_2 : Int) := of_decide_eq_true (by first | (with_reducible assumption) | assumption)
                                    have q250 : x11_2 < (t232.length : Int) := of_decide_eq_true (by first | (with_reducible assumption) | assumption)
                                    obtain ⟨ad250, e250, hx250_0⟩ := Kd.at_int (Kd.R_reads' HO_3.out).2.2 x11_2 p250 q250
                                    cases e250
                                    replace p250 := eq_true p250
                                    replace q250 := eq_true q250
                                    go_wp2
                                    repeat (go_quiet (fail); try go_wp2)
                                    go_roundg k4
                                    case measure => have := HJ5.out; have := HK2.out; have := HJ27.out; have := HK4.out; omega
                                    case rel => exact ⟨(wrap64 (x12_4 + 1)), (by first | rfl | (simp; done) | (simp [*]; done)), H', ⟨by have := HJ5.out; have := HK2.out; have := HJ27.out; have := HK4.out; omega⟩, ⟨by (with_reducible repeat (first | apply Kd.R_alloc | apply Kd.R_drewN | apply Kd.R_drew)); exact HO_3.out⟩, ⟨by (with_reducible repeat (first | apply Kd.R_alloc | apply Kd.R_drewN | apply Kd.R_drew)); exact HO_5.out⟩, ⟨by repeat (first | (with_reducible first | exact HB.out | apply below_alloc | apply pw_below_drewN | apply below_drew1) | exact HB.out)⟩⟩
                                · rw [if_neg c37] at H
                                  exact absurd H (by simp)
                              · rw [if_neg c36] at H
                                exact absurd H (by simp)
                            · rw [if_neg c35] at H
                              exact absurd H (by simp)
                          · rw [if_neg c34] at H
                            have c34b0 : decide (x12_4 < (t236.length : Int)) = false := decide_eq_false c34
                            clear c34
                            by_cases c41 : 0 ≤ x11_2
                            · rw [if_pos c41] at H
                              have c41b0 : decide (0 ≤ x11_2) = true := decide_eq_true c41
                              clear c41
                              by_cases c42 : x11_2 < (t236.length : Int)
                              · rw [if_pos c42] at H
                                have c42b0 : decide (x11_2 < (t236.length : Int)) = true := decide_eq_true c42
                                clear c42
                                by_cases c43 : x11_2 < (t232.length : Int)
                                · rw [if_pos c43] at H
                                  have c43b0 : decide (x11_2 < (t232.length : Int)) = true := decide_eq_true c43
                                  clear c43
                                  have H' := Aside0.mk H
                                  clear H
                                  have p253 : 0 ≤ (x11_2 : Int) := of_decide_eq_true (by first | (with_reducible assumption) | assumption)
                                  have q253 : x11_2 < (t236.length : Int) := of_decide_eq_true (by first | (with_reducible assumption) | assumption)
                                  obtain ⟨ad253, e253, hx253_0⟩ := Kd.at_int (Kd.R_reads' HO_5.out).2.2 x11_2 p253 q253
                                  cases e253
                                  replace p253 := eq_true p253
                                  replace q253 := eq_true q253
                                  have p254 : 0 ≤ (x11_2 : Int) := of_decide_eq_true (by first | (with_reducible assumption) | assumption)
                                  have q254 : x11_2 < (t232.length : Int) := of_decide_eq_true (by first | (with_reducible assumption) | assumption)
                                  obtain ⟨ad254, e254, hx254_0⟩ := Kd.at_int (Kd.R_reads' HO_3.out).2.2 x11_2 p254 q254
                                  cases e254
                                  replace p254 := eq_true p254
                                  replace q254 := eq_true q254
                                  go_wp2
                                  repeat (go_quiet (fail); try go_wp2)
                                  go_roundg k4
                                  case measure => have := HJ5.out; have := HK2.out; have := HJ27.out; have := HK4.out; omega
                                  case rel => exact ⟨(wrap64 (x9_2 + (rd t236 x11_2))), (wrap64 (x10_2 + (rd t232 x11_2))), (wrap64 (x11_2 + 1)), (by first | rfl | (simp; done) | (simp [*]; done)), (by first | rfl | (simp; done) | (simp [*]; done)), (by first | rfl | (simp; done) | (simp [*]; done)), H', ⟨by have := HJ5.out; have := HK2.out; have := HJ27.out; have := HK4.out; omega⟩, ⟨by (with_reducible repeat (first | apply Kd.R_alloc | apply Kd.R_drewN | apply Kd.R_drew)); exact HO_3.out⟩, ⟨by (with_reducible repeat (first | apply Kd.R_alloc | apply Kd.R_drewN | apply Kd.R_drew)); exact HO_5.out⟩, ⟨by repeat (first | (with_reducible first | exact HB.out | apply below_alloc | apply pw_below_drewN | apply below_drew1) | exact HB.out)⟩⟩
                                · rw [if_neg c43] at H
                                  exact absurd H (by simp)
                              · rw [if_neg c42] at H
                                exact absurd H (by simp)
                            · rw [if_neg c41] at H
                              exact absurd H (by simp)
              · rw [if_neg c27] at H
                have c27b0 : decide (x11_2 < (t236.length : Int)) = false := decide_eq_false c27
                clear c27
                by_cases c44 : x9_2 = t233
                · rw [if_pos c44] at H
                  have c44b0 : (x9_2 == t233) = true := beq_iff_eq.mpr c44
                  have c44b1 : (x9_2 != t233) = false := bne_eq_false_iff_eq.mpr c44
                  clear c44
                  by_cases c45 : x10_2 ≥ t233
                  · rw [if_pos c45] at H
                    have c45b0 : decide (t233 ≤ x10_2) = true := decide_eq_true c45
                    clear c45
                    obtain rfl := Option.some.inj H
                    obtain ⟨Ao46, co46, eo46⟩ := Kd.R_slice HO_5.out
                    subst eo46
                    go_wp2
                    repeat (go_quiet (fail); try go_wp2)
                    go_ret
                    exact ⟨by first | rfl | (simp [errW_none, errW_some] <;> rfl) | (simp [*, errW_none, errW_some] <;> rfl), by repeat (first | (with_reducible first | exact HB.out | apply below_alloc | apply pw_below_drewN | apply below_drew1) | exact HB.out)⟩
                  · rw [if_neg c45] at H
                    have c45b0 : decide (t233 ≤ x10_2) = false := decide_eq_false c45
                    clear c45
                    by_cases c47 : x9_2 = x10_2
                    · rw [if_pos c47] at H
                      have c47b0 : (x9_2 == x10_2) = true := beq_iff_eq.mpr c47
                      have c47b1 : (x9_2 != x10_2) = false := bne_eq_false_iff_eq.mpr c47
                      clear c47
                      obtain rfl := Option.some.inj H
                      obtain ⟨Ao48, co48, eo48⟩ := Kd.R_slice HO_5.out
                      subst eo48
                      go_wp2
                      repeat (go_quiet (fail); try go_wp2)
                      go_ret
                      exact ⟨by first | rfl | (simp [errW_none, errW_some] <;> rfl) | (simp [*, errW_none, errW_some] <;> rfl), by repeat (first | (with_reducible first | exact HB.out | apply below_alloc | apply pw_below_drewN | apply below_drew1) | exact HB.out)⟩
                    · rw [if_neg c47] at H
                      have c47b0 : (x9_2 == x10_2) = false := beq_eq_false_iff_ne.mpr c47
                      have c47b1 : (x9_2 != x10_2) = true := bne_iff_ne.mpr c47
                      obtain rfl := Option.some.inj H
                      obtain ⟨Ao49, co49, eo49⟩ := Kd.R_slice HO_5.out
                      subst eo49
                      go_wp2
                      repeat (go_quiet (fail); try go_wp2)
                      go_ret
                      exact ⟨by first | rfl | (simp [errW_none, errW_some] <;> rfl) | (simp [*, errW_none, errW_some] <;> rfl), by repeat (first | (with_reducible first | exact HB.out | apply below_alloc | apply pw_below_drewN | apply below_drew1) | exact HB.out)⟩
                · rw [if_neg c44] at H
                  have c44b0 : (x9_2 == t233) = false := beq_eq_false_iff_ne.mpr c44
                  have c44b1 : (x9_2 != t233) = true := bne_iff_ne.mpr c44
                  by_cases c50 : x9_2 = x10_2
                  · rw [if_pos c50] at H
                    have c50b0 : (x9_2 == x10_2) = true := beq_iff_eq.mpr c50
                    have c50b1 : (x9_2 != x10_2) = false := bne_eq_false_iff_eq.mpr c50
                    clear c50
                    obtain rfl := Option.some.inj H
                    obtain ⟨Ao51, co51, eo51⟩ := Kd.R_slice HO_5.out
                    subst eo51
                    go_wp2
                    repeat (go_quiet (fail); try go_wp2)
                    go_ret
                    exact ⟨by first | rfl | (simp [errW_none, errW_some] <;> rfl) | (simp [*, errW_none, errW_some] <;> rfl), by repeat (first | (with_reducible first | exact HB.out | apply below_alloc | apply pw_below_drewN | apply below_drew1) | exact HB.out)⟩
                  · rw [if_neg c50] at H
                    have c50b0 : (x9_2 == x10_2) = false := beq_eq_false_iff_ne.mpr c50
                    have c50b1 : (x9_2 != x10_2) = true := bne_iff_ne.mpr c50
                    obtain rfl := Option.some.inj H
                    obtain ⟨Ao52, co52, eo52⟩ := Kd.R_slice HO_5.out
                    subst eo52
                    go_wp2
                    repeat (go_quiet (fail); try go_wp2)
                    go_ret
                    exact ⟨by first | rfl | (simp [errW_none, errW_some] <;> rfl) | (simp [*, errW_none, errW_some] <;> rfl), by repeat (first | (with_reducible first | exact HB.out | apply below_alloc | apply pw_below_drewN | apply below_drew1) | exact HB.out)⟩

/-- THE ONE PURE STATEMENT of laws_FnSplitWidths: yours. -/
def laws_FnSplitWidths.Pure : Prop := ∀ (l0 : List Int), l0.length ≤ maxLen → l0.length * 1 ≤ 140737488351232 → (∀ x ∈ l0, (Lit.int .u8 x).wf = true) → ∃ k, laws_FnSplitWidths.f k l0 = some true
theorem laws_FnSplitWidths.walk (P : laws_FnSplitWidths.Pure) (a0 : Option Addr) (len0 cap0 : Nat) (z0 : List Int) (w : World) (w0 : (a0 = none ∧ len0 = 0 ∧ cap0 = 0 ∧ z0 = []) ∨ ∃ x, a0 = some x ∧ len0 ≤ cap0 ∧ cap0 ≤ maxLen ∧ z0.length = cap0 ∧ (∀ i, i < z0.length → w.cell? (x.add i) = some (.int .u8 (z0.getD i 0))) ∧ ∀ n ∈ z0, (Lit.int .u8 n).wf = true) (y0 : len0 * 1 ≤ 140737488351232) :
    Calls Try.prog 6 #[.slice a0 len0 cap0] w fun e w' => e = .returned (.bool true) ∧ Below w.heap.size w w' := by
  obtain ⟨l0, rfl, hr0, hm0, hw0, hc0⟩ := ReadsInt.ofRowC w0
  obtain ⟨k, h⟩ := P l0 hm0 y0 hw0
  refine (laws_FnSplitWidths.calls k _ _ l0 true w (Kd.C_of_reads (d := (0 : Int)) (h1 := fun _ => rfl) hr0) hc0 h).mono ?_
  rintro e w' ⟨rfl, hd⟩
  exact ⟨rfl, hd⟩

end Go.Proofs.Ytcbjlaphoajngaa.PSp
