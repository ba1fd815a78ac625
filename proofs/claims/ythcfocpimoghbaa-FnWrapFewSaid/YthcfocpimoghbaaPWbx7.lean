-- Written by a program of this session (xprint). -- COMPACT
import Derived.Test.YthcfocpimoghbaaPWbx0
import Derived.Test.YthcfocpimoghbaaPWbx1
import Derived.Test.YthcfocpimoghbaaPWbx3
import Derived.Test.YthcfocpimoghbaaPWbx6
namespace Go.Proofs.Ythcfocpimoghbaa.PWb
open Go.RowKit Go.Proofs.YthcfocpimoghbaaW.PrintWords Go.Proofs.YthcfocpimoghbaaW.PrintLast Go.Proofs.YthcfocpimoghbaaW.PrintMore
attribute [local go_sem] max2_int min2_int max_two min_two max_three min_three max_four min_four   -- for this text's walks alone
set_option linter.unusedVariables false
set_option linter.unusedSimpArgs false

/-! ### laws_FnWrapFits: function 5 -/
mutual
def laws_FnWrapFits.j0 : Nat → List ByteArray → Int → List ByteArray → Bool → List ByteArray → Bool → Bool → Option (Bool)
 | 0, _, _, _, _, _, _, _ => none
 | k + 1, x3, x4, x5, x6, x7, x8, x43 => if x43 = true then ((laws_daTexts.f k x5 x7).bind fun t242 => (if t242 = true then (some (x6 == x8)) else (some false))) else (laws_FnWrapFits.l0 k x3 x4 x5 0)
def laws_FnWrapFits.l0 : Nat → List ByteArray → Int → List ByteArray → Int → Option (Bool)
 | 0, _, _, _, _ => none
 | k + 1, x3, x4, x5, x9 => if x9 < (x3.length : Int) then (if 0 ≤ x9 then (if ((rdOf ByteArray.empty x3 x9).size : Int) > x4 then (some true) else (if x4 > 20 then (some true) else (laws_FnWrapFits.l0 k x3 x4 x5 (wrap64 (x9 + 1))))) else (none)) else (laws_FnWrapFits.l1 k x4 x5 0)
def laws_FnWrapFits.l1 : Nat → Int → List ByteArray → Int → Option (Bool)
 | 0, _, _, _ => none
 | k + 1, x4, x5, x10 => if x10 < (x5.length : Int) then (if 0 ≤ x10 then (if ((rdOf ByteArray.empty x5 x10).size : Int) > x4 then (some false) else (laws_FnWrapFits.l1 k x4 x5 (wrap64 (x10 + 1)))) else (none)) else (some true)
end
def laws_FnWrapFits.f (k : Nat) (l0 : List Int) : Option (Bool) := if (l0.length : Int) > 1048576 then (some true) else ((spec_DrawWrapBest.f k l0).bind fun bt229 => ((impl_WrapBest.f k bt229.1 bt229.2).bind fun bt233 => ((spec_WrapBest.f k bt229.1 bt229.2).bind fun bt237 => ((laws_daTexts.f k bt233.1 bt237.1).bind fun t241 => (if t241 = true then (if (bt233.2 != bt237.2) = true then (laws_FnWrapFits.j0 k bt229.1 bt229.2 bt233.1 bt233.2 bt237.1 bt237.2 true) else (laws_FnWrapFits.j0 k bt229.1 bt229.2 bt233.1 bt233.2 bt237.1 bt237.2 (!bt233.2))) else (laws_FnWrapFits.j0 k bt229.1 bt229.2 bt233.1 bt233.2 bt237.1 bt237.2 true))))))
theorem laws_FnWrapFits.mono_l : ∀ k, (∀ y0 y1 y2 y3 y4 y5 y6, LeO (laws_FnWrapFits.j0 k y0 y1 y2 y3 y4 y5 y6) (laws_FnWrapFits.j0 (k + 1) y0 y1 y2 y3 y4 y5 y6)) ∧ (∀ y0 y1 y2 y3, LeO (laws_FnWrapFits.l0 k y0 y1 y2 y3) (laws_FnWrapFits.l0 (k + 1) y0 y1 y2 y3)) ∧ (∀ y0 y1 y2, LeO (laws_FnWrapFits.l1 k y0 y1 y2) (laws_FnWrapFits.l1 (k + 1) y0 y1 y2))
 | 0 => ⟨fun _ _ _ _ _ _ _ r h => by simp [laws_FnWrapFits.j0] at h, fun _ _ _ _ r h => by simp [laws_FnWrapFits.l0] at h, fun _ _ _ r h => by simp [laws_FnWrapFits.l1] at h⟩
 | k + 1 => by
  obtain ⟨ih0, ih1, ih2⟩ := laws_FnWrapFits.mono_l k
  refine ⟨?_, ?_, ?_⟩
  ·intro y0 y1 y2 y3 y4 y5 y6
   unfold laws_FnWrapFits.j0
   repeat' first
   | (with_reducible exact ih0 _ _ _ _ _ _ _)
   | (with_reducible exact ih1 _ _ _ _)
   | (with_reducible exact ih2 _ _ _)
   | (with_reducible exact impl_WrapBest.mono _ _ _)
   | (with_reducible exact laws_daTexts.mono _ _ _)
   | (with_reducible exact spec_DrawWrapBest.mono _ _)
   | (with_reducible exact spec_WrapBest.mono _ _ _)
   | (with_reducible exact LeO.refl _)
   | (with_reducible exact LeO.none _)
   | (with_reducible refine LeO.ite ?_ ?_)
   | (with_reducible refine LeO.bind ?_ (fun _ => ?_))
   | exact ih0 _ _ _ _ _ _ _
   | exact ih1 _ _ _ _
   | exact ih2 _ _ _
   | exact impl_WrapBest.mono _ _ _
   | exact laws_daTexts.mono _ _ _
   | exact spec_DrawWrapBest.mono _ _
   | exact spec_WrapBest.mono _ _ _
   | exact LeO.none _
   | refine LeO.ite ?_ ?_
   | refine LeO.bind ?_ (fun _ => ?_)
  ·intro y0 y1 y2 y3
   unfold laws_FnWrapFits.l0
   repeat' first
   | (with_reducible exact ih0 _ _ _ _ _ _ _)
   | (with_reducible exact ih1 _ _ _ _)
   | (with_reducible exact ih2 _ _ _)
   | (with_reducible exact impl_WrapBest.mono _ _ _)
   | (with_reducible exact laws_daTexts.mono _ _ _)
   | (with_reducible exact spec_DrawWrapBest.mono _ _)
   | (with_reducible exact spec_WrapBest.mono _ _ _)
   | (with_reducible exact LeO.refl _)
   | (with_reducible exact LeO.none _)
   | (with_reducible refine LeO.ite ?_ ?_)
   | (with_reducible refine LeO.bind ?_ (fun _ => ?_))
   | exact ih0 _ _ _ _ _ _ _
   | exact ih1 _ _ _ _
   | exact ih2 _ _ _
   | exact impl_WrapBest.mono _ _ _
   | exact laws_daTexts.mono _ _ _
   | exact spec_DrawWrapBest.mono _ _
   | exact spec_WrapBest.mono _ _ _
   | exact LeO.none _
   | refine LeO.ite ?_ ?_
   | refine LeO.bind ?_ (fun _ => ?_)
  ·intro y0 y1 y2
   unfold laws_FnWrapFits.l1
   repeat' first
   | (with_reducible exact ih0 _ _ _ _ _ _ _)
   | (with_reducible exact ih1 _ _ _ _)
   | (with_reducible exact ih2 _ _ _)
   | (with_reducible exact impl_WrapBest.mono _ _ _)
   | (with_reducible exact laws_daTexts.mono _ _ _)
   | (with_reducible exact spec_DrawWrapBest.mono _ _)
   | (with_reducible exact spec_WrapBest.mono _ _ _)
   | (with_reducible exact LeO.refl _)
   | (with_reducible exact LeO.none _)
   | (with_reducible refine LeO.ite ?_ ?_)
   | (with_reducible refine LeO.bind ?_ (fun _ => ?_))
   | exact ih0 _ _ _ _ _ _ _
   | exact ih1 _ _ _ _
   | exact ih2 _ _ _
   | exact impl_WrapBest.mono _ _ _
   | exact laws_daTexts.mono _ _ _
   | exact spec_DrawWrapBest.mono _ _
   | exact spec_WrapBest.mono _ _ _
   | exact LeO.none _
   | refine LeO.ite ?_ ?_
   | refine LeO.bind ?_ (fun _ => ?_)
theorem laws_FnWrapFits.mono : ∀ a0 k, LeO (laws_FnWrapFits.f k a0) (laws_FnWrapFits.f (k + 1) a0) := by
 intro a0 k
 obtain ⟨ih0, ih1, ih2⟩ := laws_FnWrapFits.mono_l k
 unfold laws_FnWrapFits.f
 repeat' first
   | (with_reducible exact ih0 _ _ _ _ _ _ _)
   | (with_reducible exact ih1 _ _ _ _)
   | (with_reducible exact ih2 _ _ _)
   | (with_reducible exact impl_WrapBest.mono _ _ _)
   | (with_reducible exact laws_daTexts.mono _ _ _)
   | (with_reducible exact spec_DrawWrapBest.mono _ _)
   | (with_reducible exact spec_WrapBest.mono _ _ _)
   | (with_reducible exact LeO.refl _)
   | (with_reducible exact LeO.none _)
   | (with_reducible refine LeO.ite ?_ ?_)
   | (with_reducible refine LeO.bind ?_ (fun _ => ?_))
   | exact ih0 _ _ _ _ _ _ _
   | exact ih1 _ _ _ _
   | exact ih2 _ _ _
   | exact impl_WrapBest.mono _ _ _
   | exact laws_daTexts.mono _ _ _
   | exact spec_DrawWrapBest.mono _ _
   | exact spec_WrapBest.mono _ _ _
   | exact LeO.none _
   | refine LeO.ite ?_ ?_
   | refine LeO.bind ?_ (fun _ => ?_)
set_option maxHeartbeats 8000000 in
set_option maxRecDepth 100000 in
theorem laws_FnWrapFits.calls (k : Nat) (A0 : Option Addr) (c0 : Nat) (l0 : List Int) (r : Bool) (w : World) (hr0 : Kd.C (Kd.int .u8) w A0 l0.length l0) (hc0 : l0.length ≤ c0) (h : laws_FnWrapFits.f k l0 = some r) :
  Calls Try.prog 5 #[.slice A0 l0.length c0] w fun e w' => e = .returned (.bool r) ∧ Below w.heap.size w w' := by
 have HR0 := Aside0.mk hr0
 have HC0 := Aside0.mk hc0
 clear hr0 hc0
 have HB := Aside0.mk (Below.refl w.heap.size w)
 have H : (if (l0.length : Int) > 1048576 then (some true) else ((spec_DrawWrapBest.f k l0).bind fun bt229 => ((impl_WrapBest.f k bt229.1 bt229.2).bind fun bt233 => ((spec_WrapBest.f k bt229.1 bt229.2).bind fun bt237 => ((laws_daTexts.f k bt233.1 bt237.1).bind fun t241 => (if t241 = true then (if (bt233.2 != bt237.2) = true then (laws_FnWrapFits.j0 k bt229.1 bt229.2 bt233.1 bt233.2 bt237.1 bt237.2 true) else (laws_FnWrapFits.j0 k bt229.1 bt229.2 bt233.1 bt233.2 bt237.1 bt237.2 (!bt233.2))) else (laws_FnWrapFits.j0 k bt229.1 bt229.2 bt233.1 bt233.2 bt237.1 bt237.2 true))))))) = some r := h
 clear h
 by_cases c2 : (l0.length : Int) > 1048576
 ·rw [if_pos c2] at H
  have c2b0 : decide (1048576 < (l0.length : Int)) = true := decide_eq_true c2
  have c2b1 : decide (1048576 < l0.length) = true := decide_eq_true (by omega)
  clear c2
  obtain rfl := Option.some.inj H
  go_enter Try.func5, Try.ntmps5
  go_wp2
  go_ret
  exact ⟨by first | rfl | (simp [errW_none, errW_some] <;> rfl) | (simp [*, errW_none, errW_some] <;> rfl), by repeat (first|(with_reducible first|exact HB.out|apply below_alloc|apply pw_below_drewN|apply below_drew1)|exact HB.out)⟩
 ·rw [if_neg c2] at H
  have c2b0 : decide (1048576 < (l0.length : Int)) = false := decide_eq_false c2
  have c2b1 : decide (1048576 < l0.length) = false := decide_eq_false (by omega)
  clear c2
  replace H := Option.bind_eq_some_iff.mp H
  obtain ⟨⟨t229, t230⟩, A30, H⟩ := H
  replace H : ((impl_WrapBest.f k t229 t230).bind fun bt233 => ((spec_WrapBest.f k t229 t230).bind fun bt237 => ((laws_daTexts.f k bt233.1 bt237.1).bind fun t241 => (if t241 = true then (if (bt233.2 != bt237.2) = true then (laws_FnWrapFits.j0 k t229 t230 bt233.1 bt233.2 bt237.1 bt237.2 true) else (laws_FnWrapFits.j0 k t229 t230 bt233.1 bt233.2 bt237.1 bt237.2 (!bt233.2))) else (laws_FnWrapFits.j0 k t229 t230 bt233.1 bt233.2 bt237.1 bt237.2 true))))) = some r := H
  have A3 := Aside0.mk A30
  clear A30
  replace H := Option.bind_eq_some_iff.mp H
  obtain ⟨⟨t233, t234⟩, A40, H⟩ := H
  replace H : ((spec_WrapBest.f k t229 t230).bind fun bt237 => ((laws_daTexts.f k t233 bt237.1).bind fun t241 => (if t241 = true then (if (t234 != bt237.2) = true then (laws_FnWrapFits.j0 k t229 t230 t233 t234 bt237.1 bt237.2 true) else (laws_FnWrapFits.j0 k t229 t230 t233 t234 bt237.1 bt237.2 (!t234))) else (laws_FnWrapFits.j0 k t229 t230 t233 t234 bt237.1 bt237.2 true)))) = some r := H
  have A4 := Aside0.mk A40
  clear A40
  replace H := Option.bind_eq_some_iff.mp H
  obtain ⟨⟨t237, t238⟩, A50, H⟩ := H
  replace H : ((laws_daTexts.f k t233 t237).bind fun t241 => (if t241 = true then (if (t234 != t238) = true then (laws_FnWrapFits.j0 k t229 t230 t233 t234 t237 t238 true) else (laws_FnWrapFits.j0 k t229 t230 t233 t234 t237 t238 (!t234))) else (laws_FnWrapFits.j0 k t229 t230 t233 t234 t237 t238 true))) = some r := H
  have A5 := Aside0.mk A50
  clear A50
  have HC6 := Aside0.mk H
  clear H
  go_enter Try.func5, Try.ntmps5
  go_upto_region 6 with (first | ((with_reducible refine gate_callee (f := 23) rfl ?_); refine goesL_ (some 16) rfl rfl Try.func23 (by kernel_rfl) rfl #[.slice A0 l0.length c0] rfl (by (try simp only [List.map_toArray, List.map_cons, List.map_nil]); first | done | rfl | (simp only [List.length_drop, List.length_take]; rfl)) ?_; (with_reducible refine (spec_DrawWrapBest.calls k _ _ l0 t229 t230 _ ?side1 ?side2 A3.out).mono ?_); (case side1 => repeat (first | exact HR0.out | (with_reducible refine Kd.C_alloc ?_ _) | (with_reducible refine Kd.C_drewN ?_ _) | (with_reducible refine Kd.C_drew ?_))); (case side2 => exact HC0.out); rintro e w7 ⟨v231, rfl, ho0, hb⟩; refine ⟨_, rfl, ?_⟩; have n0_ := Aside0.mk (Kd.R_lower ho0 (below_size (by repeat (first|(with_reducible first|exact HB.out|apply below_alloc|apply pw_below_drewN|apply below_drew1)|exact HB.out)))); have n1_ := Aside0.mk (below_step (by repeat (first|(with_reducible first|exact HB.out|apply below_alloc|apply pw_below_drewN|apply below_drew1)|exact HB.out)) hb); clear HB; have HO232 := n0_; have HB := n1_; clear n0_ n1_; (try clear hb); (try clear hb2); (try clear hk); (try clear hi); (try clear ho0); obtain ⟨Ao8, co8, eo8⟩ := Kd.R_slice HO232.out; subst eo8) | ((with_reducible refine gate_callee (f := 24) rfl ?_); refine goesL_ (some 22) rfl rfl Try.func24 (by kernel_rfl) rfl #[.slice Ao8 t229.length co8, .int .i64 t230] rfl (by (try simp only [List.map_toArray, List.map_cons, List.map_nil]); first | done | rfl | (simp only [List.length_drop, List.length_take]; rfl)) ?_; (with_reducible refine (impl_WrapBest.calls k _ _ t229 t230 t233 t234 _ ?side1 ?side2 A4.out).mono ?_); (case side1 => repeat (first | exact (Kd.R_reads' HO232.out).2.2 | (with_reducible refine Kd.C_alloc ?_ _) | (with_reducible refine Kd.C_drewN ?_ _) | (with_reducible refine Kd.C_drew ?_))); (case side2 => exact (Kd.R_reads' HO232.out).2.1); rintro e w9 ⟨v235, rfl, ho0, hb⟩; refine ⟨_, rfl, ?_⟩; have n0_ := Aside0.mk (Kd.R_elder' (by (with_reducible repeat (first|apply Kd.R_alloc|apply Kd.R_drewN|apply Kd.R_drew)); exact HO232.out) (Kd.R_base ho0) hb); have n1_ := Aside0.mk (Kd.R_lower (Kd.R_new' ho0 (Kd.R_lt (by (with_reducible repeat (first|apply Kd.R_alloc|apply Kd.R_drewN|apply Kd.R_drew)); exact HO232.out))) (below_size (by repeat (first|(with_reducible first|exact HB.out|apply below_alloc|apply pw_below_drewN|apply below_drew1)|exact HB.out)))); have n2_ := Aside0.mk (below_step (by repeat (first|(with_reducible first|exact HB.out|apply below_alloc|apply pw_below_drewN|apply below_drew1)|exact HB.out)) hb); clear HO232; clear HB; have HO232 := n0_; have HO236 := n1_; have HB := n2_; clear n0_ n1_ n2_; (try clear hb); (try clear hb2); (try clear hk); (try clear hi); (try clear ho0)) | ((with_reducible refine gate_callee (f := 25) rfl ?_); refine goesL_ (some 28) rfl rfl Try.func25 (by kernel_rfl) rfl #[.slice Ao8 t229.length co8, .int .i64 t230] rfl (by (try simp only [List.map_toArray, List.map_cons, List.map_nil]); first | done | rfl | (simp only [List.length_drop, List.length_take]; rfl)) ?_; (with_reducible refine (spec_WrapBest.calls k _ _ t229 t230 t237 t238 _ ?side1 ?side2 A5.out).mono ?_); (case side1 => repeat (first | exact (Kd.R_reads' HO232.out).2.2 | (with_reducible refine Kd.C_alloc ?_ _) | (with_reducible refine Kd.C_drewN ?_ _) | (with_reducible refine Kd.C_drew ?_))); (case side2 => exact (Kd.R_reads' HO232.out).2.1); rintro e w10 ⟨v239, rfl, ho0, hb⟩; refine ⟨_, rfl, ?_⟩; have n0_ := Aside0.mk (Kd.R_elder' (by (with_reducible repeat (first|apply Kd.R_alloc|apply Kd.R_drewN|apply Kd.R_drew)); exact HO232.out) (Kd.R_base ho0) hb); have n1_ := Aside0.mk (Kd.R_elder' (by (with_reducible repeat (first|apply Kd.R_alloc|apply Kd.R_drewN|apply Kd.R_drew)); exact HO236.out) (Kd.R_base ho0) hb); have n2_ := Aside0.mk (Kd.R_lower (Kd.R_new' (Kd.R_new' ho0 (Kd.R_lt (by (with_reducible repeat (first|apply Kd.R_alloc|apply Kd.R_drewN|apply Kd.R_drew)); exact HO232.out))) (Kd.R_lt (by (with_reducible repeat (first|apply Kd.R_alloc|apply Kd.R_drewN|apply Kd.R_drew)); exact HO236.out))) (below_size (by repeat (first|(with_reducible first|exact HB.out|apply below_alloc|apply pw_below_drewN|apply below_drew1)|exact HB.out)))); have n3_ := Aside0.mk (below_step (by repeat (first|(with_reducible first|exact HB.out|apply below_alloc|apply pw_below_drewN|apply below_drew1)|exact HB.out)) hb); clear HO232; clear HO236; clear HB; have HO232 := n0_; have HO236 := n1_; have HO240 := n2_; have HB := n3_; clear n0_ n1_ n2_ n3_; (try clear hb); (try clear hb2); (try clear hk); (try clear hi); (try clear ho0)))
  (try simp only [Act.put, List.setIfInBounds_toArray, List.set_cons_zero, List.set_cons_succ])
  go_cut [43] (fun v43 wc => ∃ (kq : Nat) (x43_5 : Bool), v43 = .bool x43_5 ∧ Aside0 (laws_FnWrapFits.j0 kq t229 t230 t233 t234 t237 t238 x43_5 = some r) ∧ Aside0 (kq ≤ k) ∧ Aside0 (Kd.R Kd.string 9 wc w.heap.size (fun k_ => some k_ ≠ (v235 : Value).ownBlock ∧ some k_ ≠ (v239 : Value).ownBlock) (.slice Ao8 t229.length co8) t229) ∧ Aside0 (Kd.R Kd.string 9 wc w.heap.size (fun k_ => some k_ ≠ ((.slice Ao8 t229.length co8) : Value).ownBlock ∧ some k_ ≠ (v239 : Value).ownBlock) v235 t233) ∧ Aside0 (Kd.R Kd.string 9 wc w.heap.size (fun k_ => some k_ ≠ ((.slice Ao8 t229.length co8) : Value).ownBlock ∧ some k_ ≠ (v235 : Value).ownBlock) v239 t237) ∧ Aside0 (Below w.heap.size w wc))
  case first =>
   have H := HC6.out
   clear HC6
   replace H := Option.bind_eq_some_iff.mp H
   obtain ⟨t241, A110, H⟩ := H
   replace H : (if t241 = true then (if (t234 != t238) = true then (laws_FnWrapFits.j0 k t229 t230 t233 t234 t237 t238 true) else (laws_FnWrapFits.j0 k t229 t230 t233 t234 t237 t238 (!t234))) else (laws_FnWrapFits.j0 k t229 t230 t233 t234 t237 t238 true)) = some r := H
   have A11 := Aside0.mk A110
   clear A110
   by_cases c12 : t241 = true
   ·subst c12
    have H1 : (if (t234 != t238) = true then (laws_FnWrapFits.j0 k t229 t230 t233 t234 t237 t238 true) else (laws_FnWrapFits.j0 k t229 t230 t233 t234 t237 t238 (!t234))) = some r := by rw [if_pos rfl] at H; exact H
    clear H
    have H := H1
    clear H1
    by_cases c13 : (t234 != t238) = true
    ·rw [if_pos c13] at H
     have c13b0 : (t234 != t238) = true := c13
     (try (have c13b1 : decide (t234 = t238) = false := by simpa using c13))
     (try (have c13b2 : (t234 == t238) = false := by simpa using c13))
     (try (have c13b3 : ¬ (t234 = t238) := by simpa using c13))
     clear c13
     (first | rw [c13b0] | (simp only [i64_w, i32_w]; rw [c13b0]) | skip)
     have H' := Aside0.mk H
     clear H
     obtain ⟨Ao14, co14, eo14⟩ := Kd.R_slice HO236.out
     subst eo14
     obtain ⟨Ao15, co15, eo15⟩ := Kd.R_slice HO240.out
     subst eo15
     go_wp2_with (first | ((with_reducible refine gate_callee (f := 26) rfl ?_); refine goesL_ (some 33) rfl rfl Try.func26 (by kernel_rfl) rfl #[.slice Ao14 t233.length co14, .slice Ao15 t237.length co15] rfl (by (try simp only [List.map_toArray, List.map_cons, List.map_nil]); first | done | rfl | (simp only [List.length_drop, List.length_take]; rfl)) ?_; (with_reducible refine (laws_daTexts.calls k _ _ t233 _ _ t237 true _ ?side1 ?side2 ?side3 ?side4 A11.out).mono ?_); (case side1 => repeat (first | exact (Kd.R_reads' HO236.out).2.2 | (with_reducible refine Kd.C_alloc ?_ _) | (with_reducible refine Kd.C_drewN ?_ _) | (with_reducible refine Kd.C_drew ?_))); (case side2 => exact (Kd.R_reads' HO236.out).2.1); (case side3 => repeat (first | exact (Kd.R_reads' HO240.out).2.2 | (with_reducible refine Kd.C_alloc ?_ _) | (with_reducible refine Kd.C_drewN ?_ _) | (with_reducible refine Kd.C_drew ?_))); (case side4 => exact (Kd.R_reads' HO240.out).2.1); rintro e w' ⟨rfl, ⟨nd, rfl⟩⟩; refine ⟨_, rfl, ?_⟩))
     go_meet
     case rel => exact ⟨_, (true), (by first|rfl|(simp;done)|(simp[*];done)), H', ⟨by first | omega | exact Nat.le_refl _⟩, ⟨by (with_reducible repeat (first|apply Kd.R_alloc|apply Kd.R_drewN|apply Kd.R_drew)); exact Kd.R_mono HO232.out (fun _ hk => ⟨hk.1.2, hk.2⟩)⟩, ⟨by (with_reducible repeat (first|apply Kd.R_alloc|apply Kd.R_drewN|apply Kd.R_drew)); exact Kd.R_mono HO236.out (fun _ hk => ⟨hk.1.2, hk.2⟩)⟩, ⟨by (with_reducible repeat (first|apply Kd.R_alloc|apply Kd.R_drewN|apply Kd.R_drew)); exact Kd.R_mono HO240.out (fun _ hk => ⟨hk.1.2, hk.2⟩)⟩, ⟨by repeat (first|(with_reducible first|exact HB.out|apply below_alloc|apply pw_below_drewN|apply below_drew1)|exact HB.out)⟩⟩
    ·rw [if_neg c13] at H
     have c13b0 : (t234 != t238) = false := by simpa using c13
     (try (have c13b1 : decide (t234 = t238) = true := by simpa using c13))
     (try (have c13b2 : (t234 == t238) = true := by simpa using c13))
     clear c13
     (first | rw [c13b0] | (simp only [i64_w, i32_w]; rw [c13b0]) | skip)
     have H' := Aside0.mk H
     clear H
     obtain ⟨Ao16, co16, eo16⟩ := Kd.R_slice HO236.out
     subst eo16
     obtain ⟨Ao17, co17, eo17⟩ := Kd.R_slice HO240.out
     subst eo17
     go_wp2_with (first | ((with_reducible refine gate_callee (f := 26) rfl ?_); refine goesL_ (some 33) rfl rfl Try.func26 (by kernel_rfl) rfl #[.slice Ao16 t233.length co16, .slice Ao17 t237.length co17] rfl (by (try simp only [List.map_toArray, List.map_cons, List.map_nil]); first | done | rfl | (simp only [List.length_drop, List.length_take]; rfl)) ?_; (with_reducible refine (laws_daTexts.calls k _ _ t233 _ _ t237 true _ ?side1 ?side2 ?side3 ?side4 A11.out).mono ?_); (case side1 => repeat (first | exact (Kd.R_reads' HO236.out).2.2 | (with_reducible refine Kd.C_alloc ?_ _) | (with_reducible refine Kd.C_drewN ?_ _) | (with_reducible refine Kd.C_drew ?_))); (case side2 => exact (Kd.R_reads' HO236.out).2.1); (case side3 => repeat (first | exact (Kd.R_reads' HO240.out).2.2 | (with_reducible refine Kd.C_alloc ?_ _) | (with_reducible refine Kd.C_drewN ?_ _) | (with_reducible refine Kd.C_drew ?_))); (case side4 => exact (Kd.R_reads' HO240.out).2.1); rintro e w' ⟨rfl, ⟨nd, rfl⟩⟩; refine ⟨_, rfl, ?_⟩))
     go_meet
     case rel => exact ⟨_, (!t234), (by first|rfl|(simp;done)|(simp[*];done)), H', ⟨by first | omega | exact Nat.le_refl _⟩, ⟨by (with_reducible repeat (first|apply Kd.R_alloc|apply Kd.R_drewN|apply Kd.R_drew)); exact Kd.R_mono HO232.out (fun _ hk => ⟨hk.1.2, hk.2⟩)⟩, ⟨by (with_reducible repeat (first|apply Kd.R_alloc|apply Kd.R_drewN|apply Kd.R_drew)); exact Kd.R_mono HO236.out (fun _ hk => ⟨hk.1.2, hk.2⟩)⟩, ⟨by (with_reducible repeat (first|apply Kd.R_alloc|apply Kd.R_drewN|apply Kd.R_drew)); exact Kd.R_mono HO240.out (fun _ hk => ⟨hk.1.2, hk.2⟩)⟩, ⟨by repeat (first|(with_reducible first|exact HB.out|apply below_alloc|apply pw_below_drewN|apply below_drew1)|exact HB.out)⟩⟩
   ·replace c12 := Bool.eq_false_iff.mpr c12
    subst c12
    have H1 : (laws_FnWrapFits.j0 k t229 t230 t233 t234 t237 t238 true) = some r := by rw [if_neg (show ¬ (false = true) by decide)] at H; exact H
    clear H
    have H := H1
    clear H1
    have H' := Aside0.mk H
    clear H
    obtain ⟨Ao18, co18, eo18⟩ := Kd.R_slice HO236.out
    subst eo18
    obtain ⟨Ao19, co19, eo19⟩ := Kd.R_slice HO240.out
    subst eo19
    go_wp2_with (first | ((with_reducible refine gate_callee (f := 26) rfl ?_); refine goesL_ (some 33) rfl rfl Try.func26 (by kernel_rfl) rfl #[.slice Ao18 t233.length co18, .slice Ao19 t237.length co19] rfl (by (try simp only [List.map_toArray, List.map_cons, List.map_nil]); first | done | rfl | (simp only [List.length_drop, List.length_take]; rfl)) ?_; (with_reducible refine (laws_daTexts.calls k _ _ t233 _ _ t237 false _ ?side1 ?side2 ?side3 ?side4 A11.out).mono ?_); (case side1 => repeat (first | exact (Kd.R_reads' HO236.out).2.2 | (with_reducible refine Kd.C_alloc ?_ _) | (with_reducible refine Kd.C_drewN ?_ _) | (with_reducible refine Kd.C_drew ?_))); (case side2 => exact (Kd.R_reads' HO236.out).2.1); (case side3 => repeat (first | exact (Kd.R_reads' HO240.out).2.2 | (with_reducible refine Kd.C_alloc ?_ _) | (with_reducible refine Kd.C_drewN ?_ _) | (with_reducible refine Kd.C_drew ?_))); (case side4 => exact (Kd.R_reads' HO240.out).2.1); rintro e w' ⟨rfl, ⟨nd, rfl⟩⟩; refine ⟨_, rfl, ?_⟩))
    go_meet
    case rel => exact ⟨_, (true), (by first|rfl|(simp;done)|(simp[*];done)), H', ⟨by first | omega | exact Nat.le_refl _⟩, ⟨by (with_reducible repeat (first|apply Kd.R_alloc|apply Kd.R_drewN|apply Kd.R_drew)); exact Kd.R_mono HO232.out (fun _ hk => ⟨hk.1.2, hk.2⟩)⟩, ⟨by (with_reducible repeat (first|apply Kd.R_alloc|apply Kd.R_drewN|apply Kd.R_drew)); exact Kd.R_mono HO236.out (fun _ hk => ⟨hk.1.2, hk.2⟩)⟩, ⟨by (with_reducible repeat (first|apply Kd.R_alloc|apply Kd.R_drewN|apply Kd.R_drew)); exact Kd.R_mono HO240.out (fun _ hk => ⟨hk.1.2, hk.2⟩)⟩, ⟨by repeat (first|(with_reducible first|exact HB.out|apply below_alloc|apply pw_below_drewN|apply below_drew1)|exact HB.out)⟩⟩
  case rest =>
   clear HC6
   try clear c1
   try clear c2
   try clear c2b0
   try clear c2b1
   try clear p2
   try clear c5
   try clear c12
   try clear c13
   try clear c13b0
   try clear c13b1
   try clear c13b2
   obtain ⟨kq, x43_5, rfl, HA, HJ5, HO_3, HO_5, HO_7, HB⟩ := hcut
   cases kq with
   | zero => exact absurd HA.out (by simp [laws_FnWrapFits.j0])
   | succ kj5 =>
    have H := HA.out
    clear HA
    simp only [laws_FnWrapFits.j0] at H
    by_cases c20 : x43_5 = true
    ·subst c20
     have H1 : ((laws_daTexts.f kj5 t233 t237).bind fun t242 => (if t242 = true then (some (t234 == t238)) else (some false))) = some r := by rw [if_pos rfl] at H; exact H
     clear H
     have H := H1
     clear H1
     replace H := Option.bind_eq_some_iff.mp H
     obtain ⟨t242, A210, H⟩ := H
     replace H : (if t242 = true then (some (t234 == t238)) else (some false)) = some r := H
     have A21 := Aside0.mk A210
     clear A210
     by_cases c22 : t242 = true
     ·subst c22
      have H1 : (some (t234 == t238)) = some r := by rw [if_pos rfl] at H; exact H
      clear H
      have H := H1
      clear H1
      obtain rfl := Option.some.inj H
      obtain ⟨Ao23, co23, eo23⟩ := Kd.R_slice HO_5.out
      subst eo23
      obtain ⟨Ao24, co24, eo24⟩ := Kd.R_slice HO_7.out
      subst eo24
      go_wp2_with (first | ((with_reducible refine gate_callee (f := 26) rfl ?_); refine goesL_ (some 46) rfl rfl Try.func26 (by kernel_rfl) rfl #[.slice Ao23 t233.length co23, .slice Ao24 t237.length co24] rfl (by (try simp only [List.map_toArray, List.map_cons, List.map_nil]); first | done | rfl | (simp only [List.length_drop, List.length_take]; rfl)) ?_; (with_reducible refine (laws_daTexts.calls kj5 _ _ t233 _ _ t237 true _ ?side1 ?side2 ?side3 ?side4 A21.out).mono ?_); (case side1 => repeat (first | exact (Kd.R_reads' HO_5.out).2.2 | (with_reducible refine Kd.C_alloc ?_ _) | (with_reducible refine Kd.C_drewN ?_ _) | (with_reducible refine Kd.C_drew ?_))); (case side2 => exact (Kd.R_reads' HO_5.out).2.1); (case side3 => repeat (first | exact (Kd.R_reads' HO_7.out).2.2 | (with_reducible refine Kd.C_alloc ?_ _) | (with_reducible refine Kd.C_drewN ?_ _) | (with_reducible refine Kd.C_drew ?_))); (case side4 => exact (Kd.R_reads' HO_7.out).2.1); rintro e w' ⟨rfl, ⟨nd, rfl⟩⟩; refine ⟨_, rfl, ?_⟩))
      go_ret
      exact ⟨by first | rfl | (simp [errW_none, errW_some] <;> rfl) | (simp [*, errW_none, errW_some] <;> rfl), by repeat (first|(with_reducible first|exact HB.out|apply below_alloc|apply pw_below_drewN|apply below_drew1)|exact HB.out)⟩
     ·replace c22 := Bool.eq_false_iff.mpr c22
      subst c22
      have H1 : (some false) = some r := by rw [if_neg (show ¬ (false = true) by decide)] at H; exact H
      clear H
      have H := H1
      clear H1
      obtain rfl := Option.some.inj H
      obtain ⟨Ao25, co25, eo25⟩ := Kd.R_slice HO_5.out
      subst eo25
      obtain ⟨Ao26, co26, eo26⟩ := Kd.R_slice HO_7.out
      subst eo26
      go_wp2_with (first | ((with_reducible refine gate_callee (f := 26) rfl ?_); refine goesL_ (some 46) rfl rfl Try.func26 (by kernel_rfl) rfl #[.slice Ao25 t233.length co25, .slice Ao26 t237.length co26] rfl (by (try simp only [List.map_toArray, List.map_cons, List.map_nil]); first | done | rfl | (simp only [List.length_drop, List.length_take]; rfl)) ?_; (with_reducible refine (laws_daTexts.calls kj5 _ _ t233 _ _ t237 false _ ?side1 ?side2 ?side3 ?side4 A21.out).mono ?_); (case side1 => repeat (first | exact (Kd.R_reads' HO_5.out).2.2 | (with_reducible refine Kd.C_alloc ?_ _) | (with_reducible refine Kd.C_drewN ?_ _) | (with_reducible refine Kd.C_drew ?_))); (case side2 => exact (Kd.R_reads' HO_5.out).2.1); (case side3 => repeat (first | exact (Kd.R_reads' HO_7.out).2.2 | (with_reducible refine Kd.C_alloc ?_ _) | (with_reducible refine Kd.C_drewN ?_ _) | (with_reducible refine Kd.C_drew ?_))); (case side4 => exact (Kd.R_reads' HO_7.out).2.1); rintro e w' ⟨rfl, ⟨nd, rfl⟩⟩; refine ⟨_, rfl, ?_⟩))
      go_ret
      exact ⟨by first | rfl | (simp [errW_none, errW_some] <;> rfl) | (simp [*, errW_none, errW_some] <;> rfl), by repeat (first|(with_reducible first|exact HB.out|apply below_alloc|apply pw_below_drewN|apply below_drew1)|exact HB.out)⟩
    ·replace c20 := Bool.eq_false_iff.mpr c20
     subst c20
     have H1 : (laws_FnWrapFits.l0 kj5 t229 t230 t233 0) = some r := by rw [if_neg (show ¬ (false = true) by decide)] at H; exact H
     clear H
     have H := H1
     clear H1
     have H' := Aside0.mk H
     clear H
     go_wp2
     go_loopg [9] kj5 (fun kq v9 w' => ∃ (x9_2 : Int), v9 = .int .i64 x9_2 ∧ Aside0 (laws_FnWrapFits.l0 kq t229 t230 t233 x9_2 = some r) ∧ Aside0 (kq ≤ kj5) ∧ Aside0 (Kd.R Kd.string 9 w' w.heap.size (fun k_ => some k_ ≠ (v235 : Value).ownBlock) (.slice Ao8 t229.length co8) t229) ∧ Aside0 (Kd.R Kd.string 9 w' w.heap.size (fun k_ => some k_ ≠ ((.slice Ao8 t229.length co8) : Value).ownBlock) v235 t233) ∧ Aside0 (Below w.heap.size w w'))
     case atStart => exact ⟨(0), (by first|rfl|(simp;done)|(simp[*];done)), H', ⟨Nat.le_refl _⟩, ⟨by (with_reducible repeat (first|apply Kd.R_alloc|apply Kd.R_drewN|apply Kd.R_drew)); exact Kd.R_mono HO_3.out (fun _ hk => hk.1)⟩, ⟨by (with_reducible repeat (first|apply Kd.R_alloc|apply Kd.R_drewN|apply Kd.R_drew)); exact Kd.R_mono HO_5.out (fun _ hk => hk.1)⟩, ⟨by repeat (first|(with_reducible first|exact HB.out|apply below_alloc|apply pw_below_drewN|apply below_drew1)|exact HB.out)⟩⟩
     case round =>
      clear H'
      try clear c1
      try clear c2
      try clear c2b0
      try clear c2b1
      try clear p2
      try clear c5
      try clear c12
      try clear c13
      try clear c13b0
      try clear c13b1
      try clear c13b2
      try clear c20
      try clear c22
      try clear c23
      try clear c24
      try clear c25
      try clear c26
      try clear p2
      obtain ⟨x9_2, rfl, HA, HK2, HO_3, HO_5, HB⟩ := hrel
      cases gk with
      | zero => exact absurd HA.out (by simp [laws_FnWrapFits.l0])
      | succ k2 =>
       have H := HA.out
       clear HA
       simp only [laws_FnWrapFits.l0] at H
       by_cases c27 : x9_2 < (t229.length : Int)
       ·rw [if_pos c27] at H
        have c27b0 : decide (x9_2 < (t229.length : Int)) = true := decide_eq_true c27
        clear c27
        by_cases c28 : 0 ≤ x9_2
        ·rw [if_pos c28] at H
         have c28b0 : decide (0 ≤ x9_2) = true := decide_eq_true c28
         clear c28
         by_cases c29 : ((rdOf ByteArray.empty t229 x9_2).size : Int) > t230
         ·rw [if_pos c29] at H
          have c29b0 : decide (t230 < ((rdOf ByteArray.empty t229 x9_2).size : Int)) = true := decide_eq_true c29
          clear c29
          obtain rfl := Option.some.inj H
          have p243 : 0 ≤ (x9_2 : Int) := of_decide_eq_true (by first|(with_reducible assumption)|assumption)
          have q243 : x9_2 < (t229.length : Int) := of_decide_eq_true (by first|(with_reducible assumption)|assumption)
          obtain ⟨ad243, e243, hx243_0⟩ := Kd.at_string (Kd.R_reads' HO_3.out).2.2 x9_2 p243 q243
          cases e243
          replace p243 := eq_true p243
          replace q243 := eq_true q243
          go_wp2
          go_ret
          exact ⟨by first | rfl | (simp [errW_none, errW_some] <;> rfl) | (simp [*, errW_none, errW_some] <;> rfl), by repeat (first|(with_reducible first|exact HB.out|apply below_alloc|apply pw_below_drewN|apply below_drew1)|exact HB.out)⟩
         ·rw [if_neg c29] at H
          have c29b0 : decide (t230 < ((rdOf ByteArray.empty t229 x9_2).size : Int)) = false := decide_eq_false c29
          clear c29
          by_cases c30 : t230 > 20
          ·rw [if_pos c30] at H
           have c30b0 : decide (20 < t230) = true := decide_eq_true c30
           clear c30
           obtain rfl := Option.some.inj H
           have p243 : 0 ≤ (x9_2 : Int) := of_decide_eq_true (by first|(with_reducible assumption)|assumption)
           have q243 : x9_2 < (t229.length : Int) := of_decide_eq_true (by first|(with_reducible assumption)|assumption)
           obtain ⟨ad243, e243, hx243_0⟩ := Kd.at_string (Kd.R_reads' HO_3.out).2.2 x9_2 p243 q243
           cases e243
           replace p243 := eq_true p243
           replace q243 := eq_true q243
           go_wp2
           go_ret
           exact ⟨by first | rfl | (simp [errW_none, errW_some] <;> rfl) | (simp [*, errW_none, errW_some] <;> rfl), by repeat (first|(with_reducible first|exact HB.out|apply below_alloc|apply pw_below_drewN|apply below_drew1)|exact HB.out)⟩
          ·rw [if_neg c30] at H
           have c30b0 : decide (20 < t230) = false := decide_eq_false c30
           clear c30
           have H' := Aside0.mk H
           clear H
           have p243 : 0 ≤ (x9_2 : Int) := of_decide_eq_true (by first|(with_reducible assumption)|assumption)
           have q243 : x9_2 < (t229.length : Int) := of_decide_eq_true (by first|(with_reducible assumption)|assumption)
           obtain ⟨ad243, e243, hx243_0⟩ := Kd.at_string (Kd.R_reads' HO_3.out).2.2 x9_2 p243 q243
           cases e243
           replace p243 := eq_true p243
           replace q243 := eq_true q243
           go_wp2
           go_roundg k2
           case measure => have := HJ5.out; have := HK2.out; omega
           case rel => exact ⟨(wrap64 (x9_2 + 1)), (by first|rfl|(simp;done)|(simp[*];done)), H', ⟨by have := HJ5.out; have := HK2.out; omega⟩, ⟨by (with_reducible repeat (first|apply Kd.R_alloc|apply Kd.R_drewN|apply Kd.R_drew)); exact HO_3.out⟩, ⟨by (with_reducible repeat (first|apply Kd.R_alloc|apply Kd.R_drewN|apply Kd.R_drew)); exact HO_5.out⟩, ⟨by repeat (first|(with_reducible first|exact HB.out|apply below_alloc|apply pw_below_drewN|apply below_drew1)|exact HB.out)⟩⟩
        ·rw [if_neg c28] at H
         exact absurd H (by simp)
       ·rw [if_neg c27] at H
        have c27b0 : decide (x9_2 < (t229.length : Int)) = false := decide_eq_false c27
        clear c27
        have H' := Aside0.mk H
        clear H
        go_wp2
        go_loopg [10] k2 (fun kq v10 w' => ∃ (x10_3 : Int), v10 = .int .i64 x10_3 ∧ Aside0 (laws_FnWrapFits.l1 kq t230 t233 x10_3 = some r) ∧ Aside0 (kq ≤ k2) ∧ Aside0 (Kd.R Kd.string 9 w' w.heap.size (fun _ => True) v235 t233) ∧ Aside0 (Below w.heap.size w w'))
        case atStart => exact ⟨(0), (by first|rfl|(simp;done)|(simp[*];done)), H', ⟨Nat.le_refl _⟩, ⟨by (with_reducible repeat (first|apply Kd.R_alloc|apply Kd.R_drewN|apply Kd.R_drew)); exact Kd.R_mono HO_5.out (fun _ hk => trivial)⟩, ⟨by repeat (first|(with_reducible first|exact HB.out|apply below_alloc|apply pw_below_drewN|apply below_drew1)|exact HB.out)⟩⟩
        case round =>
         clear H'
         try clear c1
         try clear c2
         try clear c2b0
         try clear c2b1
         try clear p2
         try clear q2
         try clear hx2
         try clear c3
         try clear c5
         try clear p6
         try clear c12
         try clear c13
         try clear c13b0
         try clear c13b1
         try clear c13b2
         try clear c20
         try clear c22
         try clear c23
         try clear c24
         try clear p24
         try clear q24
         try clear hx24
         try clear c25
         try clear c26
         try clear c27
         try clear c27b0
         try clear c28
         try clear c28b0
         try clear c29
         try clear c29b0
         try clear c30
         try clear c30b0
         try clear hx243_0
         try clear p2
         try clear p243
         try clear q243
         obtain ⟨x10_3, rfl, HA, HK3, HO_5, HB⟩ := hrel
         cases gk with
         | zero => exact absurd HA.out (by simp [laws_FnWrapFits.l1])
         | succ k3 =>
          have H := HA.out
          clear HA
          simp only [laws_FnWrapFits.l1] at H
          by_cases c31 : x10_3 < (t233.length : Int)
          ·rw [if_pos c31] at H
           have c31b0 : decide (x10_3 < (t233.length : Int)) = true := decide_eq_true c31
           clear c31
           by_cases c32 : 0 ≤ x10_3
           ·rw [if_pos c32] at H
            have c32b0 : decide (0 ≤ x10_3) = true := decide_eq_true c32
            clear c32
            by_cases c33 : ((rdOf ByteArray.empty t233 x10_3).size : Int) > t230
            ·rw [if_pos c33] at H
             have c33b0 : decide (t230 < ((rdOf ByteArray.empty t233 x10_3).size : Int)) = true := decide_eq_true c33
             clear c33
             obtain rfl := Option.some.inj H
             obtain ⟨Ao34, co34, eo34⟩ := Kd.R_slice HO_5.out
             subst eo34
             have p244 : 0 ≤ (x10_3 : Int) := of_decide_eq_true (by first|(with_reducible assumption)|assumption)
             have q244 : x10_3 < (t233.length : Int) := of_decide_eq_true (by first|(with_reducible assumption)|assumption)
             obtain ⟨ad244, e244, hx244_0⟩ := Kd.at_string (Kd.R_reads' HO_5.out).2.2 x10_3 p244 q244
             cases e244
             replace p244 := eq_true p244
             replace q244 := eq_true q244
             go_wp2
             go_ret
             exact ⟨by first | rfl | (simp [errW_none, errW_some] <;> rfl) | (simp [*, errW_none, errW_some] <;> rfl), by repeat (first|(with_reducible first|exact HB.out|apply below_alloc|apply pw_below_drewN|apply below_drew1)|exact HB.out)⟩
            ·rw [if_neg c33] at H
             have c33b0 : decide (t230 < ((rdOf ByteArray.empty t233 x10_3).size : Int)) = false := decide_eq_false c33
             clear c33
             have H' := Aside0.mk H
             clear H
             obtain ⟨Ao35, co35, eo35⟩ := Kd.R_slice HO_5.out
             subst eo35
             have p244 : 0 ≤ (x10_3 : Int) := of_decide_eq_true (by first|(with_reducible assumption)|assumption)
             have q244 : x10_3 < (t233.length : Int) := of_decide_eq_true (by first|(with_reducible assumption)|assumption)
             obtain ⟨ad244, e244, hx244_0⟩ := Kd.at_string (Kd.R_reads' HO_5.out).2.2 x10_3 p244 q244
             cases e244
             replace p244 := eq_true p244
             replace q244 := eq_true q244
             go_wp2
             go_roundg k3
             case measure => have := HJ5.out; have := HK2.out; have := HK3.out; omega
             case rel => exact ⟨(wrap64 (x10_3 + 1)), (by first|rfl|(simp;done)|(simp[*];done)), H', ⟨by have := HJ5.out; have := HK2.out; have := HK3.out; omega⟩, ⟨by (with_reducible repeat (first|apply Kd.R_alloc|apply Kd.R_drewN|apply Kd.R_drew)); exact HO_5.out⟩, ⟨by repeat (first|(with_reducible first|exact HB.out|apply below_alloc|apply pw_below_drewN|apply below_drew1)|exact HB.out)⟩⟩
           ·rw [if_neg c32] at H
            exact absurd H (by simp)
          ·rw [if_neg c31] at H
           have c31b0 : decide (x10_3 < (t233.length : Int)) = false := decide_eq_false c31
           clear c31
           obtain rfl := Option.some.inj H
           obtain ⟨Ao36, co36, eo36⟩ := Kd.R_slice HO_5.out
           subst eo36
           go_wp2
           go_ret
           exact ⟨by first | rfl | (simp [errW_none, errW_some] <;> rfl) | (simp [*, errW_none, errW_some] <;> rfl), by repeat (first|(with_reducible first|exact HB.out|apply below_alloc|apply pw_below_drewN|apply below_drew1)|exact HB.out)⟩

/-- THE ONE PURE STATEMENT of laws_FnWrapFits: yours. -/
def laws_FnWrapFits.Pure : Prop := ∀ (l0 : List Int), l0.length ≤ maxLen → l0.length * 1 ≤ 140737488351232 → (∀ x ∈ l0, (Lit.int .u8 x).wf = true) → ∃ k, laws_FnWrapFits.f k l0 = some true
theorem laws_FnWrapFits.walk (P : laws_FnWrapFits.Pure) (a0 : Option Addr) (len0 cap0 : Nat) (z0 : List Int) (w : World) (w0 : (a0 = none ∧ len0 = 0 ∧ cap0 = 0 ∧ z0 = []) ∨ ∃ x, a0 = some x ∧ len0 ≤ cap0 ∧ cap0 ≤ maxLen ∧ z0.length = cap0 ∧ (∀ i, i < z0.length → w.cell? (x.add i) = some (.int .u8 (z0.getD i 0))) ∧ ∀ n ∈ z0, (Lit.int .u8 n).wf = true) (y0 : len0 * 1 ≤ 140737488351232) :
  Calls Try.prog 5 #[.slice a0 len0 cap0] w fun e w' => e = .returned (.bool true) ∧ Below w.heap.size w w' := by
 obtain ⟨l0, rfl, hr0, hm0, hw0, hc0⟩ := ReadsInt.ofRowC w0
 obtain ⟨k, h⟩ := P l0 hm0 y0 hw0
 refine (laws_FnWrapFits.calls k _ _ l0 true w (Kd.C_of_reads (d := (0 : Int)) (h1 := fun _ => rfl) hr0) hc0 h).mono ?_
 rintro e w' ⟨rfl, hd⟩
 exact ⟨rfl, hd⟩

/-! ### laws_szStringS: function 27 -/
def laws_szStringS.l0 : Nat → List ByteArray → Int → Int → Option (Int)
 | 0, _, _, _ => none
 | k + 1, x0, x1, x5 => if x5 < (x0.length : Int) then (if 0 ≤ x5 then (if (wrap64 (x1 - ((rdOf ByteArray.empty x0 x5).size : Int))) < 0 then (some (-1)) else (laws_szStringS.l0 k x0 (wrap64 (x1 - ((rdOf ByteArray.empty x0 x5).size : Int))) (wrap64 (x5 + 1)))) else (none)) else (some x1)
def laws_szStringS.f (k : Nat) (l0 : List ByteArray) (a1 : Int) : Option (Int) := if (wrap64 (a1 - (l0.length : Int))) < 0 then (some (-1)) else (laws_szStringS.l0 k l0 (wrap64 (a1 - (l0.length : Int))) 0)
theorem laws_szStringS.mono_l : ∀ k, (∀ y0 y1 y2, LeO (laws_szStringS.l0 k y0 y1 y2) (laws_szStringS.l0 (k + 1) y0 y1 y2))
 | 0 => fun _ _ _ r h => by simp [laws_szStringS.l0] at h
 | k + 1 => by
  have ih0 := laws_szStringS.mono_l k
  ·intro y0 y1 y2
   unfold laws_szStringS.l0
   repeat' first
   | (with_reducible exact ih0 _ _ _)
   | (with_reducible exact LeO.refl _)
   | (with_reducible exact LeO.none _)
   | (with_reducible refine LeO.ite ?_ ?_)
   | (with_reducible refine LeO.bind ?_ (fun _ => ?_))
   | exact ih0 _ _ _
   | exact LeO.none _
   | refine LeO.ite ?_ ?_
   | refine LeO.bind ?_ (fun _ => ?_)
theorem laws_szStringS.mono : ∀ a0 a1 k, LeO (laws_szStringS.f k a0 a1) (laws_szStringS.f (k + 1) a0 a1) := by
 intro a0 a1 k
 have ih0 := laws_szStringS.mono_l k
 unfold laws_szStringS.f
 repeat' first
   | (with_reducible exact ih0 _ _ _)
   | (with_reducible exact LeO.refl _)
   | (with_reducible exact LeO.none _)
   | (with_reducible refine LeO.ite ?_ ?_)
   | (with_reducible refine LeO.bind ?_ (fun _ => ?_))
   | exact ih0 _ _ _
   | exact LeO.none _
   | refine LeO.ite ?_ ?_
   | refine LeO.bind ?_ (fun _ => ?_)
set_option maxHeartbeats 8000000 in
set_option maxRecDepth 100000 in
theorem laws_szStringS.calls (k : Nat) (A0 : Option Addr) (c0 : Nat) (l0 : List ByteArray) (a1 : Int) (r : Int) (w : World) (hr0 : Kd.C Kd.string w A0 l0.length l0) (hc0 : l0.length ≤ c0) (h : laws_szStringS.f k l0 a1 = some r) :
  Calls Try.prog 27 #[.slice A0 l0.length c0, .int .i64 a1] w fun e w' => e = .returned (.int .i64 r) ∧ Drawn0 w w' := by
 have HR0 := Aside0.mk hr0
 have HC0 := Aside0.mk hc0
 clear hr0 hc0
 have H : (if (wrap64 (a1 - (l0.length : Int))) < 0 then (some (-1)) else (laws_szStringS.l0 k l0 (wrap64 (a1 - (l0.length : Int))) 0)) = some r := h
 clear h
 by_cases c3 : (wrap64 (a1 - (l0.length : Int))) < 0
 ·rw [if_pos c3] at H
  have c3b0 : decide ((wrap64 (a1 - (l0.length : Int))) < 0) = true := decide_eq_true c3
  clear c3
  obtain rfl := Option.some.inj H
  go_enter Try.func27, Try.ntmps27
  go_wp2
  go_ret
  exact ⟨by first | rfl | (simp; done) | (simp [*]; done), by repeat (first | exact Drawn0.refl _ | apply Drawn0.step)⟩
 ·rw [if_neg c3] at H
  have c3b0 : decide ((wrap64 (a1 - (l0.length : Int))) < 0) = false := decide_eq_false c3
  clear c3
  have H' := Aside0.mk H
  clear H
  go_enter Try.func27, Try.ntmps27
  go_wp2
  go_loopg [1, 5] k (fun kq v1 v5 w' => ∃ (x1_1 : Int) (x5_1 : Int), v1 = .int .i64 x1_1 ∧ v5 = .int .i64 x5_1 ∧ Aside0 (laws_szStringS.l0 kq l0 x1_1 x5_1 = some r) ∧ Aside0 (kq ≤ k) ∧ Drawn0 w w')
  case atStart => exact ⟨(wrap64 (a1 - (l0.length : Int))), (0), (by first|rfl|(simp;done)|(simp[*];done)), (by first|rfl|(simp;done)|(simp[*];done)), H', ⟨Nat.le_refl _⟩, by repeat (first | exact Drawn0.refl _ | apply Drawn0.step)⟩
  case round =>
   clear H'
   try clear c2
   try clear p2
   try clear c3
   try clear c3b0
   obtain ⟨x1_1, x5_1, rfl, rfl, HA, HK1, ⟨m1, rfl⟩⟩ := hrel
   cases gk with
   | zero => exact absurd HA.out (by simp [laws_szStringS.l0])
   | succ k1 =>
    have H := HA.out
    clear HA
    simp only [laws_szStringS.l0] at H
    by_cases c4 : x5_1 < (l0.length : Int)
    ·rw [if_pos c4] at H
     have c4b0 : decide (x5_1 < (l0.length : Int)) = true := decide_eq_true c4
     clear c4
     by_cases c5 : 0 ≤ x5_1
     ·rw [if_pos c5] at H
      have c5b0 : decide (0 ≤ x5_1) = true := decide_eq_true c5
      clear c5
      by_cases c6 : (wrap64 (x1_1 - ((rdOf ByteArray.empty l0 x5_1).size : Int))) < 0
      ·rw [if_pos c6] at H
       have c6b0 : decide ((wrap64 (x1_1 - ((rdOf ByteArray.empty l0 x5_1).size : Int))) < 0) = true := decide_eq_true c6
       clear c6
       obtain rfl := Option.some.inj H
       have p245 : 0 ≤ (x5_1 : Int) := of_decide_eq_true (by first|(with_reducible assumption)|assumption)
       have q245 : x5_1 < (l0.length : Int) := of_decide_eq_true (by first|(with_reducible assumption)|assumption)
       obtain ⟨ad245, e245, hx245_0⟩ := Kd.at_string HR0.out x5_1 p245 q245
       cases e245
       replace p245 := eq_true p245
       replace q245 := eq_true q245
       go_wp2
       go_ret
       exact ⟨by first | rfl | (simp; done) | (simp [*]; done), by repeat (first | exact Drawn0.refl _ | apply Drawn0.step)⟩
      ·rw [if_neg c6] at H
       have c6b0 : decide ((wrap64 (x1_1 - ((rdOf ByteArray.empty l0 x5_1).size : Int))) < 0) = false := decide_eq_false c6
       clear c6
       have H' := Aside0.mk H
       clear H
       have p245 : 0 ≤ (x5_1 : Int) := of_decide_eq_true (by first|(with_reducible assumption)|assumption)
       have q245 : x5_1 < (l0.length : Int) := of_decide_eq_true (by first|(with_reducible assumption)|assumption)
       obtain ⟨ad245, e245, hx245_0⟩ := Kd.at_string HR0.out x5_1 p245 q245
       cases e245
       replace p245 := eq_true p245
       replace q245 := eq_true q245
       go_wp2
       go_roundg k1
       case measure => have := HK1.out; omega
       case rel => exact ⟨(wrap64 (x1_1 - ((rdOf ByteArray.empty l0 x5_1).size : Int))), (wrap64 (x5_1 + 1)), (by first|rfl|(simp;done)|(simp[*];done)), (by first|rfl|(simp;done)|(simp[*];done)), H', ⟨by have := HK1.out; omega⟩, by repeat (first | exact Drawn0.refl _ | apply Drawn0.step)⟩
     ·rw [if_neg c5] at H
      exact absurd H (by simp)
    ·rw [if_neg c4] at H
     have c4b0 : decide (x5_1 < (l0.length : Int)) = false := decide_eq_false c4
     clear c4
     obtain rfl := Option.some.inj H
     go_wp2
     go_ret
     exact ⟨by first | rfl | (simp; done) | (simp [*]; done), by repeat (first | exact Drawn0.refl _ | apply Drawn0.step)⟩

/-! ### laws_toStringS: function 28 -/
def laws_toStringS.l0 : Nat → List ByteArray → List ByteArray → Int → Option (List ByteArray)
 | 0, _, _, _ => none
 | k + 1, x0, x3, x4 => if x4 < (x0.length : Int) then (if 0 ≤ x4 then (if x4 < (x3.length : Int) then (laws_toStringS.l0 k x0 (x3.set (x4 : Int).toNat (rdOf ByteArray.empty x0 x4)) (wrap64 (x4 + 1))) else (none)) else (none)) else (some x3)
def laws_toStringS.f (k : Nat) (l0 : List ByteArray) : Option (List ByteArray) := if 0 ≤ (l0.length : Int) then (if ((l0.length : Int) : Int).toNat ≤ 17592186044416 then (laws_toStringS.l0 k l0 (List.replicate ((l0.length : Int) : Int).toNat (⟨#[]⟩ : ByteArray)) 0) else (none)) else (none)
theorem laws_toStringS.mono_l : ∀ k, (∀ y0 y1 y2, LeO (laws_toStringS.l0 k y0 y1 y2) (laws_toStringS.l0 (k + 1) y0 y1 y2))
 | 0 => fun _ _ _ r h => by simp [laws_toStringS.l0] at h
 | k + 1 => by
  have ih0 := laws_toStringS.mono_l k
  ·intro y0 y1 y2
   unfold laws_toStringS.l0
   repeat' first
   | (with_reducible exact ih0 _ _ _)
   | (with_reducible exact LeO.refl _)
   | (with_reducible exact LeO.none _)
   | (with_reducible refine LeO.ite ?_ ?_)
   | (with_reducible refine LeO.bind ?_ (fun _ => ?_))
   | exact ih0 _ _ _
   | exact LeO.none _
   | refine LeO.ite ?_ ?_
   | refine LeO.bind ?_ (fun _ => ?_)
theorem laws_toStringS.mono : ∀ a0 k, LeO (laws_toStringS.f k a0) (laws_toStringS.f (k + 1) a0) := by
 intro a0 k
 have ih0 := laws_toStringS.mono_l k
 unfold laws_toStringS.f
 repeat' first
   | (with_reducible exact ih0 _ _ _)
   | (with_reducible exact LeO.refl _)
   | (with_reducible exact LeO.none _)
   | (with_reducible refine LeO.ite ?_ ?_)
   | (with_reducible refine LeO.bind ?_ (fun _ => ?_))
   | exact ih0 _ _ _
   | exact LeO.none _
   | refine LeO.ite ?_ ?_
   | refine LeO.bind ?_ (fun _ => ?_)
set_option maxHeartbeats 8000000 in
set_option maxRecDepth 100000 in
theorem laws_toStringS.calls (k : Nat) (A0 : Option Addr) (c0 : Nat) (l0 : List ByteArray) (r : List ByteArray) (w : World) (hr0 : Kd.C Kd.string w A0 l0.length l0) (hc0 : l0.length ≤ c0) (h : laws_toStringS.f k l0 = some r) :
  Calls Try.prog 28 #[.slice A0 l0.length c0] w fun e w' => ∃ v0_ : Value, e = .returned (v0_) ∧ Kd.R Kd.string 9 w' w.heap.size (fun _ => True) v0_ r ∧ Below w.heap.size w w' := by
 have HR0 := Aside0.mk hr0
 have HC0 := Aside0.mk hc0
 clear hr0 hc0
 have HB := Aside0.mk (Below.refl w.heap.size w)
 have H : (if 0 ≤ (l0.length : Int) then (if ((l0.length : Int) : Int).toNat ≤ 17592186044416 then (laws_toStringS.l0 k l0 (List.replicate ((l0.length : Int) : Int).toNat (⟨#[]⟩ : ByteArray)) 0) else (none)) else (none)) = some r := h
 clear h
 by_cases c2 : 0 ≤ (l0.length : Int)
 ·rw [if_pos c2] at H
  have c2b0 := eq_true c2
  have c2b1 : decide (0 ≤ (l0.length : Int)) = true := decide_eq_true c2
  clear c2
  by_cases c3 : ((l0.length : Int) : Int).toNat ≤ 17592186044416
  ·rw [if_pos c3] at H
   have c3b0 := eq_true c3
   have c3b1 : decide (((l0.length : Int) : Int).toNat ≤ 17592186044416) = true := decide_eq_true c3
   clear c3
   obtain ⟨y246, hy246⟩ : ∃ y_ : List ByteArray, y_ = (List.replicate ((l0.length : Int) : Int).toNat (⟨#[]⟩ : ByteArray)) := ⟨_, rfl⟩
   replace H : (laws_toStringS.l0 k l0 y246 0) = some r := by first | (rw [hy246]; with_reducible exact H) | (have H2_ := (Option.bind_some _ _).symm.trans H; rw [hy246]; with_reducible exact H2_) | (have H2_ := (Option.bind_some _ _).symm.trans H; with_reducible exact H2_) | with_reducible exact H | (rw [hy246]; exact H) | exact H
   have Ny246 := Aside0.mk hy246
   clear hy246
   have H' := Aside0.mk H
   clear H
   go_enter Try.func28, Try.ntmps28
   go_wp2_with (first | ((with_reducible refine gate_dst (N := 7) rfl ?_); refine Kd.R_make Kd.string _ 9 rfl (N := 7) rfl 39 _ _ rfl (l0.length : Int) rfl rfl Try.underlying39 (.string ⟨#[]⟩) 16 info9 rfl (by decide) (by omega) (⟨#[]⟩ : ByteArray) (ok := fun _ => True) (okp := fun _ => True) rfl (fun _ hk => hk) trivial (of_decide_eq_true (by first|(with_reducible assumption)|assumption)) (Nat.le_trans (Nat.mul_le_mul_right _ (of_decide_eq_true (by first|(with_reducible assumption)|assumption) : (l0.length : Int).toNat ≤ 17592186044416)) (by omega)) (Below.refl _ _) (Nat.le_refl _) ?_; intro v247 w4 ho5 hb hg_ hnew_; clear hg_ hnew_; (first | rw [← Ny246.out] at ho5 | (simp only [Int.reduceToNat] at ho5; rw [← Ny246.out] at ho5)); have n0_ := Aside0.mk (Kd.R_lower ho5 (below_size (by repeat (first|(with_reducible first|exact HB.out|apply below_alloc|apply pw_below_drewN|apply below_drew1)|exact HB.out)))); have n1_ := Aside0.mk (below_step (by repeat (first|(with_reducible first|exact HB.out|apply below_alloc|apply pw_below_drewN|apply below_drew1)|exact HB.out)) hb); clear HB; have HO248 := n0_; have HB := n1_; clear n0_ n1_; clear hb ho5))
   go_loopg [4] k (fun kq v4 w' => ∃ (x3_1 : List ByteArray) (x4_1 : Int), v4 = .int .i64 x4_1 ∧ Aside0 (laws_toStringS.l0 kq l0 x3_1 x4_1 = some r) ∧ Aside0 (kq ≤ k) ∧ Aside0 (Kd.R Kd.string 9 w' w.heap.size (fun _ => True) v247 x3_1) ∧ Aside0 (Below w.heap.size w w'))
   case atStart => exact ⟨(y246), (0), (by first|rfl|(simp;done)|(simp[*];done)), H', ⟨Nat.le_refl _⟩, ⟨by (with_reducible repeat (first|apply Kd.R_alloc|apply Kd.R_drewN|apply Kd.R_drew)); exact HO248.out⟩, ⟨by repeat (first|(with_reducible first|exact HB.out|apply below_alloc|apply pw_below_drewN|apply below_drew1)|exact HB.out)⟩⟩
   case round =>
    clear H'
    try clear c2
    try clear c2b0
    try clear c2b1
    try clear p2
    try clear c3
    try clear c3b0
    try clear c3b1
    obtain ⟨x3_1, x4_1, rfl, HA, HK1, HO_3, HB⟩ := hrel
    cases gk with
    | zero => exact absurd HA.out (by simp [laws_toStringS.l0])
    | succ k1 =>
     have H := HA.out
     clear HA
     simp only [laws_toStringS.l0] at H
     by_cases c6 : x4_1 < (l0.length : Int)
     ·rw [if_pos c6] at H
      have c6b0 : decide (x4_1 < (l0.length : Int)) = true := decide_eq_true c6
      clear c6
      by_cases c7 : 0 ≤ x4_1
      ·rw [if_pos c7] at H
       have c7b0 : decide (0 ≤ x4_1) = true := decide_eq_true c7
       clear c7
       by_cases c8 : x4_1 < (x3_1.length : Int)
       ·rw [if_pos c8] at H
        have c8b0 : decide (x4_1 < (x3_1.length : Int)) = true := decide_eq_true c8
        clear c8
        obtain ⟨y250, hy250⟩ : ∃ y_ : List ByteArray, y_ = (x3_1.set (x4_1 : Int).toNat (rdOf ByteArray.empty l0 x4_1)) := ⟨_, rfl⟩
        replace H : (laws_toStringS.l0 k1 l0 y250 (wrap64 (x4_1 + 1))) = some r := by first | (rw [hy250]; with_reducible exact H) | (have H2_ := (Option.bind_some _ _).symm.trans H; rw [hy250]; with_reducible exact H2_) | (have H2_ := (Option.bind_some _ _).symm.trans H; with_reducible exact H2_) | with_reducible exact H | (rw [hy250]; exact H) | exact H
        have Ny250 := Aside0.mk hy250
        clear hy250
        have H' := Aside0.mk H
        clear H
        have p249 : 0 ≤ (x4_1 : Int) := of_decide_eq_true (by first|(with_reducible assumption)|assumption)
        have q249 : x4_1 < (l0.length : Int) := of_decide_eq_true (by first|(with_reducible assumption)|assumption)
        obtain ⟨ad249, e249, hx249_0⟩ := Kd.at_string HR0.out x4_1 p249 q249
        cases e249
        replace hx249_0 := (HB.out.cell (World.block_lt_of_cell? w _ hx249_0)).trans hx249_0
        replace p249 := eq_true p249
        replace q249 := eq_true q249
        have p9 : 0 ≤ (x4_1 : Int) := of_decide_eq_true (by first|(with_reducible assumption)|assumption)
        have q9 : (x4_1 : Int) < ((x3_1.length : Int) : Int) := of_decide_eq_true (by first|(with_reducible assumption)|assumption)
        obtain ⟨go9, co9, eo9, gb9, gl9, cl9, HG9⟩ := Kd.R_form HO_3.out (by omega)
        (first | cases eo9 | (injection eo9 with ea_ en_ ec_; (first | subst ea_ | (injection ea_ with ea_; subst ea_)); subst ec_; clear en_))
        have GB9 := Aside0.mk gb9
        have GG9 := Aside0.mk HG9
        clear gb9 gl9 HG9
        obtain ⟨hx9_0, hf9_0⟩ := Kd.R_celln (⟨#[]⟩ : ByteArray) HO_3.out (x4_1 : Int) p9 q9
        replace p9 := eq_true p9
        replace q9 := eq_true q9
        have HP10 := Kd.R_putg HO_3.out (x4_1 : Int) (rdOf ByteArray.empty l0 x4_1)
        go_wp2_with (first | ((with_reducible refine gate_store (t := 9) (p := 20) rfl ?_); refine store_event (t := 9) (p := 20) (v := ?vo_w11) (w1 := (wr.setCell ⟨go9, (x4_1 : Int).toNat, none⟩ (.string (rdOf ByteArray.empty l0 x4_1)))) ?hg ?ho ?hn ?hr ?_; (case ho => rfl); (case hg => rfl); (case hn => rfl); (case hr => first | (go_simp; done) | (go_simp; rfl)); intro w11 hw; have hg : wr.grownBy w11 (some go9) := (by rw [hw]; exact HP10.2); have hp_ : Kd.R Kd.string 9 w11 w.heap.size (fun _ => True) (.slice (some ⟨go9, 0, none⟩) x3_1.length co9) y250 := (by rw [hw, Ny250.out]; exact HP10.1); clear HP10; have n0_ := Aside0.mk (hp_); have n1_ := Aside0.mk ((by rw [hw]; exact below_set (HB.out) GB9.out : Below w.heap.size w w11)); clear HO_3; clear HB; have HO_3 := n0_; have HB := n1_; clear n0_ n1_; clear hg hw hp_))
        go_roundg k1
        case measure => have := HK1.out; omega
        case rel => exact ⟨(y250), (wrap64 (x4_1 + 1)), (by first|rfl|(simp;done)|(simp[*];done)), H', ⟨by have := HK1.out; omega⟩, ⟨by (with_reducible repeat (first|apply Kd.R_alloc|apply Kd.R_drewN|apply Kd.R_drew)); exact HO_3.out⟩, ⟨by repeat (first|(with_reducible first|exact HB.out|apply below_alloc|apply pw_below_drewN|apply below_drew1)|exact HB.out)⟩⟩
       ·rw [if_neg c8] at H
        exact absurd H (by simp)
      ·rw [if_neg c7] at H
       exact absurd H (by simp)
     ·rw [if_neg c6] at H
      have c6b0 : decide (x4_1 < (l0.length : Int)) = false := decide_eq_false c6
      clear c6
      obtain rfl := Option.some.inj H
      go_wp2
      go_ret
      exact ⟨_, by first | rfl | (simp [errW_none, errW_some] <;> rfl) | (simp [*, errW_none, errW_some] <;> rfl), by (with_reducible repeat (first|apply Kd.R_alloc|apply Kd.R_drewN|apply Kd.R_drew)); exact HO_3.out, by repeat (first|(with_reducible first|exact HB.out|apply below_alloc|apply pw_below_drewN|apply below_drew1)|exact HB.out)⟩
  ·rw [if_neg c3] at H
   exact absurd H (by simp)
 ·rw [if_neg c2] at H
  exact absurd H (by simp)

end Go.Proofs.Ythcfocpimoghbaa.PWb
