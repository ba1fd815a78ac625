-- Written by a program of this session (xprint). -- COMPACT
import Derived.Test.YthcfocpimoghbaaPWbx0
import Derived.Test.YthcfocpimoghbaaPWbx1
import Derived.Test.YthcfocpimoghbaaPWbx3
import Derived.Test.YthcfocpimoghbaaPWbx6
import Derived.Test.YthcfocpimoghbaaPWbx9
namespace Go.Proofs.Ythcfocpimoghbaa.PWb
open Go.RowKit Go.Proofs.YthcfocpimoghbaaW.PrintWords Go.Proofs.YthcfocpimoghbaaW.PrintLast Go.Proofs.YthcfocpimoghbaaW.PrintMore
attribute [local go_sem] max2_int min2_int max_two min_two max_three min_three max_four min_four   -- for this text's walks alone
set_option linter.unusedVariables false
set_option linter.unusedSimpArgs false

/-! ### laws_FnWrapFew: function 7 -/
mutual
def laws_FnWrapFew.j0 : Nat → Int → List ByteArray → Bool → List ByteArray → Bool → List ByteArray → Bool → Option (Bool)
 | 0, _, _, _, _, _, _, _ => none
 | k + 1, x4, x5, x6, x7, x8, x9, x54 => if x54 = true then ((laws_daTexts.f k x5 x7).bind fun t326 => (if t326 = true then (some (x6 == x8)) else (some false))) else (laws_FnWrapFew.l0 k x4 x5 x9 0)
def laws_FnWrapFew.l0 : Nat → Int → List ByteArray → List ByteArray → Int → Option (Bool)
 | 0, _, _, _, _ => none
 | k + 1, x4, x5, x9, x11 => if x11 < (x5.length : Int) then (if 0 ≤ x11 then (if ((rdOf ByteArray.empty x5 x11).size : Int) > x4 then (some true) else (laws_FnWrapFew.l0 k x4 x5 x9 (wrap64 (x11 + 1)))) else (none)) else (some (decide ((x9.length : Int) ≤ (x5.length : Int))))
end
def laws_FnWrapFew.f (k : Nat) (l0 : List Int) : Option (Bool) := if (l0.length : Int) > 1048576 then (some true) else ((spec_DrawWrapBest.f k l0).bind fun bt309 => ((impl_WrapBest.f k bt309.1 bt309.2).bind fun bt313 => ((spec_WrapBest.f k bt309.1 bt309.2).bind fun bt317 => ((impl_WrapGreedy.f k bt309.1 bt309.2).bind fun bt321 => ((laws_daTexts.f k bt313.1 bt317.1).bind fun t325 => (if t325 = true then (if (bt313.2 != bt317.2) = true then (laws_FnWrapFew.j0 k bt309.2 bt313.1 bt313.2 bt317.1 bt317.2 bt321.1 true) else (if bt313.2 = true then (laws_FnWrapFew.j0 k bt309.2 bt313.1 bt313.2 bt317.1 bt317.2 bt321.1 (!bt321.2)) else (laws_FnWrapFew.j0 k bt309.2 bt313.1 bt313.2 bt317.1 bt317.2 bt321.1 true))) else (laws_FnWrapFew.j0 k bt309.2 bt313.1 bt313.2 bt317.1 bt317.2 bt321.1 true)))))))
theorem laws_FnWrapFew.mono_l : ∀ k, (∀ y0 y1 y2 y3 y4 y5 y6, LeO (laws_FnWrapFew.j0 k y0 y1 y2 y3 y4 y5 y6) (laws_FnWrapFew.j0 (k + 1) y0 y1 y2 y3 y4 y5 y6)) ∧ (∀ y0 y1 y2 y3, LeO (laws_FnWrapFew.l0 k y0 y1 y2 y3) (laws_FnWrapFew.l0 (k + 1) y0 y1 y2 y3))
 | 0 => ⟨fun _ _ _ _ _ _ _ r h => by simp [laws_FnWrapFew.j0] at h, fun _ _ _ _ r h => by simp [laws_FnWrapFew.l0] at h⟩
 | k + 1 => by
  obtain ⟨ih0, ih1⟩ := laws_FnWrapFew.mono_l k
  refine ⟨?_, ?_⟩
  ·intro y0 y1 y2 y3 y4 y5 y6
   unfold laws_FnWrapFew.j0
   repeat' first
   | (with_reducible exact ih0 _ _ _ _ _ _ _)
   | (with_reducible exact ih1 _ _ _ _)
   | (with_reducible exact impl_WrapBest.mono _ _ _)
   | (with_reducible exact impl_WrapGreedy.mono _ _ _)
   | (with_reducible exact laws_daTexts.mono _ _ _)
   | (with_reducible exact spec_DrawWrapBest.mono _ _)
   | (with_reducible exact spec_WrapBest.mono _ _ _)
   | (with_reducible exact LeO.refl _)
   | (with_reducible exact LeO.none _)
   | (with_reducible refine LeO.ite ?_ ?_)
   | (with_reducible refine LeO.bind ?_ (fun _ => ?_))
   | exact ih0 _ _ _ _ _ _ _
   | exact ih1 _ _ _ _
   | exact impl_WrapBest.mono _ _ _
   | exact impl_WrapGreedy.mono _ _ _
   | exact laws_daTexts.mono _ _ _
   | exact spec_DrawWrapBest.mono _ _
   | exact spec_WrapBest.mono _ _ _
   | exact LeO.none _
   | refine LeO.ite ?_ ?_
   | refine LeO.bind ?_ (fun _ => ?_)
  ·intro y0 y1 y2 y3
   unfold laws_FnWrapFew.l0
   repeat' first
   | (with_reducible exact ih0 _ _ _ _ _ _ _)
   | (with_reducible exact ih1 _ _ _ _)
   | (with_reducible exact impl_WrapBest.mono _ _ _)
   | (with_reducible exact impl_WrapGreedy.mono _ _ _)
   | (with_reducible exact laws_daTexts.mono _ _ _)
   | (with_reducible exact spec_DrawWrapBest.mono _ _)
   | (with_reducible exact spec_WrapBest.mono _ _ _)
   | (with_reducible exact LeO.refl _)
   | (with_reducible exact LeO.none _)
   | (with_reducible refine LeO.ite ?_ ?_)
   | (with_reducible refine LeO.bind ?_ (fun _ => ?_))
   | exact ih0 _ _ _ _ _ _ _
   | exact ih1 _ _ _ _
   | exact impl_WrapBest.mono _ _ _
   | exact impl_WrapGreedy.mono _ _ _
   | exact laws_daTexts.mono _ _ _
   | exact spec_DrawWrapBest.mono _ _
   | exact spec_WrapBest.mono _ _ _
   | exact LeO.none _
   | refine LeO.ite ?_ ?_
   | refine LeO.bind ?_ (fun _ => ?_)
theorem laws_FnWrapFew.mono : ∀ a0 k, LeO (laws_FnWrapFew.f k a0) (laws_FnWrapFew.f (k + 1) a0) := by
 intro a0 k
 obtain ⟨ih0, ih1⟩ := laws_FnWrapFew.mono_l k
 unfold laws_FnWrapFew.f
 repeat' first
   | (with_reducible exact ih0 _ _ _ _ _ _ _)
   | (with_reducible exact ih1 _ _ _ _)
   | (with_reducible exact impl_WrapBest.mono _ _ _)
   | (with_reducible exact impl_WrapGreedy.mono _ _ _)
   | (with_reducible exact laws_daTexts.mono _ _ _)
   | (with_reducible exact spec_DrawWrapBest.mono _ _)
   | (with_reducible exact spec_WrapBest.mono _ _ _)
   | (with_reducible exact LeO.refl _)
   | (with_reducible exact LeO.none _)
   | (with_reducible refine LeO.ite ?_ ?_)
   | (with_reducible refine LeO.bind ?_ (fun _ => ?_))
   | exact ih0 _ _ _ _ _ _ _
   | exact ih1 _ _ _ _
   | exact impl_WrapBest.mono _ _ _
   | exact impl_WrapGreedy.mono _ _ _
   | exact laws_daTexts.mono _ _ _
   | exact spec_DrawWrapBest.mono _ _
   | exact spec_WrapBest.mono _ _ _
   | exact LeO.none _
   | refine LeO.ite ?_ ?_
   | refine LeO.bind ?_ (fun _ => ?_)
set_option maxHeartbeats 8000000 in
set_option maxRecDepth 100000 in
theorem laws_FnWrapFew.calls (k : Nat) (A0 : Option Addr) (c0 : Nat) (l0 : List Int) (r : Bool) (w : World) (hr0 : Kd.C (Kd.int .u8) w A0 l0.length l0) (hc0 : l0.length ≤ c0) (h : laws_FnWrapFew.f k l0 = some r) :
  Calls Try.prog 7 #[.slice A0 l0.length c0] w fun e w' => e = .returned (.bool r) ∧ Below w.heap.size w w' := by
 have HR0 := Aside0.mk hr0
 have HC0 := Aside0.mk hc0
 clear hr0 hc0
 have HB := Aside0.mk (Below.refl w.heap.size w)
 have H : (if (l0.length : Int) > 1048576 then (some true) else ((spec_DrawWrapBest.f k l0).bind fun bt309 => ((impl_WrapBest.f k bt309.1 bt309.2).bind fun bt313 => ((spec_WrapBest.f k bt309.1 bt309.2).bind fun bt317 => ((impl_WrapGreedy.f k bt309.1 bt309.2).bind fun bt321 => ((laws_daTexts.f k bt313.1 bt317.1).bind fun t325 => (if t325 = true then (if (bt313.2 != bt317.2) = true then (laws_FnWrapFew.j0 k bt309.2 bt313.1 bt313.2 bt317.1 bt317.2 bt321.1 true) else (if bt313.2 = true then (laws_FnWrapFew.j0 k bt309.2 bt313.1 bt313.2 bt317.1 bt317.2 bt321.1 (!bt321.2)) else (laws_FnWrapFew.j0 k bt309.2 bt313.1 bt313.2 bt317.1 bt317.2 bt321.1 true))) else (laws_FnWrapFew.j0 k bt309.2 bt313.1 bt313.2 bt317.1 bt317.2 bt321.1 true)))))))) = some r := h
 clear h
 by_cases c2 : (l0.length : Int) > 1048576
 ·rw [if_pos c2] at H
  have c2b0 : decide (1048576 < (l0.length : Int)) = true := decide_eq_true c2
  have c2b1 : decide (1048576 < l0.length) = true := decide_eq_true (by omega)
  clear c2
  obtain rfl := Option.some.inj H
  go_enter Try.func7, Try.ntmps7
  go_wp2
  go_ret
  exact ⟨by first | rfl | (simp [errW_none, errW_some] <;> rfl) | (simp [*, errW_none, errW_some] <;> rfl), by repeat (first|(with_reducible first|exact HB.out|apply below_alloc|apply pw_below_drewN|apply below_drew1)|exact HB.out)⟩
 ·rw [if_neg c2] at H
  have c2b0 : decide (1048576 < (l0.length : Int)) = false := decide_eq_false c2
  have c2b1 : decide (1048576 < l0.length) = false := decide_eq_false (by omega)
  clear c2
  replace H := Option.bind_eq_some_iff.mp H
  obtain ⟨⟨t309, t310⟩, A30, H⟩ := H
  replace H : ((impl_WrapBest.f k t309 t310).bind fun bt313 => ((spec_WrapBest.f k t309 t310).bind fun bt317 => ((impl_WrapGreedy.f k t309 t310).bind fun bt321 => ((laws_daTexts.f k bt313.1 bt317.1).bind fun t325 => (if t325 = true then (if (bt313.2 != bt317.2) = true then (laws_FnWrapFew.j0 k t310 bt313.1 bt313.2 bt317.1 bt317.2 bt321.1 true) else (if bt313.2 = true then (laws_FnWrapFew.j0 k t310 bt313.1 bt313.2 bt317.1 bt317.2 bt321.1 (!bt321.2)) else (laws_FnWrapFew.j0 k t310 bt313.1 bt313.2 bt317.1 bt317.2 bt321.1 true))) else (laws_FnWrapFew.j0 k t310 bt313.1 bt313.2 bt317.1 bt317.2 bt321.1 true)))))) = some r := H
  have A3 := Aside0.mk A30
  clear A30
  replace H := Option.bind_eq_some_iff.mp H
  obtain ⟨⟨t313, t314⟩, A40, H⟩ := H
  replace H : ((spec_WrapBest.f k t309 t310).bind fun bt317 => ((impl_WrapGreedy.f k t309 t310).bind fun bt321 => ((laws_daTexts.f k t313 bt317.1).bind fun t325 => (if t325 = true then (if (t314 != bt317.2) = true then (laws_FnWrapFew.j0 k t310 t313 t314 bt317.1 bt317.2 bt321.1 true) else (if t314 = true then (laws_FnWrapFew.j0 k t310 t313 t314 bt317.1 bt317.2 bt321.1 (!bt321.2)) else (laws_FnWrapFew.j0 k t310 t313 t314 bt317.1 bt317.2 bt321.1 true))) else (laws_FnWrapFew.j0 k t310 t313 t314 bt317.1 bt317.2 bt321.1 true))))) = some r := H
  have A4 := Aside0.mk A40
  clear A40
  replace H := Option.bind_eq_some_iff.mp H
  obtain ⟨⟨t317, t318⟩, A50, H⟩ := H
  replace H : ((impl_WrapGreedy.f k t309 t310).bind fun bt321 => ((laws_daTexts.f k t313 t317).bind fun t325 => (if t325 = true then (if (t314 != t318) = true then (laws_FnWrapFew.j0 k t310 t313 t314 t317 t318 bt321.1 true) else (if t314 = true then (laws_FnWrapFew.j0 k t310 t313 t314 t317 t318 bt321.1 (!bt321.2)) else (laws_FnWrapFew.j0 k t310 t313 t314 t317 t318 bt321.1 true))) else (laws_FnWrapFew.j0 k t310 t313 t314 t317 t318 bt321.1 true)))) = some r := H
  have A5 := Aside0.mk A50
  clear A50
  replace H := Option.bind_eq_some_iff.mp H
  obtain ⟨⟨t321, t322⟩, A60, H⟩ := H
  replace H : ((laws_daTexts.f k t313 t317).bind fun t325 => (if t325 = true then (if (t314 != t318) = true then (laws_FnWrapFew.j0 k t310 t313 t314 t317 t318 t321 true) else (if t314 = true then (laws_FnWrapFew.j0 k t310 t313 t314 t317 t318 t321 (!t322)) else (laws_FnWrapFew.j0 k t310 t313 t314 t317 t318 t321 true))) else (laws_FnWrapFew.j0 k t310 t313 t314 t317 t318 t321 true))) = some r := H
  have A6 := Aside0.mk A60
  clear A60
  have HC7 := Aside0.mk H
  clear H
  go_enter Try.func7, Try.ntmps7
  go_upto_region 7 with (first | ((with_reducible refine gate_callee (f := 23) rfl ?_); refine goesL_ (some 17) rfl rfl Try.func23 (by kernel_rfl) rfl #[.slice A0 l0.length c0] rfl (by (try simp only [List.map_toArray, List.map_cons, List.map_nil]); first | done | rfl | (simp only [List.length_drop, List.length_take]; rfl)) ?_; (with_reducible refine (spec_DrawWrapBest.calls k _ _ l0 t309 t310 _ ?side1 ?side2 A3.out).mono ?_); (case side1 => repeat (first | exact HR0.out | (with_reducible refine Kd.C_alloc ?_ _) | (with_reducible refine Kd.C_drewN ?_ _) | (with_reducible refine Kd.C_drew ?_))); (case side2 => exact HC0.out); rintro e w8 ⟨v311, rfl, ho0, hb⟩; refine ⟨_, rfl, ?_⟩; have n0_ := Aside0.mk (Kd.R_lower ho0 (below_size (by repeat (first|(with_reducible first|exact HB.out|apply below_alloc|apply pw_below_drewN|apply below_drew1)|exact HB.out)))); have n1_ := Aside0.mk (below_step (by repeat (first|(with_reducible first|exact HB.out|apply below_alloc|apply pw_below_drewN|apply below_drew1)|exact HB.out)) hb); clear HB; have HO312 := n0_; have HB := n1_; clear n0_ n1_; (try clear hb); (try clear hb2); (try clear hk); (try clear hi); (try clear ho0); obtain ⟨Ao9, co9, eo9⟩ := Kd.R_slice HO312.out; subst eo9) | ((with_reducible refine gate_callee (f := 24) rfl ?_); refine goesL_ (some 23) rfl rfl Try.func24 (by kernel_rfl) rfl #[.slice Ao9 t309.length co9, .int .i64 t310] rfl (by (try simp only [List.map_toArray, List.map_cons, List.map_nil]); first | done | rfl | (simp only [List.length_drop, List.length_take]; rfl)) ?_; (with_reducible refine (impl_WrapBest.calls k _ _ t309 t310 t313 t314 _ ?side1 ?side2 A4.out).mono ?_); (case side1 => repeat (first | exact (Kd.R_reads' HO312.out).2.2 | (with_reducible refine Kd.C_alloc ?_ _) | (with_reducible refine Kd.C_drewN ?_ _) | (with_reducible refine Kd.C_drew ?_))); (case side2 => exact (Kd.R_reads' HO312.out).2.1); rintro e w10 ⟨v315, rfl, ho0, hb⟩; refine ⟨_, rfl, ?_⟩; have n0_ := Aside0.mk (Kd.R_elder' (by (with_reducible repeat (first|apply Kd.R_alloc|apply Kd.R_drewN|apply Kd.R_drew)); exact HO312.out) (Kd.R_base ho0) hb); have n1_ := Aside0.mk (Kd.R_lower (Kd.R_new' ho0 (Kd.R_lt (by (with_reducible repeat (first|apply Kd.R_alloc|apply Kd.R_drewN|apply Kd.R_drew)); exact HO312.out))) (below_size (by repeat (first|(with_reducible first|exact HB.out|apply below_alloc|apply pw_below_drewN|apply below_drew1)|exact HB.out)))); have n2_ := Aside0.mk (below_step (by repeat (first|(with_reducible first|exact HB.out|apply below_alloc|apply pw_below_drewN|apply below_drew1)|exact HB.out)) hb); clear HO312; clear HB; have HO312 := n0_; have HO316 := n1_; have HB := n2_; clear n0_ n1_ n2_; (try clear hb); (try clear hb2); (try clear hk); (try clear hi); (try clear ho0)) | ((with_reducible refine gate_callee (f := 25) rfl ?_); refine goesL_ (some 29) rfl rfl Try.func25 (by kernel_rfl) rfl #[.slice Ao9 t309.length co9, .int .i64 t310] rfl (by (try simp only [List.map_toArray, List.map_cons, List.map_nil]); first | done | rfl | (simp only [List.length_drop, List.length_take]; rfl)) ?_; (with_reducible refine (spec_WrapBest.calls k _ _ t309 t310 t317 t318 _ ?side1 ?side2 A5.out).mono ?_); (case side1 => repeat (first | exact (Kd.R_reads' HO312.out).2.2 | (with_reducible refine Kd.C_alloc ?_ _) | (with_reducible refine Kd.C_drewN ?_ _) | (with_reducible refine Kd.C_drew ?_))); (case side2 => exact (Kd.R_reads' HO312.out).2.1); rintro e w11 ⟨v319, rfl, ho0, hb⟩; refine ⟨_, rfl, ?_⟩; have n0_ := Aside0.mk (Kd.R_elder' (by (with_reducible repeat (first|apply Kd.R_alloc|apply Kd.R_drewN|apply Kd.R_drew)); exact HO312.out) (Kd.R_base ho0) hb); have n1_ := Aside0.mk (Kd.R_elder' (by (with_reducible repeat (first|apply Kd.R_alloc|apply Kd.R_drewN|apply Kd.R_drew)); exact HO316.out) (Kd.R_base ho0) hb); have n2_ := Aside0.mk (Kd.R_lower (Kd.R_new' (Kd.R_new' ho0 (Kd.R_lt (by (with_reducible repeat (first|apply Kd.R_alloc|apply Kd.R_drewN|apply Kd.R_drew)); exact HO312.out))) (Kd.R_lt (by (with_reducible repeat (first|apply Kd.R_alloc|apply Kd.R_drewN|apply Kd.R_drew)); exact HO316.out))) (below_size (by repeat (first|(with_reducible first|exact HB.out|apply below_alloc|apply pw_below_drewN|apply below_drew1)|exact HB.out)))); have n3_ := Aside0.mk (below_step (by repeat (first|(with_reducible first|exact HB.out|apply below_alloc|apply pw_below_drewN|apply below_drew1)|exact HB.out)) hb); clear HO312; clear HO316; clear HB; have HO312 := n0_; have HO316 := n1_; have HO320 := n2_; have HB := n3_; clear n0_ n1_ n2_ n3_; (try clear hb); (try clear hb2); (try clear hk); (try clear hi); (try clear ho0)) | ((with_reducible refine gate_callee (f := 32) rfl ?_); refine goesL_ (some 35) rfl rfl Try.func32 (by kernel_rfl) rfl #[.slice Ao9 t309.length co9, .int .i64 t310] rfl (by (try simp only [List.map_toArray, List.map_cons, List.map_nil]); first | done | rfl | (simp only [List.length_drop, List.length_take]; rfl)) ?_; (with_reducible refine (impl_WrapGreedy.calls k _ _ t309 t310 t321 t322 _ ?side1 ?side2 A6.out).mono ?_); (case side1 => repeat (first | exact (Kd.R_reads' HO312.out).2.2 | (with_reducible refine Kd.C_alloc ?_ _) | (with_reducible refine Kd.C_drewN ?_ _) | (with_reducible refine Kd.C_drew ?_))); (case side2 => exact (Kd.R_reads' HO312.out).2.1); rintro e w12 ⟨v323, rfl, ho0, hb⟩; refine ⟨_, rfl, ?_⟩; have n0_ := Aside0.mk (Kd.R_elder' (by (with_reducible repeat (first|apply Kd.R_alloc|apply Kd.R_drewN|apply Kd.R_drew)); exact HO312.out) (Kd.R_base ho0) hb); have n1_ := Aside0.mk (Kd.R_elder' (by (with_reducible repeat (first|apply Kd.R_alloc|apply Kd.R_drewN|apply Kd.R_drew)); exact HO316.out) (Kd.R_base ho0) hb); have n2_ := Aside0.mk (Kd.R_elder' (by (with_reducible repeat (first|apply Kd.R_alloc|apply Kd.R_drewN|apply Kd.R_drew)); exact HO320.out) (Kd.R_base ho0) hb); have n3_ := Aside0.mk (Kd.R_lower (Kd.R_new' (Kd.R_new' (Kd.R_new' ho0 (Kd.R_lt (by (with_reducible repeat (first|apply Kd.R_alloc|apply Kd.R_drewN|apply Kd.R_drew)); exact HO312.out))) (Kd.R_lt (by (with_reducible repeat (first|apply Kd.R_alloc|apply Kd.R_drewN|apply Kd.R_drew)); exact HO316.out))) (Kd.R_lt (by (with_reducible repeat (first|apply Kd.R_alloc|apply Kd.R_drewN|apply Kd.R_drew)); exact HO320.out))) (below_size (by repeat (first|(with_reducible first|exact HB.out|apply below_alloc|apply pw_below_drewN|apply below_drew1)|exact HB.out)))); have n4_ := Aside0.mk (below_step (by repeat (first|(with_reducible first|exact HB.out|apply below_alloc|apply pw_below_drewN|apply below_drew1)|exact HB.out)) hb); clear HO312; clear HO316; clear HO320; clear HB; have HO312 := n0_; have HO316 := n1_; have HO320 := n2_; have HO324 := n3_; have HB := n4_; clear n0_ n1_ n2_ n3_ n4_; (try clear hb); (try clear hb2); (try clear hk); (try clear hi); (try clear ho0)))
  (try simp only [Act.put, List.setIfInBounds_toArray, List.set_cons_zero, List.set_cons_succ])
  go_cut [54] (fun v54 wc => ∃ (kq : Nat) (x54_6 : Bool), v54 = .bool x54_6 ∧ Aside0 (laws_FnWrapFew.j0 kq t310 t313 t314 t317 t318 t321 x54_6 = some r) ∧ Aside0 (kq ≤ k) ∧ Aside0 (Kd.R Kd.string 9 wc w.heap.size (fun k_ => some k_ ≠ (v319 : Value).ownBlock ∧ some k_ ≠ (v323 : Value).ownBlock) v315 t313) ∧ Aside0 (Kd.R Kd.string 9 wc w.heap.size (fun k_ => some k_ ≠ (v315 : Value).ownBlock ∧ some k_ ≠ (v323 : Value).ownBlock) v319 t317) ∧ Aside0 (Kd.R Kd.string 9 wc w.heap.size (fun k_ => some k_ ≠ (v315 : Value).ownBlock ∧ some k_ ≠ (v319 : Value).ownBlock) v323 t321) ∧ Aside0 (Below w.heap.size w wc))
  case first =>
   have H := HC7.out
   clear HC7
   replace H := Option.bind_eq_some_iff.mp H
   obtain ⟨t325, A130, H⟩ := H
   replace H : (if t325 = true then (if (t314 != t318) = true then (laws_FnWrapFew.j0 k t310 t313 t314 t317 t318 t321 true) else (if t314 = true then (laws_FnWrapFew.j0 k t310 t313 t314 t317 t318 t321 (!t322)) else (laws_FnWrapFew.j0 k t310 t313 t314 t317 t318 t321 true))) else (laws_FnWrapFew.j0 k t310 t313 t314 t317 t318 t321 true)) = some r := H
   have A13 := Aside0.mk A130
   clear A130
   by_cases c14 : t325 = true
   ·subst c14
    have H1 : (if (t314 != t318) = true then (laws_FnWrapFew.j0 k t310 t313 t314 t317 t318 t321 true) else (if t314 = true then (laws_FnWrapFew.j0 k t310 t313 t314 t317 t318 t321 (!t322)) else (laws_FnWrapFew.j0 k t310 t313 t314 t317 t318 t321 true))) = some r := by rw [if_pos rfl] at H; exact H
    clear H
    have H := H1
    clear H1
    by_cases c15 : (t314 != t318) = true
    ·rw [if_pos c15] at H
     have c15b0 : (t314 != t318) = true := c15
     (try (have c15b1 : decide (t314 = t318) = false := by simpa using c15))
     (try (have c15b2 : (t314 == t318) = false := by simpa using c15))
     (try (have c15b3 : ¬ (t314 = t318) := by simpa using c15))
     clear c15
     (first | rw [c15b0] | (simp only [i64_w, i32_w]; rw [c15b0]) | skip)
     have H' := Aside0.mk H
     clear H
     obtain ⟨Ao16, co16, eo16⟩ := Kd.R_slice HO316.out
     subst eo16
     obtain ⟨Ao17, co17, eo17⟩ := Kd.R_slice HO320.out
     subst eo17
     go_wp2_with (first | ((with_reducible refine gate_callee (f := 26) rfl ?_); refine goesL_ (some 40) rfl rfl Try.func26 (by kernel_rfl) rfl #[.slice Ao16 t313.length co16, .slice Ao17 t317.length co17] rfl (by (try simp only [List.map_toArray, List.map_cons, List.map_nil]); first | done | rfl | (simp only [List.length_drop, List.length_take]; rfl)) ?_; (with_reducible refine (laws_daTexts.calls k _ _ t313 _ _ t317 true _ ?side1 ?side2 ?side3 ?side4 A13.out).mono ?_); (case side1 => repeat (first | exact (Kd.R_reads' HO316.out).2.2 | (with_reducible refine Kd.C_alloc ?_ _) | (with_reducible refine Kd.C_drewN ?_ _) | (with_reducible refine Kd.C_drew ?_))); (case side2 => exact (Kd.R_reads' HO316.out).2.1); (case side3 => repeat (first | exact (Kd.R_reads' HO320.out).2.2 | (with_reducible refine Kd.C_alloc ?_ _) | (with_reducible refine Kd.C_drewN ?_ _) | (with_reducible refine Kd.C_drew ?_))); (case side4 => exact (Kd.R_reads' HO320.out).2.1); rintro e w' ⟨rfl, ⟨nd, rfl⟩⟩; refine ⟨_, rfl, ?_⟩))
     go_meet
     case rel => exact ⟨_, (true), (by first|rfl|(simp;done)|(simp[*];done)), H', ⟨by first | omega | exact Nat.le_refl _⟩, ⟨by (with_reducible repeat (first|apply Kd.R_alloc|apply Kd.R_drewN|apply Kd.R_drew)); exact Kd.R_mono HO316.out (fun _ hk => ⟨hk.1.2, hk.2⟩)⟩, ⟨by (with_reducible repeat (first|apply Kd.R_alloc|apply Kd.R_drewN|apply Kd.R_drew)); exact Kd.R_mono HO320.out (fun _ hk => ⟨hk.1.2, hk.2⟩)⟩, ⟨by (with_reducible repeat (first|apply Kd.R_alloc|apply Kd.R_drewN|apply Kd.R_drew)); exact Kd.R_mono HO324.out (fun _ hk => ⟨hk.1.2, hk.2⟩)⟩, ⟨by repeat (first|(with_reducible first|exact HB.out|apply below_alloc|apply pw_below_drewN|apply below_drew1)|exact HB.out)⟩⟩
    ·rw [if_neg c15] at H
     have c15b0 : (t314 != t318) = false := by simpa using c15
     (try (have c15b1 : decide (t314 = t318) = true := by simpa using c15))
     (try (have c15b2 : (t314 == t318) = true := by simpa using c15))
     clear c15
     (first | rw [c15b0] | (simp only [i64_w, i32_w]; rw [c15b0]) | skip)
     by_cases c18 : t314 = true
     ·subst c18
      have H1 : (laws_FnWrapFew.j0 k t310 t313 true t317 t318 t321 (!t322)) = some r := by rw [if_pos rfl] at H; exact H
      clear H
      have H := H1
      clear H1
      have H' := Aside0.mk H
      clear H
      obtain ⟨Ao19, co19, eo19⟩ := Kd.R_slice HO316.out
      subst eo19
      obtain ⟨Ao20, co20, eo20⟩ := Kd.R_slice HO320.out
      subst eo20
      go_wp2_with (first | ((with_reducible refine gate_callee (f := 26) rfl ?_); refine goesL_ (some 40) rfl rfl Try.func26 (by kernel_rfl) rfl #[.slice Ao19 t313.length co19, .slice Ao20 t317.length co20] rfl (by (try simp only [List.map_toArray, List.map_cons, List.map_nil]); first | done | rfl | (simp only [List.length_drop, List.length_take]; rfl)) ?_; (with_reducible refine (laws_daTexts.calls k _ _ t313 _ _ t317 true _ ?side1 ?side2 ?side3 ?side4 A13.out).mono ?_); (case side1 => repeat (first | exact (Kd.R_reads' HO316.out).2.2 | (with_reducible refine Kd.C_alloc ?_ _) | (with_reducible refine Kd.C_drewN ?_ _) | (with_reducible refine Kd.C_drew ?_))); (case side2 => exact (Kd.R_reads' HO316.out).2.1); (case side3 => repeat (first | exact (Kd.R_reads' HO320.out).2.2 | (with_reducible refine Kd.C_alloc ?_ _) | (with_reducible refine Kd.C_drewN ?_ _) | (with_reducible refine Kd.C_drew ?_))); (case side4 => exact (Kd.R_reads' HO320.out).2.1); rintro e w' ⟨rfl, ⟨nd, rfl⟩⟩; refine ⟨_, rfl, ?_⟩))
      go_meet
      case rel => exact ⟨_, (!t322), (by first|rfl|(simp;done)|(simp[*];done)), H', ⟨by first | omega | exact Nat.le_refl _⟩, ⟨by (with_reducible repeat (first|apply Kd.R_alloc|apply Kd.R_drewN|apply Kd.R_drew)); exact Kd.R_mono HO316.out (fun _ hk => ⟨hk.1.2, hk.2⟩)⟩, ⟨by (with_reducible repeat (first|apply Kd.R_alloc|apply Kd.R_drewN|apply Kd.R_drew)); exact Kd.R_mono HO320.out (fun _ hk => ⟨hk.1.2, hk.2⟩)⟩, ⟨by (with_reducible repeat (first|apply Kd.R_alloc|apply Kd.R_drewN|apply Kd.R_drew)); exact Kd.R_mono HO324.out (fun _ hk => ⟨hk.1.2, hk.2⟩)⟩, ⟨by repeat (first|(with_reducible first|exact HB.out|apply below_alloc|apply pw_below_drewN|apply below_drew1)|exact HB.out)⟩⟩
     ·replace c18 := Bool.eq_false_iff.mpr c18
      subst c18
      have H1 : (laws_FnWrapFew.j0 k t310 t313 false t317 t318 t321 true) = some r := by rw [if_neg (show ¬ (false = true) by decide)] at H; exact H
      clear H
      have H := H1
      clear H1
      have H' := Aside0.mk H
      clear H
      obtain ⟨Ao21, co21, eo21⟩ := Kd.R_slice HO316.out
      subst eo21
      obtain ⟨Ao22, co22, eo22⟩ := Kd.R_slice HO320.out
      subst eo22
      go_wp2_with (first | ((with_reducible refine gate_callee (f := 26) rfl ?_); refine goesL_ (some 40) rfl rfl Try.func26 (by kernel_rfl) rfl #[.slice Ao21 t313.length co21, .slice Ao22 t317.length co22] rfl (by (try simp only [List.map_toArray, List.map_cons, List.map_nil]); first | done | rfl | (simp only [List.length_drop, List.length_take]; rfl)) ?_; (with_reducible refine (laws_daTexts.calls k _ _ t313 _ _ t317 true _ ?side1 ?side2 ?side3 ?side4 A13.out).mono ?_); (case side1 => repeat (first | exact (Kd.R_reads' HO316.out).2.2 | (with_reducible refine Kd.C_alloc ?_ _) | (with_reducible refine Kd.C_drewN ?_ _) | (with_reducible refine Kd.C_drew ?_))); (case side2 => exact (Kd.R_reads' HO316.out).2.1); (case side3 => repeat (first | exact (Kd.R_reads' HO320.out).2.2 | (with_reducible refine Kd.C_alloc ?_ _) | (with_reducible refine Kd.C_drewN ?_ _) | (with_reducible refine Kd.C_drew ?_))); (case side4 => exact (Kd.R_reads' HO320.out).2.1); rintro e w' ⟨rfl, ⟨nd, rfl⟩⟩; refine ⟨_, rfl, ?_⟩))
      go_meet
      case rel => exact ⟨_, (true), (by first|rfl|(simp;done)|(simp[*];done)), H', ⟨by first | omega | exact Nat.le_refl _⟩, ⟨by (with_reducible repeat (first|apply Kd.R_alloc|apply Kd.R_drewN|apply Kd.R_drew)); exact Kd.R_mono HO316.out (fun _ hk => ⟨hk.1.2, hk.2⟩)⟩, ⟨by (with_reducible repeat (first|apply Kd.R_alloc|apply Kd.R_drewN|apply Kd.R_drew)); exact Kd.R_mono HO320.out (fun _ hk => ⟨hk.1.2, hk.2⟩)⟩, ⟨by (with_reducible repeat (first|apply Kd.R_alloc|apply Kd.R_drewN|apply Kd.R_drew)); exact Kd.R_mono HO324.out (fun _ hk => ⟨hk.1.2, hk.2⟩)⟩, ⟨by repeat (first|(with_reducible first|exact HB.out|apply below_alloc|apply pw_below_drewN|apply below_drew1)|exact HB.out)⟩⟩
   ·replace c14 := Bool.eq_false_iff.mpr c14
    subst c14
    have H1 : (laws_FnWrapFew.j0 k t310 t313 t314 t317 t318 t321 true) = some r := by rw [if_neg (show ¬ (false = true) by decide)] at H; exact H
    clear H
    have H := H1
    clear H1
    have H' := Aside0.mk H
    clear H
    obtain ⟨Ao23, co23, eo23⟩ := Kd.R_slice HO316.out
    subst eo23
    obtain ⟨Ao24, co24, eo24⟩ := Kd.R_slice HO320.out
    subst eo24
    go_wp2_with (first | ((with_reducible refine gate_callee (f := 26) rfl ?_); refine goesL_ (some 40) rfl rfl Try.func26 (by kernel_rfl) rfl #[.slice Ao23 t313.length co23, .slice Ao24 t317.length co24] rfl (by (try simp only [List.map_toArray, List.map_cons, List.map_nil]); first | done | rfl | (simp only [List.length_drop, List.length_take]; rfl)) ?_; (with_reducible refine (laws_daTexts.calls k _ _ t313 _ _ t317 false _ ?side1 ?side2 ?side3 ?side4 A13.out).mono ?_); (case side1 => repeat (first | exact (Kd.R_reads' HO316.out).2.2 | (with_reducible refine Kd.C_alloc ?_ _) | (with_reducible refine Kd.C_drewN ?_ _) | (with_reducible refine Kd.C_drew ?_))); (case side2 => exact (Kd.R_reads' HO316.out).2.1); (case side3 => repeat (first | exact (Kd.R_reads' HO320.out).2.2 | (with_reducible refine Kd.C_alloc ?_ _) | (with_reducible refine Kd.C_drewN ?_ _) | (with_reducible refine Kd.C_drew ?_))); (case side4 => exact (Kd.R_reads' HO320.out).2.1); rintro e w' ⟨rfl, ⟨nd, rfl⟩⟩; refine ⟨_, rfl, ?_⟩))
    go_meet
    case rel => exact ⟨_, (true), (by first|rfl|(simp;done)|(simp[*];done)), H', ⟨by first | omega | exact Nat.le_refl _⟩, ⟨by (with_reducible repeat (first|apply Kd.R_alloc|apply Kd.R_drewN|apply Kd.R_drew)); exact Kd.R_mono HO316.out (fun _ hk => ⟨hk.1.2, hk.2⟩)⟩, ⟨by (with_reducible repeat (first|apply Kd.R_alloc|apply Kd.R_drewN|apply Kd.R_drew)); exact Kd.R_mono HO320.out (fun _ hk => ⟨hk.1.2, hk.2⟩)⟩, ⟨by (with_reducible repeat (first|apply Kd.R_alloc|apply Kd.R_drewN|apply Kd.R_drew)); exact Kd.R_mono HO324.out (fun _ hk => ⟨hk.1.2, hk.2⟩)⟩, ⟨by repeat (first|(with_reducible first|exact HB.out|apply below_alloc|apply pw_below_drewN|apply below_drew1)|exact HB.out)⟩⟩
  case rest =>
   clear HC7
   try clear c1
   try clear c2
   try clear c2b0
   try clear c2b1
   try clear p2
   try clear c3
   try clear c7
   try clear c14
   try clear c15
   try clear c15b0
   try clear c15b1
   try clear c15b2
   try clear c18
   try clear c23
   try clear c24
   obtain ⟨kq, x54_6, rfl, HA, HJ6, HO_5, HO_7, HO_9, HB⟩ := hcut
   cases kq with
   | zero => exact absurd HA.out (by simp [laws_FnWrapFew.j0])
   | succ kj6 =>
    have H := HA.out
    clear HA
    simp only [laws_FnWrapFew.j0] at H
    by_cases c25 : x54_6 = true
    ·subst c25
     have H1 : ((laws_daTexts.f kj6 t313 t317).bind fun t326 => (if t326 = true then (some (t314 == t318)) else (some false))) = some r := by rw [if_pos rfl] at H; exact H
     clear H
     have H := H1
     clear H1
     replace H := Option.bind_eq_some_iff.mp H
     obtain ⟨t326, A260, H⟩ := H
     replace H : (if t326 = true then (some (t314 == t318)) else (some false)) = some r := H
     have A26 := Aside0.mk A260
     clear A260
     by_cases c27 : t326 = true
     ·subst c27
      have H1 : (some (t314 == t318)) = some r := by rw [if_pos rfl] at H; exact H
      clear H
      have H := H1
      clear H1
      obtain rfl := Option.some.inj H
      obtain ⟨Ao28, co28, eo28⟩ := Kd.R_slice HO_5.out
      subst eo28
      obtain ⟨Ao29, co29, eo29⟩ := Kd.R_slice HO_7.out
      subst eo29
      go_wp2_with (first | ((with_reducible refine gate_callee (f := 26) rfl ?_); refine goesL_ (some 57) rfl rfl Try.func26 (by kernel_rfl) rfl #[.slice Ao28 t313.length co28, .slice Ao29 t317.length co29] rfl (by (try simp only [List.map_toArray, List.map_cons, List.map_nil]); first | done | rfl | (simp only [List.length_drop, List.length_take]; rfl)) ?_; (with_reducible refine (laws_daTexts.calls kj6 _ _ t313 _ _ t317 true _ ?side1 ?side2 ?side3 ?side4 A26.out).mono ?_); (case side1 => repeat (first | exact (Kd.R_reads' HO_5.out).2.2 | (with_reducible refine Kd.C_alloc ?_ _) | (with_reducible refine Kd.C_drewN ?_ _) | (with_reducible refine Kd.C_drew ?_))); (case side2 => exact (Kd.R_reads' HO_5.out).2.1); (case side3 => repeat (first | exact (Kd.R_reads' HO_7.out).2.2 | (with_reducible refine Kd.C_alloc ?_ _) | (with_reducible refine Kd.C_drewN ?_ _) | (with_reducible refine Kd.C_drew ?_))); (case side4 => exact (Kd.R_reads' HO_7.out).2.1); rintro e w' ⟨rfl, ⟨nd, rfl⟩⟩; refine ⟨_, rfl, ?_⟩))
      go_ret
      exact ⟨by first | rfl | (simp [errW_none, errW_some] <;> rfl) | (simp [*, errW_none, errW_some] <;> rfl), by repeat (first|(with_reducible first|exact HB.out|apply below_alloc|apply pw_below_drewN|apply below_drew1)|exact HB.out)⟩
     ·replace c27 := Bool.eq_false_iff.mpr c27
      subst c27
      have H1 : (some false) = some r := by rw [if_neg (show ¬ (false = true) by decide)] at H; exact H
      clear H
      have H := H1
      clear H1
      obtain rfl := Option.some.inj H
      obtain ⟨Ao30, co30, eo30⟩ := Kd.R_slice HO_5.out
      subst eo30
      obtain ⟨Ao31, co31, eo31⟩ := Kd.R_slice HO_7.out
      subst eo31
      go_wp2_with (first | ((with_reducible refine gate_callee (f := 26) rfl ?_); refine goesL_ (some 57) rfl rfl Try.func26 (by kernel_rfl) rfl #[.slice Ao30 t313.length co30, .slice Ao31 t317.length co31] rfl (by (try simp only [List.map_toArray, List.map_cons, List.map_nil]); first | done | rfl | (simp only [List.length_drop, List.length_take]; rfl)) ?_; (with_reducible refine (laws_daTexts.calls kj6 _ _ t313 _ _ t317 false _ ?side1 ?side2 ?side3 ?side4 A26.out).mono ?_); (case side1 => repeat (first | exact (Kd.R_reads' HO_5.out).2.2 | (with_reducible refine Kd.C_alloc ?_ _) | (with_reducible refine Kd.C_drewN ?_ _) | (with_reducible refine Kd.C_drew ?_))); (case side2 => exact (Kd.R_reads' HO_5.out).2.1); (case side3 => repeat (first | exact (Kd.R_reads' HO_7.out).2.2 | (with_reducible refine Kd.C_alloc ?_ _) | (with_reducible refine Kd.C_drewN ?_ _) | (with_reducible refine Kd.C_drew ?_))); (case side4 => exact (Kd.R_reads' HO_7.out).2.1); rintro e w' ⟨rfl, ⟨nd, rfl⟩⟩; refine ⟨_, rfl, ?_⟩))
      go_ret
      exact ⟨by first | rfl | (simp [errW_none, errW_some] <;> rfl) | (simp [*, errW_none, errW_some] <;> rfl), by repeat (first|(with_reducible first|exact HB.out|apply below_alloc|apply pw_below_drewN|apply below_drew1)|exact HB.out)⟩
    ·replace c25 := Bool.eq_false_iff.mpr c25
     subst c25
     have H1 : (laws_FnWrapFew.l0 kj6 t310 t313 t321 0) = some r := by rw [if_neg (show ¬ (false = true) by decide)] at H; exact H
     clear H
     have H := H1
     clear H1
     have H' := Aside0.mk H
     clear H
     go_wp2
     go_loopg [11] kj6 (fun kq v11 w' => ∃ (x11_2 : Int), v11 = .int .i64 x11_2 ∧ Aside0 (laws_FnWrapFew.l0 kq t310 t313 t321 x11_2 = some r) ∧ Aside0 (kq ≤ kj6) ∧ Aside0 (Kd.R Kd.string 9 w' w.heap.size (fun k_ => some k_ ≠ (v323 : Value).ownBlock) v315 t313) ∧ Aside0 (Kd.R Kd.string 9 w' w.heap.size (fun k_ => some k_ ≠ (v315 : Value).ownBlock) v323 t321) ∧ Aside0 (Below w.heap.size w w'))
     case atStart => exact ⟨(0), (by first|rfl|(simp;done)|(simp[*];done)), H', ⟨Nat.le_refl _⟩, ⟨by (with_reducible repeat (first|apply Kd.R_alloc|apply Kd.R_drewN|apply Kd.R_drew)); exact Kd.R_mono HO_5.out (fun _ hk => hk.2)⟩, ⟨by (with_reducible repeat (first|apply Kd.R_alloc|apply Kd.R_drewN|apply Kd.R_drew)); exact Kd.R_mono HO_9.out (fun _ hk => hk.1)⟩, ⟨by repeat (first|(with_reducible first|exact HB.out|apply below_alloc|apply pw_below_drewN|apply below_drew1)|exact HB.out)⟩⟩
     case round =>
      clear H'
      try clear c1
      try clear c2
      try clear c2b0
      try clear c2b1
      try clear p2
      try clear c3
      try clear c7
      try clear c14
      try clear c15
      try clear c15b0
      try clear c15b1
      try clear c15b2
      try clear c18
      try clear c23
      try clear c24
      try clear c25
      try clear c26
      try clear c27
      try clear p2
      obtain ⟨x11_2, rfl, HA, HK2, HO_5, HO_9, HB⟩ := hrel
      cases gk with
      | zero => exact absurd HA.out (by simp [laws_FnWrapFew.l0])
      | succ k2 =>
       have H := HA.out
       clear HA
       simp only [laws_FnWrapFew.l0] at H
       by_cases c32 : x11_2 < (t313.length : Int)
       ·rw [if_pos c32] at H
        have c32b0 : decide (x11_2 < (t313.length : Int)) = true := decide_eq_true c32
        clear c32
        by_cases c33 : 0 ≤ x11_2
        ·rw [if_pos c33] at H
         have c33b0 : decide (0 ≤ x11_2) = true := decide_eq_true c33
         clear c33
         by_cases c34 : ((rdOf ByteArray.empty t313 x11_2).size : Int) > t310
         ·rw [if_pos c34] at H
          have c34b0 : decide (t310 < ((rdOf ByteArray.empty t313 x11_2).size : Int)) = true := decide_eq_true c34
          clear c34
          obtain rfl := Option.some.inj H
          obtain ⟨Ao35, co35, eo35⟩ := Kd.R_slice HO_5.out
          subst eo35
          have p327 : 0 ≤ (x11_2 : Int) := of_decide_eq_true (by first|(with_reducible assumption)|assumption)
          have q327 : x11_2 < (t313.length : Int) := of_decide_eq_true (by first|(with_reducible assumption)|assumption)
          obtain ⟨ad327, e327, hx327_0⟩ := Kd.at_string (Kd.R_reads' HO_5.out).2.2 x11_2 p327 q327
          cases e327
          replace p327 := eq_true p327
          replace q327 := eq_true q327
          go_wp2
          go_ret
          exact ⟨by first | rfl | (simp [errW_none, errW_some] <;> rfl) | (simp [*, errW_none, errW_some] <;> rfl), by repeat (first|(with_reducible first|exact HB.out|apply below_alloc|apply pw_below_drewN|apply below_drew1)|exact HB.out)⟩
         ·rw [if_neg c34] at H
          have c34b0 : decide (t310 < ((rdOf ByteArray.empty t313 x11_2).size : Int)) = false := decide_eq_false c34
          clear c34
          have H' := Aside0.mk H
          clear H
          obtain ⟨Ao36, co36, eo36⟩ := Kd.R_slice HO_5.out
          subst eo36
          have p327 : 0 ≤ (x11_2 : Int) := of_decide_eq_true (by first|(with_reducible assumption)|assumption)
          have q327 : x11_2 < (t313.length : Int) := of_decide_eq_true (by first|(with_reducible assumption)|assumption)
          obtain ⟨ad327, e327, hx327_0⟩ := Kd.at_string (Kd.R_reads' HO_5.out).2.2 x11_2 p327 q327
          cases e327
          replace p327 := eq_true p327
          replace q327 := eq_true q327
          go_wp2
          go_roundg k2
          case measure => have := HJ6.out; have := HK2.out; omega
          case rel => exact ⟨(wrap64 (x11_2 + 1)), (by first|rfl|(simp;done)|(simp[*];done)), H', ⟨by have := HJ6.out; have := HK2.out; omega⟩, ⟨by (with_reducible repeat (first|apply Kd.R_alloc|apply Kd.R_drewN|apply Kd.R_drew)); exact HO_5.out⟩, ⟨by (with_reducible repeat (first|apply Kd.R_alloc|apply Kd.R_drewN|apply Kd.R_drew)); exact HO_9.out⟩, ⟨by repeat (first|(with_reducible first|exact HB.out|apply below_alloc|apply pw_below_drewN|apply below_drew1)|exact HB.out)⟩⟩
        ·rw [if_neg c33] at H
         exact absurd H (by simp)
       ·rw [if_neg c32] at H
        have c32b0 : decide (x11_2 < (t313.length : Int)) = false := decide_eq_false c32
        clear c32
        obtain rfl := Option.some.inj H
        obtain ⟨Ao37, co37, eo37⟩ := Kd.R_slice HO_5.out
        subst eo37
        obtain ⟨Ao38, co38, eo38⟩ := Kd.R_slice HO_9.out
        subst eo38
        go_wp2
        go_ret
        exact ⟨by first | rfl | (simp [errW_none, errW_some] <;> rfl) | (simp [*, errW_none, errW_some] <;> rfl), by repeat (first|(with_reducible first|exact HB.out|apply below_alloc|apply pw_below_drewN|apply below_drew1)|exact HB.out)⟩

/-- THE ONE PURE STATEMENT of laws_FnWrapFew: yours. -/
def laws_FnWrapFew.Pure : Prop := ∀ (l0 : List Int), l0.length ≤ maxLen → l0.length * 1 ≤ 140737488351232 → (∀ x ∈ l0, (Lit.int .u8 x).wf = true) → ∃ k, laws_FnWrapFew.f k l0 = some true
theorem laws_FnWrapFew.walk (P : laws_FnWrapFew.Pure) (a0 : Option Addr) (len0 cap0 : Nat) (z0 : List Int) (w : World) (w0 : (a0 = none ∧ len0 = 0 ∧ cap0 = 0 ∧ z0 = []) ∨ ∃ x, a0 = some x ∧ len0 ≤ cap0 ∧ cap0 ≤ maxLen ∧ z0.length = cap0 ∧ (∀ i, i < z0.length → w.cell? (x.add i) = some (.int .u8 (z0.getD i 0))) ∧ ∀ n ∈ z0, (Lit.int .u8 n).wf = true) (y0 : len0 * 1 ≤ 140737488351232) :
  Calls Try.prog 7 #[.slice a0 len0 cap0] w fun e w' => e = .returned (.bool true) ∧ Below w.heap.size w w' := by
 obtain ⟨l0, rfl, hr0, hm0, hw0, hc0⟩ := ReadsInt.ofRowC w0
 obtain ⟨k, h⟩ := P l0 hm0 y0 hw0
 refine (laws_FnWrapFew.calls k _ _ l0 true w (Kd.C_of_reads (d := (0 : Int)) (h1 := fun _ => rfl) hr0) hc0 h).mono ?_
 rintro e w' ⟨rfl, hd⟩
 exact ⟨rfl, hd⟩

end Go.Proofs.Ythcfocpimoghbaa.PWb
