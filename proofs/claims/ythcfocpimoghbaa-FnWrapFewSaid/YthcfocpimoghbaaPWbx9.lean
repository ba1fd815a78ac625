-- Written by a program of this session (xprint). -- COMPACT
import Derived.Test.YthcfocpimoghbaaPWbx0
import Derived.Test.YthcfocpimoghbaaPWbx2
import Derived.Test.YthcfocpimoghbaaPWbx3
import Derived.Test.YthcfocpimoghbaaPWbx6
import Derived.Test.YthcfocpimoghbaaPWbx7
import Derived.Test.YthcfocpimoghbaaPWbx8
namespace Go.Proofs.Ythcfocpimoghbaa.PWb
open Go.RowKit Go.Proofs.YthcfocpimoghbaaW.PrintWords Go.Proofs.YthcfocpimoghbaaW.PrintLast Go.Proofs.YthcfocpimoghbaaW.PrintMore
attribute [local go_sem] max2_int min2_int max_two min_two max_three min_three max_four min_four   -- for this text's walks alone
set_option linter.unusedVariables false
set_option linter.unusedSimpArgs false

/-! ### laws_FnExactWrapBest: function 6 -/
mutual
def laws_FnExactWrapBest.j0 : Nat → List ByteArray → Int → List ByteArray → Bool → List ByteArray → List ByteArray → Bool → Bool → Option (Bool)
 | 0, _, _, _, _, _, _, _, _ => none
 | k + 1, x0, x1, x6, x7, x8, x9, x10, x44 => if x44 = true then (some false) else ((laws_toStringS.f k x0).bind fun t276 => ((laws_eqStringS.f k x8 t276).bind fun t279 => (if t279 = true then ((laws_markStringS.f k x8 1).bind fun bt280 => (if bt280.1 < 0 then (laws_FnExactWrapBest.j1 k x0 x1 x6 x7 x9 true) else ((laws_eqStringS.f k x9 x6).bind fun t282 => (if t282 = true then (laws_FnExactWrapBest.j1 k x0 x1 x6 x7 x9 (x10 != x7)) else (laws_FnExactWrapBest.j1 k x0 x1 x6 x7 x9 true))))) else (some false))))
def laws_FnExactWrapBest.j1 : Nat → List ByteArray → Int → List ByteArray → Bool → List ByteArray → Bool → Option (Bool)
 | 0, _, _, _, _, _, _ => none
 | k + 1, x0, x1, x6, x7, x9, x65 => if x65 = true then (some false) else ((laws_markStringS.f k x9 1).bind fun bt283 => ((laws_heldStringS.f k bt283.2 1).bind fun t285 => (if t285 < 0 then (some false) else (if t285 = bt283.1 then ((laws_toStringS.f k x0).bind fun t286 => ((impl_WrapBest.f k t286 x1).bind fun bt289 => ((laws_eqStringS.f k bt289.1 x6).bind fun t293 => (if t293 = true then (laws_FnExactWrapBest.j2 k bt283.2 bt283.1 (bt289.2 != x7)) else (laws_FnExactWrapBest.j2 k bt283.2 bt283.1 true))))) else (some false)))))
def laws_FnExactWrapBest.j2 : Nat → List ByteArray → Int → Bool → Option (Bool)
 | 0, _, _, _ => none
 | k + 1, x9, x12, x92 => if x92 = true then (some false) else ((laws_heldStringS.f k x9 1).bind fun t294 => (if t294 < 0 then (some false) else (if t294 = x12 then (some true) else (some false))))
end
def laws_FnExactWrapBest.f (k : Nat) (l0 : List ByteArray) (a1 : Int) : Option (Bool) := (laws_szStringS.f k l0 1048576).bind fun t260 => (if t260 < 0 then (some true) else ((laws_toStringS.f k l0).bind fun t261 => ((spec_WrapBest.f k t261 a1).bind fun bt264 => ((laws_toStringS.f k l0).bind fun t268 => ((impl_WrapBest.f k t268 a1).bind fun bt271 => ((laws_eqStringS.f k bt271.1 bt264.1).bind fun t275 => (if t275 = true then (laws_FnExactWrapBest.j0 k l0 a1 bt264.1 bt264.2 t268 bt271.1 bt271.2 (bt271.2 != bt264.2)) else (laws_FnExactWrapBest.j0 k l0 a1 bt264.1 bt264.2 t268 bt271.1 bt271.2 true))))))))
theorem laws_FnExactWrapBest.mono_l : ∀ k, (∀ y0 y1 y2 y3 y4 y5 y6 y7, LeO (laws_FnExactWrapBest.j0 k y0 y1 y2 y3 y4 y5 y6 y7) (laws_FnExactWrapBest.j0 (k + 1) y0 y1 y2 y3 y4 y5 y6 y7)) ∧ (∀ y0 y1 y2 y3 y4 y5, LeO (laws_FnExactWrapBest.j1 k y0 y1 y2 y3 y4 y5) (laws_FnExactWrapBest.j1 (k + 1) y0 y1 y2 y3 y4 y5)) ∧ (∀ y0 y1 y2, LeO (laws_FnExactWrapBest.j2 k y0 y1 y2) (laws_FnExactWrapBest.j2 (k + 1) y0 y1 y2))
 | 0 => ⟨fun _ _ _ _ _ _ _ _ r h => by simp [laws_FnExactWrapBest.j0] at h, fun _ _ _ _ _ _ r h => by simp [laws_FnExactWrapBest.j1] at h, fun _ _ _ r h => by simp [laws_FnExactWrapBest.j2] at h⟩
 | k + 1 => by
  obtain ⟨ih0, ih1, ih2⟩ := laws_FnExactWrapBest.mono_l k
  refine ⟨?_, ?_, ?_⟩
  ·intro y0 y1 y2 y3 y4 y5 y6 y7
   unfold laws_FnExactWrapBest.j0
   repeat' first
   | (with_reducible exact ih0 _ _ _ _ _ _ _ _)
   | (with_reducible exact ih1 _ _ _ _ _ _)
   | (with_reducible exact ih2 _ _ _)
   | (with_reducible exact impl_WrapBest.mono _ _ _)
   | (with_reducible exact laws_eqStringS.mono _ _ _)
   | (with_reducible exact laws_heldStringS.mono _ _ _)
   | (with_reducible exact laws_markStringS.mono _ _ _)
   | (with_reducible exact laws_szStringS.mono _ _ _)
   | (with_reducible exact laws_toStringS.mono _ _)
   | (with_reducible exact spec_WrapBest.mono _ _ _)
   | (with_reducible exact LeO.refl _)
   | (with_reducible exact LeO.none _)
   | (with_reducible refine LeO.ite ?_ ?_)
   | (with_reducible refine LeO.bind ?_ (fun _ => ?_))
   | exact ih0 _ _ _ _ _ _ _ _
   | exact ih1 _ _ _ _ _ _
   | exact ih2 _ _ _
   | exact impl_WrapBest.mono _ _ _
   | exact laws_eqStringS.mono _ _ _
   | exact laws_heldStringS.mono _ _ _
   | exact laws_markStringS.mono _ _ _
   | exact laws_szStringS.mono _ _ _
   | exact laws_toStringS.mono _ _
   | exact spec_WrapBest.mono _ _ _
   | exact LeO.none _
   | refine LeO.ite ?_ ?_
   | refine LeO.bind ?_ (fun _ => ?_)
  ·intro y0 y1 y2 y3 y4 y5
   unfold laws_FnExactWrapBest.j1
   repeat' first
   | (with_reducible exact ih0 _ _ _ _ _ _ _ _)
   | (with_reducible exact ih1 _ _ _ _ _ _)
   | (with_reducible exact ih2 _ _ _)
   | (with_reducible exact impl_WrapBest.mono _ _ _)
   | (with_reducible exact laws_eqStringS.mono _ _ _)
   | (with_reducible exact laws_heldStringS.mono _ _ _)
   | (with_reducible exact laws_markStringS.mono _ _ _)
   | (with_reducible exact laws_szStringS.mono _ _ _)
   | (with_reducible exact laws_toStringS.mono _ _)
   | (with_reducible exact spec_WrapBest.mono _ _ _)
   | (with_reducible exact LeO.refl _)
   | (with_reducible exact LeO.none _)
   | (with_reducible refine LeO.ite ?_ ?_)
   | (with_reducible refine LeO.bind ?_ (fun _ => ?_))
   | exact ih0 _ _ _ _ _ _ _ _
   | exact ih1 _ _ _ _ _ _
   | exact ih2 _ _ _
   | exact impl_WrapBest.mono _ _ _
   | exact laws_eqStringS.mono _ _ _
   | exact laws_heldStringS.mono _ _ _
   | exact laws_markStringS.mono _ _ _
   | exact laws_szStringS.mono _ _ _
   | exact laws_toStringS.mono _ _
   | exact spec_WrapBest.mono _ _ _
   | exact LeO.none _
   | refine LeO.ite ?_ ?_
   | refine LeO.bind ?_ (fun _ => ?_)
  ·intro y0 y1 y2
   unfold laws_FnExactWrapBest.j2
   repeat' first
   | (with_reducible exact ih0 _ _ _ _ _ _ _ _)
   | (with_reducible exact ih1 _ _ _ _ _ _)
   | (with_reducible exact ih2 _ _ _)
   | (with_reducible exact impl_WrapBest.mono _ _ _)
   | (with_reducible exact laws_eqStringS.mono _ _ _)
   | (with_reducible exact laws_heldStringS.mono _ _ _)
   | (with_reducible exact laws_markStringS.mono _ _ _)
   | (with_reducible exact laws_szStringS.mono _ _ _)
   | (with_reducible exact laws_toStringS.mono _ _)
   | (with_reducible exact spec_WrapBest.mono _ _ _)
   | (with_reducible exact LeO.refl _)
   | (with_reducible exact LeO.none _)
   | (with_reducible refine LeO.ite ?_ ?_)
   | (with_reducible refine LeO.bind ?_ (fun _ => ?_))
   | exact ih0 _ _ _ _ _ _ _ _
   | exact ih1 _ _ _ _ _ _
   | exact ih2 _ _ _
   | exact impl_WrapBest.mono _ _ _
   | exact laws_eqStringS.mono _ _ _
   | exact laws_heldStringS.mono _ _ _
   | exact laws_markStringS.mono _ _ _
   | exact laws_szStringS.mono _ _ _
   | exact laws_toStringS.mono _ _
   | exact spec_WrapBest.mono _ _ _
   | exact LeO.none _
   | refine LeO.ite ?_ ?_
   | refine LeO.bind ?_ (fun _ => ?_)
theorem laws_FnExactWrapBest.mono : ∀ a0 a1 k, LeO (laws_FnExactWrapBest.f k a0 a1) (laws_FnExactWrapBest.f (k + 1) a0 a1) := by
 intro a0 a1 k
 obtain ⟨ih0, ih1, ih2⟩ := laws_FnExactWrapBest.mono_l k
 unfold laws_FnExactWrapBest.f
 repeat' first
   | (with_reducible exact ih0 _ _ _ _ _ _ _ _)
   | (with_reducible exact ih1 _ _ _ _ _ _)
   | (with_reducible exact ih2 _ _ _)
   | (with_reducible exact impl_WrapBest.mono _ _ _)
   | (with_reducible exact laws_eqStringS.mono _ _ _)
   | (with_reducible exact laws_heldStringS.mono _ _ _)
   | (with_reducible exact laws_markStringS.mono _ _ _)
   | (with_reducible exact laws_szStringS.mono _ _ _)
   | (with_reducible exact laws_toStringS.mono _ _)
   | (with_reducible exact spec_WrapBest.mono _ _ _)
   | (with_reducible exact LeO.refl _)
   | (with_reducible exact LeO.none _)
   | (with_reducible refine LeO.ite ?_ ?_)
   | (with_reducible refine LeO.bind ?_ (fun _ => ?_))
   | exact ih0 _ _ _ _ _ _ _ _
   | exact ih1 _ _ _ _ _ _
   | exact ih2 _ _ _
   | exact impl_WrapBest.mono _ _ _
   | exact laws_eqStringS.mono _ _ _
   | exact laws_heldStringS.mono _ _ _
   | exact laws_markStringS.mono _ _ _
   | exact laws_szStringS.mono _ _ _
   | exact laws_toStringS.mono _ _
   | exact spec_WrapBest.mono _ _ _
   | exact LeO.none _
   | refine LeO.ite ?_ ?_
   | refine LeO.bind ?_ (fun _ => ?_)
set_option maxHeartbeats 8000000 in
set_option maxRecDepth 100000 in
theorem laws_FnExactWrapBest.calls (k : Nat) (A0 : Option Addr) (c0 : Nat) (l0 : List ByteArray) (a1 : Int) (r : Bool) (w : World) (hr0 : Kd.C Kd.string w A0 l0.length l0) (hc0 : l0.length ≤ c0) (h : laws_FnExactWrapBest.f k l0 a1 = some r) :
  Calls Try.prog 6 #[.slice A0 l0.length c0, .int .i64 a1] w fun e w' => e = .returned (.bool r) ∧ Below w.heap.size w w' := by
 have HR0 := Aside0.mk hr0
 have HC0 := Aside0.mk hc0
 clear hr0 hc0
 have HB := Aside0.mk (Below.refl w.heap.size w)
 have H : ((laws_szStringS.f k l0 1048576).bind fun t260 => (if t260 < 0 then (some true) else ((laws_toStringS.f k l0).bind fun t261 => ((spec_WrapBest.f k t261 a1).bind fun bt264 => ((laws_toStringS.f k l0).bind fun t268 => ((impl_WrapBest.f k t268 a1).bind fun bt271 => ((laws_eqStringS.f k bt271.1 bt264.1).bind fun t275 => (if t275 = true then (laws_FnExactWrapBest.j0 k l0 a1 bt264.1 bt264.2 t268 bt271.1 bt271.2 (bt271.2 != bt264.2)) else (laws_FnExactWrapBest.j0 k l0 a1 bt264.1 bt264.2 t268 bt271.1 bt271.2 true))))))))) = some r := h
 clear h
 replace H := Option.bind_eq_some_iff.mp H
 obtain ⟨t260, A30, H⟩ := H
 replace H : (if t260 < 0 then (some true) else ((laws_toStringS.f k l0).bind fun t261 => ((spec_WrapBest.f k t261 a1).bind fun bt264 => ((laws_toStringS.f k l0).bind fun t268 => ((impl_WrapBest.f k t268 a1).bind fun bt271 => ((laws_eqStringS.f k bt271.1 bt264.1).bind fun t275 => (if t275 = true then (laws_FnExactWrapBest.j0 k l0 a1 bt264.1 bt264.2 t268 bt271.1 bt271.2 (bt271.2 != bt264.2)) else (laws_FnExactWrapBest.j0 k l0 a1 bt264.1 bt264.2 t268 bt271.1 bt271.2 true)))))))) = some r := H
 have A3 := Aside0.mk A30
 clear A30
 by_cases c4 : t260 < 0
 ·rw [if_pos c4] at H
  have c4b0 : decide (t260 < 0) = true := decide_eq_true c4
  clear c4
  obtain rfl := Option.some.inj H
  go_enter Try.func6, Try.ntmps6
  go_wp2_with (first | ((with_reducible refine gate_callee (f := 27) rfl ?_); refine goesL_ (some 18) rfl rfl Try.func27 (by kernel_rfl) rfl #[.slice A0 l0.length c0, .int .i64 1048576] rfl (by (try simp only [List.map_toArray, List.map_cons, List.map_nil]); first | done | rfl | (simp only [List.length_drop, List.length_take]; rfl)) ?_; (with_reducible refine (laws_szStringS.calls k _ _ l0 1048576 t260 _ ?side1 ?side2 A3.out).mono ?_); (case side1 => repeat (first | exact HR0.out | (with_reducible refine Kd.C_alloc ?_ _) | (with_reducible refine Kd.C_drewN ?_ _) | (with_reducible refine Kd.C_drew ?_))); (case side2 => exact HC0.out); rintro e w' ⟨rfl, ⟨nd, rfl⟩⟩; refine ⟨_, rfl, ?_⟩))
  go_ret
  exact ⟨by first | rfl | (simp [errW_none, errW_some] <;> rfl) | (simp [*, errW_none, errW_some] <;> rfl), by repeat (first|(with_reducible first|exact HB.out|apply below_alloc|apply pw_below_drewN|apply below_drew1)|exact HB.out)⟩
 ·rw [if_neg c4] at H
  have c4b0 : decide (t260 < 0) = false := decide_eq_false c4
  clear c4
  replace H := Option.bind_eq_some_iff.mp H
  obtain ⟨t261, A50, H⟩ := H
  replace H : ((spec_WrapBest.f k t261 a1).bind fun bt264 => ((laws_toStringS.f k l0).bind fun t268 => ((impl_WrapBest.f k t268 a1).bind fun bt271 => ((laws_eqStringS.f k bt271.1 bt264.1).bind fun t275 => (if t275 = true then (laws_FnExactWrapBest.j0 k l0 a1 bt264.1 bt264.2 t268 bt271.1 bt271.2 (bt271.2 != bt264.2)) else (laws_FnExactWrapBest.j0 k l0 a1 bt264.1 bt264.2 t268 bt271.1 bt271.2 true)))))) = some r := H
  have A5 := Aside0.mk A50
  clear A50
  replace H := Option.bind_eq_some_iff.mp H
  obtain ⟨⟨t264, t265⟩, A60, H⟩ := H
  replace H : ((laws_toStringS.f k l0).bind fun t268 => ((impl_WrapBest.f k t268 a1).bind fun bt271 => ((laws_eqStringS.f k bt271.1 t264).bind fun t275 => (if t275 = true then (laws_FnExactWrapBest.j0 k l0 a1 t264 t265 t268 bt271.1 bt271.2 (bt271.2 != t265)) else (laws_FnExactWrapBest.j0 k l0 a1 t264 t265 t268 bt271.1 bt271.2 true))))) = some r := H
  have A6 := Aside0.mk A60
  clear A60
  replace H := Option.bind_eq_some_iff.mp H
  obtain ⟨t268, A70, H⟩ := H
  replace H : ((impl_WrapBest.f k t268 a1).bind fun bt271 => ((laws_eqStringS.f k bt271.1 t264).bind fun t275 => (if t275 = true then (laws_FnExactWrapBest.j0 k l0 a1 t264 t265 t268 bt271.1 bt271.2 (bt271.2 != t265)) else (laws_FnExactWrapBest.j0 k l0 a1 t264 t265 t268 bt271.1 bt271.2 true)))) = some r := H
  have A7 := Aside0.mk A70
  clear A70
  replace H := Option.bind_eq_some_iff.mp H
  obtain ⟨⟨t271, t272⟩, A80, H⟩ := H
  replace H : ((laws_eqStringS.f k t271 t264).bind fun t275 => (if t275 = true then (laws_FnExactWrapBest.j0 k l0 a1 t264 t265 t268 t271 t272 (t272 != t265)) else (laws_FnExactWrapBest.j0 k l0 a1 t264 t265 t268 t271 t272 true))) = some r := H
  have A8 := Aside0.mk A80
  clear A80
  have HC9 := Aside0.mk H
  clear H
  go_enter Try.func6, Try.ntmps6
  go_upto_region 8 with (first | ((with_reducible refine gate_callee (f := 27) rfl ?_); refine goesL_ (some 18) rfl rfl Try.func27 (by kernel_rfl) rfl #[.slice A0 l0.length c0, .int .i64 1048576] rfl (by (try simp only [List.map_toArray, List.map_cons, List.map_nil]); first | done | rfl | (simp only [List.length_drop, List.length_take]; rfl)) ?_; (with_reducible refine (laws_szStringS.calls k _ _ l0 1048576 t260 _ ?side1 ?side2 A3.out).mono ?_); (case side1 => repeat (first | exact HR0.out | (with_reducible refine Kd.C_alloc ?_ _) | (with_reducible refine Kd.C_drewN ?_ _) | (with_reducible refine Kd.C_drew ?_))); (case side2 => exact HC0.out); rintro e w' ⟨rfl, ⟨nd, rfl⟩⟩; refine ⟨_, rfl, ?_⟩) | ((with_reducible refine gate_callee (f := 28) rfl ?_); refine goesL_ (some 23) rfl rfl Try.func28 (by kernel_rfl) rfl #[.slice A0 l0.length c0] rfl (by (try simp only [List.map_toArray, List.map_cons, List.map_nil]); first | done | rfl | (simp only [List.length_drop, List.length_take]; rfl)) ?_; (with_reducible refine (laws_toStringS.calls k _ _ l0 t261 _ ?side1 ?side2 A5.out).mono ?_); (case side1 => repeat (first | exact HR0.out | (with_reducible refine Kd.C_alloc ?_ _) | (with_reducible refine Kd.C_drewN ?_ _) | (with_reducible refine Kd.C_drew ?_))); (case side2 => exact HC0.out); rintro e w10 ⟨v262, rfl, ho0, hb⟩; refine ⟨_, rfl, ?_⟩; have n0_ := Aside0.mk (Kd.R_lower ho0 (below_size (by repeat (first|(with_reducible first|exact HB.out|apply below_alloc|apply pw_below_drewN|apply below_drew1)|exact HB.out)))); have n1_ := Aside0.mk (below_step (by repeat (first|(with_reducible first|exact HB.out|apply below_alloc|apply pw_below_drewN|apply below_drew1)|exact HB.out)) hb); clear HB; have HO263 := n0_; have HB := n1_; clear n0_ n1_; (try clear hb); (try clear hb2); (try clear hk); (try clear hi); (try clear ho0); obtain ⟨Ao11, co11, eo11⟩ := Kd.R_slice HO263.out; subst eo11) | ((with_reducible refine gate_callee (f := 25) rfl ?_); refine goesL_ (some 25) rfl rfl Try.func25 (by kernel_rfl) rfl #[.slice Ao11 t261.length co11, .int .i64 a1] rfl (by (try simp only [List.map_toArray, List.map_cons, List.map_nil]); first | done | rfl | (simp only [List.length_drop, List.length_take]; rfl)) ?_; (with_reducible refine (spec_WrapBest.calls k _ _ t261 a1 t264 t265 _ ?side1 ?side2 A6.out).mono ?_); (case side1 => repeat (first | exact (Kd.R_reads' HO263.out).2.2 | (with_reducible refine Kd.C_alloc ?_ _) | (with_reducible refine Kd.C_drewN ?_ _) | (with_reducible refine Kd.C_drew ?_))); (case side2 => exact (Kd.R_reads' HO263.out).2.1); rintro e w12 ⟨v266, rfl, ho0, hb⟩; refine ⟨_, rfl, ?_⟩; have n0_ := Aside0.mk (Kd.R_elder' (by (with_reducible repeat (first|apply Kd.R_alloc|apply Kd.R_drewN|apply Kd.R_drew)); exact HO263.out) (Kd.R_base ho0) hb); have n1_ := Aside0.mk (Kd.R_lower (Kd.R_new' ho0 (Kd.R_lt (by (with_reducible repeat (first|apply Kd.R_alloc|apply Kd.R_drewN|apply Kd.R_drew)); exact HO263.out))) (below_size (by repeat (first|(with_reducible first|exact HB.out|apply below_alloc|apply pw_below_drewN|apply below_drew1)|exact HB.out)))); have n2_ := Aside0.mk (below_step (by repeat (first|(with_reducible first|exact HB.out|apply below_alloc|apply pw_below_drewN|apply below_drew1)|exact HB.out)) hb); clear HO263; clear HB; have HO263 := n0_; have HO267 := n1_; have HB := n2_; clear n0_ n1_ n2_; (try clear hb); (try clear hb2); (try clear hk); (try clear hi); (try clear ho0)) | ((with_reducible refine gate_callee (f := 28) rfl ?_); refine goesL_ (some 29) rfl rfl Try.func28 (by kernel_rfl) rfl #[.slice A0 l0.length c0] rfl (by (try simp only [List.map_toArray, List.map_cons, List.map_nil]); first | done | rfl | (simp only [List.length_drop, List.length_take]; rfl)) ?_; (with_reducible refine (laws_toStringS.calls k _ _ l0 t268 _ ?side1 ?side2 A7.out).mono ?_); (case side1 => repeat (first | exact (Kd.C_below HR0.out HB.out) | (with_reducible refine Kd.C_alloc ?_ _) | (with_reducible refine Kd.C_drewN ?_ _) | (with_reducible refine Kd.C_drew ?_))); (case side2 => exact HC0.out); rintro e w13 ⟨v269, rfl, ho0, hb⟩; refine ⟨_, rfl, ?_⟩; have n0_ := Aside0.mk (Kd.R_elder' (by (with_reducible repeat (first|apply Kd.R_alloc|apply Kd.R_drewN|apply Kd.R_drew)); exact HO263.out) (Kd.R_base ho0) hb); have n1_ := Aside0.mk (Kd.R_elder' (by (with_reducible repeat (first|apply Kd.R_alloc|apply Kd.R_drewN|apply Kd.R_drew)); exact HO267.out) (Kd.R_base ho0) hb); have n2_ := Aside0.mk (Kd.R_lower (Kd.R_new' (Kd.R_new' ho0 (Kd.R_lt (by (with_reducible repeat (first|apply Kd.R_alloc|apply Kd.R_drewN|apply Kd.R_drew)); exact HO263.out))) (Kd.R_lt (by (with_reducible repeat (first|apply Kd.R_alloc|apply Kd.R_drewN|apply Kd.R_drew)); exact HO267.out))) (below_size (by repeat (first|(with_reducible first|exact HB.out|apply below_alloc|apply pw_below_drewN|apply below_drew1)|exact HB.out)))); have n3_ := Aside0.mk (below_step (by repeat (first|(with_reducible first|exact HB.out|apply below_alloc|apply pw_below_drewN|apply below_drew1)|exact HB.out)) hb); clear HO263; clear HO267; clear HB; have HO263 := n0_; have HO267 := n1_; have HO270 := n2_; have HB := n3_; clear n0_ n1_ n2_ n3_; (try clear hb); (try clear hb2); (try clear hk); (try clear hi); (try clear ho0); obtain ⟨Ao14, co14, eo14⟩ := Kd.R_slice HO270.out; subst eo14) | ((with_reducible refine gate_callee (f := 24) rfl ?_); refine goesL_ (some 33) rfl rfl Try.func24 (by kernel_rfl) rfl #[.slice Ao14 t268.length co14, .int .i64 a1] rfl (by (try simp only [List.map_toArray, List.map_cons, List.map_nil]); first | done | rfl | (simp only [List.length_drop, List.length_take]; rfl)) ?_; (with_reducible refine (impl_WrapBest.calls k _ _ t268 a1 t271 t272 _ ?side1 ?side2 A8.out).mono ?_); (case side1 => repeat (first | exact (Kd.R_reads' HO270.out).2.2 | (with_reducible refine Kd.C_alloc ?_ _) | (with_reducible refine Kd.C_drewN ?_ _) | (with_reducible refine Kd.C_drew ?_))); (case side2 => exact (Kd.R_reads' HO270.out).2.1); rintro e w15 ⟨v273, rfl, ho0, hb⟩; refine ⟨_, rfl, ?_⟩; have n0_ := Aside0.mk (Kd.R_elder' (by (with_reducible repeat (first|apply Kd.R_alloc|apply Kd.R_drewN|apply Kd.R_drew)); exact HO263.out) (Kd.R_base ho0) hb); have n1_ := Aside0.mk (Kd.R_elder' (by (with_reducible repeat (first|apply Kd.R_alloc|apply Kd.R_drewN|apply Kd.R_drew)); exact HO267.out) (Kd.R_base ho0) hb); have n2_ := Aside0.mk (Kd.R_elder' (by (with_reducible repeat (first|apply Kd.R_alloc|apply Kd.R_drewN|apply Kd.R_drew)); exact HO270.out) (Kd.R_base ho0) hb); have n3_ := Aside0.mk (Kd.R_lower (Kd.R_new' (Kd.R_new' (Kd.R_new' ho0 (Kd.R_lt (by (with_reducible repeat (first|apply Kd.R_alloc|apply Kd.R_drewN|apply Kd.R_drew)); exact HO263.out))) (Kd.R_lt (by (with_reducible repeat (first|apply Kd.R_alloc|apply Kd.R_drewN|apply Kd.R_drew)); exact HO267.out))) (Kd.R_lt (by (with_reducible repeat (first|apply Kd.R_alloc|apply Kd.R_drewN|apply Kd.R_drew)); exact HO270.out))) (below_size (by repeat (first|(with_reducible first|exact HB.out|apply below_alloc|apply pw_below_drewN|apply below_drew1)|exact HB.out)))); have n4_ := Aside0.mk (below_step (by repeat (first|(with_reducible first|exact HB.out|apply below_alloc|apply pw_below_drewN|apply below_drew1)|exact HB.out)) hb); clear HO263; clear HO267; clear HO270; clear HB; have HO263 := n0_; have HO267 := n1_; have HO270 := n2_; have HO274 := n3_; have HB := n4_; clear n0_ n1_ n2_ n3_ n4_; (try clear hb); (try clear hb2); (try clear hk); (try clear hi); (try clear ho0)))
  (try simp only [Act.put, List.setIfInBounds_toArray, List.set_cons_zero, List.set_cons_succ])
  go_cut [44] (fun v44 wc => ∃ (kq : Nat) (x44_8 : Bool), v44 = .bool x44_8 ∧ Aside0 (laws_FnExactWrapBest.j0 kq l0 a1 t264 t265 t268 t271 t272 x44_8 = some r) ∧ Aside0 (kq ≤ k) ∧ Aside0 (Kd.R Kd.string 9 wc w.heap.size (fun k_ => some k_ ≠ ((.slice Ao14 t268.length co14) : Value).ownBlock ∧ some k_ ≠ (v273 : Value).ownBlock) v266 t264) ∧ Aside0 (Kd.R Kd.string 9 wc w.heap.size (fun k_ => some k_ ≠ (v266 : Value).ownBlock ∧ some k_ ≠ (v273 : Value).ownBlock) (.slice Ao14 t268.length co14) t268) ∧ Aside0 (Kd.R Kd.string 9 wc w.heap.size (fun k_ => some k_ ≠ (v266 : Value).ownBlock ∧ some k_ ≠ ((.slice Ao14 t268.length co14) : Value).ownBlock) v273 t271) ∧ Aside0 (Below w.heap.size w wc))
  case first =>
   have H := HC9.out
   clear HC9
   replace H := Option.bind_eq_some_iff.mp H
   obtain ⟨t275, A160, H⟩ := H
   replace H : (if t275 = true then (laws_FnExactWrapBest.j0 k l0 a1 t264 t265 t268 t271 t272 (t272 != t265)) else (laws_FnExactWrapBest.j0 k l0 a1 t264 t265 t268 t271 t272 true)) = some r := H
   have A16 := Aside0.mk A160
   clear A160
   by_cases c17 : t275 = true
   ·subst c17
    have H1 : (laws_FnExactWrapBest.j0 k l0 a1 t264 t265 t268 t271 t272 (t272 != t265)) = some r := by rw [if_pos rfl] at H; exact H
    clear H
    have H := H1
    clear H1
    have H' := Aside0.mk H
    clear H
    obtain ⟨Ao18, co18, eo18⟩ := Kd.R_slice HO274.out
    subst eo18
    obtain ⟨Ao19, co19, eo19⟩ := Kd.R_slice HO267.out
    subst eo19
    go_wp2_with (first | ((with_reducible refine gate_callee (f := 29) rfl ?_); refine goesL_ (some 38) rfl rfl Try.func29 (by kernel_rfl) rfl #[.slice Ao18 t271.length co18, .slice Ao19 t264.length co19] rfl (by (try simp only [List.map_toArray, List.map_cons, List.map_nil]); first | done | rfl | (simp only [List.length_drop, List.length_take]; rfl)) ?_; (with_reducible refine (laws_eqStringS.calls k _ _ t271 _ _ t264 true _ ?side1 ?side2 ?side3 ?side4 A16.out).mono ?_); (case side1 => repeat (first | exact (Kd.R_reads' HO274.out).2.2 | (with_reducible refine Kd.C_alloc ?_ _) | (with_reducible refine Kd.C_drewN ?_ _) | (with_reducible refine Kd.C_drew ?_))); (case side2 => exact (Kd.R_reads' HO274.out).2.1); (case side3 => repeat (first | exact (Kd.R_reads' HO267.out).2.2 | (with_reducible refine Kd.C_alloc ?_ _) | (with_reducible refine Kd.C_drewN ?_ _) | (with_reducible refine Kd.C_drew ?_))); (case side4 => exact (Kd.R_reads' HO267.out).2.1); rintro e w' ⟨rfl, ⟨nd, rfl⟩⟩; refine ⟨_, rfl, ?_⟩))
    go_meet
    case rel => exact ⟨_, ((t272 != t265)), (by first|rfl|(simp;done)|(simp[*];done)), H', ⟨by first | omega | exact Nat.le_refl _⟩, ⟨by (with_reducible repeat (first|apply Kd.R_alloc|apply Kd.R_drewN|apply Kd.R_drew)); exact Kd.R_mono HO267.out (fun _ hk => ⟨hk.1.2, hk.2⟩)⟩, ⟨by (with_reducible repeat (first|apply Kd.R_alloc|apply Kd.R_drewN|apply Kd.R_drew)); exact Kd.R_mono HO270.out (fun _ hk => ⟨hk.1.2, hk.2⟩)⟩, ⟨by (with_reducible repeat (first|apply Kd.R_alloc|apply Kd.R_drewN|apply Kd.R_drew)); exact Kd.R_mono HO274.out (fun _ hk => ⟨hk.1.2, hk.2⟩)⟩, ⟨by repeat (first|(with_reducible first|exact HB.out|apply below_alloc|apply pw_below_drewN|apply below_drew1)|exact HB.out)⟩⟩
   ·replace c17 := Bool.eq_false_iff.mpr c17
    subst c17
    have H1 : (laws_FnExactWrapBest.j0 k l0 a1 t264 t265 t268 t271 t272 true) = some r := by rw [if_neg (show ¬ (false = true) by decide)] at H; exact H
    clear H
    have H := H1
    clear H1
    have H' := Aside0.mk H
    clear H
    obtain ⟨Ao20, co20, eo20⟩ := Kd.R_slice HO274.out
    subst eo20
    obtain ⟨Ao21, co21, eo21⟩ := Kd.R_slice HO267.out
    subst eo21
    go_wp2_with (first | ((with_reducible refine gate_callee (f := 29) rfl ?_); refine goesL_ (some 38) rfl rfl Try.func29 (by kernel_rfl) rfl #[.slice Ao20 t271.length co20, .slice Ao21 t264.length co21] rfl (by (try simp only [List.map_toArray, List.map_cons, List.map_nil]); first | done | rfl | (simp only [List.length_drop, List.length_take]; rfl)) ?_; (with_reducible refine (laws_eqStringS.calls k _ _ t271 _ _ t264 false _ ?side1 ?side2 ?side3 ?side4 A16.out).mono ?_); (case side1 => repeat (first | exact (Kd.R_reads' HO274.out).2.2 | (with_reducible refine Kd.C_alloc ?_ _) | (with_reducible refine Kd.C_drewN ?_ _) | (with_reducible refine Kd.C_drew ?_))); (case side2 => exact (Kd.R_reads' HO274.out).2.1); (case side3 => repeat (first | exact (Kd.R_reads' HO267.out).2.2 | (with_reducible refine Kd.C_alloc ?_ _) | (with_reducible refine Kd.C_drewN ?_ _) | (with_reducible refine Kd.C_drew ?_))); (case side4 => exact (Kd.R_reads' HO267.out).2.1); rintro e w' ⟨rfl, ⟨nd, rfl⟩⟩; refine ⟨_, rfl, ?_⟩))
    go_meet
    case rel => exact ⟨_, (true), (by first|rfl|(simp;done)|(simp[*];done)), H', ⟨by first | omega | exact Nat.le_refl _⟩, ⟨by (with_reducible repeat (first|apply Kd.R_alloc|apply Kd.R_drewN|apply Kd.R_drew)); exact Kd.R_mono HO267.out (fun _ hk => ⟨hk.1.2, hk.2⟩)⟩, ⟨by (with_reducible repeat (first|apply Kd.R_alloc|apply Kd.R_drewN|apply Kd.R_drew)); exact Kd.R_mono HO270.out (fun _ hk => ⟨hk.1.2, hk.2⟩)⟩, ⟨by (with_reducible repeat (first|apply Kd.R_alloc|apply Kd.R_drewN|apply Kd.R_drew)); exact Kd.R_mono HO274.out (fun _ hk => ⟨hk.1.2, hk.2⟩)⟩, ⟨by repeat (first|(with_reducible first|exact HB.out|apply below_alloc|apply pw_below_drewN|apply below_drew1)|exact HB.out)⟩⟩
  case rest =>
   clear HC9
   try clear c1
   try clear c2
   try clear p2
   try clear c4
   try clear c4b0
   try clear c6
   try clear c17
   obtain ⟨kq, x44_8, rfl, HA, HJ8, HO_6, HO_8, HO_9, HB⟩ := hcut
   cases kq with
   | zero => exact absurd HA.out (by simp [laws_FnExactWrapBest.j0])
   | succ kj8 =>
    have H := HA.out
    clear HA
    simp only [laws_FnExactWrapBest.j0] at H
    by_cases c22 : x44_8 = true
    ·subst c22
     have H1 : (some false) = some r := by rw [if_pos rfl] at H; exact H
     clear H
     have H := H1
     clear H1
     obtain rfl := Option.some.inj H
     go_wp2
     go_ret
     exact ⟨by first | rfl | (simp [errW_none, errW_some] <;> rfl) | (simp [*, errW_none, errW_some] <;> rfl), by repeat (first|(with_reducible first|exact HB.out|apply below_alloc|apply pw_below_drewN|apply below_drew1)|exact HB.out)⟩
    ·replace c22 := Bool.eq_false_iff.mpr c22
     subst c22
     have H1 : ((laws_toStringS.f kj8 l0).bind fun t276 => ((laws_eqStringS.f kj8 t268 t276).bind fun t279 => (if t279 = true then ((laws_markStringS.f kj8 t268 1).bind fun bt280 => (if bt280.1 < 0 then (laws_FnExactWrapBest.j1 kj8 l0 a1 t264 t265 t271 true) else ((laws_eqStringS.f kj8 t271 t264).bind fun t282 => (if t282 = true then (laws_FnExactWrapBest.j1 kj8 l0 a1 t264 t265 t271 (t272 != t265)) else (laws_FnExactWrapBest.j1 kj8 l0 a1 t264 t265 t271 true))))) else (some false)))) = some r := by rw [if_neg (show ¬ (false = true) by decide)] at H; exact H
     clear H
     have H := H1
     clear H1
     replace H := Option.bind_eq_some_iff.mp H
     obtain ⟨t276, A230, H⟩ := H
     replace H : ((laws_eqStringS.f kj8 t268 t276).bind fun t279 => (if t279 = true then ((laws_markStringS.f kj8 t268 1).bind fun bt280 => (if bt280.1 < 0 then (laws_FnExactWrapBest.j1 kj8 l0 a1 t264 t265 t271 true) else ((laws_eqStringS.f kj8 t271 t264).bind fun t282 => (if t282 = true then (laws_FnExactWrapBest.j1 kj8 l0 a1 t264 t265 t271 (t272 != t265)) else (laws_FnExactWrapBest.j1 kj8 l0 a1 t264 t265 t271 true))))) else (some false))) = some r := H
     have A23 := Aside0.mk A230
     clear A230
     replace H := Option.bind_eq_some_iff.mp H
     obtain ⟨t279, A240, H⟩ := H
     replace H : (if t279 = true then ((laws_markStringS.f kj8 t268 1).bind fun bt280 => (if bt280.1 < 0 then (laws_FnExactWrapBest.j1 kj8 l0 a1 t264 t265 t271 true) else ((laws_eqStringS.f kj8 t271 t264).bind fun t282 => (if t282 = true then (laws_FnExactWrapBest.j1 kj8 l0 a1 t264 t265 t271 (t272 != t265)) else (laws_FnExactWrapBest.j1 kj8 l0 a1 t264 t265 t271 true))))) else (some false)) = some r := H
     have A24 := Aside0.mk A240
     clear A240
     by_cases c25 : t279 = true
     ·subst c25
      have H1 : ((laws_markStringS.f kj8 t268 1).bind fun bt280 => (if bt280.1 < 0 then (laws_FnExactWrapBest.j1 kj8 l0 a1 t264 t265 t271 true) else ((laws_eqStringS.f kj8 t271 t264).bind fun t282 => (if t282 = true then (laws_FnExactWrapBest.j1 kj8 l0 a1 t264 t265 t271 (t272 != t265)) else (laws_FnExactWrapBest.j1 kj8 l0 a1 t264 t265 t271 true))))) = some r := by rw [if_pos rfl] at H; exact H
      clear H
      have H := H1
      clear H1
      replace H := Option.bind_eq_some_iff.mp H
      obtain ⟨⟨t280, t281⟩, A260, H⟩ := H
      replace H : (if t280 < 0 then (laws_FnExactWrapBest.j1 kj8 l0 a1 t264 t265 t271 true) else ((laws_eqStringS.f kj8 t271 t264).bind fun t282 => (if t282 = true then (laws_FnExactWrapBest.j1 kj8 l0 a1 t264 t265 t271 (t272 != t265)) else (laws_FnExactWrapBest.j1 kj8 l0 a1 t264 t265 t271 true)))) = some r := H
      have A26 := Aside0.mk A260
      clear A260
      have HC27 := Aside0.mk H
      clear H
      go_upto_region 14 with (first | ((with_reducible refine gate_callee (f := 28) rfl ?_); refine goesL_ (some 47) rfl rfl Try.func28 (by kernel_rfl) rfl #[.slice A0 l0.length c0] rfl (by (try simp only [List.map_toArray, List.map_cons, List.map_nil]); first | done | rfl | (simp only [List.length_drop, List.length_take]; rfl)) ?_; (with_reducible refine (laws_toStringS.calls kj8 _ _ l0 t276 _ ?side1 ?side2 A23.out).mono ?_); (case side1 => repeat (first | exact (Kd.C_below HR0.out HB.out) | (with_reducible refine Kd.C_alloc ?_ _) | (with_reducible refine Kd.C_drewN ?_ _) | (with_reducible refine Kd.C_drew ?_))); (case side2 => exact HC0.out); rintro e w28 ⟨v277, rfl, ho0, hb⟩; refine ⟨_, rfl, ?_⟩; have n0_ := Aside0.mk (Kd.R_elder' (by (with_reducible repeat (first|apply Kd.R_alloc|apply Kd.R_drewN|apply Kd.R_drew)); exact HO_6.out) (Kd.R_base ho0) hb); have n1_ := Aside0.mk (Kd.R_elder' (by (with_reducible repeat (first|apply Kd.R_alloc|apply Kd.R_drewN|apply Kd.R_drew)); exact HO_8.out) (Kd.R_base ho0) hb); have n2_ := Aside0.mk (Kd.R_elder' (by (with_reducible repeat (first|apply Kd.R_alloc|apply Kd.R_drewN|apply Kd.R_drew)); exact HO_9.out) (Kd.R_base ho0) hb); have n3_ := Aside0.mk (Kd.R_lower (Kd.R_new' (Kd.R_new' (Kd.R_new' ho0 (Kd.R_lt (by (with_reducible repeat (first|apply Kd.R_alloc|apply Kd.R_drewN|apply Kd.R_drew)); exact HO_6.out))) (Kd.R_lt (by (with_reducible repeat (first|apply Kd.R_alloc|apply Kd.R_drewN|apply Kd.R_drew)); exact HO_8.out))) (Kd.R_lt (by (with_reducible repeat (first|apply Kd.R_alloc|apply Kd.R_drewN|apply Kd.R_drew)); exact HO_9.out))) (below_size (by repeat (first|(with_reducible first|exact HB.out|apply below_alloc|apply pw_below_drewN|apply below_drew1)|exact HB.out)))); have n4_ := Aside0.mk (below_step (by repeat (first|(with_reducible first|exact HB.out|apply below_alloc|apply pw_below_drewN|apply below_drew1)|exact HB.out)) hb); clear HO_6; clear HO_8; clear HO_9; clear HB; have HO_6 := n0_; have HO_8 := n1_; have HO_9 := n2_; have HO278 := n3_; have HB := n4_; clear n0_ n1_ n2_ n3_ n4_; (try clear hb); (try clear hb2); (try clear hk); (try clear hi); (try clear ho0); obtain ⟨Ao29, co29, eo29⟩ := Kd.R_slice HO278.out; subst eo29) | ((with_reducible refine gate_callee (f := 29) rfl ?_); refine goesL_ (some 48) rfl rfl Try.func29 (by kernel_rfl) rfl #[.slice Ao14 t268.length co14, .slice Ao29 t276.length co29] rfl (by (try simp only [List.map_toArray, List.map_cons, List.map_nil]); first | done | rfl | (simp only [List.length_drop, List.length_take]; rfl)) ?_; (with_reducible refine (laws_eqStringS.calls kj8 _ _ t268 _ _ t276 true _ ?side1 ?side2 ?side3 ?side4 A24.out).mono ?_); (case side1 => repeat (first | exact (Kd.R_reads' HO_8.out).2.2 | (with_reducible refine Kd.C_alloc ?_ _) | (with_reducible refine Kd.C_drewN ?_ _) | (with_reducible refine Kd.C_drew ?_))); (case side2 => exact (Kd.R_reads' HO_8.out).2.1); (case side3 => repeat (first | exact (Kd.R_reads' HO278.out).2.2 | (with_reducible refine Kd.C_alloc ?_ _) | (with_reducible refine Kd.C_drewN ?_ _) | (with_reducible refine Kd.C_drew ?_))); (case side4 => exact (Kd.R_reads' HO278.out).2.1); rintro e w' ⟨rfl, ⟨nd, rfl⟩⟩; refine ⟨_, rfl, ?_⟩) | ((with_reducible refine gate_callee (f := 30) rfl ?_); refine goesL_ (some 52) rfl rfl Try.func30 (by kernel_rfl) rfl #[.slice Ao14 t268.length co14, .int .i64 1] rfl (by (try simp only [List.map_toArray, List.map_cons, List.map_nil]); first | done | rfl | (simp only [List.length_drop, List.length_take]; rfl)) ?_; (with_reducible refine (laws_markStringS.calls kj8 (fun k_ => some k_ = (.slice Ao14 t268.length co14 : Value).ownBlock) (.slice Ao14 t268.length co14) t268 1 t280 t281 w _ ?side1 ?side2 A26.out).mono ?_); (case side1 => repeat (first | (with_reducible first | exact HB.out | apply below_alloc | apply pw_below_drewN | apply below_drew1) | exact HB.out)); (case side2 => exact Kd.R_tight rfl HO_8.out); rintro e w30 ⟨rfl, hy0, hb, hkp⟩; refine ⟨_, rfl, ?_⟩; have n0_ := Aside0.mk (Kd.R_mono (ok' := fun k_ => some k_ ≠ (.slice Ao14 t268.length co14 : Value).ownBlock ∧ some k_ ≠ (v273 : Value).ownBlock ∧ some k_ ≠ (.slice Ao29 t276.length co29 : Value).ownBlock) (Kd.R_keptB (HO_6.out) hkp (fun k_ hk_ hs_ => (hk_.1.1) hs_)) (fun k_ hk_ => ⟨hk_.1.1.1, hk_.1.1.2, hk_.1.2⟩)); have n1_ := Aside0.mk (Kd.R_reok rfl hy0 (fun k_ e_ => HO_8.out.1 k_ e_)); have n2_ := Aside0.mk (Kd.R_mono (ok' := fun k_ => some k_ ≠ (v266 : Value).ownBlock ∧ some k_ ≠ (.slice Ao14 t268.length co14 : Value).ownBlock ∧ some k_ ≠ (.slice Ao29 t276.length co29 : Value).ownBlock) (Kd.R_keptB (HO_9.out) hkp (fun k_ hk_ hs_ => (hk_.1.2) hs_)) (fun k_ hk_ => ⟨hk_.1.1.1, hk_.1.1.2, hk_.1.2⟩)); have n3_ := Aside0.mk (Kd.R_mono (ok' := fun k_ => some k_ ≠ (v266 : Value).ownBlock ∧ some k_ ≠ (.slice Ao14 t268.length co14 : Value).ownBlock ∧ some k_ ≠ (v273 : Value).ownBlock) (Kd.R_keptB (HO278.out) hkp (fun k_ hk_ hs_ => (hk_.1.2) hs_)) (fun k_ hk_ => ⟨hk_.1.1.1.2, hk_.1.1.2, hk_.1.2⟩)); have n4_ := Aside0.mk (hb); clear HO_6; clear HO_8; clear HO_9; clear HO278; clear HB; have HO_6 := n0_; have HO_8 := n1_; have HO_9 := n2_; have HO278 := n3_; have HB := n4_; clear n0_ n1_ n2_ n3_ n4_; (try clear hb); (try clear hkp); (try clear hy0)))
      (try simp only [Act.put, List.setIfInBounds_toArray, List.set_cons_zero, List.set_cons_succ])
      go_cut [65] (fun v65 wc => ∃ (kq : Nat) (x65_26 : Bool), v65 = .bool x65_26 ∧ Aside0 (laws_FnExactWrapBest.j1 kq l0 a1 t264 t265 t271 x65_26 = some r) ∧ Aside0 (kq ≤ kj8) ∧ Aside0 (Kd.R Kd.string 9 wc w.heap.size (fun k_ => some k_ ≠ (v273 : Value).ownBlock) v266 t264) ∧ Aside0 (Kd.R Kd.string 9 wc w.heap.size (fun k_ => some k_ ≠ (v266 : Value).ownBlock) v273 t271) ∧ Aside0 (Below w.heap.size w wc))
      case first =>
       have H := HC27.out
       clear HC27
       by_cases c31 : t280 < 0
       ·rw [if_pos c31] at H
        have c31b0 : decide (t280 < 0) = true := decide_eq_true c31
        clear c31
        (first | rw [c31b0] | (simp only [i64_w, i32_w]; rw [c31b0]) | skip)
        have H' := Aside0.mk H
        clear H
        go_wp2
        go_meet
        case rel => exact ⟨_, (true), (by first|rfl|(simp;done)|(simp[*];done)), H', ⟨by have := HJ8.out; first | omega | exact Nat.le_refl _⟩, ⟨by (with_reducible repeat (first|apply Kd.R_alloc|apply Kd.R_drewN|apply Kd.R_drew)); exact Kd.R_mono HO_6.out (fun _ hk => hk.2.1)⟩, ⟨by (with_reducible repeat (first|apply Kd.R_alloc|apply Kd.R_drewN|apply Kd.R_drew)); exact Kd.R_mono HO_9.out (fun _ hk => hk.1)⟩, ⟨by repeat (first|(with_reducible first|exact HB.out|apply below_alloc|apply pw_below_drewN|apply below_drew1)|exact HB.out)⟩⟩
       ·rw [if_neg c31] at H
        have c31b0 : decide (t280 < 0) = false := decide_eq_false c31
        clear c31
        (first | rw [c31b0] | (simp only [i64_w, i32_w]; rw [c31b0]) | skip)
        replace H := Option.bind_eq_some_iff.mp H
        obtain ⟨t282, A320, H⟩ := H
        replace H : (if t282 = true then (laws_FnExactWrapBest.j1 kj8 l0 a1 t264 t265 t271 (t272 != t265)) else (laws_FnExactWrapBest.j1 kj8 l0 a1 t264 t265 t271 true)) = some r := H
        have A32 := Aside0.mk A320
        clear A320
        by_cases c33 : t282 = true
        ·subst c33
         have H1 : (laws_FnExactWrapBest.j1 kj8 l0 a1 t264 t265 t271 (t272 != t265)) = some r := by rw [if_pos rfl] at H; exact H
         clear H
         have H := H1
         clear H1
         have H' := Aside0.mk H
         clear H
         obtain ⟨Ao34, co34, eo34⟩ := Kd.R_slice HO_9.out
         subst eo34
         obtain ⟨Ao35, co35, eo35⟩ := Kd.R_slice HO_6.out
         subst eo35
         go_wp2_with (first | (go_at_call 29; (with_reducible refine (laws_eqStringS.calls kj8 _ _ t271 _ _ t264 true _ ?side1 ?side2 ?side3 ?side4 A32.out).mono ?_); (case side1 => repeat (first | exact (Kd.R_reads' HO_9.out).2.2 | (with_reducible refine Kd.C_alloc ?_ _) | (with_reducible refine Kd.C_drewN ?_ _) | (with_reducible refine Kd.C_drew ?_))); (case side2 => exact (Kd.R_reads' HO_9.out).2.1); (case side3 => repeat (first | exact (Kd.R_reads' HO_6.out).2.2 | (with_reducible refine Kd.C_alloc ?_ _) | (with_reducible refine Kd.C_drewN ?_ _) | (with_reducible refine Kd.C_drew ?_))); (case side4 => exact (Kd.R_reads' HO_6.out).2.1); rintro e w' ⟨rfl, ⟨nd, rfl⟩⟩))
         go_meet
         case rel => exact ⟨_, ((t272 != t265)), (by first|rfl|(simp;done)|(simp[*];done)), H', ⟨by have := HJ8.out; first | omega | exact Nat.le_refl _⟩, ⟨by (with_reducible repeat (first|apply Kd.R_alloc|apply Kd.R_drewN|apply Kd.R_drew)); exact Kd.R_mono HO_6.out (fun _ hk => hk.2.1)⟩, ⟨by (with_reducible repeat (first|apply Kd.R_alloc|apply Kd.R_drewN|apply Kd.R_drew)); exact Kd.R_mono HO_9.out (fun _ hk => hk.1)⟩, ⟨by repeat (first|(with_reducible first|exact HB.out|apply below_alloc|apply pw_below_drewN|apply below_drew1)|exact HB.out)⟩⟩
        ·replace c33 := Bool.eq_false_iff.mpr c33
         subst c33
         have H1 : (laws_FnExactWrapBest.j1 kj8 l0 a1 t264 t265 t271 true) = some r := by rw [if_neg (show ¬ (false = true) by decide)] at H; exact H
         clear H
         have H := H1
         clear H1
         have H' := Aside0.mk H
         clear H
         obtain ⟨Ao36, co36, eo36⟩ := Kd.R_slice HO_9.out
         subst eo36
         obtain ⟨Ao37, co37, eo37⟩ := Kd.R_slice HO_6.out
         subst eo37
         go_wp2_with (first | (go_at_call 29; (with_reducible refine (laws_eqStringS.calls kj8 _ _ t271 _ _ t264 false _ ?side1 ?side2 ?side3 ?side4 A32.out).mono ?_); (case side1 => repeat (first | exact (Kd.R_reads' HO_9.out).2.2 | (with_reducible refine Kd.C_alloc ?_ _) | (with_reducible refine Kd.C_drewN ?_ _) | (with_reducible refine Kd.C_drew ?_))); (case side2 => exact (Kd.R_reads' HO_9.out).2.1); (case side3 => repeat (first | exact (Kd.R_reads' HO_6.out).2.2 | (with_reducible refine Kd.C_alloc ?_ _) | (with_reducible refine Kd.C_drewN ?_ _) | (with_reducible refine Kd.C_drew ?_))); (case side4 => exact (Kd.R_reads' HO_6.out).2.1); rintro e w' ⟨rfl, ⟨nd, rfl⟩⟩))
         go_meet
         case rel => exact ⟨_, (true), (by first|rfl|(simp;done)|(simp[*];done)), H', ⟨by have := HJ8.out; first | omega | exact Nat.le_refl _⟩, ⟨by (with_reducible repeat (first|apply Kd.R_alloc|apply Kd.R_drewN|apply Kd.R_drew)); exact Kd.R_mono HO_6.out (fun _ hk => hk.2.1)⟩, ⟨by (with_reducible repeat (first|apply Kd.R_alloc|apply Kd.R_drewN|apply Kd.R_drew)); exact Kd.R_mono HO_9.out (fun _ hk => hk.1)⟩, ⟨by repeat (first|(with_reducible first|exact HB.out|apply below_alloc|apply pw_below_drewN|apply below_drew1)|exact HB.out)⟩⟩
      case rest =>
       clear HC27
       try clear c1
       try clear c2
       try clear p2
       try clear c3
       try clear c4
       try clear c4b0
       try clear c6
       try clear c17
       try clear c22
       try clear c24
       try clear c25
       try clear c27
       try clear c28
       try clear c29
       try clear c30
       try clear c31
       try clear c31b0
       try clear c33
       try clear p2
       obtain ⟨kq, x65_26, rfl, HA, HJ26, HO_6, HO_9, HB⟩ := hcut
       cases kq with
       | zero => exact absurd HA.out (by simp [laws_FnExactWrapBest.j1])
       | succ kj26 =>
        have H := HA.out
        clear HA
        simp only [laws_FnExactWrapBest.j1] at H
        by_cases c38 : x65_26 = true
        ·subst c38
         have H1 : (some false) = some r := by rw [if_pos rfl] at H; exact H
         clear H
         have H := H1
         clear H1
         obtain rfl := Option.some.inj H
         go_wp2
         go_ret
         exact ⟨by first | rfl | (simp [errW_none, errW_some] <;> rfl) | (simp [*, errW_none, errW_some] <;> rfl), by repeat (first|(with_reducible first|exact HB.out|apply below_alloc|apply pw_below_drewN|apply below_drew1)|exact HB.out)⟩
        ·replace c38 := Bool.eq_false_iff.mpr c38
         subst c38
         have H1 : ((laws_markStringS.f kj26 t271 1).bind fun bt283 => ((laws_heldStringS.f kj26 bt283.2 1).bind fun t285 => (if t285 < 0 then (some false) else (if t285 = bt283.1 then ((laws_toStringS.f kj26 l0).bind fun t286 => ((impl_WrapBest.f kj26 t286 a1).bind fun bt289 => ((laws_eqStringS.f kj26 bt289.1 t264).bind fun t293 => (if t293 = true then (laws_FnExactWrapBest.j2 kj26 bt283.2 bt283.1 (bt289.2 != t265)) else (laws_FnExactWrapBest.j2 kj26 bt283.2 bt283.1 true))))) else (some false))))) = some r := by rw [if_neg (show ¬ (false = true) by decide)] at H; exact H
         clear H
         have H := H1
         clear H1
         replace H := Option.bind_eq_some_iff.mp H
         obtain ⟨⟨t283, t284⟩, A390, H⟩ := H
         replace H : ((laws_heldStringS.f kj26 t284 1).bind fun t285 => (if t285 < 0 then (some false) else (if t285 = t283 then ((laws_toStringS.f kj26 l0).bind fun t286 => ((impl_WrapBest.f kj26 t286 a1).bind fun bt289 => ((laws_eqStringS.f kj26 bt289.1 t264).bind fun t293 => (if t293 = true then (laws_FnExactWrapBest.j2 kj26 t284 t283 (bt289.2 != t265)) else (laws_FnExactWrapBest.j2 kj26 t284 t283 true))))) else (some false)))) = some r := H
         have A39 := Aside0.mk A390
         clear A390
         replace H := Option.bind_eq_some_iff.mp H
         obtain ⟨t285, A400, H⟩ := H
         replace H : (if t285 < 0 then (some false) else (if t285 = t283 then ((laws_toStringS.f kj26 l0).bind fun t286 => ((impl_WrapBest.f kj26 t286 a1).bind fun bt289 => ((laws_eqStringS.f kj26 bt289.1 t264).bind fun t293 => (if t293 = true then (laws_FnExactWrapBest.j2 kj26 t284 t283 (bt289.2 != t265)) else (laws_FnExactWrapBest.j2 kj26 t284 t283 true))))) else (some false))) = some r := H
         have A40 := Aside0.mk A400
         clear A400
         by_cases c41 : t285 < 0
         ·rw [if_pos c41] at H
          have c41b0 : decide (t285 < 0) = true := decide_eq_true c41
          clear c41
          obtain rfl := Option.some.inj H
          obtain ⟨Ao42, co42, eo42⟩ := Kd.R_slice HO_9.out
          subst eo42
          go_wp2_with (first | ((with_reducible refine gate_callee (f := 30) rfl ?_); refine goesL_ (some 68) rfl rfl Try.func30 (by kernel_rfl) rfl #[.slice Ao42 t271.length co42, .int .i64 1] rfl (by (try simp only [List.map_toArray, List.map_cons, List.map_nil]); first | done | rfl | (simp only [List.length_drop, List.length_take]; rfl)) ?_; (with_reducible refine (laws_markStringS.calls kj26 (fun k_ => some k_ = (.slice Ao42 t271.length co42 : Value).ownBlock) (.slice Ao42 t271.length co42) t271 1 t283 t284 w _ ?side1 ?side2 A39.out).mono ?_); (case side1 => repeat (first | (with_reducible first | exact HB.out | apply below_alloc | apply pw_below_drewN | apply below_drew1) | exact HB.out)); (case side2 => exact Kd.R_tight rfl HO_9.out); rintro e w43 ⟨rfl, hy0, hb, hkp⟩; refine ⟨_, rfl, ?_⟩; have n0_ := Aside0.mk (Kd.R_mono (ok' := fun k_ => some k_ ≠ (.slice Ao42 t271.length co42 : Value).ownBlock) (Kd.R_keptB (HO_6.out) hkp (fun k_ hk_ hs_ => (hk_) hs_)) (fun k_ hk_ => hk_.1)); have n1_ := Aside0.mk (Kd.R_reok rfl hy0 (fun k_ e_ => HO_9.out.1 k_ e_)); have n2_ := Aside0.mk (hb); clear HO_6; clear HO_9; clear HB; have HO_6 := n0_; have HO_9 := n1_; have HB := n2_; clear n0_ n1_ n2_; (try clear hb); (try clear hkp); (try clear hy0)) | ((with_reducible refine gate_callee (f := 31) rfl ?_); refine goesL_ (some 71) rfl rfl Try.func31 (by kernel_rfl) rfl #[.slice Ao42 t284.length co42, .int .i64 1] rfl (by (try simp only [List.map_toArray, List.map_cons, List.map_nil]); first | done | (rw [show t284.length = t271.length from (Kd.R_reads' HO_9.out).1.symm] <;> rfl) | rfl | (simp only [List.length_drop, List.length_take]; rfl)) ?_; (with_reducible refine (laws_heldStringS.calls kj26 _ _ t284 1 t285 _ ?side1 ?side2 A40.out).mono ?_); (case side1 => repeat (first | exact (Kd.R_reads' HO_9.out).2.2 | (with_reducible refine Kd.C_alloc ?_ _) | (with_reducible refine Kd.C_drewN ?_ _) | (with_reducible refine Kd.C_drew ?_))); (case side2 => rw [show t284.length = t271.length from (Kd.R_reads' HO_9.out).1.symm]; exact (Kd.R_reads' HO_9.out).2.1); rintro e w44 ⟨rfl, hb⟩; refine ⟨_, rfl, ?_⟩; have n0_ := Aside0.mk (Kd.R_below (by (with_reducible repeat (first|apply Kd.R_alloc|apply Kd.R_drewN|apply Kd.R_drew)); exact HO_6.out) hb); have n1_ := Aside0.mk (Kd.R_below (by (with_reducible repeat (first|apply Kd.R_alloc|apply Kd.R_drewN|apply Kd.R_drew)); exact HO_9.out) hb); have n2_ := Aside0.mk (below_step (by repeat (first|(with_reducible first|exact HB.out|apply below_alloc|apply pw_below_drewN|apply below_drew1)|exact HB.out)) hb); clear HO_6; clear HO_9; clear HB; have HO_6 := n0_; have HO_9 := n1_; have HB := n2_; clear n0_ n1_ n2_; (try clear hb); (try clear hb2); (try clear hk); (try clear hi)))
          go_ret
          exact ⟨by first | rfl | (simp [errW_none, errW_some] <;> rfl) | (simp [*, errW_none, errW_some] <;> rfl), by repeat (first|(with_reducible first|exact HB.out|apply below_alloc|apply pw_below_drewN|apply below_drew1)|exact HB.out)⟩
         ·rw [if_neg c41] at H
          have c41b0 : decide (t285 < 0) = false := decide_eq_false c41
          clear c41
          by_cases c45 : t285 = t283
          ·rw [if_pos c45] at H
           have c45b0 : (t285 == t283) = true := beq_iff_eq.mpr c45
           have c45b1 : (t285 != t283) = false := bne_eq_false_iff_eq.mpr c45
           clear c45
           replace H := Option.bind_eq_some_iff.mp H
           obtain ⟨t286, A460, H⟩ := H
           replace H : ((impl_WrapBest.f kj26 t286 a1).bind fun bt289 => ((laws_eqStringS.f kj26 bt289.1 t264).bind fun t293 => (if t293 = true then (laws_FnExactWrapBest.j2 kj26 t284 t283 (bt289.2 != t265)) else (laws_FnExactWrapBest.j2 kj26 t284 t283 true)))) = some r := H
           have A46 := Aside0.mk A460
           clear A460
           replace H := Option.bind_eq_some_iff.mp H
           obtain ⟨⟨t289, t290⟩, A470, H⟩ := H
           replace H : ((laws_eqStringS.f kj26 t289 t264).bind fun t293 => (if t293 = true then (laws_FnExactWrapBest.j2 kj26 t284 t283 (t290 != t265)) else (laws_FnExactWrapBest.j2 kj26 t284 t283 true))) = some r := H
           have A47 := Aside0.mk A470
           clear A470
           have HC48 := Aside0.mk H
           clear H
           obtain ⟨Ao49, co49, eo49⟩ := Kd.R_slice HO_9.out
           subst eo49
           go_upto_region 25 with (first | ((with_reducible refine gate_callee (f := 30) rfl ?_); refine goesL_ (some 68) rfl rfl Try.func30 (by kernel_rfl) rfl #[.slice Ao49 t271.length co49, .int .i64 1] rfl (by (try simp only [List.map_toArray, List.map_cons, List.map_nil]); first | done | rfl | (simp only [List.length_drop, List.length_take]; rfl)) ?_; (with_reducible refine (laws_markStringS.calls kj26 (fun k_ => some k_ = (.slice Ao49 t271.length co49 : Value).ownBlock) (.slice Ao49 t271.length co49) t271 1 t283 t284 w _ ?side1 ?side2 A39.out).mono ?_); (case side1 => repeat (first | (with_reducible first | exact HB.out | apply below_alloc | apply pw_below_drewN | apply below_drew1) | exact HB.out)); (case side2 => exact Kd.R_tight rfl HO_9.out); rintro e w50 ⟨rfl, hy0, hb, hkp⟩; refine ⟨_, rfl, ?_⟩; have n0_ := Aside0.mk (Kd.R_mono (ok' := fun k_ => some k_ ≠ (.slice Ao49 t271.length co49 : Value).ownBlock) (Kd.R_keptB (HO_6.out) hkp (fun k_ hk_ hs_ => (hk_) hs_)) (fun k_ hk_ => hk_.1)); have n1_ := Aside0.mk (Kd.R_reok rfl hy0 (fun k_ e_ => HO_9.out.1 k_ e_)); have n2_ := Aside0.mk (hb); clear HO_6; clear HO_9; clear HB; have HO_6 := n0_; have HO_9 := n1_; have HB := n2_; clear n0_ n1_ n2_; (try clear hb); (try clear hkp); (try clear hy0)) | ((with_reducible refine gate_callee (f := 31) rfl ?_); refine goesL_ (some 71) rfl rfl Try.func31 (by kernel_rfl) rfl #[.slice Ao49 t284.length co49, .int .i64 1] rfl (by (try simp only [List.map_toArray, List.map_cons, List.map_nil]); first | done | (rw [show t284.length = t271.length from (Kd.R_reads' HO_9.out).1.symm] <;> rfl) | rfl | (simp only [List.length_drop, List.length_take]; rfl)) ?_; (with_reducible refine (laws_heldStringS.calls kj26 _ _ t284 1 t285 _ ?side1 ?side2 A40.out).mono ?_); (case side1 => repeat (first | exact (Kd.R_reads' HO_9.out).2.2 | (with_reducible refine Kd.C_alloc ?_ _) | (with_reducible refine Kd.C_drewN ?_ _) | (with_reducible refine Kd.C_drew ?_))); (case side2 => rw [show t284.length = t271.length from (Kd.R_reads' HO_9.out).1.symm]; exact (Kd.R_reads' HO_9.out).2.1); rintro e w51 ⟨rfl, hb⟩; refine ⟨_, rfl, ?_⟩; have n0_ := Aside0.mk (Kd.R_below (by (with_reducible repeat (first|apply Kd.R_alloc|apply Kd.R_drewN|apply Kd.R_drew)); exact HO_6.out) hb); have n1_ := Aside0.mk (Kd.R_below (by (with_reducible repeat (first|apply Kd.R_alloc|apply Kd.R_drewN|apply Kd.R_drew)); exact HO_9.out) hb); have n2_ := Aside0.mk (below_step (by repeat (first|(with_reducible first|exact HB.out|apply below_alloc|apply pw_below_drewN|apply below_drew1)|exact HB.out)) hb); clear HO_6; clear HO_9; clear HB; have HO_6 := n0_; have HO_9 := n1_; have HB := n2_; clear n0_ n1_ n2_; (try clear hb); (try clear hb2); (try clear hk); (try clear hi)) | ((with_reducible refine gate_callee (f := 28) rfl ?_); refine goesL_ (some 79) rfl rfl Try.func28 (by kernel_rfl) rfl #[.slice A0 l0.length c0] rfl (by (try simp only [List.map_toArray, List.map_cons, List.map_nil]); first | done | rfl | (simp only [List.length_drop, List.length_take]; rfl)) ?_; (with_reducible refine (laws_toStringS.calls kj26 _ _ l0 t286 _ ?side1 ?side2 A46.out).mono ?_); (case side1 => repeat (first | exact (Kd.C_below HR0.out HB.out) | (with_reducible refine Kd.C_alloc ?_ _) | (with_reducible refine Kd.C_drewN ?_ _) | (with_reducible refine Kd.C_drew ?_))); (case side2 => exact HC0.out); rintro e w52 ⟨v287, rfl, ho0, hb⟩; refine ⟨_, rfl, ?_⟩; have n0_ := Aside0.mk (Kd.R_elder' (by (with_reducible repeat (first|apply Kd.R_alloc|apply Kd.R_drewN|apply Kd.R_drew)); exact HO_6.out) (Kd.R_base ho0) hb); have n1_ := Aside0.mk (Kd.R_elder' (by (with_reducible repeat (first|apply Kd.R_alloc|apply Kd.R_drewN|apply Kd.R_drew)); exact HO_9.out) (Kd.R_base ho0) hb); have n2_ := Aside0.mk (Kd.R_lower (Kd.R_new' (Kd.R_new' ho0 (Kd.R_lt (by (with_reducible repeat (first|apply Kd.R_alloc|apply Kd.R_drewN|apply Kd.R_drew)); exact HO_6.out))) (Kd.R_lt (by (with_reducible repeat (first|apply Kd.R_alloc|apply Kd.R_drewN|apply Kd.R_drew)); exact HO_9.out))) (below_size (by repeat (first|(with_reducible first|exact HB.out|apply below_alloc|apply pw_below_drewN|apply below_drew1)|exact HB.out)))); have n3_ := Aside0.mk (below_step (by repeat (first|(with_reducible first|exact HB.out|apply below_alloc|apply pw_below_drewN|apply below_drew1)|exact HB.out)) hb); clear HO_6; clear HO_9; clear HB; have HO_6 := n0_; have HO_9 := n1_; have HO288 := n2_; have HB := n3_; clear n0_ n1_ n2_ n3_; (try clear hb); (try clear hb2); (try clear hk); (try clear hi); (try clear ho0); obtain ⟨Ao53, co53, eo53⟩ := Kd.R_slice HO288.out; subst eo53) | ((with_reducible refine gate_callee (f := 24) rfl ?_); refine goesL_ (some 81) rfl rfl Try.func24 (by kernel_rfl) rfl #[.slice Ao53 t286.length co53, .int .i64 a1] rfl (by (try simp only [List.map_toArray, List.map_cons, List.map_nil]); first | done | rfl | (simp only [List.length_drop, List.length_take]; rfl)) ?_; (with_reducible refine (impl_WrapBest.calls kj26 _ _ t286 a1 t289 t290 _ ?side1 ?side2 A47.out).mono ?_); (case side1 => repeat (first | exact (Kd.R_reads' HO288.out).2.2 | (with_reducible refine Kd.C_alloc ?_ _) | (with_reducible refine Kd.C_drewN ?_ _) | (with_reducible refine Kd.C_drew ?_))); (case side2 => exact (Kd.R_reads' HO288.out).2.1); rintro e w54 ⟨v291, rfl, ho0, hb⟩; refine ⟨_, rfl, ?_⟩; have n0_ := Aside0.mk (Kd.R_elder' (by (with_reducible repeat (first|apply Kd.R_alloc|apply Kd.R_drewN|apply Kd.R_drew)); exact HO_6.out) (Kd.R_base ho0) hb); have n1_ := Aside0.mk (Kd.R_elder' (by (with_reducible repeat (first|apply Kd.R_alloc|apply Kd.R_drewN|apply Kd.R_drew)); exact HO_9.out) (Kd.R_base ho0) hb); have n2_ := Aside0.mk (Kd.R_elder' (by (with_reducible repeat (first|apply Kd.R_alloc|apply Kd.R_drewN|apply Kd.R_drew)); exact HO288.out) (Kd.R_base ho0) hb); have n3_ := Aside0.mk (Kd.R_lower (Kd.R_new' (Kd.R_new' (Kd.R_new' ho0 (Kd.R_lt (by (with_reducible repeat (first|apply Kd.R_alloc|apply Kd.R_drewN|apply Kd.R_drew)); exact HO_6.out))) (Kd.R_lt (by (with_reducible repeat (first|apply Kd.R_alloc|apply Kd.R_drewN|apply Kd.R_drew)); exact HO_9.out))) (Kd.R_lt (by (with_reducible repeat (first|apply Kd.R_alloc|apply Kd.R_drewN|apply Kd.R_drew)); exact HO288.out))) (below_size (by repeat (first|(with_reducible first|exact HB.out|apply below_alloc|apply pw_below_drewN|apply below_drew1)|exact HB.out)))); have n4_ := Aside0.mk (below_step (by repeat (first|(with_reducible first|exact HB.out|apply below_alloc|apply pw_below_drewN|apply below_drew1)|exact HB.out)) hb); clear HO_6; clear HO_9; clear HO288; clear HB; have HO_6 := n0_; have HO_9 := n1_; have HO288 := n2_; have HO292 := n3_; have HB := n4_; clear n0_ n1_ n2_ n3_ n4_; (try clear hb); (try clear hb2); (try clear hk); (try clear hi); (try clear ho0)))
           (try simp only [Act.put, List.setIfInBounds_toArray, List.set_cons_zero, List.set_cons_succ])
           go_cut [92] (fun v92 wc => ∃ (kq : Nat) (x92_47 : Bool), v92 = .bool x92_47 ∧ Aside0 (laws_FnExactWrapBest.j2 kq t284 t283 x92_47 = some r) ∧ Aside0 (kq ≤ kj26) ∧ Aside0 (Kd.R Kd.string 9 wc w.heap.size (fun _ => True) (.slice Ao49 t271.length co49) t284) ∧ Aside0 (Below w.heap.size w wc))
           case first =>
            have H := HC48.out
            clear HC48
            replace H := Option.bind_eq_some_iff.mp H
            obtain ⟨t293, A550, H⟩ := H
            replace H : (if t293 = true then (laws_FnExactWrapBest.j2 kj26 t284 t283 (t290 != t265)) else (laws_FnExactWrapBest.j2 kj26 t284 t283 true)) = some r := H
            have A55 := Aside0.mk A550
            clear A550
            by_cases c56 : t293 = true
            ·subst c56
             have H1 : (laws_FnExactWrapBest.j2 kj26 t284 t283 (t290 != t265)) = some r := by rw [if_pos rfl] at H; exact H
             clear H
             have H := H1
             clear H1
             have H' := Aside0.mk H
             clear H
             obtain ⟨Ao57, co57, eo57⟩ := Kd.R_slice HO292.out
             subst eo57
             obtain ⟨Ao58, co58, eo58⟩ := Kd.R_slice HO_6.out
             subst eo58
             go_wp2_with (first | ((with_reducible refine gate_callee (f := 29) rfl ?_); refine goesL_ (some 86) rfl rfl Try.func29 (by kernel_rfl) rfl #[.slice Ao57 t289.length co57, .slice Ao58 t264.length co58] rfl (by (try simp only [List.map_toArray, List.map_cons, List.map_nil]); first | done | rfl | (simp only [List.length_drop, List.length_take]; rfl)) ?_; (with_reducible refine (laws_eqStringS.calls kj26 _ _ t289 _ _ t264 true _ ?side1 ?side2 ?side3 ?side4 A55.out).mono ?_); (case side1 => repeat (first | exact (Kd.R_reads' HO292.out).2.2 | (with_reducible refine Kd.C_alloc ?_ _) | (with_reducible refine Kd.C_drewN ?_ _) | (with_reducible refine Kd.C_drew ?_))); (case side2 => exact (Kd.R_reads' HO292.out).2.1); (case side3 => repeat (first | exact (Kd.R_reads' HO_6.out).2.2 | (with_reducible refine Kd.C_alloc ?_ _) | (with_reducible refine Kd.C_drewN ?_ _) | (with_reducible refine Kd.C_drew ?_))); (case side4 => exact (Kd.R_reads' HO_6.out).2.1); rintro e w' ⟨rfl, ⟨nd, rfl⟩⟩; refine ⟨_, rfl, ?_⟩))
             go_meet
             case rel => exact ⟨_, ((t290 != t265)), (by first|rfl|(simp;done)|(simp[*];done)), H', ⟨by have := HJ8.out; have := HJ26.out; first | omega | exact Nat.le_refl _⟩, ⟨by (with_reducible repeat (first|apply Kd.R_alloc|apply Kd.R_drewN|apply Kd.R_drew)); exact Kd.R_mono HO_9.out (fun _ hk => trivial)⟩, ⟨by repeat (first|(with_reducible first|exact HB.out|apply below_alloc|apply pw_below_drewN|apply below_drew1)|exact HB.out)⟩⟩
            ·replace c56 := Bool.eq_false_iff.mpr c56
             subst c56
             have H1 : (laws_FnExactWrapBest.j2 kj26 t284 t283 true) = some r := by rw [if_neg (show ¬ (false = true) by decide)] at H; exact H
             clear H
             have H := H1
             clear H1
             have H' := Aside0.mk H
             clear H
             obtain ⟨Ao59, co59, eo59⟩ := Kd.R_slice HO292.out
             subst eo59
             obtain ⟨Ao60, co60, eo60⟩ := Kd.R_slice HO_6.out
             subst eo60
             go_wp2_with (first | ((with_reducible refine gate_callee (f := 29) rfl ?_); refine goesL_ (some 86) rfl rfl Try.func29 (by kernel_rfl) rfl #[.slice Ao59 t289.length co59, .slice Ao60 t264.length co60] rfl (by (try simp only [List.map_toArray, List.map_cons, List.map_nil]); first | done | rfl | (simp only [List.length_drop, List.length_take]; rfl)) ?_; (with_reducible refine (laws_eqStringS.calls kj26 _ _ t289 _ _ t264 false _ ?side1 ?side2 ?side3 ?side4 A55.out).mono ?_); (case side1 => repeat (first | exact (Kd.R_reads' HO292.out).2.2 | (with_reducible refine Kd.C_alloc ?_ _) | (with_reducible refine Kd.C_drewN ?_ _) | (with_reducible refine Kd.C_drew ?_))); (case side2 => exact (Kd.R_reads' HO292.out).2.1); (case side3 => repeat (first | exact (Kd.R_reads' HO_6.out).2.2 | (with_reducible refine Kd.C_alloc ?_ _) | (with_reducible refine Kd.C_drewN ?_ _) | (with_reducible refine Kd.C_drew ?_))); (case side4 => exact (Kd.R_reads' HO_6.out).2.1); rintro e w' ⟨rfl, ⟨nd, rfl⟩⟩; refine ⟨_, rfl, ?_⟩))
             go_meet
             case rel => exact ⟨_, (true), (by first|rfl|(simp;done)|(simp[*];done)), H', ⟨by have := HJ8.out; have := HJ26.out; first | omega | exact Nat.le_refl _⟩, ⟨by (with_reducible repeat (first|apply Kd.R_alloc|apply Kd.R_drewN|apply Kd.R_drew)); exact Kd.R_mono HO_9.out (fun _ hk => trivial)⟩, ⟨by repeat (first|(with_reducible first|exact HB.out|apply below_alloc|apply pw_below_drewN|apply below_drew1)|exact HB.out)⟩⟩
           case rest =>
            clear HC48
            try clear c1
            try clear c2
            try clear p2
            try clear c3
            try clear c4
            try clear c4b0
            try clear c5
            try clear c6
            try clear c17
            try clear c22
            try clear c24
            try clear c25
            try clear c27
            try clear c28
            try clear c29
            try clear c30
            try clear c31
            try clear c31b0
            try clear c33
            try clear c38
            try clear c41
            try clear c41b0
            try clear c45
            try clear c45b0
            try clear c45b1
            try clear c56
            try clear p2
            obtain ⟨kq, x92_47, rfl, HA, HJ47, HO_9, HB⟩ := hcut
            have hl9_47 := (Kd.R_reads' HO_9.out).1
            rw [hl9_47] at HO_9
            (try simp only [hl9_47])
            cases kq with
            | zero => exact absurd HA.out (by simp [laws_FnExactWrapBest.j2])
            | succ kj47 =>
             have H := HA.out
             clear HA
             simp only [laws_FnExactWrapBest.j2] at H
             by_cases c61 : x92_47 = true
             ·subst c61
              have H1 : (some false) = some r := by rw [if_pos rfl] at H; exact H
              clear H
              have H := H1
              clear H1
              obtain rfl := Option.some.inj H
              go_wp2
              go_ret
              exact ⟨by first | rfl | (simp [errW_none, errW_some] <;> rfl) | (simp [*, errW_none, errW_some] <;> rfl), by repeat (first|(with_reducible first|exact HB.out|apply below_alloc|apply pw_below_drewN|apply below_drew1)|exact HB.out)⟩
             ·replace c61 := Bool.eq_false_iff.mpr c61
              subst c61
              have H1 : ((laws_heldStringS.f kj47 t284 1).bind fun t294 => (if t294 < 0 then (some false) else (if t294 = t283 then (some true) else (some false)))) = some r := by rw [if_neg (show ¬ (false = true) by decide)] at H; exact H
              clear H
              have H := H1
              clear H1
              replace H := Option.bind_eq_some_iff.mp H
              obtain ⟨t294, A620, H⟩ := H
              replace H : (if t294 < 0 then (some false) else (if t294 = t283 then (some true) else (some false))) = some r := H
              have A62 := Aside0.mk A620
              clear A620
              by_cases c63 : t294 < 0
              ·rw [if_pos c63] at H
               have c63b0 : decide (t294 < 0) = true := decide_eq_true c63
               clear c63
               obtain rfl := Option.some.inj H
               go_wp2_with (first | ((with_reducible refine gate_callee (f := 31) rfl ?_); refine goesL_ (some 95) rfl rfl Try.func31 (by kernel_rfl) rfl #[.slice Ao49 t284.length co49, .int .i64 1] rfl (by (try simp only [List.map_toArray, List.map_cons, List.map_nil]); first | done | rfl | (simp only [List.length_drop, List.length_take]; rfl)) ?_; (with_reducible refine (laws_heldStringS.calls kj47 _ _ t284 1 t294 _ ?side1 ?side2 A62.out).mono ?_); (case side1 => repeat (first | exact (Kd.R_reads' HO_9.out).2.2 | (with_reducible refine Kd.C_alloc ?_ _) | (with_reducible refine Kd.C_drewN ?_ _) | (with_reducible refine Kd.C_drew ?_))); (case side2 => exact (Kd.R_reads' HO_9.out).2.1); rintro e w64 ⟨rfl, hb⟩; refine ⟨_, rfl, ?_⟩; have n0_ := Aside0.mk (Kd.R_below (by (with_reducible repeat (first|apply Kd.R_alloc|apply Kd.R_drewN|apply Kd.R_drew)); exact HO_9.out) hb); have n1_ := Aside0.mk (below_step (by repeat (first|(with_reducible first|exact HB.out|apply below_alloc|apply pw_below_drewN|apply below_drew1)|exact HB.out)) hb); clear HO_9; clear HB; have HO_9 := n0_; have HB := n1_; clear n0_ n1_; (try clear hb); (try clear hb2); (try clear hk); (try clear hi)))
               go_ret
               exact ⟨by first | rfl | (simp [errW_none, errW_some] <;> rfl) | (simp [*, errW_none, errW_some] <;> rfl), by repeat (first|(with_reducible first|exact HB.out|apply below_alloc|apply pw_below_drewN|apply below_drew1)|exact HB.out)⟩
              ·rw [if_neg c63] at H
               have c63b0 : decide (t294 < 0) = false := decide_eq_false c63
               clear c63
               by_cases c65 : t294 = t283
               ·rw [if_pos c65] at H
                have c65b0 : (t294 == t283) = true := beq_iff_eq.mpr c65
                have c65b1 : (t294 != t283) = false := bne_eq_false_iff_eq.mpr c65
                clear c65
                obtain rfl := Option.some.inj H
                go_wp2_with (first | ((with_reducible refine gate_callee (f := 31) rfl ?_); refine goesL_ (some 95) rfl rfl Try.func31 (by kernel_rfl) rfl #[.slice Ao49 t284.length co49, .int .i64 1] rfl (by (try simp only [List.map_toArray, List.map_cons, List.map_nil]); first | done | rfl | (simp only [List.length_drop, List.length_take]; rfl)) ?_; (with_reducible refine (laws_heldStringS.calls kj47 _ _ t284 1 t294 _ ?side1 ?side2 A62.out).mono ?_); (case side1 => repeat (first | exact (Kd.R_reads' HO_9.out).2.2 | (with_reducible refine Kd.C_alloc ?_ _) | (with_reducible refine Kd.C_drewN ?_ _) | (with_reducible refine Kd.C_drew ?_))); (case side2 => exact (Kd.R_reads' HO_9.out).2.1); rintro e w66 ⟨rfl, hb⟩; refine ⟨_, rfl, ?_⟩; have n0_ := Aside0.mk (Kd.R_below (by (with_reducible repeat (first|apply Kd.R_alloc|apply Kd.R_drewN|apply Kd.R_drew)); exact HO_9.out) hb); have n1_ := Aside0.mk (below_step (by repeat (first|(with_reducible first|exact HB.out|apply below_alloc|apply pw_below_drewN|apply below_drew1)|exact HB.out)) hb); clear HO_9; clear HB; have HO_9 := n0_; have HB := n1_; clear n0_ n1_; (try clear hb); (try clear hb2); (try clear hk); (try clear hi)))
                go_ret
                exact ⟨by first | rfl | (simp [errW_none, errW_some] <;> rfl) | (simp [*, errW_none, errW_some] <;> rfl), by repeat (first|(with_reducible first|exact HB.out|apply below_alloc|apply pw_below_drewN|apply below_drew1)|exact HB.out)⟩
               ·rw [if_neg c65] at H
                have c65b0 : (t294 == t283) = false := beq_eq_false_iff_ne.mpr c65
                have c65b1 : (t294 != t283) = true := bne_iff_ne.mpr c65
                obtain rfl := Option.some.inj H
                go_wp2_with (first | ((with_reducible refine gate_callee (f := 31) rfl ?_); refine goesL_ (some 95) rfl rfl Try.func31 (by kernel_rfl) rfl #[.slice Ao49 t284.length co49, .int .i64 1] rfl (by (try simp only [List.map_toArray, List.map_cons, List.map_nil]); first | done | rfl | (simp only [List.length_drop, List.length_take]; rfl)) ?_; (with_reducible refine (laws_heldStringS.calls kj47 _ _ t284 1 t294 _ ?side1 ?side2 A62.out).mono ?_); (case side1 => repeat (first | exact (Kd.R_reads' HO_9.out).2.2 | (with_reducible refine Kd.C_alloc ?_ _) | (with_reducible refine Kd.C_drewN ?_ _) | (with_reducible refine Kd.C_drew ?_))); (case side2 => exact (Kd.R_reads' HO_9.out).2.1); rintro e w67 ⟨rfl, hb⟩; refine ⟨_, rfl, ?_⟩; have n0_ := Aside0.mk (Kd.R_below (by (with_reducible repeat (first|apply Kd.R_alloc|apply Kd.R_drewN|apply Kd.R_drew)); exact HO_9.out) hb); have n1_ := Aside0.mk (below_step (by repeat (first|(with_reducible first|exact HB.out|apply below_alloc|apply pw_below_drewN|apply below_drew1)|exact HB.out)) hb); clear HO_9; clear HB; have HO_9 := n0_; have HB := n1_; clear n0_ n1_; (try clear hb); (try clear hb2); (try clear hk); (try clear hi)))
                go_ret
                exact ⟨by first | rfl | (simp [errW_none, errW_some] <;> rfl) | (simp [*, errW_none, errW_some] <;> rfl), by repeat (first|(with_reducible first|exact HB.out|apply below_alloc|apply pw_below_drewN|apply below_drew1)|exact HB.out)⟩
          ·rw [if_neg c45] at H
           have c45b0 : (t285 == t283) = false := beq_eq_false_iff_ne.mpr c45
           have c45b1 : (t285 != t283) = true := bne_iff_ne.mpr c45
           obtain rfl := Option.some.inj H
           obtain ⟨Ao68, co68, eo68⟩ := Kd.R_slice HO_9.out
           subst eo68
           go_wp2_with (first | ((with_reducible refine gate_callee (f := 30) rfl ?_); refine goesL_ (some 68) rfl rfl Try.func30 (by kernel_rfl) rfl #[.slice Ao68 t271.length co68, .int .i64 1] rfl (by (try simp only [List.map_toArray, List.map_cons, List.map_nil]); first | done | rfl | (simp only [List.length_drop, List.length_take]; rfl)) ?_; (with_reducible refine (laws_markStringS.calls kj26 (fun k_ => some k_ = (.slice Ao68 t271.length co68 : Value).ownBlock) (.slice Ao68 t271.length co68) t271 1 t283 t284 w _ ?side1 ?side2 A39.out).mono ?_); (case side1 => repeat (first | (with_reducible first | exact HB.out | apply below_alloc | apply pw_below_drewN | apply below_drew1) | exact HB.out)); (case side2 => exact Kd.R_tight rfl HO_9.out); rintro e w69 ⟨rfl, hy0, hb, hkp⟩; refine ⟨_, rfl, ?_⟩; have n0_ := Aside0.mk (Kd.R_mono (ok' := fun k_ => some k_ ≠ (.slice Ao68 t271.length co68 : Value).ownBlock) (Kd.R_keptB (HO_6.out) hkp (fun k_ hk_ hs_ => (hk_) hs_)) (fun k_ hk_ => hk_.1)); have n1_ := Aside0.mk (Kd.R_reok rfl hy0 (fun k_ e_ => HO_9.out.1 k_ e_)); have n2_ := Aside0.mk (hb); clear HO_6; clear HO_9; clear HB; have HO_6 := n0_; have HO_9 := n1_; have HB := n2_; clear n0_ n1_ n2_; (try clear hb); (try clear hkp); (try clear hy0)) | ((with_reducible refine gate_callee (f := 31) rfl ?_); refine goesL_ (some 71) rfl rfl Try.func31 (by kernel_rfl) rfl #[.slice Ao68 t284.length co68, .int .i64 1] rfl (by (try simp only [List.map_toArray, List.map_cons, List.map_nil]); first | done | (rw [show t284.length = t271.length from (Kd.R_reads' HO_9.out).1.symm] <;> rfl) | rfl | (simp only [List.length_drop, List.length_take]; rfl)) ?_; (with_reducible refine (laws_heldStringS.calls kj26 _ _ t284 1 t285 _ ?side1 ?side2 A40.out).mono ?_); (case side1 => repeat (first | exact (Kd.R_reads' HO_9.out).2.2 | (with_reducible refine Kd.C_alloc ?_ _) | (with_reducible refine Kd.C_drewN ?_ _) | (with_reducible refine Kd.C_drew ?_))); (case side2 => rw [show t284.length = t271.length from (Kd.R_reads' HO_9.out).1.symm]; exact (Kd.R_reads' HO_9.out).2.1); rintro e w70 ⟨rfl, hb⟩; refine ⟨_, rfl, ?_⟩; have n0_ := Aside0.mk (Kd.R_below (by (with_reducible repeat (first|apply Kd.R_alloc|apply Kd.R_drewN|apply Kd.R_drew)); exact HO_6.out) hb); have n1_ := Aside0.mk (Kd.R_below (by (with_reducible repeat (first|apply Kd.R_alloc|apply Kd.R_drewN|apply Kd.R_drew)); exact HO_9.out) hb); have n2_ := Aside0.mk (below_step (by repeat (first|(with_reducible first|exact HB.out|apply below_alloc|apply pw_below_drewN|apply below_drew1)|exact HB.out)) hb); clear HO_6; clear HO_9; clear HB; have HO_6 := n0_; have HO_9 := n1_; have HB := n2_; clear n0_ n1_ n2_; (try clear hb); (try clear hb2); (try clear hk); (try clear hi)))
           go_ret
           exact ⟨by first | rfl | (simp [errW_none, errW_some] <;> rfl) | (simp [*, errW_none, errW_some] <;> rfl), by repeat (first|(with_reducible first|exact HB.out|apply below_alloc|apply pw_below_drewN|apply below_drew1)|exact HB.out)⟩
     ·replace c25 := Bool.eq_false_iff.mpr c25
      subst c25
      have H1 : (some false) = some r := by rw [if_neg (show ¬ (false = true) by decide)] at H; exact H
      clear H
      have H := H1
      clear H1
      obtain rfl := Option.some.inj H
      go_wp2_with (first | ((with_reducible refine gate_callee (f := 28) rfl ?_); refine goesL_ (some 47) rfl rfl Try.func28 (by kernel_rfl) rfl #[.slice A0 l0.length c0] rfl (by (try simp only [List.map_toArray, List.map_cons, List.map_nil]); first | done | rfl | (simp only [List.length_drop, List.length_take]; rfl)) ?_; (with_reducible refine (laws_toStringS.calls kj8 _ _ l0 t276 _ ?side1 ?side2 A23.out).mono ?_); (case side1 => repeat (first | exact (Kd.C_below HR0.out HB.out) | (with_reducible refine Kd.C_alloc ?_ _) | (with_reducible refine Kd.C_drewN ?_ _) | (with_reducible refine Kd.C_drew ?_))); (case side2 => exact HC0.out); rintro e w71 ⟨v277, rfl, ho0, hb⟩; refine ⟨_, rfl, ?_⟩; have n0_ := Aside0.mk (Kd.R_elder' (by (with_reducible repeat (first|apply Kd.R_alloc|apply Kd.R_drewN|apply Kd.R_drew)); exact HO_6.out) (Kd.R_base ho0) hb); have n1_ := Aside0.mk (Kd.R_elder' (by (with_reducible repeat (first|apply Kd.R_alloc|apply Kd.R_drewN|apply Kd.R_drew)); exact HO_8.out) (Kd.R_base ho0) hb); have n2_ := Aside0.mk (Kd.R_elder' (by (with_reducible repeat (first|apply Kd.R_alloc|apply Kd.R_drewN|apply Kd.R_drew)); exact HO_9.out) (Kd.R_base ho0) hb); have n3_ := Aside0.mk (Kd.R_lower (Kd.R_new' (Kd.R_new' (Kd.R_new' ho0 (Kd.R_lt (by (with_reducible repeat (first|apply Kd.R_alloc|apply Kd.R_drewN|apply Kd.R_drew)); exact HO_6.out))) (Kd.R_lt (by (with_reducible repeat (first|apply Kd.R_alloc|apply Kd.R_drewN|apply Kd.R_drew)); exact HO_8.out))) (Kd.R_lt (by (with_reducible repeat (first|apply Kd.R_alloc|apply Kd.R_drewN|apply Kd.R_drew)); exact HO_9.out))) (below_size (by repeat (first|(with_reducible first|exact HB.out|apply below_alloc|apply pw_below_drewN|apply below_drew1)|exact HB.out)))); have n4_ := Aside0.mk (below_step (by repeat (first|(with_reducible first|exact HB.out|apply below_alloc|apply pw_below_drewN|apply below_drew1)|exact HB.out)) hb); clear HO_6; clear HO_8; clear HO_9; clear HB; have HO_6 := n0_; have HO_8 := n1_; have HO_9 := n2_; have HO278 := n3_; have HB := n4_; clear n0_ n1_ n2_ n3_ n4_; (try clear hb); (try clear hb2); (try clear hk); (try clear hi); (try clear ho0); obtain ⟨Ao72, co72, eo72⟩ := Kd.R_slice HO278.out; subst eo72) | ((with_reducible refine gate_callee (f := 29) rfl ?_); refine goesL_ (some 48) rfl rfl Try.func29 (by kernel_rfl) rfl #[.slice Ao14 t268.length co14, .slice Ao72 t276.length co72] rfl (by (try simp only [List.map_toArray, List.map_cons, List.map_nil]); first | done | rfl | (simp only [List.length_drop, List.length_take]; rfl)) ?_; (with_reducible refine (laws_eqStringS.calls kj8 _ _ t268 _ _ t276 false _ ?side1 ?side2 ?side3 ?side4 A24.out).mono ?_); (case side1 => repeat (first | exact (Kd.R_reads' HO_8.out).2.2 | (with_reducible refine Kd.C_alloc ?_ _) | (with_reducible refine Kd.C_drewN ?_ _) | (with_reducible refine Kd.C_drew ?_))); (case side2 => exact (Kd.R_reads' HO_8.out).2.1); (case side3 => repeat (first | exact (Kd.R_reads' HO278.out).2.2 | (with_reducible refine Kd.C_alloc ?_ _) | (with_reducible refine Kd.C_drewN ?_ _) | (with_reducible refine Kd.C_drew ?_))); (case side4 => exact (Kd.R_reads' HO278.out).2.1); rintro e w' ⟨rfl, ⟨nd, rfl⟩⟩; refine ⟨_, rfl, ?_⟩))
      go_ret
      exact ⟨by first | rfl | (simp [errW_none, errW_some] <;> rfl) | (simp [*, errW_none, errW_some] <;> rfl), by repeat (first|(with_reducible first|exact HB.out|apply below_alloc|apply pw_below_drewN|apply below_drew1)|exact HB.out)⟩

/-! ### impl_WrapGreedy: function 32 -/
def impl_WrapGreedy.l0 : Nat → Int → List ByteArray → List ByteArray → Int → Int → Option (List ByteArray × Bool)
 | 0, _, _, _, _, _ => none
 | k + 1, x1, x6, x15, x16, x17 => if x17 < x16 then (if 0 ≤ x17 then (if x17 < (x15.length : Int) then (if (wrap64 ((x6.length : Int) - 1)) ≥ 0 then (if 0 ≤ (wrap64 ((x6.length : Int) - 1)) then (if (wrap64 ((x6.length : Int) - 1)) < (x6.length : Int) then (if (wrap64 ((wrap64 (((rdOf ByteArray.empty x6 (wrap64 ((x6.length : Int) - 1))).size : Int) + 1)) + ((rdOf ByteArray.empty x15 x17).size : Int))) ≤ x1 then (if 1 + (rdOf ByteArray.empty x15 x17).size ≤ 9223372036854775807 then (if (rdOf ByteArray.empty x6 (wrap64 ((x6.length : Int) - 1))).size + ((⟨#[32]⟩ : ByteArray) ++ (rdOf ByteArray.empty x15 x17)).size ≤ 9223372036854775807 then (impl_WrapGreedy.l0 k x1 (x6.set ((wrap64 ((x6.length : Int) - 1)) : Int).toNat ((rdOf ByteArray.empty x6 (wrap64 ((x6.length : Int) - 1))) ++ ((⟨#[32]⟩ : ByteArray) ++ (rdOf ByteArray.empty x15 x17)))) x15 x16 (wrap64 (x17 + 1))) else (none)) else (none)) else (if x6.length < 8796093022208 then (impl_WrapGreedy.l0 k x1 (x6 ++ [rdOf ByteArray.empty x15 x17]) x15 x16 (wrap64 (x17 + 1))) else (none))) else (none)) else (none)) else (if x6.length < 8796093022208 then (impl_WrapGreedy.l0 k x1 (x6 ++ [rdOf ByteArray.empty x15 x17]) x15 x16 (wrap64 (x17 + 1))) else (none))) else (none)) else (none)) else (some (x6, true))
def impl_WrapGreedy.f (k : Nat) (l0 : List ByteArray) (a1 : Int) : Option (List ByteArray × Bool) := (impl_wrapOk.f k l0 a1).bind fun t295 => (if t295 = true then (impl_WrapGreedy.l0 k a1 (([] : List ByteArray)) l0 (l0.length : Int) 0) else (some (([] : List ByteArray), false)))
theorem impl_WrapGreedy.mono_l : ∀ k, (∀ y0 y1 y2 y3 y4, LeO (impl_WrapGreedy.l0 k y0 y1 y2 y3 y4) (impl_WrapGreedy.l0 (k + 1) y0 y1 y2 y3 y4))
 | 0 => fun _ _ _ _ _ r h => by simp [impl_WrapGreedy.l0] at h
 | k + 1 => by
  have ih0 := impl_WrapGreedy.mono_l k
  ·intro y0 y1 y2 y3 y4
   unfold impl_WrapGreedy.l0
   repeat' first
   | (with_reducible exact ih0 _ _ _ _ _)
   | (with_reducible exact impl_wrapOk.mono _ _ _)
   | (with_reducible exact LeO.refl _)
   | (with_reducible exact LeO.none _)
   | (with_reducible refine LeO.ite ?_ ?_)
   | (with_reducible refine LeO.bind ?_ (fun _ => ?_))
   | exact ih0 _ _ _ _ _
   | exact impl_wrapOk.mono _ _ _
   | exact LeO.none _
   | refine LeO.ite ?_ ?_
   | refine LeO.bind ?_ (fun _ => ?_)
theorem impl_WrapGreedy.mono : ∀ a0 a1 k, LeO (impl_WrapGreedy.f k a0 a1) (impl_WrapGreedy.f (k + 1) a0 a1) := by
 intro a0 a1 k
 have ih0 := impl_WrapGreedy.mono_l k
 unfold impl_WrapGreedy.f
 repeat' first
   | (with_reducible exact ih0 _ _ _ _ _)
   | (with_reducible exact impl_wrapOk.mono _ _ _)
   | (with_reducible exact LeO.refl _)
   | (with_reducible exact LeO.none _)
   | (with_reducible refine LeO.ite ?_ ?_)
   | (with_reducible refine LeO.bind ?_ (fun _ => ?_))
   | exact ih0 _ _ _ _ _
   | exact impl_wrapOk.mono _ _ _
   | exact LeO.none _
   | refine LeO.ite ?_ ?_
   | refine LeO.bind ?_ (fun _ => ?_)
set_option maxHeartbeats 8000000 in
set_option maxRecDepth 100000 in
theorem impl_WrapGreedy.calls (k : Nat) (A0 : Option Addr) (c0 : Nat) (l0 : List ByteArray) (a1 : Int) (r1 : List ByteArray) (r2 : Bool) (w : World) (hr0 : Kd.C Kd.string w A0 l0.length l0) (hc0 : l0.length ≤ c0) (h : impl_WrapGreedy.f k l0 a1 = some (r1, r2)) :
  Calls Try.prog 32 #[.slice A0 l0.length c0, .int .i64 a1] w fun e w' => ∃ v0_ : Value, e = .returned (.tuple #[v0_, .bool r2]) ∧ Kd.R Kd.string 9 w' w.heap.size (fun _ => True) v0_ r1 ∧ Below w.heap.size w w' := by
 have HR0 := Aside0.mk hr0
 have HC0 := Aside0.mk hc0
 clear hr0 hc0
 have HB := Aside0.mk (Below.refl w.heap.size w)
 have H : ((impl_wrapOk.f k l0 a1).bind fun t295 => (if t295 = true then (impl_WrapGreedy.l0 k a1 (([] : List ByteArray)) l0 (l0.length : Int) 0) else (some (([] : List ByteArray), false)))) = some (r1, r2) := h
 clear h
 replace H := Option.bind_eq_some_iff.mp H
 obtain ⟨t295, A30, H⟩ := H
 replace H : (if t295 = true then (impl_WrapGreedy.l0 k a1 (([] : List ByteArray)) l0 (l0.length : Int) 0) else (some (([] : List ByteArray), false))) = some (r1, r2) := H
 have A3 := Aside0.mk A30
 clear A30
 by_cases c4 : t295 = true
 ·subst c4
  have H1 : (impl_WrapGreedy.l0 k a1 (([] : List ByteArray)) l0 (l0.length : Int) 0) = some (r1, r2) := by rw [if_pos rfl] at H; exact H
  clear H
  have H := H1
  clear H1
  obtain ⟨y296, hy296⟩ : ∃ y_ : List ByteArray, y_ = (([] : List ByteArray)) := ⟨_, rfl⟩
  replace H : (impl_WrapGreedy.l0 k a1 y296 l0 (l0.length : Int) 0) = some (r1, r2) := by first | (rw [hy296]; with_reducible exact H) | (have H2_ := (Option.bind_some _ _).symm.trans H; rw [hy296]; with_reducible exact H2_) | (have H2_ := (Option.bind_some _ _).symm.trans H; with_reducible exact H2_) | with_reducible exact H | (rw [hy296]; exact H) | exact H
  have Ny296 := Aside0.mk hy296
  clear hy296
  have H' := Aside0.mk H
  clear H
  go_enter Try.func32, Try.ntmps32
  go_wp2_with (first | ((with_reducible refine gate_callee (f := 50) rfl ?_); refine goesL_ (some 12) rfl rfl Try.func50 (by kernel_rfl) rfl #[.slice A0 l0.length c0, .int .i64 a1] rfl (by (try simp only [List.map_toArray, List.map_cons, List.map_nil]); first | done | rfl | (simp only [List.length_drop, List.length_take]; rfl)) ?_; (with_reducible refine (impl_wrapOk.calls k _ _ l0 a1 true _ ?side1 ?side2 A3.out).mono ?_); (case side1 => repeat (first | exact HR0.out | (with_reducible refine Kd.C_alloc ?_ _) | (with_reducible refine Kd.C_drewN ?_ _) | (with_reducible refine Kd.C_drew ?_))); (case side2 => exact HC0.out); rintro e w' ⟨rfl, ⟨nd, rfl⟩⟩; refine ⟨_, rfl, ?_⟩) | ((with_reducible refine gate_dst (N := 14) rfl ?_); (try (refine gate_guard (by rfl) ?_; dsimp only)); refine Kd.R_lit Kd.string _ 9 ?hg (N := 14) ?hd (xs := ([] : List ByteArray)) (inner := []) (ok := fun _ => True) (okp := fun _ => True) ?hr ?hp (fun _ hk => hk) trivial (Below.refl _ _) (Nat.le_refl _) (by simp) ?_; (case hd => rfl); (case hg => rfl); (case hr => first | (go_simp; done) | (go_simp; rfl)); (case hp => exact (Reps.none _ _)); intro v297 w5 ho6 hb hg_ hnew_; clear hg_ hnew_; (first | rw [← Ny296.out] at ho6 | (simp only [Int.reduceToNat] at ho6; rw [← Ny296.out] at ho6)); have n0_ := Aside0.mk (Kd.R_lower ho6 (below_size (by repeat (first|(with_reducible first|exact HB.out|apply below_alloc|apply pw_below_drewN|apply below_drew1)|exact HB.out)))); have n1_ := Aside0.mk (below_step (by repeat (first|(with_reducible first|exact HB.out|apply below_alloc|apply pw_below_drewN|apply below_drew1)|exact HB.out)) hb); clear HB; have HO298 := n0_; have HB := n1_; clear n0_ n1_; clear hb ho6))
  go_loopg [6, 17] k (fun kq v6 v17 w' => ∃ (x6_1 : List ByteArray) (x17_1 : Int), v17 = .int .i64 x17_1 ∧ Aside0 (impl_WrapGreedy.l0 kq a1 x6_1 l0 (l0.length : Int) x17_1 = some (r1, r2)) ∧ Aside0 (kq ≤ k) ∧ Aside0 (Kd.R Kd.string 9 w' w.heap.size (fun _ => True) v6 x6_1) ∧ Aside0 (Below w.heap.size w w'))
  case atStart => exact ⟨(y296), (0), (by first|rfl|(simp;done)|(simp[*];done)), H', ⟨Nat.le_refl _⟩, ⟨by (with_reducible repeat (first|apply Kd.R_alloc|apply Kd.R_drewN|apply Kd.R_drew)); exact HO298.out⟩, ⟨by repeat (first|(with_reducible first|exact HB.out|apply below_alloc|apply pw_below_drewN|apply below_drew1)|exact HB.out)⟩⟩
  case round =>
   clear H'
   try clear p2
   try clear c3
   try clear c4
   try clear c5
   obtain ⟨x6_1, x17_1, rfl, HA, HK1, HO_6, HB⟩ := hrel
   cases gk with
   | zero => exact absurd HA.out (by simp [impl_WrapGreedy.l0])
   | succ k1 =>
    have H := HA.out
    clear HA
    simp only [impl_WrapGreedy.l0] at H
    by_cases c7 : x17_1 < (l0.length : Int)
    ·rw [if_pos c7] at H
     have c7b0 : decide (x17_1 < (l0.length : Int)) = true := decide_eq_true c7
     clear c7
     by_cases c8 : 0 ≤ x17_1
     ·rw [if_pos c8] at H
      have c8b0 : decide (0 ≤ x17_1) = true := decide_eq_true c8
      clear c8
      by_cases c9 : x17_1 < (l0.length : Int)
      ·rw [if_pos c9] at H
       have c9b0 : decide (x17_1 < (l0.length : Int)) = true := decide_eq_true c9
       clear c9
       by_cases c10 : (wrap64 ((x6_1.length : Int) - 1)) ≥ 0
       ·rw [if_pos c10] at H
        have c10b0 : decide (0 ≤ (wrap64 ((x6_1.length : Int) - 1))) = true := decide_eq_true c10
        clear c10
        obtain ⟨ji11, hji11⟩ : ∃ j_ : Int, (wrap64 ((x6_1.length : Int) - 1)) = j_ := ⟨_, rfl⟩
        replace H : (if 0 ≤ (ji11) then (if (ji11) < (x6_1.length : Int) then (if (wrap64 ((wrap64 (((rdOf ByteArray.empty x6_1 (ji11)).size : Int) + 1)) + ((rdOf ByteArray.empty l0 x17_1).size : Int))) ≤ a1 then (if 1 + (rdOf ByteArray.empty l0 x17_1).size ≤ 9223372036854775807 then (if (rdOf ByteArray.empty x6_1 (ji11)).size + ((⟨#[32]⟩ : ByteArray) ++ (rdOf ByteArray.empty l0 x17_1)).size ≤ 9223372036854775807 then (impl_WrapGreedy.l0 k1 a1 (x6_1.set ((ji11) : Int).toNat ((rdOf ByteArray.empty x6_1 (ji11)) ++ ((⟨#[32]⟩ : ByteArray) ++ (rdOf ByteArray.empty l0 x17_1)))) l0 (l0.length : Int) (wrap64 (x17_1 + 1))) else (none)) else (none)) else (if x6_1.length < 8796093022208 then (impl_WrapGreedy.l0 k1 a1 (x6_1 ++ [rdOf ByteArray.empty l0 x17_1]) l0 (l0.length : Int) (wrap64 (x17_1 + 1))) else (none))) else (none)) else (none)) = some (r1, r2) := by first | (rw [hji11] at H; exact H) | (simp only [hji11] at H ⊢; exact H)
        (try rw [hji11] at c10b0)
        have hji11w : (IntKind.i64.wrap ((x6_1.length : Int) - 1)) = ji11 := (i64_w _).trans hji11
        by_cases c12 : 0 ≤ (ji11)
        ·rw [if_pos c12] at H
         have c12b0 : decide (0 ≤ (ji11)) = true := decide_eq_true c12
         clear c12
         by_cases c13 : (ji11) < (x6_1.length : Int)
         ·rw [if_pos c13] at H
          have c13b0 : decide ((ji11) < (x6_1.length : Int)) = true := decide_eq_true c13
          clear c13
          by_cases c14 : (wrap64 ((wrap64 (((rdOf ByteArray.empty x6_1 (ji11)).size : Int) + 1)) + ((rdOf ByteArray.empty l0 x17_1).size : Int))) ≤ a1
          ·rw [if_pos c14] at H
           have c14b0 : decide ((wrap64 ((wrap64 (((rdOf ByteArray.empty x6_1 (ji11)).size : Int) + 1)) + ((rdOf ByteArray.empty l0 x17_1).size : Int))) ≤ a1) = true := decide_eq_true c14
           clear c14
           by_cases c15 : 1 + (rdOf ByteArray.empty l0 x17_1).size ≤ 9223372036854775807
           ·rw [if_pos c15] at H
            have c15b0 := eq_true c15
            have c15b1 : decide (1 + (rdOf ByteArray.empty l0 x17_1).size ≤ 9223372036854775807) = true := decide_eq_true c15
            try have c15b2 : (9223372036854775807 < 1 + (rdOf ByteArray.empty l0 x17_1).size) = False := eq_false (Nat.not_lt.2 c15)
            by_cases c16 : (rdOf ByteArray.empty x6_1 (ji11)).size + ((⟨#[32]⟩ : ByteArray) ++ (rdOf ByteArray.empty l0 x17_1)).size ≤ 9223372036854775807
            ·rw [if_pos c16] at H
             have c16b0 := eq_true c16
             have c16b1 : decide ((rdOf ByteArray.empty x6_1 (ji11)).size + ((⟨#[32]⟩ : ByteArray) ++ (rdOf ByteArray.empty l0 x17_1)).size ≤ 9223372036854775807) = true := decide_eq_true c16
             try have c16b2 : (9223372036854775807 < (rdOf ByteArray.empty x6_1 (ji11)).size + ((⟨#[32]⟩ : ByteArray) ++ (rdOf ByteArray.empty l0 x17_1)).size) = False := eq_false (Nat.not_lt.2 c16)
             try have c16b3 : (9223372036854775807 < (rdOf ByteArray.empty x6_1 (ji11)).size + (1 + (rdOf ByteArray.empty l0 x17_1).size)) = False := eq_false (Nat.not_lt.2 (by have q_ := c16; simp only [ByteArray.size_append] at q_; exact q_))
             obtain ⟨y302, hy302⟩ : ∃ y_ : List ByteArray, y_ = (x6_1.set ((ji11) : Int).toNat ((rdOf ByteArray.empty x6_1 (ji11)) ++ ((⟨#[32]⟩ : ByteArray) ++ (rdOf ByteArray.empty l0 x17_1)))) := ⟨_, rfl⟩
             replace H : (impl_WrapGreedy.l0 k1 a1 y302 l0 (l0.length : Int) (wrap64 (x17_1 + 1))) = some (r1, r2) := by first | (rw [hy302]; with_reducible exact H) | (have H2_ := (Option.bind_some _ _).symm.trans H; rw [hy302]; with_reducible exact H2_) | (have H2_ := (Option.bind_some _ _).symm.trans H; with_reducible exact H2_) | with_reducible exact H | (rw [hy302]; exact H) | exact H
             have Ny302 := Aside0.mk hy302
             clear hy302
             have H' := Aside0.mk H
             clear H
             have p299 : 0 ≤ (x17_1 : Int) := of_decide_eq_true (by first|(with_reducible assumption)|assumption)
             have q299 : x17_1 < (l0.length : Int) := of_decide_eq_true (by first|(with_reducible assumption)|assumption)
             obtain ⟨ad299, e299, hx299_0⟩ := Kd.at_string HR0.out x17_1 p299 q299
             cases e299
             replace hx299_0 := (HB.out.cell (World.block_lt_of_cell? w _ hx299_0)).trans hx299_0
             replace p299 := eq_true p299
             replace q299 := eq_true q299
             obtain ⟨Ao18, co18, eo18⟩ := Kd.R_slice HO_6.out
             subst eo18
             have p300 : 0 ≤ ((ji11) : Int) := of_decide_eq_true (by first|(with_reducible assumption)|assumption)
             have q300 : (ji11) < (x6_1.length : Int) := of_decide_eq_true (by first|(with_reducible assumption)|assumption)
             obtain ⟨ad300, e300, hx300_0⟩ := Kd.at_string (Kd.R_reads' HO_6.out).2.2 (ji11) p300 q300
             cases e300
             replace p300 := eq_true p300
             replace q300 := eq_true q300
             have p301 : 0 ≤ ((ji11) : Int) := of_decide_eq_true (by first|(with_reducible assumption)|assumption)
             have q301 : (ji11) < (x6_1.length : Int) := of_decide_eq_true (by first|(with_reducible assumption)|assumption)
             obtain ⟨ad301, e301, hx301_0⟩ := Kd.at_string (Kd.R_reads' HO_6.out).2.2 (ji11) p301 q301
             obtain rfl : ad300 = ad301 := (by injection e301)
             replace p301 := eq_true p301
             replace q301 := eq_true q301
             have p17 : 0 ≤ ((ji11) : Int) := of_decide_eq_true (by first|(with_reducible assumption)|assumption)
             have q17 : ((ji11) : Int) < ((x6_1.length : Int) : Int) := of_decide_eq_true (by first|(with_reducible assumption)|assumption)
             obtain ⟨go17, co17, eo17, gb17, gl17, cl17, HG17⟩ := Kd.R_form HO_6.out (by omega)
             (first | cases eo17 | (injection eo17 with ea_ en_ ec_; (first | subst ea_ | (injection ea_ with ea_; subst ea_)); subst ec_; clear en_))
             have GB17 := Aside0.mk gb17
             have GG17 := Aside0.mk HG17
             clear gb17 gl17 HG17
             (first | simp only [add_plain] at hx300_0 | skip)
             (first | simp only [add_plain] at hx301_0 | skip)
             obtain ⟨hx17_0, hf17_0⟩ := Kd.R_celln (⟨#[]⟩ : ByteArray) HO_6.out ((ji11) : Int) p17 q17
             replace p17 := eq_true p17
             replace q17 := eq_true q17
             have HP19 := Kd.R_putg HO_6.out ((ji11) : Int) ((rdOf ByteArray.empty x6_1 (ji11)) ++ ((⟨#[32]⟩ : ByteArray) ++ (rdOf ByteArray.empty l0 x17_1)))
             go_wp2_with (first | ((with_reducible refine gate_store (t := 9) (p := 46) rfl ?_); refine store_event (t := 9) (p := 46) (v := ?vo_w20) (w1 := (wr.setCell ⟨go17, ((ji11) : Int).toNat, none⟩ (.string ((rdOf ByteArray.empty x6_1 (ji11)) ++ ((⟨#[32]⟩ : ByteArray) ++ (rdOf ByteArray.empty l0 x17_1)))))) ?hg ?ho ?hn ?hr ?_; (case ho => rfl); (case hg => rfl); (case hn => rfl); (case hr => first | (go_simp; done) | (go_simp; rfl)); intro w20 hw; have hg : wr.grownBy w20 (some go17) := (by rw [hw]; exact HP19.2); have hp_ : Kd.R Kd.string 9 w20 w.heap.size (fun _ => True) (.slice (some ⟨go17, 0, none⟩) x6_1.length co18) y302 := (by rw [hw, Ny302.out]; exact HP19.1); clear HP19; have n0_ := Aside0.mk (hp_); have n1_ := Aside0.mk ((by rw [hw]; exact below_set (HB.out) GB17.out : Below w.heap.size w w20)); clear HO_6; clear HB; have HO_6 := n0_; have HB := n1_; clear n0_ n1_; clear hg hw hp_))
             go_roundg k1
             case measure => have := HK1.out; omega
             case rel => exact ⟨(y302), (wrap64 (x17_1 + 1)), (by first|rfl|(simp;done)|(simp[*];done)), H', ⟨by have := HK1.out; omega⟩, ⟨by (with_reducible repeat (first|apply Kd.R_alloc|apply Kd.R_drewN|apply Kd.R_drew)); exact HO_6.out⟩, ⟨by repeat (first|(with_reducible first|exact HB.out|apply below_alloc|apply pw_below_drewN|apply below_drew1)|exact HB.out)⟩⟩
            ·rw [if_neg c16] at H
             exact absurd H (by simp)
           ·rw [if_neg c15] at H
            exact absurd H (by simp)
          ·rw [if_neg c14] at H
           have c14b0 : decide ((wrap64 ((wrap64 (((rdOf ByteArray.empty x6_1 (ji11)).size : Int) + 1)) + ((rdOf ByteArray.empty l0 x17_1).size : Int))) ≤ a1) = false := decide_eq_false c14
           clear c14
           by_cases c21 : x6_1.length < 8796093022208
           ·rw [if_pos c21] at H
            have LMc21 := Aside0.mk c21
            clear c21
            obtain ⟨y303, hy303⟩ : ∃ y_ : List ByteArray, y_ = (x6_1 ++ [rdOf ByteArray.empty l0 x17_1]) := ⟨_, rfl⟩
            replace H : (impl_WrapGreedy.l0 k1 a1 y303 l0 (l0.length : Int) (wrap64 (x17_1 + 1))) = some (r1, r2) := by first | (rw [hy303]; with_reducible exact H) | (have H2_ := (Option.bind_some _ _).symm.trans H; rw [hy303]; with_reducible exact H2_) | (have H2_ := (Option.bind_some _ _).symm.trans H; with_reducible exact H2_) | with_reducible exact H | (rw [hy303]; exact H) | exact H
            have Ny303 := Aside0.mk hy303
            clear hy303
            have H' := Aside0.mk H
            clear H
            have p299 : 0 ≤ (x17_1 : Int) := of_decide_eq_true (by first|(with_reducible assumption)|assumption)
            have q299 : x17_1 < (l0.length : Int) := of_decide_eq_true (by first|(with_reducible assumption)|assumption)
            obtain ⟨ad299, e299, hx299_0⟩ := Kd.at_string HR0.out x17_1 p299 q299
            cases e299
            replace hx299_0 := (HB.out.cell (World.block_lt_of_cell? w _ hx299_0)).trans hx299_0
            replace p299 := eq_true p299
            replace q299 := eq_true q299
            obtain ⟨Ao22, co22, eo22⟩ := Kd.R_slice HO_6.out
            subst eo22
            have p300 : 0 ≤ ((ji11) : Int) := of_decide_eq_true (by first|(with_reducible assumption)|assumption)
            have q300 : (ji11) < (x6_1.length : Int) := of_decide_eq_true (by first|(with_reducible assumption)|assumption)
            obtain ⟨ad300, e300, hx300_0⟩ := Kd.at_string (Kd.R_reads' HO_6.out).2.2 (ji11) p300 q300
            cases e300
            replace p300 := eq_true p300
            replace q300 := eq_true q300
            go_wp2_with (first | ((with_reducible refine gate_builtin (b := .append) (xs := #[.tmp 47, .tmp 49]) rfl ?_); (try (refine gate_guard (by rfl) ?_; dsimp only)); at_builtin; refine Kd.R_append Kd.string (w0 := w) w.heap.size rfl (.tmp 47) (.tmp 49) 39 9 (.string ⟨#[]⟩) 16 rfl Try.underlying39 info9 rfl (by decide) (by omega) (.slice (some ad300) x6_1.length co22) x6_1 (rdOf ByteArray.empty l0 x17_1) [.string (rdOf ByteArray.empty l0 x17_1)] (fun _ => True) (fun _ => False) rfl rfl ?aP (fun _ hk => hk.elim) ?aF ?aO ?aB ?aS ?aL ?_; (case aP => exact rfl); (case aB => exact (by repeat (first|(with_reducible first|exact HB.out|apply below_alloc|apply pw_below_drewN|apply below_drew1)|exact HB.out))); (case aF => exact (fun _ _ => trivial)); (case aO => exact (by (with_reducible repeat (first|apply Kd.R_alloc|apply Kd.R_drewN|apply Kd.R_drew)); exact HO_6.out)); (case aS => exact (below_size (by repeat (first|(with_reducible first|exact HB.out|apply below_alloc|apply pw_below_drewN|apply below_drew1)|exact HB.out)))); (case aL => have := LMc21.out; omega); intro v304 w23 ho hb hg hat; rw [← Ny303.out] at ho; have n0_ := Aside0.mk (hb); have n1_ := Aside0.mk (ho); clear HB; clear HO_6; have HB := n0_; have HO305 := n1_; clear n0_ n1_; clear ho hb hg hat))
            go_roundg k1
            case measure => have := HK1.out; omega
            case rel => exact ⟨(y303), (wrap64 (x17_1 + 1)), (by first|rfl|(simp;done)|(simp[*];done)), H', ⟨by have := HK1.out; omega⟩, ⟨by (with_reducible repeat (first|apply Kd.R_alloc|apply Kd.R_drewN|apply Kd.R_drew)); exact HO305.out⟩, ⟨by repeat (first|(with_reducible first|exact HB.out|apply below_alloc|apply pw_below_drewN|apply below_drew1)|exact HB.out)⟩⟩
           ·rw [if_neg c21] at H
            exact absurd H (by simp)
         ·rw [if_neg c13] at H
          exact absurd H (by simp)
        ·rw [if_neg c12] at H
         exact absurd H (by simp)
       ·rw [if_neg c10] at H
        have c10b0 : decide (0 ≤ (wrap64 ((x6_1.length : Int) - 1))) = false := decide_eq_false c10
        clear c10
        by_cases c24 : x6_1.length < 8796093022208
        ·rw [if_pos c24] at H
         have LMc24 := Aside0.mk c24
         clear c24
         obtain ⟨y306, hy306⟩ : ∃ y_ : List ByteArray, y_ = (x6_1 ++ [rdOf ByteArray.empty l0 x17_1]) := ⟨_, rfl⟩
         replace H : (impl_WrapGreedy.l0 k1 a1 y306 l0 (l0.length : Int) (wrap64 (x17_1 + 1))) = some (r1, r2) := by first | (rw [hy306]; with_reducible exact H) | (have H2_ := (Option.bind_some _ _).symm.trans H; rw [hy306]; with_reducible exact H2_) | (have H2_ := (Option.bind_some _ _).symm.trans H; with_reducible exact H2_) | with_reducible exact H | (rw [hy306]; exact H) | exact H
         have Ny306 := Aside0.mk hy306
         clear hy306
         have H' := Aside0.mk H
         clear H
         have p299 : 0 ≤ (x17_1 : Int) := of_decide_eq_true (by first|(with_reducible assumption)|assumption)
         have q299 : x17_1 < (l0.length : Int) := of_decide_eq_true (by first|(with_reducible assumption)|assumption)
         obtain ⟨ad299, e299, hx299_0⟩ := Kd.at_string HR0.out x17_1 p299 q299
         cases e299
         replace hx299_0 := (HB.out.cell (World.block_lt_of_cell? w _ hx299_0)).trans hx299_0
         replace p299 := eq_true p299
         replace q299 := eq_true q299
         obtain ⟨Ao25, co25, eo25⟩ := Kd.R_slice HO_6.out
         subst eo25
         go_wp2_with (first | ((with_reducible refine gate_builtin (b := .append) (xs := #[.tmp 47, .tmp 49]) rfl ?_); (try (refine gate_guard (by rfl) ?_; dsimp only)); at_builtin; refine Kd.R_append Kd.string (w0 := w) w.heap.size rfl (.tmp 47) (.tmp 49) 39 9 (.string ⟨#[]⟩) 16 rfl Try.underlying39 info9 rfl (by decide) (by omega) (.slice Ao25 x6_1.length co25) x6_1 (rdOf ByteArray.empty l0 x17_1) [.string (rdOf ByteArray.empty l0 x17_1)] (fun _ => True) (fun _ => False) rfl rfl ?aP (fun _ hk => hk.elim) ?aF ?aO ?aB ?aS ?aL ?_; (case aP => exact rfl); (case aB => exact (by repeat (first|(with_reducible first|exact HB.out|apply below_alloc|apply pw_below_drewN|apply below_drew1)|exact HB.out))); (case aF => exact (fun _ _ => trivial)); (case aO => exact (by (with_reducible repeat (first|apply Kd.R_alloc|apply Kd.R_drewN|apply Kd.R_drew)); exact HO_6.out)); (case aS => exact (below_size (by repeat (first|(with_reducible first|exact HB.out|apply below_alloc|apply pw_below_drewN|apply below_drew1)|exact HB.out)))); (case aL => have := LMc24.out; omega); intro v307 w26 ho hb hg hat; rw [← Ny306.out] at ho; have n0_ := Aside0.mk (hb); have n1_ := Aside0.mk (ho); clear HB; clear HO_6; have HB := n0_; have HO308 := n1_; clear n0_ n1_; clear ho hb hg hat))
         go_roundg k1
         case measure => have := HK1.out; omega
         case rel => exact ⟨(y306), (wrap64 (x17_1 + 1)), (by first|rfl|(simp;done)|(simp[*];done)), H', ⟨by have := HK1.out; omega⟩, ⟨by (with_reducible repeat (first|apply Kd.R_alloc|apply Kd.R_drewN|apply Kd.R_drew)); exact HO308.out⟩, ⟨by repeat (first|(with_reducible first|exact HB.out|apply below_alloc|apply pw_below_drewN|apply below_drew1)|exact HB.out)⟩⟩
        ·rw [if_neg c24] at H
         exact absurd H (by simp)
      ·rw [if_neg c9] at H
       exact absurd H (by simp)
     ·rw [if_neg c8] at H
      exact absurd H (by simp)
    ·rw [if_neg c7] at H
     have c7b0 : decide (x17_1 < (l0.length : Int)) = false := decide_eq_false c7
     clear c7
     simp only [Option.some.injEq, Prod.mk.injEq] at H
     obtain ⟨rfl, rfl⟩ := H
     go_wp2
     go_ret2
     exact ⟨_, by first | rfl | (simp [errW_none, errW_some] <;> rfl) | (simp [*, errW_none, errW_some] <;> rfl), by (with_reducible repeat (first|apply Kd.R_alloc|apply Kd.R_drewN|apply Kd.R_drew)); exact HO_6.out, by repeat (first|(with_reducible first|exact HB.out|apply below_alloc|apply pw_below_drewN|apply below_drew1)|exact HB.out)⟩
 ·replace c4 := Bool.eq_false_iff.mpr c4
  subst c4
  have H1 : (some (([] : List ByteArray), false)) = some (r1, r2) := by rw [if_neg (show ¬ (false = true) by decide)] at H; exact H
  clear H
  have H := H1
  clear H1
  simp only [Option.some.injEq, Prod.mk.injEq] at H
  obtain ⟨rfl, rfl⟩ := H
  go_enter Try.func32, Try.ntmps32
  go_wp2_with (first | ((with_reducible refine gate_callee (f := 50) rfl ?_); refine goesL_ (some 12) rfl rfl Try.func50 (by kernel_rfl) rfl #[.slice A0 l0.length c0, .int .i64 a1] rfl (by (try simp only [List.map_toArray, List.map_cons, List.map_nil]); first | done | rfl | (simp only [List.length_drop, List.length_take]; rfl)) ?_; (with_reducible refine (impl_wrapOk.calls k _ _ l0 a1 false _ ?side1 ?side2 A3.out).mono ?_); (case side1 => repeat (first | exact HR0.out | (with_reducible refine Kd.C_alloc ?_ _) | (with_reducible refine Kd.C_drewN ?_ _) | (with_reducible refine Kd.C_drew ?_))); (case side2 => exact HC0.out); rintro e w' ⟨rfl, ⟨nd, rfl⟩⟩; refine ⟨_, rfl, ?_⟩))
  go_ret2
  exact ⟨_, by first | rfl | (simp [errW_none, errW_some] <;> rfl) | (simp [*, errW_none, errW_some] <;> rfl), by first | exact Kd.R_nil _ _ _ _ _ | exact Kd.N_nil _ _ _ _ _ | exact Kd.V_nil _ _ _ _ _ | exact Kd.Q_nil _ _ _ _ _ | exact Kd.S_nil _ _ _ _ _, by repeat (first|(with_reducible first|exact HB.out|apply below_alloc|apply pw_below_drewN|apply below_drew1)|exact HB.out)⟩

end Go.Proofs.Ythcfocpimoghbaa.PWb
