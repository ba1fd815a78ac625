-- Written by a program of this session (xprint). -- COMPACT
import Derived.Test.YtkpnmninkmnbjaaDoorPKax0
import Derived.Test.YtkpnmninkmnbjaaDoorPKax6
import Derived.Test.YtkpnmninkmnbjaaDoorPKax7
import Derived.Test.YtkpnmninkmnbjaaDoorPKax8
import Derived.Test.YtkpnmninkmnbjaaDoorPKax9
import Derived.Test.YtkpnmninkmnbjaaDoorPKax10
import Derived.Test.YtkpnmninkmnbjaaDoorPKax11
namespace Go.Proofs.YtkpnmninkmnbjaaDoor.PKa
open Go.RowKit Go.Proofs.YtkpnmninkmnbjaaDoorW.PrintWords Go.Proofs.YtkpnmninkmnbjaaDoorW.PrintLast Go.Proofs.YtkpnmninkmnbjaaDoorW.PrintMore
attribute [local go_sem] max2_int min2_int max_two min_two max_three min_three max_four min_four   -- for this text's walks alone
set_option linter.unusedVariables false
set_option linter.unusedSimpArgs false

/-! ### laws_FnWrapTwo: function 7 -/
mutual
def laws_FnWrapTwo.j0 : Nat → List ByteArray → Int → List ByteArray → Bool → List ByteArray → Bool → Bool → Option (Bool)
 | 0, _, _, _, _, _, _, _ => none
 | k + 1, x3, x4, x5, x6, x7, x8, x47 => if x47 = true then ((laws_daTexts.f k x5 x7).bind fun t439 => (if t439 = true then (some (x6 == x8)) else (some false))) else ((impl_WrapCost.f k x5 x4).bind fun bt440 => (laws_FnWrapTwo.l0 k x3 x4 bt440.1 1))
def laws_FnWrapTwo.l0 : Nat → List ByteArray → Int → Int → Int → Option (Bool)
 | 0, _, _, _, _ => none
 | k + 1, x3, x4, x9, x11 => if x11 < (x3.length : Int) then (if 0 ≤ x11 then (if x11 ≤ (x3.length : Int) then ((laws_daLine.f k (x3.take (x11 : Int).toNat)).bind fun t446 => ((laws_daLine.f k (x3.drop (x11 : Int).toNat)).bind fun t451 => ((impl_WrapCost.f k (([t446, t451] : List ByteArray)) x4).bind fun bt455 => (if bt455.2 = true then (if bt455.1 < x9 then (some false) else (laws_FnWrapTwo.l0 k x3 x4 x9 (wrap64 (x11 + 1)))) else (some false))))) else (none)) else (none)) else (some true)
end
def laws_FnWrapTwo.f (k : Nat) (l0 : List Int) : Option (Bool) := if (l0.length : Int) > 1048576 then (some true) else ((spec_DrawWrapBest.f k l0).bind fun bt426 => ((impl_WrapBest.f k bt426.1 bt426.2).bind fun bt430 => ((spec_WrapBest.f k bt426.1 bt426.2).bind fun bt434 => ((laws_daTexts.f k bt430.1 bt434.1).bind fun t438 => (if t438 = true then (if (bt430.2 != bt434.2) = true then (laws_FnWrapTwo.j0 k bt426.1 bt426.2 bt430.1 bt430.2 bt434.1 bt434.2 true) else (laws_FnWrapTwo.j0 k bt426.1 bt426.2 bt430.1 bt430.2 bt434.1 bt434.2 (!bt430.2))) else (laws_FnWrapTwo.j0 k bt426.1 bt426.2 bt430.1 bt430.2 bt434.1 bt434.2 true))))))
def laws_FnWrapTwo.T12 : Bool × List (List Nat × List Nat) := (true, [([], []), ([], []), ([0, 1], [0, 1]), ([2], [2]), ([], []), ([], []), ([4, 5], [4, 5]), ([6, 3], [6]), ([3, 7], [3, 7]), ([8, 7, 0, 1, 2, 3, 4, 5, 6, 7, 8], [8])])
def laws_FnWrapTwo.B12 : List Nat := [0, 0, 3, 7, 0, 0, 48, 127, 255, 511]
theorem laws_FnWrapTwo.tab12 : rtab .any (opsOf Tryd.f7 12) = laws_FnWrapTwo.T12 := by kernel_rfl
theorem laws_FnWrapTwo.bits12 : waitsOk laws_FnWrapTwo.T12.2 laws_FnWrapTwo.B12 = true := by kernel_rfl
set_option maxHeartbeats 8000000 in
set_option maxRecDepth 100000 in
theorem laws_FnWrapTwo.calls (k : Nat) (A0 : Option Addr) (c0 : Nat) (l0 : List Int) (r : Bool) (w : World) (hr0 : Kd.C (Kd.int .u8) w A0 l0.length l0) (hc0 : l0.length ≤ c0) (h : laws_FnWrapTwo.f k l0 = some r) :
  Calls Tryd.prog 7 #[.slice A0 l0.length c0] w fun e w' => e = .returned (.bool r) ∧ Below w.heap.size w w' := by
 have HR0 := Aside0.mk hr0
 have HC0 := Aside0.mk hc0
 clear hr0 hc0
 have HB := Aside0.mk (Below.refl w.heap.size w)
 have H : (if (l0.length : Int) > 1048576 then (some true) else ((spec_DrawWrapBest.f k l0).bind fun bt426 => ((impl_WrapBest.f k bt426.1 bt426.2).bind fun bt430 => ((spec_WrapBest.f k bt426.1 bt426.2).bind fun bt434 => ((laws_daTexts.f k bt430.1 bt434.1).bind fun t438 => (if t438 = true then (if (bt430.2 != bt434.2) = true then (laws_FnWrapTwo.j0 k bt426.1 bt426.2 bt430.1 bt430.2 bt434.1 bt434.2 true) else (laws_FnWrapTwo.j0 k bt426.1 bt426.2 bt430.1 bt430.2 bt434.1 bt434.2 (!bt430.2))) else (laws_FnWrapTwo.j0 k bt426.1 bt426.2 bt430.1 bt430.2 bt434.1 bt434.2 true))))))) = some r := h
 clear h
 by_cases c2 : (l0.length : Int) > 1048576
 ·rw [if_pos c2] at H
  have c2b0 : decide (1048576 < (l0.length : Int)) = true := decide_eq_true c2
  have c2b1 : decide (1048576 < l0.length) = true := decide_eq_true (by omega)
  clear c2
  obtain rfl := Option.some.inj H
  go_enter Tryd.func7, Tryd.ntmps7
  go_wp2
  go_ret
  exact ⟨by first | rfl | (simp [errW_none, errW_some] <;> rfl) | (simp [*, errW_none, errW_some] <;> rfl), by repeat (first|(with_reducible first|exact HB.out|apply below_alloc|apply pw_below_drewN|apply below_drew1)|exact HB.out)⟩
 ·rw [if_neg c2] at H
  have c2b0 : decide (1048576 < (l0.length : Int)) = false := decide_eq_false c2
  have c2b1 : decide (1048576 < l0.length) = false := decide_eq_false (by omega)
  clear c2
  replace H := Option.bind_eq_some_iff.mp H
  obtain ⟨⟨t426, t427⟩, A30, H⟩ := H
  replace H : ((impl_WrapBest.f k t426 t427).bind fun bt430 => ((spec_WrapBest.f k t426 t427).bind fun bt434 => ((laws_daTexts.f k bt430.1 bt434.1).bind fun t438 => (if t438 = true then (if (bt430.2 != bt434.2) = true then (laws_FnWrapTwo.j0 k t426 t427 bt430.1 bt430.2 bt434.1 bt434.2 true) else (laws_FnWrapTwo.j0 k t426 t427 bt430.1 bt430.2 bt434.1 bt434.2 (!bt430.2))) else (laws_FnWrapTwo.j0 k t426 t427 bt430.1 bt430.2 bt434.1 bt434.2 true))))) = some r := H
  have A3 := Aside0.mk A30
  clear A30
  replace H := Option.bind_eq_some_iff.mp H
  obtain ⟨⟨t430, t431⟩, A40, H⟩ := H
  replace H : ((spec_WrapBest.f k t426 t427).bind fun bt434 => ((laws_daTexts.f k t430 bt434.1).bind fun t438 => (if t438 = true then (if (t431 != bt434.2) = true then (laws_FnWrapTwo.j0 k t426 t427 t430 t431 bt434.1 bt434.2 true) else (laws_FnWrapTwo.j0 k t426 t427 t430 t431 bt434.1 bt434.2 (!t431))) else (laws_FnWrapTwo.j0 k t426 t427 t430 t431 bt434.1 bt434.2 true)))) = some r := H
  have A4 := Aside0.mk A40
  clear A40
  replace H := Option.bind_eq_some_iff.mp H
  obtain ⟨⟨t434, t435⟩, A50, H⟩ := H
  replace H : ((laws_daTexts.f k t430 t434).bind fun t438 => (if t438 = true then (if (t431 != t435) = true then (laws_FnWrapTwo.j0 k t426 t427 t430 t431 t434 t435 true) else (laws_FnWrapTwo.j0 k t426 t427 t430 t431 t434 t435 (!t431))) else (laws_FnWrapTwo.j0 k t426 t427 t430 t431 t434 t435 true))) = some r := H
  have A5 := Aside0.mk A50
  clear A50
  have HC6 := Aside0.mk H
  clear H
  go_enter Tryd.func7, Tryd.ntmps7
  go_upto_region 6 with (first | ((with_reducible refine gate_callee (f := 23) rfl ?_); refine goesL_ (some 20) rfl rfl Tryd.func23 (by kernel_rfl) rfl #[.slice A0 l0.length c0] rfl (by (try simp only [List.map_toArray, List.map_cons, List.map_nil]); first | done | rfl | (simp only [List.length_drop, List.length_take]; rfl)) ?_; (with_reducible refine (spec_DrawWrapBest.calls k _ _ l0 t426 t427 _ ?side1 ?side2 A3.out).mono ?_); (case side1 => repeat (first | exact HR0.out | (with_reducible refine Kd.C_alloc ?_ _) | (with_reducible refine Kd.C_drewN ?_ _) | (with_reducible refine Kd.C_drew ?_))); (case side2 => exact HC0.out); rintro e w7 ⟨v428, rfl, ho0, hb⟩; refine ⟨_, rfl, ?_⟩; have n0_ := Aside0.mk (Kd.R_lower ho0 (below_size (by repeat (first|(with_reducible first|exact HB.out|apply below_alloc|apply pw_below_drewN|apply below_drew1)|exact HB.out)))); have n1_ := Aside0.mk (below_step (by repeat (first|(with_reducible first|exact HB.out|apply below_alloc|apply pw_below_drewN|apply below_drew1)|exact HB.out)) hb); clear HB; have HO429 := n0_; have HB := n1_; clear n0_ n1_; (try clear hb); (try clear hb2); (try clear hk); (try clear hi); (try clear ho0); obtain ⟨Ao8, co8, eo8⟩ := Kd.R_slice HO429.out; subst eo8) | ((with_reducible refine gate_callee (f := 24) rfl ?_); refine goesL_ (some 26) rfl rfl Tryd.func24 (by kernel_rfl) rfl #[.slice Ao8 t426.length co8, .int .i64 t427] rfl (by (try simp only [List.map_toArray, List.map_cons, List.map_nil]); first | done | rfl | (simp only [List.length_drop, List.length_take]; rfl)) ?_; (with_reducible refine (impl_WrapBest.calls k _ _ t426 t427 t430 t431 _ ?side1 ?side2 A4.out).mono ?_); (case side1 => repeat (first | exact (Kd.R_reads' HO429.out).2.2 | (with_reducible refine Kd.C_alloc ?_ _) | (with_reducible refine Kd.C_drewN ?_ _) | (with_reducible refine Kd.C_drew ?_))); (case side2 => exact (Kd.R_reads' HO429.out).2.1); rintro e w9 ⟨v432, rfl, ho0, hb⟩; refine ⟨_, rfl, ?_⟩; have n0_ := Aside0.mk (Kd.R_elder' (by (with_reducible repeat (first|apply Kd.R_alloc|apply Kd.R_drewN|apply Kd.R_drew)); exact HO429.out) (Kd.R_base ho0) hb); have n1_ := Aside0.mk (Kd.R_lower (Kd.R_new' ho0 (Kd.R_lt (by (with_reducible repeat (first|apply Kd.R_alloc|apply Kd.R_drewN|apply Kd.R_drew)); exact HO429.out))) (below_size (by repeat (first|(with_reducible first|exact HB.out|apply below_alloc|apply pw_below_drewN|apply below_drew1)|exact HB.out)))); have n2_ := Aside0.mk (below_step (by repeat (first|(with_reducible first|exact HB.out|apply below_alloc|apply pw_below_drewN|apply below_drew1)|exact HB.out)) hb); clear HO429; clear HB; have HO429 := n0_; have HO433 := n1_; have HB := n2_; clear n0_ n1_ n2_; (try clear hb); (try clear hb2); (try clear hk); (try clear hi); (try clear ho0)) | ((with_reducible refine gate_callee (f := 25) rfl ?_); refine goesL_ (some 32) rfl rfl Tryd.func25 (by kernel_rfl) rfl #[.slice Ao8 t426.length co8, .int .i64 t427] rfl (by (try simp only [List.map_toArray, List.map_cons, List.map_nil]); first | done | rfl | (simp only [List.length_drop, List.length_take]; rfl)) ?_; (with_reducible refine (spec_WrapBest.calls k _ _ t426 t427 t434 t435 _ ?side1 ?side2 A5.out).mono ?_); (case side1 => repeat (first | exact (Kd.R_reads' HO429.out).2.2 | (with_reducible refine Kd.C_alloc ?_ _) | (with_reducible refine Kd.C_drewN ?_ _) | (with_reducible refine Kd.C_drew ?_))); (case side2 => exact (Kd.R_reads' HO429.out).2.1); rintro e w10 ⟨v436, rfl, ho0, hb⟩; refine ⟨_, rfl, ?_⟩; have n0_ := Aside0.mk (Kd.R_elder' (by (with_reducible repeat (first|apply Kd.R_alloc|apply Kd.R_drewN|apply Kd.R_drew)); exact HO429.out) (Kd.R_base ho0) hb); have n1_ := Aside0.mk (Kd.R_elder' (by (with_reducible repeat (first|apply Kd.R_alloc|apply Kd.R_drewN|apply Kd.R_drew)); exact HO433.out) (Kd.R_base ho0) hb); have n2_ := Aside0.mk (Kd.R_lower (Kd.R_new' (Kd.R_new' ho0 (Kd.R_lt (by (with_reducible repeat (first|apply Kd.R_alloc|apply Kd.R_drewN|apply Kd.R_drew)); exact HO429.out))) (Kd.R_lt (by (with_reducible repeat (first|apply Kd.R_alloc|apply Kd.R_drewN|apply Kd.R_drew)); exact HO433.out))) (below_size (by repeat (first|(with_reducible first|exact HB.out|apply below_alloc|apply pw_below_drewN|apply below_drew1)|exact HB.out)))); have n3_ := Aside0.mk (below_step (by repeat (first|(with_reducible first|exact HB.out|apply below_alloc|apply pw_below_drewN|apply below_drew1)|exact HB.out)) hb); clear HO429; clear HO433; clear HB; have HO429 := n0_; have HO433 := n1_; have HO437 := n2_; have HB := n3_; clear n0_ n1_ n2_ n3_; (try clear hb); (try clear hb2); (try clear hk); (try clear hi); (try clear ho0)))
  (try simp only [Act.put, List.setIfInBounds_toArray, List.set_cons_zero, List.set_cons_succ])
  go_cut [47] (fun v47 wc => ∃ (kq : Nat) (x47_5 : Bool), v47 = .bool x47_5 ∧ Aside0 (laws_FnWrapTwo.j0 kq t426 t427 t430 t431 t434 t435 x47_5 = some r) ∧ Aside0 (kq ≤ k) ∧ Aside0 (Kd.R Kd.string 9 wc w.heap.size (fun k_ => some k_ ≠ (v432 : Value).ownBlock ∧ some k_ ≠ (v436 : Value).ownBlock) (.slice Ao8 t426.length co8) t426) ∧ Aside0 (Kd.R Kd.string 9 wc w.heap.size (fun k_ => some k_ ≠ ((.slice Ao8 t426.length co8) : Value).ownBlock ∧ some k_ ≠ (v436 : Value).ownBlock) v432 t430) ∧ Aside0 (Kd.R Kd.string 9 wc w.heap.size (fun k_ => some k_ ≠ ((.slice Ao8 t426.length co8) : Value).ownBlock ∧ some k_ ≠ (v432 : Value).ownBlock) v436 t434) ∧ Aside0 (Below w.heap.size w wc))
  case first =>
   have H := HC6.out
   clear HC6
   replace H := Option.bind_eq_some_iff.mp H
   obtain ⟨t438, A110, H⟩ := H
   replace H : (if t438 = true then (if (t431 != t435) = true then (laws_FnWrapTwo.j0 k t426 t427 t430 t431 t434 t435 true) else (laws_FnWrapTwo.j0 k t426 t427 t430 t431 t434 t435 (!t431))) else (laws_FnWrapTwo.j0 k t426 t427 t430 t431 t434 t435 true)) = some r := H
   have A11 := Aside0.mk A110
   clear A110
   by_cases c12 : t438 = true
   ·subst c12
    have H1 : (if (t431 != t435) = true then (laws_FnWrapTwo.j0 k t426 t427 t430 t431 t434 t435 true) else (laws_FnWrapTwo.j0 k t426 t427 t430 t431 t434 t435 (!t431))) = some r := by rw [if_pos rfl] at H; exact H
    clear H
    have H := H1
    clear H1
    by_cases c13 : (t431 != t435) = true
    ·rw [if_pos c13] at H
     have c13b0 : (t431 != t435) = true := c13
     (try (have c13b1 : decide (t431 = t435) = false := by simpa using c13))
     (try (have c13b2 : (t431 == t435) = false := by simpa using c13))
     (try (have c13b3 : ¬ (t431 = t435) := by simpa using c13))
     clear c13
     (first | rw [c13b0] | (simp only [i64_w, i32_w]; rw [c13b0]) | skip)
     have H' := Aside0.mk H
     clear H
     obtain ⟨Ao14, co14, eo14⟩ := Kd.R_slice HO433.out
     subst eo14
     obtain ⟨Ao15, co15, eo15⟩ := Kd.R_slice HO437.out
     subst eo15
     go_wp2_with (first | ((with_reducible refine gate_callee (f := 12) rfl ?_); refine goesL_ (some 37) rfl rfl Tryd.func12 (by kernel_rfl) rfl #[.slice Ao14 t430.length co14, .slice Ao15 t434.length co15] rfl (by (try simp only [List.map_toArray, List.map_cons, List.map_nil]); first | done | rfl | (simp only [List.length_drop, List.length_take]; rfl)) ?_; (with_reducible refine (laws_daTexts.calls k _ _ t430 _ _ t434 true _ ?side1 ?side2 ?side3 ?side4 A11.out).mono ?_); (case side1 => repeat (first | exact (Kd.R_reads' HO433.out).2.2 | (with_reducible refine Kd.C_alloc ?_ _) | (with_reducible refine Kd.C_drewN ?_ _) | (with_reducible refine Kd.C_drew ?_))); (case side2 => exact (Kd.R_reads' HO433.out).2.1); (case side3 => repeat (first | exact (Kd.R_reads' HO437.out).2.2 | (with_reducible refine Kd.C_alloc ?_ _) | (with_reducible refine Kd.C_drewN ?_ _) | (with_reducible refine Kd.C_drew ?_))); (case side4 => exact (Kd.R_reads' HO437.out).2.1); rintro e w' ⟨rfl, ⟨nd, rfl⟩⟩; refine ⟨_, rfl, ?_⟩))
     go_meet
     case rel => exact ⟨_, (true), (by first|rfl|(simp;done)|(simp[*];done)), H', ⟨by first | omega | exact Nat.le_refl _⟩, ⟨by (with_reducible repeat (first|apply Kd.R_alloc|apply Kd.R_drewN|apply Kd.R_drew)); exact Kd.R_mono HO429.out (fun _ hk => ⟨hk.1.2, hk.2⟩)⟩, ⟨by (with_reducible repeat (first|apply Kd.R_alloc|apply Kd.R_drewN|apply Kd.R_drew)); exact Kd.R_mono HO433.out (fun _ hk => ⟨hk.1.2, hk.2⟩)⟩, ⟨by (with_reducible repeat (first|apply Kd.R_alloc|apply Kd.R_drewN|apply Kd.R_drew)); exact Kd.R_mono HO437.out (fun _ hk => ⟨hk.1.2, hk.2⟩)⟩, ⟨by repeat (first|(with_reducible first|exact HB.out|apply below_alloc|apply pw_below_drewN|apply below_drew1)|exact HB.out)⟩⟩
    ·rw [if_neg c13] at H
     have c13b0 : (t431 != t435) = false := by simpa using c13
     (try (have c13b1 : decide (t431 = t435) = true := by simpa using c13))
     (try (have c13b2 : (t431 == t435) = true := by simpa using c13))
     clear c13
     (first | rw [c13b0] | (simp only [i64_w, i32_w]; rw [c13b0]) | skip)
     have H' := Aside0.mk H
     clear H
     obtain ⟨Ao16, co16, eo16⟩ := Kd.R_slice HO433.out
     subst eo16
     obtain ⟨Ao17, co17, eo17⟩ := Kd.R_slice HO437.out
     subst eo17
     go_wp2_with (first | ((with_reducible refine gate_callee (f := 12) rfl ?_); refine goesL_ (some 37) rfl rfl Tryd.func12 (by kernel_rfl) rfl #[.slice Ao16 t430.length co16, .slice Ao17 t434.length co17] rfl (by (try simp only [List.map_toArray, List.map_cons, List.map_nil]); first | done | rfl | (simp only [List.length_drop, List.length_take]; rfl)) ?_; (with_reducible refine (laws_daTexts.calls k _ _ t430 _ _ t434 true _ ?side1 ?side2 ?side3 ?side4 A11.out).mono ?_); (case side1 => repeat (first | exact (Kd.R_reads' HO433.out).2.2 | (with_reducible refine Kd.C_alloc ?_ _) | (with_reducible refine Kd.C_drewN ?_ _) | (with_reducible refine Kd.C_drew ?_))); (case side2 => exact (Kd.R_reads' HO433.out).2.1); (case side3 => repeat (first | exact (Kd.R_reads' HO437.out).2.2 | (with_reducible refine Kd.C_alloc ?_ _) | (with_reducible refine Kd.C_drewN ?_ _) | (with_reducible refine Kd.C_drew ?_))); (case side4 => exact (Kd.R_reads' HO437.out).2.1); rintro e w' ⟨rfl, ⟨nd, rfl⟩⟩; refine ⟨_, rfl, ?_⟩))
     go_meet
     case rel => exact ⟨_, (!t431), (by first|rfl|(simp;done)|(simp[*];done)), H', ⟨by first | omega | exact Nat.le_refl _⟩, ⟨by (with_reducible repeat (first|apply Kd.R_alloc|apply Kd.R_drewN|apply Kd.R_drew)); exact Kd.R_mono HO429.out (fun _ hk => ⟨hk.1.2, hk.2⟩)⟩, ⟨by (with_reducible repeat (first|apply Kd.R_alloc|apply Kd.R_drewN|apply Kd.R_drew)); exact Kd.R_mono HO433.out (fun _ hk => ⟨hk.1.2, hk.2⟩)⟩, ⟨by (with_reducible repeat (first|apply Kd.R_alloc|apply Kd.R_drewN|apply Kd.R_drew)); exact Kd.R_mono HO437.out (fun _ hk => ⟨hk.1.2, hk.2⟩)⟩, ⟨by repeat (first|(with_reducible first|exact HB.out|apply below_alloc|apply pw_below_drewN|apply below_drew1)|exact HB.out)⟩⟩
   ·replace c12 := Bool.eq_false_iff.mpr c12
    subst c12
    have H1 : (laws_FnWrapTwo.j0 k t426 t427 t430 t431 t434 t435 true) = some r := by rw [if_neg (show ¬ (false = true) by decide)] at H; exact H
    clear H
    have H := H1
    clear H1
    have H' := Aside0.mk H
    clear H
    obtain ⟨Ao18, co18, eo18⟩ := Kd.R_slice HO433.out
    subst eo18
    obtain ⟨Ao19, co19, eo19⟩ := Kd.R_slice HO437.out
    subst eo19
    go_wp2_with (first | ((with_reducible refine gate_callee (f := 12) rfl ?_); refine goesL_ (some 37) rfl rfl Tryd.func12 (by kernel_rfl) rfl #[.slice Ao18 t430.length co18, .slice Ao19 t434.length co19] rfl (by (try simp only [List.map_toArray, List.map_cons, List.map_nil]); first | done | rfl | (simp only [List.length_drop, List.length_take]; rfl)) ?_; (with_reducible refine (laws_daTexts.calls k _ _ t430 _ _ t434 false _ ?side1 ?side2 ?side3 ?side4 A11.out).mono ?_); (case side1 => repeat (first | exact (Kd.R_reads' HO433.out).2.2 | (with_reducible refine Kd.C_alloc ?_ _) | (with_reducible refine Kd.C_drewN ?_ _) | (with_reducible refine Kd.C_drew ?_))); (case side2 => exact (Kd.R_reads' HO433.out).2.1); (case side3 => repeat (first | exact (Kd.R_reads' HO437.out).2.2 | (with_reducible refine Kd.C_alloc ?_ _) | (with_reducible refine Kd.C_drewN ?_ _) | (with_reducible refine Kd.C_drew ?_))); (case side4 => exact (Kd.R_reads' HO437.out).2.1); rintro e w' ⟨rfl, ⟨nd, rfl⟩⟩; refine ⟨_, rfl, ?_⟩))
    go_meet
    case rel => exact ⟨_, (true), (by first|rfl|(simp;done)|(simp[*];done)), H', ⟨by first | omega | exact Nat.le_refl _⟩, ⟨by (with_reducible repeat (first|apply Kd.R_alloc|apply Kd.R_drewN|apply Kd.R_drew)); exact Kd.R_mono HO429.out (fun _ hk => ⟨hk.1.2, hk.2⟩)⟩, ⟨by (with_reducible repeat (first|apply Kd.R_alloc|apply Kd.R_drewN|apply Kd.R_drew)); exact Kd.R_mono HO433.out (fun _ hk => ⟨hk.1.2, hk.2⟩)⟩, ⟨by (with_reducible repeat (first|apply Kd.R_alloc|apply Kd.R_drewN|apply Kd.R_drew)); exact Kd.R_mono HO437.out (fun _ hk => ⟨hk.1.2, hk.2⟩)⟩, ⟨by repeat (first|(with_reducible first|exact HB.out|apply below_alloc|apply pw_below_drewN|apply below_drew1)|exact HB.out)⟩⟩
  case rest =>
   clear HC6
   try clear c1
   try clear c2
   try clear c2b0
   try clear c2b1
   try clear p2
   try clear c7
   try clear c12
   try clear c13
   try clear c13b0
   try clear c13b1
   try clear c13b2
   obtain ⟨kq, x47_5, rfl, HA, HJ5, HO_3, HO_5, HO_7, HB⟩ := hcut
   cases kq with
   | zero => exact absurd HA.out (by simp [laws_FnWrapTwo.j0])
   | succ kj5 =>
    have H := HA.out
    clear HA
    simp only [laws_FnWrapTwo.j0] at H
    by_cases c20 : x47_5 = true
    ·subst c20
     have H1 : ((laws_daTexts.f kj5 t430 t434).bind fun t439 => (if t439 = true then (some (t431 == t435)) else (some false))) = some r := by rw [if_pos rfl] at H; exact H
     clear H
     have H := H1
     clear H1
     replace H := Option.bind_eq_some_iff.mp H
     obtain ⟨t439, A210, H⟩ := H
     replace H : (if t439 = true then (some (t431 == t435)) else (some false)) = some r := H
     have A21 := Aside0.mk A210
     clear A210
     by_cases c22 : t439 = true
     ·subst c22
      have H1 : (some (t431 == t435)) = some r := by rw [if_pos rfl] at H; exact H
      clear H
      have H := H1
      clear H1
      obtain rfl := Option.some.inj H
      obtain ⟨Ao23, co23, eo23⟩ := Kd.R_slice HO_5.out
      subst eo23
      obtain ⟨Ao24, co24, eo24⟩ := Kd.R_slice HO_7.out
      subst eo24
      go_wp2_with (first | ((with_reducible refine gate_callee (f := 12) rfl ?_); refine goesL_ (some 50) rfl rfl Tryd.func12 (by kernel_rfl) rfl #[.slice Ao23 t430.length co23, .slice Ao24 t434.length co24] rfl (by (try simp only [List.map_toArray, List.map_cons, List.map_nil]); first | done | rfl | (simp only [List.length_drop, List.length_take]; rfl)) ?_; (with_reducible refine (laws_daTexts.calls kj5 _ _ t430 _ _ t434 true _ ?side1 ?side2 ?side3 ?side4 A21.out).mono ?_); (case side1 => repeat (first | exact (Kd.R_reads' HO_5.out).2.2 | (with_reducible refine Kd.C_alloc ?_ _) | (with_reducible refine Kd.C_drewN ?_ _) | (with_reducible refine Kd.C_drew ?_))); (case side2 => exact (Kd.R_reads' HO_5.out).2.1); (case side3 => repeat (first | exact (Kd.R_reads' HO_7.out).2.2 | (with_reducible refine Kd.C_alloc ?_ _) | (with_reducible refine Kd.C_drewN ?_ _) | (with_reducible refine Kd.C_drew ?_))); (case side4 => exact (Kd.R_reads' HO_7.out).2.1); rintro e w' ⟨rfl, ⟨nd, rfl⟩⟩; refine ⟨_, rfl, ?_⟩))
      go_ret
      exact ⟨by first | rfl | (simp [errW_none, errW_some] <;> rfl) | (simp [*, errW_none, errW_some] <;> rfl), by repeat (first|(with_reducible first|exact HB.out|apply below_alloc|apply pw_below_drewN|apply below_drew1)|exact HB.out)⟩
     ·replace c22 := Bool.eq_false_iff.mpr c22
      subst c22
      have H1 : (some false) = some r := by rw [if_neg (show ¬ (false = true) by decide)] at H; exact H
      clear H
      have H := H1
      clear H1
      obtain rfl := Option.some.inj H
      obtain ⟨Ao25, co25, eo25⟩ := Kd.R_slice HO_5.out
      subst eo25
      obtain ⟨Ao26, co26, eo26⟩ := Kd.R_slice HO_7.out
      subst eo26
      go_wp2_with (first | ((with_reducible refine gate_callee (f := 12) rfl ?_); refine goesL_ (some 50) rfl rfl Tryd.func12 (by kernel_rfl) rfl #[.slice Ao25 t430.length co25, .slice Ao26 t434.length co26] rfl (by (try simp only [List.map_toArray, List.map_cons, List.map_nil]); first | done | rfl | (simp only [List.length_drop, List.length_take]; rfl)) ?_; (with_reducible refine (laws_daTexts.calls kj5 _ _ t430 _ _ t434 false _ ?side1 ?side2 ?side3 ?side4 A21.out).mono ?_); (case side1 => repeat (first | exact (Kd.R_reads' HO_5.out).2.2 | (with_reducible refine Kd.C_alloc ?_ _) | (with_reducible refine Kd.C_drewN ?_ _) | (with_reducible refine Kd.C_drew ?_))); (case side2 => exact (Kd.R_reads' HO_5.out).2.1); (case side3 => repeat (first | exact (Kd.R_reads' HO_7.out).2.2 | (with_reducible refine Kd.C_alloc ?_ _) | (with_reducible refine Kd.C_drewN ?_ _) | (with_reducible refine Kd.C_drew ?_))); (case side4 => exact (Kd.R_reads' HO_7.out).2.1); rintro e w' ⟨rfl, ⟨nd, rfl⟩⟩; refine ⟨_, rfl, ?_⟩))
      go_ret
      exact ⟨by first | rfl | (simp [errW_none, errW_some] <;> rfl) | (simp [*, errW_none, errW_some] <;> rfl), by repeat (first|(with_reducible first|exact HB.out|apply below_alloc|apply pw_below_drewN|apply below_drew1)|exact HB.out)⟩
    ·replace c20 := Bool.eq_false_iff.mpr c20
     subst c20
     have H1 : ((impl_WrapCost.f kj5 t430 t427).bind fun bt440 => (laws_FnWrapTwo.l0 kj5 t426 t427 bt440.1 1)) = some r := by rw [if_neg (show ¬ (false = true) by decide)] at H; exact H
     clear H
     have H := H1
     clear H1
     replace H := Option.bind_eq_some_iff.mp H
     obtain ⟨⟨t440, t441⟩, A270, H⟩ := H
     replace H : (laws_FnWrapTwo.l0 kj5 t426 t427 t440 1) = some r := H
     have A27 := Aside0.mk A270
     clear A270
     have H' := Aside0.mk H
     clear H
     obtain ⟨Ao28, co28, eo28⟩ := Kd.R_slice HO_5.out
     subst eo28
     go_wp2_with (first | ((with_reducible refine gate_callee (f := 17) rfl ?_); refine goesL_ (some 59) rfl rfl Tryd.func17 (by kernel_rfl) rfl #[.slice Ao28 t430.length co28, .int .i64 t427] rfl (by (try simp only [List.map_toArray, List.map_cons, List.map_nil]); first | done | rfl | (simp only [List.length_drop, List.length_take]; rfl)) ?_; (with_reducible refine (impl_WrapCost.calls kj5 _ _ t430 t427 t440 t441 _ ?side1 ?side2 A27.out).mono ?_); (case side1 => repeat (first | exact (Kd.R_reads' HO_5.out).2.2 | (with_reducible refine Kd.C_alloc ?_ _) | (with_reducible refine Kd.C_drewN ?_ _) | (with_reducible refine Kd.C_drew ?_))); (case side2 => exact (Kd.R_reads' HO_5.out).2.1); rintro e w29 ⟨rfl, hb⟩; refine ⟨_, rfl, ?_⟩; have n0_ := Aside0.mk (Kd.R_below (by (with_reducible repeat (first|apply Kd.R_alloc|apply Kd.R_drewN|apply Kd.R_drew)); exact HO_3.out) hb); have n1_ := Aside0.mk (Kd.R_below (by (with_reducible repeat (first|apply Kd.R_alloc|apply Kd.R_drewN|apply Kd.R_drew)); exact HO_5.out) hb); have n2_ := Aside0.mk (Kd.R_below (by (with_reducible repeat (first|apply Kd.R_alloc|apply Kd.R_drewN|apply Kd.R_drew)); exact HO_7.out) hb); have n3_ := Aside0.mk (below_step (by repeat (first|(with_reducible first|exact HB.out|apply below_alloc|apply pw_below_drewN|apply below_drew1)|exact HB.out)) hb); clear HO_3; clear HO_5; clear HO_7; clear HB; have HO_3 := n0_; have HO_5 := n1_; have HO_7 := n2_; have HB := n3_; clear n0_ n1_ n2_ n3_; (try clear hb); (try clear hb2); (try clear hk); (try clear hi)))
     go_loopg [11] kj5 (fun kq v11 w' => ∃ (x11_2 : Int), v11 = .int .i64 x11_2 ∧ Aside0 (laws_FnWrapTwo.l0 kq t426 t427 t440 x11_2 = some r) ∧ Aside0 (kq ≤ kj5) ∧ Aside0 (Kd.R Kd.string 9 w' w.heap.size (fun _ => True) (.slice Ao8 t426.length co8) t426) ∧ Aside0 (Below w.heap.size w w'))
     case atStart => exact ⟨(1), (by first|rfl|(simp;done)|(simp[*];done)), H', ⟨Nat.le_refl _⟩, ⟨by (with_reducible repeat (first|apply Kd.R_alloc|apply Kd.R_drewN|apply Kd.R_drew)); exact Kd.R_mono HO_3.out (fun _ hk => trivial)⟩, ⟨by repeat (first|(with_reducible first|exact HB.out|apply below_alloc|apply pw_below_drewN|apply below_drew1)|exact HB.out)⟩⟩
     case round =>
      clear H'
      try clear c1
      try clear c2
      try clear c2b0
      try clear c2b1
      try clear p2
      try clear c7
      try clear c12
      try clear c13
      try clear c13b0
      try clear c13b1
      try clear c13b2
      try clear c17
      try clear c20
      try clear c22
      try clear c23
      try clear c24
      try clear c25
      try clear p2
      obtain ⟨x11_2, rfl, HA, HK2, HO_3, HB⟩ := hrel
      cases gk with
      | zero => exact absurd HA.out (by simp [laws_FnWrapTwo.l0])
      | succ k2 =>
       have H := HA.out
       clear HA
       simp only [laws_FnWrapTwo.l0] at H
       by_cases c30 : x11_2 < (t426.length : Int)
       ·rw [if_pos c30] at H
        have c30b0 : decide (x11_2 < (t426.length : Int)) = true := decide_eq_true c30
        clear c30
        by_cases c31 : 0 ≤ x11_2
        ·rw [if_pos c31] at H
         have c31b0 := eq_true c31
         have c31b1 : decide (0 ≤ x11_2) = true := decide_eq_true c31
         clear c31
         by_cases c32 : x11_2 ≤ (t426.length : Int)
         ·rw [if_pos c32] at H
          have c32b0 := eq_true c32
          have c32b1 : decide (x11_2 ≤ (t426.length : Int)) = true := decide_eq_true c32
          clear c32
          obtain ⟨y442, hy442⟩ : ∃ y_ : List ByteArray, y_ = (t426.take (x11_2 : Int).toNat) := ⟨_, rfl⟩
          replace H : ((laws_daLine.f k2 y442).bind fun t446 => ((laws_daLine.f k2 (t426.drop (x11_2 : Int).toNat)).bind fun t451 => ((impl_WrapCost.f k2 (([t446, t451] : List ByteArray)) t427).bind fun bt455 => (if bt455.2 = true then (if bt455.1 < t440 then (some false) else (laws_FnWrapTwo.l0 k2 t426 t427 t440 (wrap64 (x11_2 + 1)))) else (some false))))) = some r := by first | (rw [hy442]; with_reducible exact H) | (have H2_ := (Option.bind_some _ _).symm.trans H; rw [hy442]; with_reducible exact H2_) | (have H2_ := (Option.bind_some _ _).symm.trans H; with_reducible exact H2_) | with_reducible exact H | (rw [hy442]; exact H) | exact H
          have Ny442 := Aside0.mk hy442
          clear hy442
          replace H := Option.bind_eq_some_iff.mp H
          obtain ⟨t446, A330, H⟩ := H
          replace H : ((laws_daLine.f k2 (t426.drop (x11_2 : Int).toNat)).bind fun t451 => ((impl_WrapCost.f k2 (([t446, t451] : List ByteArray)) t427).bind fun bt455 => (if bt455.2 = true then (if bt455.1 < t440 then (some false) else (laws_FnWrapTwo.l0 k2 t426 t427 t440 (wrap64 (x11_2 + 1)))) else (some false)))) = some r := H
          have A33 := Aside0.mk A330
          clear A330
          have c34b0 := eq_true (of_decide_eq_true (by first|(with_reducible assumption)|assumption) : 0 ≤ x11_2)
          have c35b0 := eq_true (of_decide_eq_true (by first|(with_reducible assumption)|assumption) : x11_2 ≤ (t426.length : Int))
          obtain ⟨y447, hy447⟩ : ∃ y_ : List ByteArray, y_ = (t426.drop (x11_2 : Int).toNat) := ⟨_, rfl⟩
          replace H : ((laws_daLine.f k2 y447).bind fun t451 => ((impl_WrapCost.f k2 (([t446, t451] : List ByteArray)) t427).bind fun bt455 => (if bt455.2 = true then (if bt455.1 < t440 then (some false) else (laws_FnWrapTwo.l0 k2 t426 t427 t440 (wrap64 (x11_2 + 1)))) else (some false)))) = some r := by first | (rw [hy447]; with_reducible exact H) | (have H2_ := (Option.bind_some _ _).symm.trans H; rw [hy447]; with_reducible exact H2_) | (have H2_ := (Option.bind_some _ _).symm.trans H; with_reducible exact H2_) | with_reducible exact H | (rw [hy447]; exact H) | exact H
          have Ny447 := Aside0.mk hy447
          clear hy447
          replace H := Option.bind_eq_some_iff.mp H
          obtain ⟨t451, A360, H⟩ := H
          replace H : ((impl_WrapCost.f k2 (([t446, t451] : List ByteArray)) t427).bind fun bt455 => (if bt455.2 = true then (if bt455.1 < t440 then (some false) else (laws_FnWrapTwo.l0 k2 t426 t427 t440 (wrap64 (x11_2 + 1)))) else (some false))) = some r := H
          have A36 := Aside0.mk A360
          clear A360
          obtain ⟨y452, hy452⟩ : ∃ y_ : List ByteArray, y_ = (([t446, t451] : List ByteArray)) := ⟨_, rfl⟩
          replace H : ((impl_WrapCost.f k2 y452 t427).bind fun bt455 => (if bt455.2 = true then (if bt455.1 < t440 then (some false) else (laws_FnWrapTwo.l0 k2 t426 t427 t440 (wrap64 (x11_2 + 1)))) else (some false))) = some r := by first | (rw [hy452]; with_reducible exact H) | (have H2_ := (Option.bind_some _ _).symm.trans H; rw [hy452]; with_reducible exact H2_) | (have H2_ := (Option.bind_some _ _).symm.trans H; with_reducible exact H2_) | with_reducible exact H | (rw [hy452]; exact H) | exact H
          have Ny452 := Aside0.mk hy452
          clear hy452
          replace H := Option.bind_eq_some_iff.mp H
          obtain ⟨⟨t455, t456⟩, A370, H⟩ := H
          replace H : (if t456 = true then (if t455 < t440 then (some false) else (laws_FnWrapTwo.l0 k2 t426 t427 t440 (wrap64 (x11_2 + 1)))) else (some false)) = some r := H
          have A37 := Aside0.mk A370
          clear A370
          by_cases c38 : t456 = true
          ·subst c38
           have H1 : (if t455 < t440 then (some false) else (laws_FnWrapTwo.l0 k2 t426 t427 t440 (wrap64 (x11_2 + 1)))) = some r := by rw [if_pos rfl] at H; exact H
           clear H
           have H := H1
           clear H1
           by_cases c39 : t455 < t440
           ·rw [if_pos c39] at H
            have c39b0 : decide (t455 < t440) = true := decide_eq_true c39
            clear c39
            obtain rfl := Option.some.inj H
            try go_wp2
            have n0_ := Aside0.mk (Kd.R_drew HO_3.out)
            have n1_ := Aside0.mk (below_drew1 HB.out)
            clear HO_3
            clear HB
            have HO_3 := n0_
            have HB := n1_
            clear n0_ n1_
            have q41 : (x11_2 : Int) ≤ ((t426.length : Int) : Int) := of_decide_eq_true (by first|(with_reducible assumption)|assumption)
            obtain ⟨i041, hi041, _, hsz41, _⟩ := info_parts info9
            have hroom41 : t426.length ≤ co8 := (Kd.R_reads' HO_3.out).2.1
            have hC41 : Kd.C Kd.string _ Ao8 t426.length t426 := (Kd.R_reads' HO_3.out).2.2
            have hcut41 := cut_to (P := Tryd.prog) 23 9 .i64 Tryd.underlying23 hi041 Ao8 t426.length co8 x11_2 (of_decide_eq_true (by first|(with_reducible assumption)|assumption)) q41 hroom41
            have hr41 := Kd.C_take (m := (x11_2 : Int).toNat) hC41 (by omega)
            have hy41 : y442.length = (x11_2 : Int).toNat := (by rw [Ny442.out, List.length_take]; omega)
            rw [← Ny442.out] at hr41
            rw [← hy41] at hcut41
            have HR445 := Aside0.mk hr41
            have HC445 := Aside0.mk (show y442.length ≤ co8 from by omega)
            clear hr41 hC41 hroom41 hi041 hsz41
            have KY41 := Aside0.mk hy41
            clear hy41
            have KL41 := Aside0.mk (show (x11_2 : Int).toNat ≤ t426.length from by omega)
            replace q41 := eq_true q41
            have q42 : (x11_2 : Int) ≤ ((t426.length : Int) : Int) := of_decide_eq_true (by first|(with_reducible assumption)|assumption)
            obtain ⟨i042, hi042, _, hsz42, _⟩ := info_parts info9
            have hroom42 : t426.length ≤ co8 := (Kd.R_reads' HO_3.out).2.1
            have hC42 : Kd.C Kd.string _ Ao8 t426.length t426 := (Kd.R_reads' HO_3.out).2.2
            have q042 : (0 : Int) ≤ (x11_2 : Int) := of_decide_eq_true (by first|(with_reducible assumption)|assumption)
            have hcut42 := cut_from (P := Tryd.prog) 23 9 .i64 Tryd.underlying23 hi042 1 hsz42 Ao8 t426.length co8 x11_2 q042 q42
            have hr42 := Kd.C_drop (m := (x11_2 : Int).toNat) (c := co8) hC42 (by omega) hroom42
            obtain ⟨A42, hA42⟩ : ∃ A_, A_ = (if co8 = (x11_2 : Int).toNat then Ao8 else (Ao8 : Option Addr).map (·.add ((x11_2 : Int).toNat * 1))) := ⟨_, rfl⟩
            obtain ⟨c42, hc42⟩ : ∃ c_, c_ = co8 - (x11_2 : Int).toNat := ⟨_, rfl⟩
            have hy42 : y447.length = t426.length - (x11_2 : Int).toNat := (by rw [Ny447.out, List.length_drop] <;> omega)
            rw [show (t426).drop (x11_2 : Int).toNat = y447 from Ny447.out.symm] at hr42
            replace hr42 : Kd.C Kd.string _ A42 y447.length y447 := (by rw [hA42]; exact hr42)
            rw [← hy42, ← hA42, ← hc42] at hcut42
            have HR450 := Aside0.mk hr42
            have HC450 := Aside0.mk (show y447.length ≤ c42 from by rw [hy42, hc42]; exact Nat.sub_le_sub_right hroom42 _)
            clear hr42 hC42 hroom42 hi042 hsz42 hc42
            have KY42 := Aside0.mk hy42
            have KA42 := Aside0.mk hA42
            clear hy42 hA42
            have KL42 := Aside0.mk (show (x11_2 : Int).toNat ≤ t426.length from by omega)
            replace q42 := eq_true q42
            refine start_ (n := 10) (S := fun w' => True) (ds := []) #[false, false, false, false, false, false, false, false, false, false] (by kernel_rfl) rfl rfl trivial (fun hHeld => ?_); refine with_tabW laws_FnWrapTwo.tab12 laws_FnWrapTwo.bits12 (fun HT_ HW_ => ?_)
            generalize wr.drew = w40 at HO_3 HB HR445 HR450 hHeld ⊢
            refine pure_ (i := 0) (N := some 68) (v := ?_) (a' := ?_) #[true, false, false, false, false, false, false, false, false, false] rfl rfl (any_of HT_.out (by kernel_rfl)) (fun _ _ _ h => h) (Or.inl ⟨by rfl, ?_⟩) ?_ ?_
            rotate_left
            ·intro w'
             go_simp
             with_reducible rfl
            rotate_left
            ·simp only [Act.put, List.setIfInBounds_toArray, List.set_cons_zero, List.set_cons_succ, i64_w, i32_w]
             rfl
            refine pure_ (i := 1) (N := some 69) (v := ?_) (a' := ?_) #[true, true, false, false, false, false, false, false, false, false] rfl rfl (any_of HT_.out (by kernel_rfl)) (fun _ _ _ h => h) (Or.inl ⟨by rfl, ?_⟩) ?_ ?_
            rotate_left
            ·intro w'
             go_simp
             with_reducible rfl
            rotate_left
            ·simp only [Act.put, List.setIfInBounds_toArray, List.set_cons_zero, List.set_cons_succ, i64_w, i32_w]
             rfl
            refine pure_ (i := 2) (N := some 70) (v := ?_) (a' := ?_) #[true, true, true, false, false, false, false, false, false, false] rfl rfl (any_of HT_.out (by kernel_rfl)) (fun _ _ _ h => h) (Or.inl ⟨by rfl, ?_⟩) ?_ ?_
            rotate_left
            ·intro w'
             go_simp
             with_reducible rfl
            rotate_left
            ·simp only [Act.put, List.setIfInBounds_toArray, List.set_cons_zero, List.set_cons_succ, i64_w, i32_w]
             rfl
            refine pure_ (i := 4) (N := some 72) (v := ?_) (a' := ?_) #[true, true, true, false, true, false, false, false, false, false] rfl rfl (any_of HT_.out (by kernel_rfl)) (fun _ _ _ h => h) (Or.inl ⟨by rfl, ?_⟩) ?_ ?_
            rotate_left
            ·intro w'
             go_simp
             with_reducible rfl
            rotate_left
            ·simp only [Act.put, List.setIfInBounds_toArray, List.set_cons_zero, List.set_cons_succ, i64_w, i32_w]
             rfl
            refine pure_ (i := 5) (N := some 73) (v := ?_) (a' := ?_) #[true, true, true, false, true, true, false, false, false, false] rfl rfl (any_of HT_.out (by kernel_rfl)) (fun _ _ _ h => h) (Or.inl ⟨by rfl, ?_⟩) ?_ ?_
            rotate_left
            ·intro w'
             go_simp
             with_reducible rfl
            rotate_left
            ·simp only [Act.put, List.setIfInBounds_toArray, List.set_cons_zero, List.set_cons_succ, i64_w, i32_w]
             rfl
            refine pure_ (i := 6) (N := some 74) (v := ?_) (a' := ?_) #[true, true, true, false, true, true, true, false, false, false] rfl rfl (any_of HT_.out (by kernel_rfl)) (fun _ _ _ h => h) (Or.inl ⟨by rfl, ?_⟩) ?_ ?_
            rotate_left
            ·intro w'
             go_simp
             with_reducible rfl
            rotate_left
            ·simp only [Act.put, List.setIfInBounds_toArray, List.set_cons_zero, List.set_cons_succ, i64_w, i32_w]
             rfl
            refine one_ (i := 3) (N := some 71) #[true, true, true, true, true, true, true, false, false, false] rfl rfl (one_of HT_.out (by kernel_rfl)) (by decide) (fun K hK => ?_)
            refine goes_ Tryd.func26 (by kernel_rfl) rfl #[.slice Ao8 y442.length co8] (by rfl) rfl rfl (by (try simp only [List.map_toArray, List.map_cons, List.map_nil]); first | done | rfl | (simp only [List.length_drop, List.length_take]; rfl)) ?_
            with_reducible refine (laws_daLine.calls k2 _ _ y442 t446 _ ?side1 ?side2 A33.out).mono ?_
            (case side1 => repeat (first | exact (by repeat (first | (with_reducible exact HR445.out) | (with_reducible refine Kd.C_alloc ?_ _) | (with_reducible refine Kd.C_drewN ?_ _) | (with_reducible refine Kd.C_drew ?_) | exact HR445.out)) | (with_reducible refine Kd.C_alloc ?_ _) | (with_reducible refine Kd.C_drewN ?_ _) | (with_reducible refine Kd.C_drew ?_)))
            (case side2 => exact HC445.out)
            rintro e w' ⟨rfl, ⟨nd, rfl⟩⟩
            refine ⟨_, rfl, ?_⟩
            refine hK.out _ _ trivial (fun hHeld => ?_)
            clear hK K
            refine norm_ (a' := ?_) ?_ ?_
            rotate_left
            ·show Act.put _ (some 71) _ = _
             simp only [Act.put, List.setIfInBounds_toArray, List.set_cons_zero, List.set_cons_succ, i64_w, i32_w]
             rfl
            refine one_ (i := 7) (N := some 75) #[true, true, true, true, true, true, true, true, false, false] rfl rfl (one_of HT_.out (by kernel_rfl)) (by decide) (fun K hK => ?_)
            refine goes_ Tryd.func26 (by kernel_rfl) rfl #[.slice A42 y447.length c42] (by rfl) rfl rfl (by (try simp only [List.map_toArray, List.map_cons, List.map_nil]); first | done | rfl | (simp only [List.length_drop, List.length_take]; rfl)) ?_
            with_reducible refine (laws_daLine.calls k2 _ _ y447 t451 _ ?side1 ?side2 A36.out).mono ?_
            (case side1 => repeat (first | exact (by repeat (first | (with_reducible exact HR450.out) | (with_reducible refine Kd.C_alloc ?_ _) | (with_reducible refine Kd.C_drewN ?_ _) | (with_reducible refine Kd.C_drew ?_) | exact HR450.out)) | (with_reducible refine Kd.C_alloc ?_ _) | (with_reducible refine Kd.C_drewN ?_ _) | (with_reducible refine Kd.C_drew ?_)))
            (case side2 => exact HC450.out)
            rintro e w' ⟨rfl, ⟨nd, rfl⟩⟩
            refine ⟨_, rfl, ?_⟩
            refine hK.out _ _ trivial (fun hHeld => ?_)
            clear hK K
            refine norm_ (a' := ?_) ?_ ?_
            rotate_left
            ·show Act.put _ (some 75) _ = _
             simp only [Act.put, List.setIfInBounds_toArray, List.set_cons_zero, List.set_cons_succ, i64_w, i32_w]
             rfl
            refine one_ (i := 8) (N := some 76) #[true, true, true, true, true, true, true, true, true, false] rfl rfl (one_of HT_.out (by kernel_rfl)) (by decide) (fun K hK => ?_)
            refine Kd.R_lit_step Kd.string _ 9 ?hg (N := 76) ?hd (xs := ([t446, t451] : List ByteArray)) (inner := [.string t446, .string t451]) (ok := fun _ => True) (okp := fun _ => True) ?hr ?hp (fun _ hk => hk) trivial (Below.refl _ _) (Nat.le_refl _) (by simp) ?_; (case hd => rfl); (case hg => rfl); (case hr => first | (go_simp; done) | (go_simp; rfl)); (case hp => exact (Reps.one (show Kd.M Kd.string _ _ _ t446 [.string t446] from rfl) (Reps.one (show Kd.M Kd.string _ _ _ t451 [.string t451] from rfl) (Reps.none _ _))))
            intro v453 w43 ho44 hb hg_ hnew_
            clear hg_ hnew_
            (first | rw [← Ny452.out] at ho44 | (simp only [Int.reduceToNat] at ho44; rw [← Ny452.out] at ho44))
            have n0_ := Aside0.mk (Kd.R_elder' (by (with_reducible repeat (first|apply Kd.R_alloc|apply Kd.R_drewN|apply Kd.R_drew)); exact HO_3.out) (Kd.R_base ho44) hb)
            have n1_ := Aside0.mk (Kd.R_lower (Kd.R_new' ho44 (Kd.R_lt (by (with_reducible repeat (first|apply Kd.R_alloc|apply Kd.R_drewN|apply Kd.R_drew)); exact HO_3.out))) (below_size (by repeat (first|(with_reducible first|exact HB.out|apply below_alloc|apply pw_below_drewN|apply below_drew1)|exact HB.out))))
            have n2_ := Aside0.mk (Kd.C_below (by repeat (first | (with_reducible exact HR445.out) | (with_reducible refine Kd.C_alloc ?_ _) | (with_reducible refine Kd.C_drewN ?_ _) | (with_reducible refine Kd.C_drew ?_) | exact HR445.out)) hb)
            have n3_ := Aside0.mk (Kd.C_below (by repeat (first | (with_reducible exact HR450.out) | (with_reducible refine Kd.C_alloc ?_ _) | (with_reducible refine Kd.C_drewN ?_ _) | (with_reducible refine Kd.C_drew ?_) | exact HR450.out)) hb)
            have n4_ := Aside0.mk (below_step (by repeat (first|(with_reducible first|exact HB.out|apply below_alloc|apply pw_below_drewN|apply below_drew1)|exact HB.out)) hb)
            clear HO_3
            clear HR445
            clear HR450
            clear HB
            have HO_3 := n0_
            have HO454 := n1_
            have HR445 := n2_
            have HR450 := n3_
            have HB := n4_
            clear n0_ n1_ n2_ n3_ n4_
            clear hb ho44
            refine hK.out _ _ trivial (fun hHeld => ?_)
            clear hK K
            refine norm_ (a' := ?_) ?_ ?_
            rotate_left
            ·show Act.put _ (some 76) _ = _
             simp only [Act.put, List.setIfInBounds_toArray, List.set_cons_zero, List.set_cons_succ, i64_w, i32_w]
             rfl
            refine pure_ (i := 9) (N := some 12) (v := ?_) (a' := ?_) #[true, true, true, true, true, true, true, true, true, true] rfl rfl (any_of HT_.out (by kernel_rfl)) (fun _ _ _ h => h) (Or.inl ⟨by rfl, ?_⟩) ?_ ?_
            rotate_left
            ·intro w'
             go_simp
             with_reducible rfl
            rotate_left
            ·simp only [Act.put, List.setIfInBounds_toArray, List.set_cons_zero, List.set_cons_succ, i64_w, i32_w]
             rfl
            refine done_ (done_of HT_.out (by kernel_rfl)) ?_
            obtain ⟨Ao45, co45, eo45⟩ := Kd.R_slice HO454.out
            subst eo45
            try go_wp2_with (first | ((with_reducible refine gate_callee (f := 17) rfl ?_); refine goesL_ (some 80) rfl rfl Tryd.func17 (by kernel_rfl) rfl #[.slice Ao45 y452.length co45, .int .i64 t427] rfl (by (try simp only [List.map_toArray, List.map_cons, List.map_nil]); first | done | rfl | (simp only [List.length_drop, List.length_take]; rfl)) ?_; (with_reducible refine (impl_WrapCost.calls k2 _ _ y452 t427 t455 true _ ?side1 ?side2 A37.out).mono ?_); (case side1 => repeat (first | exact (Kd.R_reads' HO454.out).2.2 | (with_reducible refine Kd.C_alloc ?_ _) | (with_reducible refine Kd.C_drewN ?_ _) | (with_reducible refine Kd.C_drew ?_))); (case side2 => exact (Kd.R_reads' HO454.out).2.1); rintro e w46 ⟨rfl, hb⟩; refine ⟨_, rfl, ?_⟩; have n0_ := Aside0.mk (Kd.R_below (by (with_reducible repeat (first|apply Kd.R_alloc|apply Kd.R_drewN|apply Kd.R_drew)); exact HO_3.out) hb); have n1_ := Aside0.mk (Kd.R_below (by (with_reducible repeat (first|apply Kd.R_alloc|apply Kd.R_drewN|apply Kd.R_drew)); exact HO454.out) hb); have n2_ := Aside0.mk (Kd.C_below (by repeat (first | (with_reducible exact HR445.out) | (with_reducible refine Kd.C_alloc ?_ _) | (with_reducible refine Kd.C_drewN ?_ _) | (with_reducible refine Kd.C_drew ?_) | exact HR445.out)) hb); have n3_ := Aside0.mk (Kd.C_below (by repeat (first | (with_reducible exact HR450.out) | (with_reducible refine Kd.C_alloc ?_ _) | (with_reducible refine Kd.C_drewN ?_ _) | (with_reducible refine Kd.C_drew ?_) | exact HR450.out)) hb); have n4_ := Aside0.mk (below_step (by repeat (first|(with_reducible first|exact HB.out|apply below_alloc|apply pw_below_drewN|apply below_drew1)|exact HB.out)) hb); clear HO_3; clear HO454; clear HR445; clear HR450; clear HB; have HO_3 := n0_; have HO454 := n1_; have HR445 := n2_; have HR450 := n3_; have HB := n4_; clear n0_ n1_ n2_ n3_ n4_; (try clear hb); (try clear hb2); (try clear hk); (try clear hi)))
            go_ret
            exact ⟨by first | rfl | (simp [errW_none, errW_some] <;> rfl) | (simp [*, errW_none, errW_some] <;> rfl), by repeat (first|(with_reducible first|exact HB.out|apply below_alloc|apply pw_below_drewN|apply below_drew1)|exact HB.out)⟩
           ·rw [if_neg c39] at H
            have c39b0 : decide (t455 < t440) = false := decide_eq_false c39
            clear c39
            have H' := Aside0.mk H
            clear H
            try go_wp2
            have n0_ := Aside0.mk (Kd.R_drew HO_3.out)
            have n1_ := Aside0.mk (below_drew1 HB.out)
            clear HO_3
            clear HB
            have HO_3 := n0_
            have HB := n1_
            clear n0_ n1_
            have q48 : (x11_2 : Int) ≤ ((t426.length : Int) : Int) := of_decide_eq_true (by first|(with_reducible assumption)|assumption)
            obtain ⟨i048, hi048, _, hsz48, _⟩ := info_parts info9
            have hroom48 : t426.length ≤ co8 := (Kd.R_reads' HO_3.out).2.1
            have hC48 : Kd.C Kd.string _ Ao8 t426.length t426 := (Kd.R_reads' HO_3.out).2.2
            have hcut48 := cut_to (P := Tryd.prog) 23 9 .i64 Tryd.underlying23 hi048 Ao8 t426.length co8 x11_2 (of_decide_eq_true (by first|(with_reducible assumption)|assumption)) q48 hroom48
            have hr48 := Kd.C_take (m := (x11_2 : Int).toNat) hC48 (by omega)
            have hy48 : y442.length = (x11_2 : Int).toNat := (by rw [Ny442.out, List.length_take]; omega)
            rw [← Ny442.out] at hr48
            rw [← hy48] at hcut48
            have HR445 := Aside0.mk hr48
            have HC445 := Aside0.mk (show y442.length ≤ co8 from by omega)
            clear hr48 hC48 hroom48 hi048 hsz48
            have KY48 := Aside0.mk hy48
            clear hy48
            have KL48 := Aside0.mk (show (x11_2 : Int).toNat ≤ t426.length from by omega)
            replace q48 := eq_true q48
            have q49 : (x11_2 : Int) ≤ ((t426.length : Int) : Int) := of_decide_eq_true (by first|(with_reducible assumption)|assumption)
            obtain ⟨i049, hi049, _, hsz49, _⟩ := info_parts info9
            have hroom49 : t426.length ≤ co8 := (Kd.R_reads' HO_3.out).2.1
            have hC49 : Kd.C Kd.string _ Ao8 t426.length t426 := (Kd.R_reads' HO_3.out).2.2
            have q049 : (0 : Int) ≤ (x11_2 : Int) := of_decide_eq_true (by first|(with_reducible assumption)|assumption)
            have hcut49 := cut_from (P := Tryd.prog) 23 9 .i64 Tryd.underlying23 hi049 1 hsz49 Ao8 t426.length co8 x11_2 q049 q49
            have hr49 := Kd.C_drop (m := (x11_2 : Int).toNat) (c := co8) hC49 (by omega) hroom49
            obtain ⟨A49, hA49⟩ : ∃ A_, A_ = (if co8 = (x11_2 : Int).toNat then Ao8 else (Ao8 : Option Addr).map (·.add ((x11_2 : Int).toNat * 1))) := ⟨_, rfl⟩
            obtain ⟨c49, hc49⟩ : ∃ c_, c_ = co8 - (x11_2 : Int).toNat := ⟨_, rfl⟩
            have hy49 : y447.length = t426.length - (x11_2 : Int).toNat := (by rw [Ny447.out, List.length_drop] <;> omega)
            rw [show (t426).drop (x11_2 : Int).toNat = y447 from Ny447.out.symm] at hr49
            replace hr49 : Kd.C Kd.string _ A49 y447.length y447 := (by rw [hA49]; exact hr49)
            rw [← hy49, ← hA49, ← hc49] at hcut49
            have HR450 := Aside0.mk hr49
            have HC450 := Aside0.mk (show y447.length ≤ c49 from by rw [hy49, hc49]; exact Nat.sub_le_sub_right hroom49 _)
            clear hr49 hC49 hroom49 hi049 hsz49 hc49
            have KY49 := Aside0.mk hy49
            have KA49 := Aside0.mk hA49
            clear hy49 hA49
            have KL49 := Aside0.mk (show (x11_2 : Int).toNat ≤ t426.length from by omega)
            replace q49 := eq_true q49
            refine start_ (n := 10) (S := fun w' => True) (ds := []) #[false, false, false, false, false, false, false, false, false, false] (by kernel_rfl) rfl rfl trivial (fun hHeld => ?_); refine with_tabW laws_FnWrapTwo.tab12 laws_FnWrapTwo.bits12 (fun HT_ HW_ => ?_)
            generalize wr.drew = w47 at HO_3 HB HR445 HR450 hHeld ⊢
            refine pure_ (i := 0) (N := some 68) (v := ?_) (a' := ?_) #[true, false, false, false, false, false, false, false, false, false] rfl rfl (any_of HT_.out (by kernel_rfl)) (fun _ _ _ h => h) (Or.inl ⟨by rfl, ?_⟩) ?_ ?_
            rotate_left
            ·intro w'
             go_simp
             with_reducible rfl
            rotate_left
            ·simp only [Act.put, List.setIfInBounds_toArray, List.set_cons_zero, List.set_cons_succ, i64_w, i32_w]
             rfl
            refine pure_ (i := 1) (N := some 69) (v := ?_) (a' := ?_) #[true, true, false, false, false, false, false, false, false, false] rfl rfl (any_of HT_.out (by kernel_rfl)) (fun _ _ _ h => h) (Or.inl ⟨by rfl, ?_⟩) ?_ ?_
            rotate_left
            ·intro w'
             go_simp
             with_reducible rfl
            rotate_left
            ·simp only [Act.put, List.setIfInBounds_toArray, List.set_cons_zero, List.set_cons_succ, i64_w, i32_w]
             rfl
            refine pure_ (i := 2) (N := some 70) (v := ?_) (a' := ?_) #[true, true, true, false, false, false, false, false, false, false] rfl rfl (any_of HT_.out (by kernel_rfl)) (fun _ _ _ h => h) (Or.inl ⟨by rfl, ?_⟩) ?_ ?_
            rotate_left
            ·intro w'
             go_simp
             with_reducible rfl
            rotate_left
            ·simp only [Act.put, List.setIfInBounds_toArray, List.set_cons_zero, List.set_cons_succ, i64_w, i32_w]
             rfl
            refine pure_ (i := 4) (N := some 72) (v := ?_) (a' := ?_) #[true, true, true, false, true, false, false, false, false, false] rfl rfl (any_of HT_.out (by kernel_rfl)) (fun _ _ _ h => h) (Or.inl ⟨by rfl, ?_⟩) ?_ ?_
            rotate_left
            ·intro w'
             go_simp
             with_reducible rfl
            rotate_left
            ·simp only [Act.put, List.setIfInBounds_toArray, List.set_cons_zero, List.set_cons_succ, i64_w, i32_w]
             rfl
            refine pure_ (i := 5) (N := some 73) (v := ?_) (a' := ?_) #[true, true, true, false, true, true, false, false, false, false] rfl rfl (any_of HT_.out (by kernel_rfl)) (fun _ _ _ h => h) (Or.inl ⟨by rfl, ?_⟩) ?_ ?_
            rotate_left
            ·intro w'
             go_simp
             with_reducible rfl
            rotate_left
            ·simp only [Act.put, List.setIfInBounds_toArray, List.set_cons_zero, List.set_cons_succ, i64_w, i32_w]
             rfl
            refine pure_ (i := 6) (N := some 74) (v := ?_) (a' := ?_) #[true, true, true, false, true, true, true, false, false, false] rfl rfl (any_of HT_.out (by kernel_rfl)) (fun _ _ _ h => h) (Or.inl ⟨by rfl, ?_⟩) ?_ ?_
            rotate_left
            ·intro w'
             go_simp
             with_reducible rfl
            rotate_left
            ·simp only [Act.put, List.setIfInBounds_toArray, List.set_cons_zero, List.set_cons_succ, i64_w, i32_w]
             rfl
            refine one_ (i := 3) (N := some 71) #[true, true, true, true, true, true, true, false, false, false] rfl rfl (one_of HT_.out (by kernel_rfl)) (by decide) (fun K hK => ?_)
            refine goes_ Tryd.func26 (by kernel_rfl) rfl #[.slice Ao8 y442.length co8] (by rfl) rfl rfl (by (try simp only [List.map_toArray, List.map_cons, List.map_nil]); first | done | rfl | (simp only [List.length_drop, List.length_take]; rfl)) ?_
            with_reducible refine (laws_daLine.calls k2 _ _ y442 t446 _ ?side1 ?side2 A33.out).mono ?_
            (case side1 => repeat (first | exact (by repeat (first | (with_reducible exact HR445.out) | (with_reducible refine Kd.C_alloc ?_ _) | (with_reducible refine Kd.C_drewN ?_ _) | (with_reducible refine Kd.C_drew ?_) | exact HR445.out)) | (with_reducible refine Kd.C_alloc ?_ _) | (with_reducible refine Kd.C_drewN ?_ _) | (with_reducible refine Kd.C_drew ?_)))
            (case side2 => exact HC445.out)
            rintro e w' ⟨rfl, ⟨nd, rfl⟩⟩
            refine ⟨_, rfl, ?_⟩
            refine hK.out _ _ trivial (fun hHeld => ?_)
            clear hK K
            refine norm_ (a' := ?_) ?_ ?_
            rotate_left
            ·show Act.put _ (some 71) _ = _
             simp only [Act.put, List.setIfInBounds_toArray, List.set_cons_zero, List.set_cons_succ, i64_w, i32_w]
             rfl
            refine one_ (i := 7) (N := some 75) #[true, true, true, true, true, true, true, true, false, false] rfl rfl (one_of HT_.out (by kernel_rfl)) (by decide) (fun K hK => ?_)
            refine goes_ Tryd.func26 (by kernel_rfl) rfl #[.slice A49 y447.length c49] (by rfl) rfl rfl (by (try simp only [List.map_toArray, List.map_cons, List.map_nil]); first | done | rfl | (simp only [List.length_drop, List.length_take]; rfl)) ?_
            with_reducible refine (laws_daLine.calls k2 _ _ y447 t451 _ ?side1 ?side2 A36.out).mono ?_
            (case side1 => repeat (first | exact (by repeat (first | (with_reducible exact HR450.out) | (with_reducible refine Kd.C_alloc ?_ _) | (with_reducible refine Kd.C_drewN ?_ _) | (with_reducible refine Kd.C_drew ?_) | exact HR450.out)) | (with_reducible refine Kd.C_alloc ?_ _) | (with_reducible refine Kd.C_drewN ?_ _) | (with_reducible refine Kd.C_drew ?_)))
            (case side2 => exact HC450.out)
            rintro e w' ⟨rfl, ⟨nd, rfl⟩⟩
            refine ⟨_, rfl, ?_⟩
            refine hK.out _ _ trivial (fun hHeld => ?_)
            clear hK K
            refine norm_ (a' := ?_) ?_ ?_
            rotate_left
            ·show Act.put _ (some 75) _ = _
             simp only [Act.put, List.setIfInBounds_toArray, List.set_cons_zero, List.set_cons_succ, i64_w, i32_w]
             rfl
            refine one_ (i := 8) (N := some 76) #[true, true, true, true, true, true, true, true, true, false] rfl rfl (one_of HT_.out (by kernel_rfl)) (by decide) (fun K hK => ?_)
            refine Kd.R_lit_step Kd.string _ 9 ?hg (N := 76) ?hd (xs := ([t446, t451] : List ByteArray)) (inner := [.string t446, .string t451]) (ok := fun _ => True) (okp := fun _ => True) ?hr ?hp (fun _ hk => hk) trivial (Below.refl _ _) (Nat.le_refl _) (by simp) ?_; (case hd => rfl); (case hg => rfl); (case hr => first | (go_simp; done) | (go_simp; rfl)); (case hp => exact (Reps.one (show Kd.M Kd.string _ _ _ t446 [.string t446] from rfl) (Reps.one (show Kd.M Kd.string _ _ _ t451 [.string t451] from rfl) (Reps.none _ _))))
            intro v453 w50 ho51 hb hg_ hnew_
            clear hg_ hnew_
            (first | rw [← Ny452.out] at ho51 | (simp only [Int.reduceToNat] at ho51; rw [← Ny452.out] at ho51))
            have n0_ := Aside0.mk (Kd.R_elder' (by (with_reducible repeat (first|apply Kd.R_alloc|apply Kd.R_drewN|apply Kd.R_drew)); exact HO_3.out) (Kd.R_base ho51) hb)
            have n1_ := Aside0.mk (Kd.R_lower (Kd.R_new' ho51 (Kd.R_lt (by (with_reducible repeat (first|apply Kd.R_alloc|apply Kd.R_drewN|apply Kd.R_drew)); exact HO_3.out))) (below_size (by repeat (first|(with_reducible first|exact HB.out|apply below_alloc|apply pw_below_drewN|apply below_drew1)|exact HB.out))))
            have n2_ := Aside0.mk (Kd.C_below (by repeat (first | (with_reducible exact HR445.out) | (with_reducible refine Kd.C_alloc ?_ _) | (with_reducible refine Kd.C_drewN ?_ _) | (with_reducible refine Kd.C_drew ?_) | exact HR445.out)) hb)
            have n3_ := Aside0.mk (Kd.C_below (by repeat (first | (with_reducible exact HR450.out) | (with_reducible refine Kd.C_alloc ?_ _) | (with_reducible refine Kd.C_drewN ?_ _) | (with_reducible refine Kd.C_drew ?_) | exact HR450.out)) hb)
            have n4_ := Aside0.mk (below_step (by repeat (first|(with_reducible first|exact HB.out|apply below_alloc|apply pw_below_drewN|apply below_drew1)|exact HB.out)) hb)
            clear HO_3
            clear HR445
            clear HR450
            clear HB
            have HO_3 := n0_
            have HO454 := n1_
            have HR445 := n2_
            have HR450 := n3_
            have HB := n4_
            clear n0_ n1_ n2_ n3_ n4_
            clear hb ho51
            refine hK.out _ _ trivial (fun hHeld => ?_)
            clear hK K
            refine norm_ (a' := ?_) ?_ ?_
            rotate_left
            ·show Act.put _ (some 76) _ = _
             simp only [Act.put, List.setIfInBounds_toArray, List.set_cons_zero, List.set_cons_succ, i64_w, i32_w]
             rfl
            refine pure_ (i := 9) (N := some 12) (v := ?_) (a' := ?_) #[true, true, true, true, true, true, true, true, true, true] rfl rfl (any_of HT_.out (by kernel_rfl)) (fun _ _ _ h => h) (Or.inl ⟨by rfl, ?_⟩) ?_ ?_
            rotate_left
            ·intro w'
             go_simp
             with_reducible rfl
            rotate_left
            ·simp only [Act.put, List.setIfInBounds_toArray, List.set_cons_zero, List.set_cons_succ, i64_w, i32_w]
             rfl
            refine done_ (done_of HT_.out (by kernel_rfl)) ?_
            obtain ⟨Ao52, co52, eo52⟩ := Kd.R_slice HO454.out
            subst eo52
            try go_wp2_with (first | ((with_reducible refine gate_callee (f := 17) rfl ?_); refine goesL_ (some 80) rfl rfl Tryd.func17 (by kernel_rfl) rfl #[.slice Ao52 y452.length co52, .int .i64 t427] rfl (by (try simp only [List.map_toArray, List.map_cons, List.map_nil]); first | done | rfl | (simp only [List.length_drop, List.length_take]; rfl)) ?_; (with_reducible refine (impl_WrapCost.calls k2 _ _ y452 t427 t455 true _ ?side1 ?side2 A37.out).mono ?_); (case side1 => repeat (first | exact (Kd.R_reads' HO454.out).2.2 | (with_reducible refine Kd.C_alloc ?_ _) | (with_reducible refine Kd.C_drewN ?_ _) | (with_reducible refine Kd.C_drew ?_))); (case side2 => exact (Kd.R_reads' HO454.out).2.1); rintro e w53 ⟨rfl, hb⟩; refine ⟨_, rfl, ?_⟩; have n0_ := Aside0.mk (Kd.R_below (by (with_reducible repeat (first|apply Kd.R_alloc|apply Kd.R_drewN|apply Kd.R_drew)); exact HO_3.out) hb); have n1_ := Aside0.mk (Kd.R_below (by (with_reducible repeat (first|apply Kd.R_alloc|apply Kd.R_drewN|apply Kd.R_drew)); exact HO454.out) hb); have n2_ := Aside0.mk (Kd.C_below (by repeat (first | (with_reducible exact HR445.out) | (with_reducible refine Kd.C_alloc ?_ _) | (with_reducible refine Kd.C_drewN ?_ _) | (with_reducible refine Kd.C_drew ?_) | exact HR445.out)) hb); have n3_ := Aside0.mk (Kd.C_below (by repeat (first | (with_reducible exact HR450.out) | (with_reducible refine Kd.C_alloc ?_ _) | (with_reducible refine Kd.C_drewN ?_ _) | (with_reducible refine Kd.C_drew ?_) | exact HR450.out)) hb); have n4_ := Aside0.mk (below_step (by repeat (first|(with_reducible first|exact HB.out|apply below_alloc|apply pw_below_drewN|apply below_drew1)|exact HB.out)) hb); clear HO_3; clear HO454; clear HR445; clear HR450; clear HB; have HO_3 := n0_; have HO454 := n1_; have HR445 := n2_; have HR450 := n3_; have HB := n4_; clear n0_ n1_ n2_ n3_ n4_; (try clear hb); (try clear hb2); (try clear hk); (try clear hi)))
            go_roundg k2
            case measure => have := HJ5.out; have := HK2.out; omega
            case rel => exact ⟨(wrap64 (x11_2 + 1)), (by first|rfl|(simp;done)|(simp[*];done)), H', ⟨by have := HJ5.out; have := HK2.out; omega⟩, ⟨by (with_reducible repeat (first|apply Kd.R_alloc|apply Kd.R_drewN|apply Kd.R_drew)); exact Kd.R_mono HO_3.out (fun _ hk => trivial)⟩, ⟨by repeat (first|(with_reducible first|exact HB.out|apply below_alloc|apply pw_below_drewN|apply below_drew1)|exact HB.out)⟩⟩
          ·replace c38 := Bool.eq_false_iff.mpr c38
           subst c38
           have H1 : (some false) = some r := by rw [if_neg (show ¬ (false = true) by decide)] at H; exact H
           clear H
           have H := H1
           clear H1
           obtain rfl := Option.some.inj H
           try go_wp2
           have n0_ := Aside0.mk (Kd.R_drew HO_3.out)
           have n1_ := Aside0.mk (below_drew1 HB.out)
           clear HO_3
           clear HB
           have HO_3 := n0_
           have HB := n1_
           clear n0_ n1_
           have q55 : (x11_2 : Int) ≤ ((t426.length : Int) : Int) := of_decide_eq_true (by first|(with_reducible assumption)|assumption)
           obtain ⟨i055, hi055, _, hsz55, _⟩ := info_parts info9
           have hroom55 : t426.length ≤ co8 := (Kd.R_reads' HO_3.out).2.1
           have hC55 : Kd.C Kd.string _ Ao8 t426.length t426 := (Kd.R_reads' HO_3.out).2.2
           have hcut55 := cut_to (P := Tryd.prog) 23 9 .i64 Tryd.underlying23 hi055 Ao8 t426.length co8 x11_2 (of_decide_eq_true (by first|(with_reducible assumption)|assumption)) q55 hroom55
           have hr55 := Kd.C_take (m := (x11_2 : Int).toNat) hC55 (by omega)
           have hy55 : y442.length = (x11_2 : Int).toNat := (by rw [Ny442.out, List.length_take]; omega)
           rw [← Ny442.out] at hr55
           rw [← hy55] at hcut55
           have HR445 := Aside0.mk hr55
           have HC445 := Aside0.mk (show y442.length ≤ co8 from by omega)
           clear hr55 hC55 hroom55 hi055 hsz55
           have KY55 := Aside0.mk hy55
           clear hy55
           have KL55 := Aside0.mk (show (x11_2 : Int).toNat ≤ t426.length from by omega)
           replace q55 := eq_true q55
           have q56 : (x11_2 : Int) ≤ ((t426.length : Int) : Int) := of_decide_eq_true (by first|(with_reducible assumption)|assumption)
           obtain ⟨i056, hi056, _, hsz56, _⟩ := info_parts info9
           have hroom56 : t426.length ≤ co8 := (Kd.R_reads' HO_3.out).2.1
           have hC56 : Kd.C Kd.string _ Ao8 t426.length t426 := (Kd.R_reads' HO_3.out).2.2
           have q056 : (0 : Int) ≤ (x11_2 : Int) := of_decide_eq_true (by first|(with_reducible assumption)|assumption)
           have hcut56 := cut_from (P := Tryd.prog) 23 9 .i64 Tryd.underlying23 hi056 1 hsz56 Ao8 t426.length co8 x11_2 q056 q56
           have hr56 := Kd.C_drop (m := (x11_2 : Int).toNat) (c := co8) hC56 (by omega) hroom56
           obtain ⟨A56, hA56⟩ : ∃ A_, A_ = (if co8 = (x11_2 : Int).toNat then Ao8 else (Ao8 : Option Addr).map (·.add ((x11_2 : Int).toNat * 1))) := ⟨_, rfl⟩
           obtain ⟨c56, hc56⟩ : ∃ c_, c_ = co8 - (x11_2 : Int).toNat := ⟨_, rfl⟩
           have hy56 : y447.length = t426.length - (x11_2 : Int).toNat := (by rw [Ny447.out, List.length_drop] <;> omega)
           rw [show (t426).drop (x11_2 : Int).toNat = y447 from Ny447.out.symm] at hr56
           replace hr56 : Kd.C Kd.string _ A56 y447.length y447 := (by rw [hA56]; exact hr56)
           rw [← hy56, ← hA56, ← hc56] at hcut56
           have HR450 := Aside0.mk hr56
           have HC450 := Aside0.mk (show y447.length ≤ c56 from by rw [hy56, hc56]; exact Nat.sub_le_sub_right hroom56 _)
           clear hr56 hC56 hroom56 hi056 hsz56 hc56
           have KY56 := Aside0.mk hy56
           have KA56 := Aside0.mk hA56
           clear hy56 hA56
           have KL56 := Aside0.mk (show (x11_2 : Int).toNat ≤ t426.length from by omega)
           replace q56 := eq_true q56
           refine start_ (n := 10) (S := fun w' => True) (ds := []) #[false, false, false, false, false, false, false, false, false, false] (by kernel_rfl) rfl rfl trivial (fun hHeld => ?_); refine with_tabW laws_FnWrapTwo.tab12 laws_FnWrapTwo.bits12 (fun HT_ HW_ => ?_)
           generalize wr.drew = w54 at HO_3 HB HR445 HR450 hHeld ⊢
           refine pure_ (i := 0) (N := some 68) (v := ?_) (a' := ?_) #[true, false, false, false, false, false, false, false, false, false] rfl rfl (any_of HT_.out (by kernel_rfl)) (fun _ _ _ h => h) (Or.inl ⟨by rfl, ?_⟩) ?_ ?_
           rotate_left
           ·intro w'
            go_simp
            with_reducible rfl
           rotate_left
           ·simp only [Act.put, List.setIfInBounds_toArray, List.set_cons_zero, List.set_cons_succ, i64_w, i32_w]
            rfl
           refine pure_ (i := 1) (N := some 69) (v := ?_) (a' := ?_) #[true, true, false, false, false, false, false, false, false, false] rfl rfl (any_of HT_.out (by kernel_rfl)) (fun _ _ _ h => h) (Or.inl ⟨by rfl, ?_⟩) ?_ ?_
           rotate_left
           ·intro w'
            go_simp
            with_reducible rfl
           rotate_left
           ·simp only [Act.put, List.setIfInBounds_toArray, List.set_cons_zero, List.set_cons_succ, i64_w, i32_w]
            rfl
           refine pure_ (i := 2) (N := some 70) (v := ?_) (a' := ?_) #[true, true, true, false, false, false, false, false, false, false] rfl rfl (any_of HT_.out (by kernel_rfl)) (fun _ _ _ h => h) (Or.inl ⟨by rfl, ?_⟩) ?_ ?_
           rotate_left
           ·intro w'
            go_simp
            with_reducible rfl
           rotate_left
           ·simp only [Act.put, List.setIfInBounds_toArray, List.set_cons_zero, List.set_cons_succ, i64_w, i32_w]
            rfl
           refine pure_ (i := 4) (N := some 72) (v := ?_) (a' := ?_) #[true, true, true, false, true, false, false, false, false, false] rfl rfl (any_of HT_.out (by kernel_rfl)) (fun _ _ _ h => h) (Or.inl ⟨by rfl, ?_⟩) ?_ ?_
           rotate_left
           ·intro w'
            go_simp
            with_reducible rfl
           rotate_left
           ·simp only [Act.put, List.setIfInBounds_toArray, List.set_cons_zero, List.set_cons_succ, i64_w, i32_w]
            rfl
           refine pure_ (i := 5) (N := some 73) (v := ?_) (a' := ?_) #[true, true, true, false, true, true, false, false, false, false] rfl rfl (any_of HT_.out (by kernel_rfl)) (fun _ _ _ h => h) (Or.inl ⟨by rfl, ?_⟩) ?_ ?_
           rotate_left
           ·intro w'
            go_simp
            with_reducible rfl
           rotate_left
           ·simp only [Act.put, List.setIfInBounds_toArray, List.set_cons_zero, List.set_cons_succ, i64_w, i32_w]
            rfl
           refine pure_ (i := 6) (N := some 74) (v := ?_) (a' := ?_) #[true, true, true, false, true, true, true, false, false, false] rfl rfl (any_of HT_.out (by kernel_rfl)) (fun _ _ _ h => h) (Or.inl ⟨by rfl, ?_⟩) ?_ ?_
           rotate_left
           ·intro w'
            go_simp
            with_reducible rfl
           rotate_left
           ·simp only [Act.put, List.setIfInBounds_toArray, List.set_cons_zero, List.set_cons_succ, i64_w, i32_w]
            rfl
           refine one_ (i := 3) (N := some 71) #[true, true, true, true, true, true, true, false, false, false] rfl rfl (one_of HT_.out (by kernel_rfl)) (by decide) (fun K hK => ?_)
           refine goes_ Tryd.func26 (by kernel_rfl) rfl #[.slice Ao8 y442.length co8] (by rfl) rfl rfl (by (try simp only [List.map_toArray, List.map_cons, List.map_nil]); first | done | rfl | (simp only [List.length_drop, List.length_take]; rfl)) ?_
           with_reducible refine (laws_daLine.calls k2 _ _ y442 t446 _ ?side1 ?side2 A33.out).mono ?_
           (case side1 => repeat (first | exact (by repeat (first | (with_reducible exact HR445.out) | (with_reducible refine Kd.C_alloc ?_ _) | (with_reducible refine Kd.C_drewN ?_ _) | (with_reducible refine Kd.C_drew ?_) | exact HR445.out)) | (with_reducible refine Kd.C_alloc ?_ _) | (with_reducible refine Kd.C_drewN ?_ _) | (with_reducible refine Kd.C_drew ?_)))
           (case side2 => exact HC445.out)
           rintro e w' ⟨rfl, ⟨nd, rfl⟩⟩
           refine ⟨_, rfl, ?_⟩
           refine hK.out _ _ trivial (fun hHeld => ?_)
           clear hK K
           refine norm_ (a' := ?_) ?_ ?_
           rotate_left
           ·show Act.put _ (some 71) _ = _
            simp only [Act.put, List.setIfInBounds_toArray, List.set_cons_zero, List.set_cons_succ, i64_w, i32_w]
            rfl
           refine one_ (i := 7) (N := some 75) #[true, true, true, true, true, true, true, true, false, false] rfl rfl (one_of HT_.out (by kernel_rfl)) (by decide) (fun K hK => ?_)
           refine goes_ Tryd.func26 (by kernel_rfl) rfl #[.slice A56 y447.length c56] (by rfl) rfl rfl (by (try simp only [List.map_toArray, List.map_cons, List.map_nil]); first | done | rfl | (simp only [List.length_drop, List.length_take]; rfl)) ?_
           with_reducible refine (laws_daLine.calls k2 _ _ y447 t451 _ ?side1 ?side2 A36.out).mono ?_
           (case side1 => repeat (first | exact (by repeat (first | (with_reducible exact HR450.out) | (with_reducible refine Kd.C_alloc ?_ _) | (with_reducible refine Kd.C_drewN ?_ _) | (with_reducible refine Kd.C_drew ?_) | exact HR450.out)) | (with_reducible refine Kd.C_alloc ?_ _) | (with_reducible refine Kd.C_drewN ?_ _) | (with_reducible refine Kd.C_drew ?_)))
           (case side2 => exact HC450.out)
           rintro e w' ⟨rfl, ⟨nd, rfl⟩⟩
           refine ⟨_, rfl, ?_⟩
           refine hK.out _ _ trivial (fun hHeld => ?_)
           clear hK K
           refine norm_ (a' := ?_) ?_ ?_
           rotate_left
           ·show Act.put _ (some 75) _ = _
            simp only [Act.put, List.setIfInBounds_toArray, List.set_cons_zero, List.set_cons_succ, i64_w, i32_w]
            rfl
           refine one_ (i := 8) (N := some 76) #[true, true, true, true, true, true, true, true, true, false] rfl rfl (one_of HT_.out (by kernel_rfl)) (by decide) (fun K hK => ?_)
           refine Kd.R_lit_step Kd.string _ 9 ?hg (N := 76) ?hd (xs := ([t446, t451] : List ByteArray)) (inner := [.string t446, .string t451]) (ok := fun _ => True) (okp := fun _ => True) ?hr ?hp (fun _ hk => hk) trivial (Below.refl _ _) (Nat.le_refl _) (by simp) ?_; (case hd => rfl); (case hg => rfl); (case hr => first | (go_simp; done) | (go_simp; rfl)); (case hp => exact (Reps.one (show Kd.M Kd.string _ _ _ t446 [.string t446] from rfl) (Reps.one (show Kd.M Kd.string _ _ _ t451 [.string t451] from rfl) (Reps.none _ _))))
           intro v453 w57 ho58 hb hg_ hnew_
           clear hg_ hnew_
           (first | rw [← Ny452.out] at ho58 | (simp only [Int.reduceToNat] at ho58; rw [← Ny452.out] at ho58))
           have n0_ := Aside0.mk (Kd.R_elder' (by (with_reducible repeat (first|apply Kd.R_alloc|apply Kd.R_drewN|apply Kd.R_drew)); exact HO_3.out) (Kd.R_base ho58) hb)
           have n1_ := Aside0.mk (Kd.R_lower (Kd.R_new' ho58 (Kd.R_lt (by (with_reducible repeat (first|apply Kd.R_alloc|apply Kd.R_drewN|apply Kd.R_drew)); exact HO_3.out))) (below_size (by repeat (first|(with_reducible first|exact HB.out|apply below_alloc|apply pw_below_drewN|apply below_drew1)|exact HB.out))))
           have n2_ := Aside0.mk (Kd.C_below (by repeat (first | (with_reducible exact HR445.out) | (with_reducible refine Kd.C_alloc ?_ _) | (with_reducible refine Kd.C_drewN ?_ _) | (with_reducible refine Kd.C_drew ?_) | exact HR445.out)) hb)
           have n3_ := Aside0.mk (Kd.C_below (by repeat (first | (with_reducible exact HR450.out) | (with_reducible refine Kd.C_alloc ?_ _) | (with_reducible refine Kd.C_drewN ?_ _) | (with_reducible refine Kd.C_drew ?_) | exact HR450.out)) hb)
           have n4_ := Aside0.mk (below_step (by repeat (first|(with_reducible first|exact HB.out|apply below_alloc|apply pw_below_drewN|apply below_drew1)|exact HB.out)) hb)
           clear HO_3
           clear HR445
           clear HR450
           clear HB
           have HO_3 := n0_
           have HO454 := n1_
           have HR445 := n2_
           have HR450 := n3_
           have HB := n4_
           clear n0_ n1_ n2_ n3_ n4_
           clear hb ho58
           refine hK.out _ _ trivial (fun hHeld => ?_)
           clear hK K
           refine norm_ (a' := ?_) ?_ ?_
           rotate_left
           ·show Act.put _ (some 76) _ = _
            simp only [Act.put, List.setIfInBounds_toArray, List.set_cons_zero, List.set_cons_succ, i64_w, i32_w]
            rfl
           refine pure_ (i := 9) (N := some 12) (v := ?_) (a' := ?_) #[true, true, true, true, true, true, true, true, true, true] rfl rfl (any_of HT_.out (by kernel_rfl)) (fun _ _ _ h => h) (Or.inl ⟨by rfl, ?_⟩) ?_ ?_
           rotate_left
           ·intro w'
            go_simp
            with_reducible rfl
           rotate_left
           ·simp only [Act.put, List.setIfInBounds_toArray, List.set_cons_zero, List.set_cons_succ, i64_w, i32_w]
            rfl
           refine done_ (done_of HT_.out (by kernel_rfl)) ?_
           obtain ⟨Ao59, co59, eo59⟩ := Kd.R_slice HO454.out
           subst eo59
           try go_wp2_with (first | ((with_reducible refine gate_callee (f := 17) rfl ?_); refine goesL_ (some 80) rfl rfl Tryd.func17 (by kernel_rfl) rfl #[.slice Ao59 y452.length co59, .int .i64 t427] rfl (by (try simp only [List.map_toArray, List.map_cons, List.map_nil]); first | done | rfl | (simp only [List.length_drop, List.length_take]; rfl)) ?_; (with_reducible refine (impl_WrapCost.calls k2 _ _ y452 t427 t455 false _ ?side1 ?side2 A37.out).mono ?_); (case side1 => repeat (first | exact (Kd.R_reads' HO454.out).2.2 | (with_reducible refine Kd.C_alloc ?_ _) | (with_reducible refine Kd.C_drewN ?_ _) | (with_reducible refine Kd.C_drew ?_))); (case side2 => exact (Kd.R_reads' HO454.out).2.1); rintro e w60 ⟨rfl, hb⟩; refine ⟨_, rfl, ?_⟩; have n0_ := Aside0.mk (Kd.R_below (by (with_reducible repeat (first|apply Kd.R_alloc|apply Kd.R_drewN|apply Kd.R_drew)); exact HO_3.out) hb); have n1_ := Aside0.mk (Kd.R_below (by (with_reducible repeat (first|apply Kd.R_alloc|apply Kd.R_drewN|apply Kd.R_drew)); exact HO454.out) hb); have n2_ := Aside0.mk (Kd.C_below (by repeat (first | (with_reducible exact HR445.out) | (with_reducible refine Kd.C_alloc ?_ _) | (with_reducible refine Kd.C_drewN ?_ _) | (with_reducible refine Kd.C_drew ?_) | exact HR445.out)) hb); have n3_ := Aside0.mk (Kd.C_below (by repeat (first | (with_reducible exact HR450.out) | (with_reducible refine Kd.C_alloc ?_ _) | (with_reducible refine Kd.C_drewN ?_ _) | (with_reducible refine Kd.C_drew ?_) | exact HR450.out)) hb); have n4_ := Aside0.mk (below_step (by repeat (first|(with_reducible first|exact HB.out|apply below_alloc|apply pw_below_drewN|apply below_drew1)|exact HB.out)) hb); clear HO_3; clear HO454; clear HR445; clear HR450; clear HB; have HO_3 := n0_; have HO454 := n1_; have HR445 := n2_; have HR450 := n3_; have HB := n4_; clear n0_ n1_ n2_ n3_ n4_; (try clear hb); (try clear hb2); (try clear hk); (try clear hi)))
           go_ret
           exact ⟨by first | rfl | (simp [errW_none, errW_some] <;> rfl) | (simp [*, errW_none, errW_some] <;> rfl), by repeat (first|(with_reducible first|exact HB.out|apply below_alloc|apply pw_below_drewN|apply below_drew1)|exact HB.out)⟩
         ·rw [if_neg c32] at H
          exact absurd H (by simp)
        ·rw [if_neg c31] at H
         exact absurd H (by simp)
       ·rw [if_neg c30] at H
        have c30b0 : decide (x11_2 < (t426.length : Int)) = false := decide_eq_false c30
        clear c30
        obtain rfl := Option.some.inj H
        go_wp2
        go_ret
        exact ⟨by first | rfl | (simp [errW_none, errW_some] <;> rfl) | (simp [*, errW_none, errW_some] <;> rfl), by repeat (first|(with_reducible first|exact HB.out|apply below_alloc|apply pw_below_drewN|apply below_drew1)|exact HB.out)⟩

/-- THE ONE PURE STATEMENT of laws_FnWrapTwo: yours. -/
def laws_FnWrapTwo.Pure : Prop := ∀ (l0 : List Int), l0.length ≤ maxLen → l0.length * 1 ≤ 140737488351232 → (∀ x ∈ l0, (Lit.int .u8 x).wf = true) → ∃ k, laws_FnWrapTwo.f k l0 = some true
theorem laws_FnWrapTwo.walk (P : laws_FnWrapTwo.Pure) (a0 : Option Addr) (len0 cap0 : Nat) (z0 : List Int) (w : World) (w0 : (a0 = none ∧ len0 = 0 ∧ cap0 = 0 ∧ z0 = []) ∨ ∃ x, a0 = some x ∧ len0 ≤ cap0 ∧ cap0 ≤ maxLen ∧ z0.length = cap0 ∧ (∀ i, i < z0.length → w.cell? (x.add i) = some (.int .u8 (z0.getD i 0))) ∧ ∀ n ∈ z0, (Lit.int .u8 n).wf = true) (y0 : len0 * 1 ≤ 140737488351232) :
  Calls Tryd.prog 7 #[.slice a0 len0 cap0] w fun e w' => e = .returned (.bool true) ∧ Below w.heap.size w w' := by
 obtain ⟨l0, rfl, hr0, hm0, hw0, hc0⟩ := ReadsInt.ofRowC w0
 obtain ⟨k, h⟩ := P l0 hm0 y0 hw0
 refine (laws_FnWrapTwo.calls k _ _ l0 true w (Kd.C_of_reads (d := (0 : Int)) (h1 := fun _ => rfl) hr0) hc0 h).mono ?_
 rintro e w' ⟨rfl, hd⟩
 exact ⟨rfl, hd⟩

end Go.Proofs.YtkpnmninkmnbjaaDoor.PKa
