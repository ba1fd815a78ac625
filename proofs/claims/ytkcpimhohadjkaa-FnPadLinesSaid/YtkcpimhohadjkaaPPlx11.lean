-- Written by a program of this session (xprint). -- COMPACT
import Derived.Test.YtkcpimhohadjkaaPPlx0
import Derived.Test.YtkcpimhohadjkaaPPlx3
import Derived.Test.YtkcpimhohadjkaaPPlx4
import Derived.Test.YtkcpimhohadjkaaPPlx10
namespace Go.Proofs.Ytkcpimhohadjkaa.PPl
open Go.RowKit Go.Proofs.YtkcpimhohadjkaaW.PrintWords Go.Proofs.YtkcpimhohadjkaaW.PrintLast Go.Proofs.YtkcpimhohadjkaaW.PrintMore
attribute [local go_sem] max2_int min2_int max_two min_two max_three min_three max_four min_four   -- for this text's walks alone
set_option linter.unusedVariables false
set_option linter.unusedSimpArgs false

/-! ### laws_FnPadLines: function 11 -/
mutual
def laws_FnPadLines.j0 : Nat → List (S59) → Int → List ByteArray → Bool → List ByteArray → Bool → Bool → Option (Bool)
 | 0, _, _, _, _, _, _, _ => none
 | k + 1, x3, x4, x5, x6, x7, x8, x44 => if x44 = true then ((laws_daTexts.f k x5 x7).bind fun t511 => (if t511 = true then (some (x6 == x8)) else (some false))) else (laws_FnPadLines.l0 k x3 x4 x5 0)
def laws_FnPadLines.l0 : Nat → List (S59) → Int → List ByteArray → Int → Option (Bool)
 | 0, _, _, _, _ => none
 | k + 1, x3, x4, x5, x9 => if x9 < (x5.length : Int) then (if 0 ≤ x9 then (if x9 < (x3.length : Int) then ((impl_LayoutText.f k (([(⟨0, (rd_T59 x3 x9).f1⟩ : S59)] : List (S59)))).bind fun t516 => (if ((rdOf ByteArray.empty x5 x9).size : Int) = x4 then (if t516.toList = ([] : List UInt8) then (laws_FnPadLines.l0 k x3 x4 x5 (wrap64 (x9 + 1))) else (if ((rdOf ByteArray.empty x5 x9).size : Int) < (wrap64 (((rd_T59 x3 x9).f0) + (t516.size : Int))) then (some false) else (if 0 ≤ ((rd_T59 x3 x9).f0) then (if ((rd_T59 x3 x9).f0) ≤ (wrap64 (((rd_T59 x3 x9).f0) + (t516.size : Int))) then (if (wrap64 (((rd_T59 x3 x9).f0) + (t516.size : Int))) ≤ ((rdOf ByteArray.empty x5 x9).size : Int) then (if ((rdOf ByteArray.empty x5 x9).extract (((rd_T59 x3 x9).f0) : Int).toNat ((wrap64 (((rd_T59 x3 x9).f0) + (t516.size : Int))) : Int).toNat).toList = t516.toList then (laws_FnPadLines.l0 k x3 x4 x5 (wrap64 (x9 + 1))) else (some false)) else (none)) else (none)) else (none)))) else (some false))) else (none)) else (none)) else (some ((x5.length : Int) == (x3.length : Int)))
end
def laws_FnPadLines.f (k : Nat) (l0 : List Int) : Option (Bool) := if (l0.length : Int) > 1048576 then (some true) else ((spec_DrawPadLines.f k l0).bind fun bt498 => ((impl_PadLines.f k bt498.1 bt498.2).bind fun bt502 => ((spec_PadLines.f k bt498.1 bt498.2).bind fun bt506 => ((laws_daTexts.f k bt502.1 bt506.1).bind fun t510 => (if t510 = true then (if (bt502.2 != bt506.2) = true then (laws_FnPadLines.j0 k bt498.1 bt498.2 bt502.1 bt502.2 bt506.1 bt506.2 true) else (laws_FnPadLines.j0 k bt498.1 bt498.2 bt502.1 bt502.2 bt506.1 bt506.2 (!bt502.2))) else (laws_FnPadLines.j0 k bt498.1 bt498.2 bt502.1 bt502.2 bt506.1 bt506.2 true))))))
set_option maxHeartbeats 8000000 in
set_option maxRecDepth 100000 in
theorem laws_FnPadLines.calls (k : Nat) (A0 : Option Addr) (c0 : Nat) (l0 : List Int) (r : Bool) (w : World) (hr0 : Kd.C (Kd.int .u8) w A0 l0.length l0) (hc0 : l0.length ≤ c0) (h : laws_FnPadLines.f k l0 = some r) :
  Calls Try.prog 11 #[.slice A0 l0.length c0] w fun e w' => e = .returned (.bool r) ∧ Below w.heap.size w w' := by
 have hu59 := Try.underlying59
 have HR0 := Aside0.mk hr0
 have HC0 := Aside0.mk hc0
 clear hr0 hc0
 have HB := Aside0.mk (Below.refl w.heap.size w)
 have H : (if (l0.length : Int) > 1048576 then (some true) else ((spec_DrawPadLines.f k l0).bind fun bt498 => ((impl_PadLines.f k bt498.1 bt498.2).bind fun bt502 => ((spec_PadLines.f k bt498.1 bt498.2).bind fun bt506 => ((laws_daTexts.f k bt502.1 bt506.1).bind fun t510 => (if t510 = true then (if (bt502.2 != bt506.2) = true then (laws_FnPadLines.j0 k bt498.1 bt498.2 bt502.1 bt502.2 bt506.1 bt506.2 true) else (laws_FnPadLines.j0 k bt498.1 bt498.2 bt502.1 bt502.2 bt506.1 bt506.2 (!bt502.2))) else (laws_FnPadLines.j0 k bt498.1 bt498.2 bt502.1 bt502.2 bt506.1 bt506.2 true))))))) = some r := h
 clear h
 by_cases c2 : (l0.length : Int) > 1048576
 ·rw [if_pos c2] at H
  have c2b0 : decide (1048576 < (l0.length : Int)) = true := decide_eq_true c2
  have c2b1 : decide (1048576 < l0.length) = true := decide_eq_true (by omega)
  clear c2
  obtain rfl := Option.some.inj H
  go_enter Try.func11, Try.ntmps11
  go_wp2
  go_ret
  exact ⟨by first | rfl | (simp [errW_none, errW_some] <;> rfl) | (simp [*, errW_none, errW_some] <;> rfl), by repeat (first|(with_reducible first|exact HB.out|apply below_alloc|apply pw_below_drewN|apply below_drew1)|exact HB.out)⟩
 ·rw [if_neg c2] at H
  have c2b0 : decide (1048576 < (l0.length : Int)) = false := decide_eq_false c2
  have c2b1 : decide (1048576 < l0.length) = false := decide_eq_false (by omega)
  clear c2
  replace H := Option.bind_eq_some_iff.mp H
  obtain ⟨⟨t498, t499⟩, A30, H⟩ := H
  replace H : ((impl_PadLines.f k t498 t499).bind fun bt502 => ((spec_PadLines.f k t498 t499).bind fun bt506 => ((laws_daTexts.f k bt502.1 bt506.1).bind fun t510 => (if t510 = true then (if (bt502.2 != bt506.2) = true then (laws_FnPadLines.j0 k t498 t499 bt502.1 bt502.2 bt506.1 bt506.2 true) else (laws_FnPadLines.j0 k t498 t499 bt502.1 bt502.2 bt506.1 bt506.2 (!bt502.2))) else (laws_FnPadLines.j0 k t498 t499 bt502.1 bt502.2 bt506.1 bt506.2 true))))) = some r := H
  have A3 := Aside0.mk A30
  clear A30
  replace H := Option.bind_eq_some_iff.mp H
  obtain ⟨⟨t502, t503⟩, A40, H⟩ := H
  replace H : ((spec_PadLines.f k t498 t499).bind fun bt506 => ((laws_daTexts.f k t502 bt506.1).bind fun t510 => (if t510 = true then (if (t503 != bt506.2) = true then (laws_FnPadLines.j0 k t498 t499 t502 t503 bt506.1 bt506.2 true) else (laws_FnPadLines.j0 k t498 t499 t502 t503 bt506.1 bt506.2 (!t503))) else (laws_FnPadLines.j0 k t498 t499 t502 t503 bt506.1 bt506.2 true)))) = some r := H
  have A4 := Aside0.mk A40
  clear A40
  replace H := Option.bind_eq_some_iff.mp H
  obtain ⟨⟨t506, t507⟩, A50, H⟩ := H
  replace H : ((laws_daTexts.f k t502 t506).bind fun t510 => (if t510 = true then (if (t503 != t507) = true then (laws_FnPadLines.j0 k t498 t499 t502 t503 t506 t507 true) else (laws_FnPadLines.j0 k t498 t499 t502 t503 t506 t507 (!t503))) else (laws_FnPadLines.j0 k t498 t499 t502 t503 t506 t507 true))) = some r := H
  have A5 := Aside0.mk A50
  clear A50
  have HC6 := Aside0.mk H
  clear H
  go_enter Try.func11, Try.ntmps11
  go_upto_region 6 with (first | ((with_reducible refine gate_callee (f := 33) rfl ?_); refine goesL_ (some 17) rfl rfl Try.func33 aK rfl #[.slice A0 l0.length c0] rfl aL ?_; (with_reducible refine (spec_DrawPadLines.calls k _ _ l0 t498 t499 _ ?side1 ?side2 A3.out).mono ?_); (case side1 => repeat (first | exact HR0.out | (with_reducible refine Kd.C_alloc ?_ _) | (with_reducible refine Kd.C_drewN ?_ _) | (with_reducible refine Kd.C_drew ?_))); (case side2 => exact HC0.out); rintro e w7 ⟨v500, rfl, ho0, hb⟩; refine ⟨_, rfl, ?_⟩; have n0_ := Aside0.mk (Kd.R_lower ho0 (below_size aB)); have n1_ := Aside0.mk (below_step aB hb); clear HB; have HO501 := n0_; have HB := n1_; clear n0_ n1_; (try clear hb); (try clear hb2); (try clear hk); (try clear hi); (try clear ho0); obtain ⟨Ao8, co8, eo8⟩ := Kd.R_slice HO501.out; subst eo8) | ((with_reducible refine gate_callee (f := 17) rfl ?_); refine goesL_ (some 23) rfl rfl Try.func17 aK rfl #[.slice Ao8 t498.length co8, .int .i64 t499] rfl aL ?_; (with_reducible refine (impl_PadLines.calls k _ _ t498 t499 t502 t503 _ ?side1 ?side2 A4.out).mono ?_); (case side1 => repeat (first | exact (Kd.R_reads' HO501.out).2.2 | (with_reducible refine Kd.C_alloc ?_ _) | (with_reducible refine Kd.C_drewN ?_ _) | (with_reducible refine Kd.C_drew ?_))); (case side2 => exact (Kd.R_reads' HO501.out).2.1); rintro e w9 ⟨v504, rfl, ho0, hb⟩; refine ⟨_, rfl, ?_⟩; have n0_ := Aside0.mk (Kd.R_below (aP HO501.out) hb); have n1_ := Aside0.mk (Kd.R_lower ho0 (below_size aB)); have n2_ := Aside0.mk (below_step aB hb); clear HO501; clear HB; have HO501 := n0_; have HO505 := n1_; have HB := n2_; clear n0_ n1_ n2_; (try clear hb); (try clear hb2); (try clear hk); (try clear hi); (try clear ho0)) | ((with_reducible refine gate_callee (f := 15) rfl ?_); refine goesL_ (some 29) rfl rfl Try.func15 aK rfl #[.slice Ao8 t498.length co8, .int .i64 t499] rfl aL ?_; (with_reducible refine (spec_PadLines.calls k _ _ t498 t499 t506 t507 _ ?side1 ?side2 A5.out).mono ?_); (case side1 => repeat (first | exact (Kd.R_reads' HO501.out).2.2 | (with_reducible refine Kd.C_alloc ?_ _) | (with_reducible refine Kd.C_drewN ?_ _) | (with_reducible refine Kd.C_drew ?_))); (case side2 => exact (Kd.R_reads' HO501.out).2.1); rintro e w10 ⟨v508, rfl, ho0, hb⟩; refine ⟨_, rfl, ?_⟩; have n0_ := Aside0.mk (Kd.R_below (aP HO501.out) hb); have n1_ := Aside0.mk (Kd.R_elder' (aP HO505.out) (Kd.R_base ho0) hb); have n2_ := Aside0.mk (Kd.R_lower (Kd.R_new' ho0 (Kd.R_lt (aP HO505.out))) (below_size aB)); have n3_ := Aside0.mk (below_step aB hb); clear HO501; clear HO505; clear HB; have HO501 := n0_; have HO505 := n1_; have HO509 := n2_; have HB := n3_; clear n0_ n1_ n2_ n3_; (try clear hb); (try clear hb2); (try clear hk); (try clear hi); (try clear ho0)))
  (try simp only [Act.put, List.setIfInBounds_toArray, List.set_cons_zero, List.set_cons_succ])
  go_cut [44] (fun v44 wc => ∃ (kq : Nat) (x44_5 : Bool), v44 = .bool x44_5 ∧ Aside0 (laws_FnPadLines.j0 kq t498 t499 t502 t503 t506 t507 x44_5 = some r) ∧ Aside0 (kq ≤ k) ∧ Aside0 (Kd.R k59 59 wc w.heap.size (fun _ => True) (.slice Ao8 t498.length co8) t498) ∧ Aside0 (Kd.R Kd.string 9 wc w.heap.size (fun k_ => some k_ ≠ (v508 : Value).ownBlock) v504 t502) ∧ Aside0 (Kd.R Kd.string 9 wc w.heap.size (fun k_ => some k_ ≠ (v504 : Value).ownBlock) v508 t506) ∧ Aside0 (Below w.heap.size w wc))
  case first =>
   have H := HC6.out
   clear HC6
   replace H := Option.bind_eq_some_iff.mp H
   obtain ⟨t510, A110, H⟩ := H
   replace H : (if t510 = true then (if (t503 != t507) = true then (laws_FnPadLines.j0 k t498 t499 t502 t503 t506 t507 true) else (laws_FnPadLines.j0 k t498 t499 t502 t503 t506 t507 (!t503))) else (laws_FnPadLines.j0 k t498 t499 t502 t503 t506 t507 true)) = some r := H
   have A11 := Aside0.mk A110
   clear A110
   by_cases c12 : t510 = true
   ·subst c12
    have H1 : (if (t503 != t507) = true then (laws_FnPadLines.j0 k t498 t499 t502 t503 t506 t507 true) else (laws_FnPadLines.j0 k t498 t499 t502 t503 t506 t507 (!t503))) = some r := by rw [if_pos rfl] at H; exact H
    clear H
    have H := H1
    clear H1
    by_cases c13 : (t503 != t507) = true
    ·rw [if_pos c13] at H
     have c13b0 : (t503 != t507) = true := c13
     (try (have c13b1 : decide (t503 = t507) = false := by simpa using c13))
     (try (have c13b2 : (t503 == t507) = false := by simpa using c13))
     (try (have c13b3 : ¬ (t503 = t507) := by simpa using c13))
     clear c13
     (first | rw [c13b0] | (simp only [i64_w, i32_w]; rw [c13b0]) | skip)
     have H' := Aside0.mk H
     clear H
     obtain ⟨Ao14, co14, eo14⟩ := Kd.R_slice HO505.out
     subst eo14
     obtain ⟨Ao15, co15, eo15⟩ := Kd.R_slice HO509.out
     subst eo15
     go_wp2_with (first | ((with_reducible refine gate_callee (f := 26) rfl ?_); refine goesL_ (some 34) rfl rfl Try.func26 aK rfl #[.slice Ao14 t502.length co14, .slice Ao15 t506.length co15] rfl aL ?_; (with_reducible refine (laws_daTexts.calls k _ _ t502 _ _ t506 true _ ?side1 ?side2 ?side3 ?side4 A11.out).mono ?_); (case side1 => repeat (first | exact (Kd.R_reads' HO505.out).2.2 | (with_reducible refine Kd.C_alloc ?_ _) | (with_reducible refine Kd.C_drewN ?_ _) | (with_reducible refine Kd.C_drew ?_))); (case side2 => exact (Kd.R_reads' HO505.out).2.1); (case side3 => repeat (first | exact (Kd.R_reads' HO509.out).2.2 | (with_reducible refine Kd.C_alloc ?_ _) | (with_reducible refine Kd.C_drewN ?_ _) | (with_reducible refine Kd.C_drew ?_))); (case side4 => exact (Kd.R_reads' HO509.out).2.1); rintro e w' ⟨rfl, ⟨nd, rfl⟩⟩; refine ⟨_, rfl, ?_⟩))
     go_meet
     case rel => exact ⟨_, (true), aR, H', ⟨by first | omega | exact Nat.le_refl _⟩, ⟨by (with_reducible repeat (first|apply Kd.R_alloc|apply Kd.R_drewN|apply Kd.R_drew)); exact HO501.out⟩, ⟨by (with_reducible repeat (first|apply Kd.R_alloc|apply Kd.R_drewN|apply Kd.R_drew)); exact Kd.R_mono HO505.out (fun _ hk => hk.2)⟩, ⟨by (with_reducible repeat (first|apply Kd.R_alloc|apply Kd.R_drewN|apply Kd.R_drew)); exact Kd.R_mono HO509.out (fun _ hk => hk.2)⟩, ⟨by repeat (first|(with_reducible first|exact HB.out|apply below_alloc|apply pw_below_drewN|apply below_drew1)|exact HB.out)⟩⟩
    ·rw [if_neg c13] at H
     have c13b0 : (t503 != t507) = false := by simpa using c13
     (try (have c13b1 : decide (t503 = t507) = true := by simpa using c13))
     (try (have c13b2 : (t503 == t507) = true := by simpa using c13))
     clear c13
     (first | rw [c13b0] | (simp only [i64_w, i32_w]; rw [c13b0]) | skip)
     have H' := Aside0.mk H
     clear H
     obtain ⟨Ao16, co16, eo16⟩ := Kd.R_slice HO505.out
     subst eo16
     obtain ⟨Ao17, co17, eo17⟩ := Kd.R_slice HO509.out
     subst eo17
     go_wp2_with (first | ((with_reducible refine gate_callee (f := 26) rfl ?_); refine goesL_ (some 34) rfl rfl Try.func26 aK rfl #[.slice Ao16 t502.length co16, .slice Ao17 t506.length co17] rfl aL ?_; (with_reducible refine (laws_daTexts.calls k _ _ t502 _ _ t506 true _ ?side1 ?side2 ?side3 ?side4 A11.out).mono ?_); (case side1 => repeat (first | exact (Kd.R_reads' HO505.out).2.2 | (with_reducible refine Kd.C_alloc ?_ _) | (with_reducible refine Kd.C_drewN ?_ _) | (with_reducible refine Kd.C_drew ?_))); (case side2 => exact (Kd.R_reads' HO505.out).2.1); (case side3 => repeat (first | exact (Kd.R_reads' HO509.out).2.2 | (with_reducible refine Kd.C_alloc ?_ _) | (with_reducible refine Kd.C_drewN ?_ _) | (with_reducible refine Kd.C_drew ?_))); (case side4 => exact (Kd.R_reads' HO509.out).2.1); rintro e w' ⟨rfl, ⟨nd, rfl⟩⟩; refine ⟨_, rfl, ?_⟩))
     go_meet
     case rel => exact ⟨_, (!t503), aR, H', ⟨by first | omega | exact Nat.le_refl _⟩, ⟨by (with_reducible repeat (first|apply Kd.R_alloc|apply Kd.R_drewN|apply Kd.R_drew)); exact HO501.out⟩, ⟨by (with_reducible repeat (first|apply Kd.R_alloc|apply Kd.R_drewN|apply Kd.R_drew)); exact Kd.R_mono HO505.out (fun _ hk => hk.2)⟩, ⟨by (with_reducible repeat (first|apply Kd.R_alloc|apply Kd.R_drewN|apply Kd.R_drew)); exact Kd.R_mono HO509.out (fun _ hk => hk.2)⟩, ⟨by repeat (first|(with_reducible first|exact HB.out|apply below_alloc|apply pw_below_drewN|apply below_drew1)|exact HB.out)⟩⟩
   ·replace c12 := Bool.eq_false_iff.mpr c12
    subst c12
    have H1 : (laws_FnPadLines.j0 k t498 t499 t502 t503 t506 t507 true) = some r := by rw [if_neg (show ¬ (false = true) by decide)] at H; exact H
    clear H
    have H := H1
    clear H1
    have H' := Aside0.mk H
    clear H
    obtain ⟨Ao18, co18, eo18⟩ := Kd.R_slice HO505.out
    subst eo18
    obtain ⟨Ao19, co19, eo19⟩ := Kd.R_slice HO509.out
    subst eo19
    go_wp2_with (first | ((with_reducible refine gate_callee (f := 26) rfl ?_); refine goesL_ (some 34) rfl rfl Try.func26 aK rfl #[.slice Ao18 t502.length co18, .slice Ao19 t506.length co19] rfl aL ?_; (with_reducible refine (laws_daTexts.calls k _ _ t502 _ _ t506 false _ ?side1 ?side2 ?side3 ?side4 A11.out).mono ?_); (case side1 => repeat (first | exact (Kd.R_reads' HO505.out).2.2 | (with_reducible refine Kd.C_alloc ?_ _) | (with_reducible refine Kd.C_drewN ?_ _) | (with_reducible refine Kd.C_drew ?_))); (case side2 => exact (Kd.R_reads' HO505.out).2.1); (case side3 => repeat (first | exact (Kd.R_reads' HO509.out).2.2 | (with_reducible refine Kd.C_alloc ?_ _) | (with_reducible refine Kd.C_drewN ?_ _) | (with_reducible refine Kd.C_drew ?_))); (case side4 => exact (Kd.R_reads' HO509.out).2.1); rintro e w' ⟨rfl, ⟨nd, rfl⟩⟩; refine ⟨_, rfl, ?_⟩))
    go_meet
    case rel => exact ⟨_, (true), aR, H', ⟨by first | omega | exact Nat.le_refl _⟩, ⟨by (with_reducible repeat (first|apply Kd.R_alloc|apply Kd.R_drewN|apply Kd.R_drew)); exact HO501.out⟩, ⟨by (with_reducible repeat (first|apply Kd.R_alloc|apply Kd.R_drewN|apply Kd.R_drew)); exact Kd.R_mono HO505.out (fun _ hk => hk.2)⟩, ⟨by (with_reducible repeat (first|apply Kd.R_alloc|apply Kd.R_drewN|apply Kd.R_drew)); exact Kd.R_mono HO509.out (fun _ hk => hk.2)⟩, ⟨by repeat (first|(with_reducible first|exact HB.out|apply below_alloc|apply pw_below_drewN|apply below_drew1)|exact HB.out)⟩⟩
  case rest =>
   clear HC6
   try clear c1
   try clear c2
   try clear c2b0
   try clear c2b1
   try clear p2
   try clear c3
   try clear c11
   try clear c12
   try clear c13
   try clear c13b0
   try clear c13b1
   try clear c13b2
   try clear c15
   try clear c17
   obtain ⟨kq, x44_5, rfl, HA, HJ5, HO_3, HO_5, HO_7, HB⟩ := hcut
   cases kq with
   | zero => exact absurd HA.out (by simp [laws_FnPadLines.j0])
   | succ kj5 =>
    have H := HA.out
    clear HA
    simp only [laws_FnPadLines.j0] at H
    by_cases c20 : x44_5 = true
    ·subst c20
     have H1 : ((laws_daTexts.f kj5 t502 t506).bind fun t511 => (if t511 = true then (some (t503 == t507)) else (some false))) = some r := by rw [if_pos rfl] at H; exact H
     clear H
     have H := H1
     clear H1
     replace H := Option.bind_eq_some_iff.mp H
     obtain ⟨t511, A210, H⟩ := H
     replace H : (if t511 = true then (some (t503 == t507)) else (some false)) = some r := H
     have A21 := Aside0.mk A210
     clear A210
     by_cases c22 : t511 = true
     ·subst c22
      have H1 : (some (t503 == t507)) = some r := by rw [if_pos rfl] at H; exact H
      clear H
      have H := H1
      clear H1
      obtain rfl := Option.some.inj H
      obtain ⟨Ao23, co23, eo23⟩ := Kd.R_slice HO_5.out
      subst eo23
      obtain ⟨Ao24, co24, eo24⟩ := Kd.R_slice HO_7.out
      subst eo24
      go_wp2_with (first | ((with_reducible refine gate_callee (f := 26) rfl ?_); refine goesL_ (some 47) rfl rfl Try.func26 aK rfl #[.slice Ao23 t502.length co23, .slice Ao24 t506.length co24] rfl aL ?_; (with_reducible refine (laws_daTexts.calls kj5 _ _ t502 _ _ t506 true _ ?side1 ?side2 ?side3 ?side4 A21.out).mono ?_); (case side1 => repeat (first | exact (Kd.R_reads' HO_5.out).2.2 | (with_reducible refine Kd.C_alloc ?_ _) | (with_reducible refine Kd.C_drewN ?_ _) | (with_reducible refine Kd.C_drew ?_))); (case side2 => exact (Kd.R_reads' HO_5.out).2.1); (case side3 => repeat (first | exact (Kd.R_reads' HO_7.out).2.2 | (with_reducible refine Kd.C_alloc ?_ _) | (with_reducible refine Kd.C_drewN ?_ _) | (with_reducible refine Kd.C_drew ?_))); (case side4 => exact (Kd.R_reads' HO_7.out).2.1); rintro e w' ⟨rfl, ⟨nd, rfl⟩⟩; refine ⟨_, rfl, ?_⟩))
      go_ret
      exact ⟨by first | rfl | (simp [errW_none, errW_some] <;> rfl) | (simp [*, errW_none, errW_some] <;> rfl), by repeat (first|(with_reducible first|exact HB.out|apply below_alloc|apply pw_below_drewN|apply below_drew1)|exact HB.out)⟩
     ·replace c22 := Bool.eq_false_iff.mpr c22
      subst c22
      have H1 : (some false) = some r := by rw [if_neg (show ¬ (false = true) by decide)] at H; exact H
      clear H
      have H := H1
      clear H1
      obtain rfl := Option.some.inj H
      obtain ⟨Ao25, co25, eo25⟩ := Kd.R_slice HO_5.out
      subst eo25
      obtain ⟨Ao26, co26, eo26⟩ := Kd.R_slice HO_7.out
      subst eo26
      go_wp2_with (first | ((with_reducible refine gate_callee (f := 26) rfl ?_); refine goesL_ (some 47) rfl rfl Try.func26 aK rfl #[.slice Ao25 t502.length co25, .slice Ao26 t506.length co26] rfl aL ?_; (with_reducible refine (laws_daTexts.calls kj5 _ _ t502 _ _ t506 false _ ?side1 ?side2 ?side3 ?side4 A21.out).mono ?_); (case side1 => repeat (first | exact (Kd.R_reads' HO_5.out).2.2 | (with_reducible refine Kd.C_alloc ?_ _) | (with_reducible refine Kd.C_drewN ?_ _) | (with_reducible refine Kd.C_drew ?_))); (case side2 => exact (Kd.R_reads' HO_5.out).2.1); (case side3 => repeat (first | exact (Kd.R_reads' HO_7.out).2.2 | (with_reducible refine Kd.C_alloc ?_ _) | (with_reducible refine Kd.C_drewN ?_ _) | (with_reducible refine Kd.C_drew ?_))); (case side4 => exact (Kd.R_reads' HO_7.out).2.1); rintro e w' ⟨rfl, ⟨nd, rfl⟩⟩; refine ⟨_, rfl, ?_⟩))
      go_ret
      exact ⟨by first | rfl | (simp [errW_none, errW_some] <;> rfl) | (simp [*, errW_none, errW_some] <;> rfl), by repeat (first|(with_reducible first|exact HB.out|apply below_alloc|apply pw_below_drewN|apply below_drew1)|exact HB.out)⟩
    ·replace c20 := Bool.eq_false_iff.mpr c20
     subst c20
     have H1 : (laws_FnPadLines.l0 kj5 t498 t499 t502 0) = some r := by rw [if_neg (show ¬ (false = true) by decide)] at H; exact H
     clear H
     have H := H1
     clear H1
     have H' := Aside0.mk H
     clear H
     go_wp2
     go_loopg [9] kj5 (fun kq v9 w' => ∃ (x9_2 : Int), v9 = .int .i64 x9_2 ∧ Aside0 (laws_FnPadLines.l0 kq t498 t499 t502 x9_2 = some r) ∧ Aside0 (kq ≤ kj5) ∧ Aside0 (Kd.R k59 59 w' w.heap.size (fun _ => True) (.slice Ao8 t498.length co8) t498) ∧ Aside0 (Kd.R Kd.string 9 w' w.heap.size (fun _ => True) v504 t502) ∧ Aside0 (Below w.heap.size w w'))
     case atStart => exact ⟨(0), aR, H', ⟨Nat.le_refl _⟩, ⟨by (with_reducible repeat (first|apply Kd.R_alloc|apply Kd.R_drewN|apply Kd.R_drew)); exact HO_3.out⟩, ⟨by (with_reducible repeat (first|apply Kd.R_alloc|apply Kd.R_drewN|apply Kd.R_drew)); exact Kd.R_mono HO_5.out (fun _ hk => trivial)⟩, ⟨by repeat (first|(with_reducible first|exact HB.out|apply below_alloc|apply pw_below_drewN|apply below_drew1)|exact HB.out)⟩⟩
     case round =>
      clear H'
      try clear c1
      try clear c2
      try clear c2b0
      try clear c2b1
      try clear p2
      try clear c3
      try clear c11
      try clear c12
      try clear c13
      try clear c13b0
      try clear c13b1
      try clear c13b2
      try clear c15
      try clear c17
      try clear c20
      try clear c22
      try clear c26
      try clear p2
      obtain ⟨x9_2, rfl, HA, HK2, HO_3, HO_5, HB⟩ := hrel
      cases gk with
      | zero => exact absurd HA.out (by simp [laws_FnPadLines.l0])
      | succ k2 =>
       have H := HA.out
       clear HA
       simp only [laws_FnPadLines.l0] at H
       by_cases c27 : x9_2 < (t502.length : Int)
       ·rw [if_pos c27] at H
        have c27b0 : decide (x9_2 < (t502.length : Int)) = true := decide_eq_true c27
        clear c27
        by_cases c28 : 0 ≤ x9_2
        ·rw [if_pos c28] at H
         have c28b0 : decide (0 ≤ x9_2) = true := decide_eq_true c28
         clear c28
         by_cases c29 : x9_2 < (t498.length : Int)
         ·rw [if_pos c29] at H
          have c29b0 : decide (x9_2 < (t498.length : Int)) = true := decide_eq_true c29
          clear c29
          obtain ⟨y513, hy513⟩ : ∃ y_ : List (S59), y_ = (([(⟨0, (rd_T59 t498 x9_2).f1⟩ : S59)] : List (S59))) := ⟨_, rfl⟩
          replace H : ((impl_LayoutText.f k2 y513).bind fun t516 => (if ((rdOf ByteArray.empty t502 x9_2).size : Int) = t499 then (if t516.toList = ([] : List UInt8) then (laws_FnPadLines.l0 k2 t498 t499 t502 (wrap64 (x9_2 + 1))) else (if ((rdOf ByteArray.empty t502 x9_2).size : Int) < (wrap64 (((rd_T59 t498 x9_2).f0) + (t516.size : Int))) then (some false) else (if 0 ≤ ((rd_T59 t498 x9_2).f0) then (if ((rd_T59 t498 x9_2).f0) ≤ (wrap64 (((rd_T59 t498 x9_2).f0) + (t516.size : Int))) then (if (wrap64 (((rd_T59 t498 x9_2).f0) + (t516.size : Int))) ≤ ((rdOf ByteArray.empty t502 x9_2).size : Int) then (if ((rdOf ByteArray.empty t502 x9_2).extract (((rd_T59 t498 x9_2).f0) : Int).toNat ((wrap64 (((rd_T59 t498 x9_2).f0) + (t516.size : Int))) : Int).toNat).toList = t516.toList then (laws_FnPadLines.l0 k2 t498 t499 t502 (wrap64 (x9_2 + 1))) else (some false)) else (none)) else (none)) else (none)))) else (some false))) = some r := by first | (rw [hy513]; with_reducible exact H) | (have H2_ := (Option.bind_some _ _).symm.trans H; rw [hy513]; with_reducible exact H2_) | (have H2_ := (Option.bind_some _ _).symm.trans H; with_reducible exact H2_) | with_reducible exact H | (rw [hy513]; exact H) | exact H
          have Ny513 := Aside0.mk hy513
          clear hy513
          replace H := Option.bind_eq_some_iff.mp H
          obtain ⟨t516, A300, H⟩ := H
          replace H : (if ((rdOf ByteArray.empty t502 x9_2).size : Int) = t499 then (if t516.toList = ([] : List UInt8) then (laws_FnPadLines.l0 k2 t498 t499 t502 (wrap64 (x9_2 + 1))) else (if ((rdOf ByteArray.empty t502 x9_2).size : Int) < (wrap64 (((rd_T59 t498 x9_2).f0) + (t516.size : Int))) then (some false) else (if 0 ≤ ((rd_T59 t498 x9_2).f0) then (if ((rd_T59 t498 x9_2).f0) ≤ (wrap64 (((rd_T59 t498 x9_2).f0) + (t516.size : Int))) then (if (wrap64 (((rd_T59 t498 x9_2).f0) + (t516.size : Int))) ≤ ((rdOf ByteArray.empty t502 x9_2).size : Int) then (if ((rdOf ByteArray.empty t502 x9_2).extract (((rd_T59 t498 x9_2).f0) : Int).toNat ((wrap64 (((rd_T59 t498 x9_2).f0) + (t516.size : Int))) : Int).toNat).toList = t516.toList then (laws_FnPadLines.l0 k2 t498 t499 t502 (wrap64 (x9_2 + 1))) else (some false)) else (none)) else (none)) else (none)))) else (some false)) = some r := H
          have A30 := Aside0.mk A300
          clear A300
          by_cases c31 : ((rdOf ByteArray.empty t502 x9_2).size : Int) = t499
          ·rw [if_pos c31] at H
           have c31b0 : (((rdOf ByteArray.empty t502 x9_2).size : Int) == t499) = true := beq_iff_eq.mpr c31
           have c31b1 : (((rdOf ByteArray.empty t502 x9_2).size : Int) != t499) = false := bne_eq_false_iff_eq.mpr c31
           clear c31
           by_cases c32 : t516.toList = ([] : List UInt8)
           ·rw [if_pos c32] at H
            have c32b0 : (t516.toList == ([] : List UInt8)) = true := beq_iff_eq.mpr c32
            have c32b1 : (t516.toList != ([] : List UInt8)) = false := bne_eq_false_iff_eq.mpr c32
            clear c32
            have H' := Aside0.mk H
            clear H
            obtain ⟨Ao33, co33, eo33⟩ := Kd.R_slice HO_5.out
            subst eo33
            have p512 : 0 ≤ (x9_2 : Int) := of_decide_eq_true aQ
            have q512 : x9_2 < (t498.length : Int) := of_decide_eq_true aQ
            obtain ⟨ad512, e512, hx512_0, hx512_1⟩ := at_T59 (Kd.R_reads' HO_3.out).2.2 x9_2 p512 q512
            cases e512
            replace p512 := eq_true p512
            replace q512 := eq_true q512
            go_wp2_with (first | ((with_reducible refine gate_dst (N := 65) rfl ?_); (try (refine gate_guard (by rfl) ?_; dsimp only)); refine Kd.R_lit k59 _ 59 ?hg (N := 65) ?hd (xs := ([(⟨0, (rd_T59 t498 x9_2).f1⟩ : S59)] : List (S59))) (inner := [.int .i64 0, .string ((rd_T59 t498 x9_2).f1)]) (ok := fun _ => True) (okp := fun _ => True) ?hr ?hp (fun _ hk => hk) trivial (Below.refl _ _) (Nat.le_refl _) (by simp) ?_; (case hd => rfl); (case hg => rfl); (case hr => first | (go_simp; done) | (go_simp; rfl)); (case hp => exact (Reps.c2 (show Kd.M k59 _ _ _ (⟨0, (rd_T59 t498 x9_2).f1⟩ : S59) [.int .i64 0, .string ((rd_T59 t498 x9_2).f1)] from (k59_mkM _ _ _ (⟨0, (rd_T59 t498 x9_2).f1⟩ : S59) )) (Reps.none _ _))); intro v514 w34 ho35 hb hg_ hnew_; clear hg_ hnew_; (first | rw [← Ny513.out] at ho35 | (simp only [Int.reduceToNat] at ho35; rw [← Ny513.out] at ho35)); have n0_ := Aside0.mk (Kd.R_elder' (aP HO_3.out) (Kd.R_base ho35) hb); have n1_ := Aside0.mk (Kd.R_below (aP HO_5.out) hb); have n2_ := Aside0.mk (Kd.R_lower (Kd.R_new' ho35 (Kd.R_lt (aP HO_3.out))) (below_size aB)); have n3_ := Aside0.mk (below_step aB hb); clear HO_3; clear HO_5; clear HB; have HO_3 := n0_; have HO_5 := n1_; have HO515 := n2_; have HB := n3_; clear n0_ n1_ n2_ n3_; clear hb ho35; obtain ⟨Ao36, co36, eo36⟩ := Kd.R_slice HO515.out; subst eo36) | ((with_reducible refine gate_callee (f := 39) rfl ?_); refine goesL_ (some 66) rfl rfl Try.func39 aK rfl #[.slice Ao36 y513.length co36] rfl aL ?_; (with_reducible refine (impl_LayoutText.calls k2 _ _ y513 t516 _ ?side1 ?side2 A30.out).mono ?_); (case side1 => repeat (first | exact (Kd.R_reads' HO515.out).2.2 | (with_reducible refine Kd.C_alloc ?_ _) | (with_reducible refine Kd.C_drewN ?_ _) | (with_reducible refine Kd.C_drew ?_))); (case side2 => exact (Kd.R_reads' HO515.out).2.1); rintro e w37 ⟨rfl, hb⟩; refine ⟨_, rfl, ?_⟩; have n0_ := Aside0.mk (Kd.R_below (aP HO_3.out) hb); have n1_ := Aside0.mk (Kd.R_below (aP HO_5.out) hb); have n2_ := Aside0.mk (Kd.R_below (aP HO515.out) hb); have n3_ := Aside0.mk (below_step aB hb); clear HO_3; clear HO_5; clear HO515; clear HB; have HO_3 := n0_; have HO_5 := n1_; have HO515 := n2_; have HB := n3_; clear n0_ n1_ n2_ n3_; (try clear hb); (try clear hb2); (try clear hk); (try clear hi); have p517 : 0 ≤ (x9_2 : Int) := of_decide_eq_true aQ; have q517 : x9_2 < (t498.length : Int) := of_decide_eq_true aQ; obtain ⟨ad517, e517, hx517_0, hx517_1⟩ := at_T59 (Kd.R_reads' HO_3.out).2.2 x9_2 p517 q517; obtain rfl : ad512 = ad517 := (by injection e517); replace p517 := eq_true p517; replace q517 := eq_true q517; have p518 : 0 ≤ (x9_2 : Int) := of_decide_eq_true aQ; have q518 : x9_2 < (t502.length : Int) := of_decide_eq_true aQ; obtain ⟨ad518, e518, hx518_0⟩ := Kd.at_string (Kd.R_reads' HO_5.out).2.2 x9_2 p518 q518; cases e518; replace p518 := eq_true p518; replace q518 := eq_true q518))
            go_roundg k2
            case measure => have := HJ5.out; have := HK2.out; omega
            case rel => exact ⟨(wrap64 (x9_2 + 1)), aR, H', ⟨by have := HJ5.out; have := HK2.out; omega⟩, ⟨by (with_reducible repeat (first|apply Kd.R_alloc|apply Kd.R_drewN|apply Kd.R_drew)); exact Kd.R_mono HO_3.out (fun _ hk => trivial)⟩, ⟨by (with_reducible repeat (first|apply Kd.R_alloc|apply Kd.R_drewN|apply Kd.R_drew)); exact HO_5.out⟩, ⟨by repeat (first|(with_reducible first|exact HB.out|apply below_alloc|apply pw_below_drewN|apply below_drew1)|exact HB.out)⟩⟩
           ·rw [if_neg c32] at H
            have c32b0 : (t516.toList == ([] : List UInt8)) = false := beq_eq_false_iff_ne.mpr c32
            have c32b1 : (t516.toList != ([] : List UInt8)) = true := bne_iff_ne.mpr c32
            by_cases c38 : ((rdOf ByteArray.empty t502 x9_2).size : Int) < (wrap64 (((rd_T59 t498 x9_2).f0) + (t516.size : Int)))
            ·rw [if_pos c38] at H
             have c38b0 : decide (((rdOf ByteArray.empty t502 x9_2).size : Int) < (wrap64 (((rd_T59 t498 x9_2).f0) + (t516.size : Int)))) = true := decide_eq_true c38
             clear c38
             obtain rfl := Option.some.inj H
             obtain ⟨Ao39, co39, eo39⟩ := Kd.R_slice HO_5.out
             subst eo39
             have p512 : 0 ≤ (x9_2 : Int) := of_decide_eq_true aQ
             have q512 : x9_2 < (t498.length : Int) := of_decide_eq_true aQ
             obtain ⟨ad512, e512, hx512_0, hx512_1⟩ := at_T59 (Kd.R_reads' HO_3.out).2.2 x9_2 p512 q512
             cases e512
             replace p512 := eq_true p512
             replace q512 := eq_true q512
             go_wp2_with (first | ((with_reducible refine gate_dst (N := 65) rfl ?_); (try (refine gate_guard (by rfl) ?_; dsimp only)); refine Kd.R_lit k59 _ 59 ?hg (N := 65) ?hd (xs := ([(⟨0, (rd_T59 t498 x9_2).f1⟩ : S59)] : List (S59))) (inner := [.int .i64 0, .string ((rd_T59 t498 x9_2).f1)]) (ok := fun _ => True) (okp := fun _ => True) ?hr ?hp (fun _ hk => hk) trivial (Below.refl _ _) (Nat.le_refl _) (by simp) ?_; (case hd => rfl); (case hg => rfl); (case hr => first | (go_simp; done) | (go_simp; rfl)); (case hp => exact (Reps.c2 (show Kd.M k59 _ _ _ (⟨0, (rd_T59 t498 x9_2).f1⟩ : S59) [.int .i64 0, .string ((rd_T59 t498 x9_2).f1)] from (k59_mkM _ _ _ (⟨0, (rd_T59 t498 x9_2).f1⟩ : S59) )) (Reps.none _ _))); intro v514 w40 ho41 hb hg_ hnew_; clear hg_ hnew_; (first | rw [← Ny513.out] at ho41 | (simp only [Int.reduceToNat] at ho41; rw [← Ny513.out] at ho41)); have n0_ := Aside0.mk (Kd.R_elder' (aP HO_3.out) (Kd.R_base ho41) hb); have n1_ := Aside0.mk (Kd.R_below (aP HO_5.out) hb); have n2_ := Aside0.mk (Kd.R_lower (Kd.R_new' ho41 (Kd.R_lt (aP HO_3.out))) (below_size aB)); have n3_ := Aside0.mk (below_step aB hb); clear HO_3; clear HO_5; clear HB; have HO_3 := n0_; have HO_5 := n1_; have HO515 := n2_; have HB := n3_; clear n0_ n1_ n2_ n3_; clear hb ho41; obtain ⟨Ao42, co42, eo42⟩ := Kd.R_slice HO515.out; subst eo42) | ((with_reducible refine gate_callee (f := 39) rfl ?_); refine goesL_ (some 66) rfl rfl Try.func39 aK rfl #[.slice Ao42 y513.length co42] rfl aL ?_; (with_reducible refine (impl_LayoutText.calls k2 _ _ y513 t516 _ ?side1 ?side2 A30.out).mono ?_); (case side1 => repeat (first | exact (Kd.R_reads' HO515.out).2.2 | (with_reducible refine Kd.C_alloc ?_ _) | (with_reducible refine Kd.C_drewN ?_ _) | (with_reducible refine Kd.C_drew ?_))); (case side2 => exact (Kd.R_reads' HO515.out).2.1); rintro e w43 ⟨rfl, hb⟩; refine ⟨_, rfl, ?_⟩; have n0_ := Aside0.mk (Kd.R_below (aP HO_3.out) hb); have n1_ := Aside0.mk (Kd.R_below (aP HO_5.out) hb); have n2_ := Aside0.mk (Kd.R_below (aP HO515.out) hb); have n3_ := Aside0.mk (below_step aB hb); clear HO_3; clear HO_5; clear HO515; clear HB; have HO_3 := n0_; have HO_5 := n1_; have HO515 := n2_; have HB := n3_; clear n0_ n1_ n2_ n3_; (try clear hb); (try clear hb2); (try clear hk); (try clear hi); have p517 : 0 ≤ (x9_2 : Int) := of_decide_eq_true aQ; have q517 : x9_2 < (t498.length : Int) := of_decide_eq_true aQ; obtain ⟨ad517, e517, hx517_0, hx517_1⟩ := at_T59 (Kd.R_reads' HO_3.out).2.2 x9_2 p517 q517; obtain rfl : ad512 = ad517 := (by injection e517); replace p517 := eq_true p517; replace q517 := eq_true q517; have p518 : 0 ≤ (x9_2 : Int) := of_decide_eq_true aQ; have q518 : x9_2 < (t502.length : Int) := of_decide_eq_true aQ; obtain ⟨ad518, e518, hx518_0⟩ := Kd.at_string (Kd.R_reads' HO_5.out).2.2 x9_2 p518 q518; cases e518; replace p518 := eq_true p518; replace q518 := eq_true q518; have p519 : 0 ≤ (x9_2 : Int) := of_decide_eq_true aQ; have q519 : x9_2 < (t502.length : Int) := of_decide_eq_true aQ; obtain ⟨ad519, e519, hx519_0⟩ := Kd.at_string (Kd.R_reads' HO_5.out).2.2 x9_2 p519 q519; obtain rfl : ad518 = ad519 := (by injection e519); replace p519 := eq_true p519; replace q519 := eq_true q519))
             go_ret
             exact ⟨by first | rfl | (simp [errW_none, errW_some] <;> rfl) | (simp [*, errW_none, errW_some] <;> rfl), by repeat (first|(with_reducible first|exact HB.out|apply below_alloc|apply pw_below_drewN|apply below_drew1)|exact HB.out)⟩
            ·rw [if_neg c38] at H
             have c38b0 : decide (((rdOf ByteArray.empty t502 x9_2).size : Int) < (wrap64 (((rd_T59 t498 x9_2).f0) + (t516.size : Int)))) = false := decide_eq_false c38
             clear c38
             by_cases c44 : 0 ≤ ((rd_T59 t498 x9_2).f0)
             ·rw [if_pos c44] at H
              have c44b0 := eq_true c44
              have c44b1 : decide (0 ≤ ((rd_T59 t498 x9_2).f0)) = true := decide_eq_true c44
              clear c44
              by_cases c45 : ((rd_T59 t498 x9_2).f0) ≤ (wrap64 (((rd_T59 t498 x9_2).f0) + (t516.size : Int)))
              ·rw [if_pos c45] at H
               have c45b0 := eq_true c45
               have c45b1 : decide (((rd_T59 t498 x9_2).f0) ≤ (wrap64 (((rd_T59 t498 x9_2).f0) + (t516.size : Int)))) = true := decide_eq_true c45
               by_cases c46 : (wrap64 (((rd_T59 t498 x9_2).f0) + (t516.size : Int))) ≤ ((rdOf ByteArray.empty t502 x9_2).size : Int)
               ·rw [if_pos c46] at H
                have c46b0 := eq_true c46
                have c46b1 : decide ((wrap64 (((rd_T59 t498 x9_2).f0) + (t516.size : Int))) ≤ ((rdOf ByteArray.empty t502 x9_2).size : Int)) = true := decide_eq_true c46
                by_cases c47 : ((rdOf ByteArray.empty t502 x9_2).extract (((rd_T59 t498 x9_2).f0) : Int).toNat ((wrap64 (((rd_T59 t498 x9_2).f0) + (t516.size : Int))) : Int).toNat).toList = t516.toList
                ·rw [if_pos c47] at H
                 have c47b0 : (((rdOf ByteArray.empty t502 x9_2).extract (((rd_T59 t498 x9_2).f0) : Int).toNat ((wrap64 (((rd_T59 t498 x9_2).f0) + (t516.size : Int))) : Int).toNat).toList == t516.toList) = true := beq_iff_eq.mpr c47
                 have c47b1 : (((rdOf ByteArray.empty t502 x9_2).extract (((rd_T59 t498 x9_2).f0) : Int).toNat ((wrap64 (((rd_T59 t498 x9_2).f0) + (t516.size : Int))) : Int).toNat).toList != t516.toList) = false := bne_eq_false_iff_eq.mpr c47
                 clear c47
                 have H' := Aside0.mk H
                 clear H
                 obtain ⟨Ao48, co48, eo48⟩ := Kd.R_slice HO_5.out
                 subst eo48
                 have p512 : 0 ≤ (x9_2 : Int) := of_decide_eq_true aQ
                 have q512 : x9_2 < (t498.length : Int) := of_decide_eq_true aQ
                 obtain ⟨ad512, e512, hx512_0, hx512_1⟩ := at_T59 (Kd.R_reads' HO_3.out).2.2 x9_2 p512 q512
                 cases e512
                 replace p512 := eq_true p512
                 replace q512 := eq_true q512
                 go_wp2_with (first | ((with_reducible refine gate_dst (N := 65) rfl ?_); (try (refine gate_guard (by rfl) ?_; dsimp only)); refine Kd.R_lit k59 _ 59 ?hg (N := 65) ?hd (xs := ([(⟨0, (rd_T59 t498 x9_2).f1⟩ : S59)] : List (S59))) (inner := [.int .i64 0, .string ((rd_T59 t498 x9_2).f1)]) (ok := fun _ => True) (okp := fun _ => True) ?hr ?hp (fun _ hk => hk) trivial (Below.refl _ _) (Nat.le_refl _) (by simp) ?_; (case hd => rfl); (case hg => rfl); (case hr => first | (go_simp; done) | (go_simp; rfl)); (case hp => exact (Reps.c2 (show Kd.M k59 _ _ _ (⟨0, (rd_T59 t498 x9_2).f1⟩ : S59) [.int .i64 0, .string ((rd_T59 t498 x9_2).f1)] from (k59_mkM _ _ _ (⟨0, (rd_T59 t498 x9_2).f1⟩ : S59) )) (Reps.none _ _))); intro v514 w49 ho50 hb hg_ hnew_; clear hg_ hnew_; (first | rw [← Ny513.out] at ho50 | (simp only [Int.reduceToNat] at ho50; rw [← Ny513.out] at ho50)); have n0_ := Aside0.mk (Kd.R_elder' (aP HO_3.out) (Kd.R_base ho50) hb); have n1_ := Aside0.mk (Kd.R_below (aP HO_5.out) hb); have n2_ := Aside0.mk (Kd.R_lower (Kd.R_new' ho50 (Kd.R_lt (aP HO_3.out))) (below_size aB)); have n3_ := Aside0.mk (below_step aB hb); clear HO_3; clear HO_5; clear HB; have HO_3 := n0_; have HO_5 := n1_; have HO515 := n2_; have HB := n3_; clear n0_ n1_ n2_ n3_; clear hb ho50; obtain ⟨Ao51, co51, eo51⟩ := Kd.R_slice HO515.out; subst eo51) | ((with_reducible refine gate_callee (f := 39) rfl ?_); refine goesL_ (some 66) rfl rfl Try.func39 aK rfl #[.slice Ao51 y513.length co51] rfl aL ?_; (with_reducible refine (impl_LayoutText.calls k2 _ _ y513 t516 _ ?side1 ?side2 A30.out).mono ?_); (case side1 => repeat (first | exact (Kd.R_reads' HO515.out).2.2 | (with_reducible refine Kd.C_alloc ?_ _) | (with_reducible refine Kd.C_drewN ?_ _) | (with_reducible refine Kd.C_drew ?_))); (case side2 => exact (Kd.R_reads' HO515.out).2.1); rintro e w52 ⟨rfl, hb⟩; refine ⟨_, rfl, ?_⟩; have n0_ := Aside0.mk (Kd.R_below (aP HO_3.out) hb); have n1_ := Aside0.mk (Kd.R_below (aP HO_5.out) hb); have n2_ := Aside0.mk (Kd.R_below (aP HO515.out) hb); have n3_ := Aside0.mk (below_step aB hb); clear HO_3; clear HO_5; clear HO515; clear HB; have HO_3 := n0_; have HO_5 := n1_; have HO515 := n2_; have HB := n3_; clear n0_ n1_ n2_ n3_; (try clear hb); (try clear hb2); (try clear hk); (try clear hi); have p517 : 0 ≤ (x9_2 : Int) := of_decide_eq_true aQ; have q517 : x9_2 < (t498.length : Int) := of_decide_eq_true aQ; obtain ⟨ad517, e517, hx517_0, hx517_1⟩ := at_T59 (Kd.R_reads' HO_3.out).2.2 x9_2 p517 q517; obtain rfl : ad512 = ad517 := (by injection e517); replace p517 := eq_true p517; replace q517 := eq_true q517; have p518 : 0 ≤ (x9_2 : Int) := of_decide_eq_true aQ; have q518 : x9_2 < (t502.length : Int) := of_decide_eq_true aQ; obtain ⟨ad518, e518, hx518_0⟩ := Kd.at_string (Kd.R_reads' HO_5.out).2.2 x9_2 p518 q518; cases e518; replace p518 := eq_true p518; replace q518 := eq_true q518; have p519 : 0 ≤ (x9_2 : Int) := of_decide_eq_true aQ; have q519 : x9_2 < (t502.length : Int) := of_decide_eq_true aQ; obtain ⟨ad519, e519, hx519_0⟩ := Kd.at_string (Kd.R_reads' HO_5.out).2.2 x9_2 p519 q519; obtain rfl : ad518 = ad519 := (by injection e519); replace p519 := eq_true p519; replace q519 := eq_true q519; have p520 : 0 ≤ (x9_2 : Int) := of_decide_eq_true aQ; have q520 : x9_2 < (t502.length : Int) := of_decide_eq_true aQ; obtain ⟨ad520, e520, hx520_0⟩ := Kd.at_string (Kd.R_reads' HO_5.out).2.2 x9_2 p520 q520; obtain rfl : ad518 = ad520 := (by injection e520); replace p520 := eq_true p520; replace q520 := eq_true q520))
                 go_roundg k2
                 case measure => have := HJ5.out; have := HK2.out; omega
                 case rel => exact ⟨(wrap64 (x9_2 + 1)), aR, H', ⟨by have := HJ5.out; have := HK2.out; omega⟩, ⟨by (with_reducible repeat (first|apply Kd.R_alloc|apply Kd.R_drewN|apply Kd.R_drew)); exact Kd.R_mono HO_3.out (fun _ hk => trivial)⟩, ⟨by (with_reducible repeat (first|apply Kd.R_alloc|apply Kd.R_drewN|apply Kd.R_drew)); exact HO_5.out⟩, ⟨by repeat (first|(with_reducible first|exact HB.out|apply below_alloc|apply pw_below_drewN|apply below_drew1)|exact HB.out)⟩⟩
                ·rw [if_neg c47] at H
                 have c47b0 : (((rdOf ByteArray.empty t502 x9_2).extract (((rd_T59 t498 x9_2).f0) : Int).toNat ((wrap64 (((rd_T59 t498 x9_2).f0) + (t516.size : Int))) : Int).toNat).toList == t516.toList) = false := beq_eq_false_iff_ne.mpr c47
                 have c47b1 : (((rdOf ByteArray.empty t502 x9_2).extract (((rd_T59 t498 x9_2).f0) : Int).toNat ((wrap64 (((rd_T59 t498 x9_2).f0) + (t516.size : Int))) : Int).toNat).toList != t516.toList) = true := bne_iff_ne.mpr c47
                 obtain rfl := Option.some.inj H
                 obtain ⟨Ao53, co53, eo53⟩ := Kd.R_slice HO_5.out
                 subst eo53
                 have p512 : 0 ≤ (x9_2 : Int) := of_decide_eq_true aQ
                 have q512 : x9_2 < (t498.length : Int) := of_decide_eq_true aQ
                 obtain ⟨ad512, e512, hx512_0, hx512_1⟩ := at_T59 (Kd.R_reads' HO_3.out).2.2 x9_2 p512 q512
                 cases e512
                 replace p512 := eq_true p512
                 replace q512 := eq_true q512
                 go_wp2_with (first | ((with_reducible refine gate_dst (N := 65) rfl ?_); (try (refine gate_guard (by rfl) ?_; dsimp only)); refine Kd.R_lit k59 _ 59 ?hg (N := 65) ?hd (xs := ([(⟨0, (rd_T59 t498 x9_2).f1⟩ : S59)] : List (S59))) (inner := [.int .i64 0, .string ((rd_T59 t498 x9_2).f1)]) (ok := fun _ => True) (okp := fun _ => True) ?hr ?hp (fun _ hk => hk) trivial (Below.refl _ _) (Nat.le_refl _) (by simp) ?_; (case hd => rfl); (case hg => rfl); (case hr => first | (go_simp; done) | (go_simp; rfl)); (case hp => exact (Reps.c2 (show Kd.M k59 _ _ _ (⟨0, (rd_T59 t498 x9_2).f1⟩ : S59) [.int .i64 0, .string ((rd_T59 t498 x9_2).f1)] from (k59_mkM _ _ _ (⟨0, (rd_T59 t498 x9_2).f1⟩ : S59) )) (Reps.none _ _))); intro v514 w54 ho55 hb hg_ hnew_; clear hg_ hnew_; (first | rw [← Ny513.out] at ho55 | (simp only [Int.reduceToNat] at ho55; rw [← Ny513.out] at ho55)); have n0_ := Aside0.mk (Kd.R_elder' (aP HO_3.out) (Kd.R_base ho55) hb); have n1_ := Aside0.mk (Kd.R_below (aP HO_5.out) hb); have n2_ := Aside0.mk (Kd.R_lower (Kd.R_new' ho55 (Kd.R_lt (aP HO_3.out))) (below_size aB)); have n3_ := Aside0.mk (below_step aB hb); clear HO_3; clear HO_5; clear HB; have HO_3 := n0_; have HO_5 := n1_; have HO515 := n2_; have HB := n3_; clear n0_ n1_ n2_ n3_; clear hb ho55; obtain ⟨Ao56, co56, eo56⟩ := Kd.R_slice HO515.out; subst eo56) | ((with_reducible refine gate_callee (f := 39) rfl ?_); refine goesL_ (some 66) rfl rfl Try.func39 aK rfl #[.slice Ao56 y513.length co56] rfl aL ?_; (with_reducible refine (impl_LayoutText.calls k2 _ _ y513 t516 _ ?side1 ?side2 A30.out).mono ?_); (case side1 => repeat (first | exact (Kd.R_reads' HO515.out).2.2 | (with_reducible refine Kd.C_alloc ?_ _) | (with_reducible refine Kd.C_drewN ?_ _) | (with_reducible refine Kd.C_drew ?_))); (case side2 => exact (Kd.R_reads' HO515.out).2.1); rintro e w57 ⟨rfl, hb⟩; refine ⟨_, rfl, ?_⟩; have n0_ := Aside0.mk (Kd.R_below (aP HO_3.out) hb); have n1_ := Aside0.mk (Kd.R_below (aP HO_5.out) hb); have n2_ := Aside0.mk (Kd.R_below (aP HO515.out) hb); have n3_ := Aside0.mk (below_step aB hb); clear HO_3; clear HO_5; clear HO515; clear HB; have HO_3 := n0_; have HO_5 := n1_; have HO515 := n2_; have HB := n3_; clear n0_ n1_ n2_ n3_; (try clear hb); (try clear hb2); (try clear hk); (try clear hi); have p517 : 0 ≤ (x9_2 : Int) := of_decide_eq_true aQ; have q517 : x9_2 < (t498.length : Int) := of_decide_eq_true aQ; obtain ⟨ad517, e517, hx517_0, hx517_1⟩ := at_T59 (Kd.R_reads' HO_3.out).2.2 x9_2 p517 q517; obtain rfl : ad512 = ad517 := (by injection e517); replace p517 := eq_true p517; replace q517 := eq_true q517; have p518 : 0 ≤ (x9_2 : Int) := of_decide_eq_true aQ; have q518 : x9_2 < (t502.length : Int) := of_decide_eq_true aQ; obtain ⟨ad518, e518, hx518_0⟩ := Kd.at_string (Kd.R_reads' HO_5.out).2.2 x9_2 p518 q518; cases e518; replace p518 := eq_true p518; replace q518 := eq_true q518; have p519 : 0 ≤ (x9_2 : Int) := of_decide_eq_true aQ; have q519 : x9_2 < (t502.length : Int) := of_decide_eq_true aQ; obtain ⟨ad519, e519, hx519_0⟩ := Kd.at_string (Kd.R_reads' HO_5.out).2.2 x9_2 p519 q519; obtain rfl : ad518 = ad519 := (by injection e519); replace p519 := eq_true p519; replace q519 := eq_true q519; have p520 : 0 ≤ (x9_2 : Int) := of_decide_eq_true aQ; have q520 : x9_2 < (t502.length : Int) := of_decide_eq_true aQ; obtain ⟨ad520, e520, hx520_0⟩ := Kd.at_string (Kd.R_reads' HO_5.out).2.2 x9_2 p520 q520; obtain rfl : ad518 = ad520 := (by injection e520); replace p520 := eq_true p520; replace q520 := eq_true q520))
                 go_ret
                 exact ⟨by first | rfl | (simp [errW_none, errW_some] <;> rfl) | (simp [*, errW_none, errW_some] <;> rfl), by repeat (first|(with_reducible first|exact HB.out|apply below_alloc|apply pw_below_drewN|apply below_drew1)|exact HB.out)⟩
               ·rw [if_neg c46] at H
                exact absurd H (by simp)
              ·rw [if_neg c45] at H
               exact absurd H (by simp)
             ·rw [if_neg c44] at H
              exact absurd H (by simp)
          ·rw [if_neg c31] at H
           have c31b0 : (((rdOf ByteArray.empty t502 x9_2).size : Int) == t499) = false := beq_eq_false_iff_ne.mpr c31
           have c31b1 : (((rdOf ByteArray.empty t502 x9_2).size : Int) != t499) = true := bne_iff_ne.mpr c31
           obtain rfl := Option.some.inj H
           obtain ⟨Ao58, co58, eo58⟩ := Kd.R_slice HO_5.out
           subst eo58
           have p512 : 0 ≤ (x9_2 : Int) := of_decide_eq_true aQ
           have q512 : x9_2 < (t498.length : Int) := of_decide_eq_true aQ
           obtain ⟨ad512, e512, hx512_0, hx512_1⟩ := at_T59 (Kd.R_reads' HO_3.out).2.2 x9_2 p512 q512
           cases e512
           replace p512 := eq_true p512
           replace q512 := eq_true q512
           go_wp2_with (first | ((with_reducible refine gate_dst (N := 65) rfl ?_); (try (refine gate_guard (by rfl) ?_; dsimp only)); refine Kd.R_lit k59 _ 59 ?hg (N := 65) ?hd (xs := ([(⟨0, (rd_T59 t498 x9_2).f1⟩ : S59)] : List (S59))) (inner := [.int .i64 0, .string ((rd_T59 t498 x9_2).f1)]) (ok := fun _ => True) (okp := fun _ => True) ?hr ?hp (fun _ hk => hk) trivial (Below.refl _ _) (Nat.le_refl _) (by simp) ?_; (case hd => rfl); (case hg => rfl); (case hr => first | (go_simp; done) | (go_simp; rfl)); (case hp => exact (Reps.c2 (show Kd.M k59 _ _ _ (⟨0, (rd_T59 t498 x9_2).f1⟩ : S59) [.int .i64 0, .string ((rd_T59 t498 x9_2).f1)] from (k59_mkM _ _ _ (⟨0, (rd_T59 t498 x9_2).f1⟩ : S59) )) (Reps.none _ _))); intro v514 w59 ho60 hb hg_ hnew_; clear hg_ hnew_; (first | rw [← Ny513.out] at ho60 | (simp only [Int.reduceToNat] at ho60; rw [← Ny513.out] at ho60)); have n0_ := Aside0.mk (Kd.R_elder' (aP HO_3.out) (Kd.R_base ho60) hb); have n1_ := Aside0.mk (Kd.R_below (aP HO_5.out) hb); have n2_ := Aside0.mk (Kd.R_lower (Kd.R_new' ho60 (Kd.R_lt (aP HO_3.out))) (below_size aB)); have n3_ := Aside0.mk (below_step aB hb); clear HO_3; clear HO_5; clear HB; have HO_3 := n0_; have HO_5 := n1_; have HO515 := n2_; have HB := n3_; clear n0_ n1_ n2_ n3_; clear hb ho60; obtain ⟨Ao61, co61, eo61⟩ := Kd.R_slice HO515.out; subst eo61) | ((with_reducible refine gate_callee (f := 39) rfl ?_); refine goesL_ (some 66) rfl rfl Try.func39 aK rfl #[.slice Ao61 y513.length co61] rfl aL ?_; (with_reducible refine (impl_LayoutText.calls k2 _ _ y513 t516 _ ?side1 ?side2 A30.out).mono ?_); (case side1 => repeat (first | exact (Kd.R_reads' HO515.out).2.2 | (with_reducible refine Kd.C_alloc ?_ _) | (with_reducible refine Kd.C_drewN ?_ _) | (with_reducible refine Kd.C_drew ?_))); (case side2 => exact (Kd.R_reads' HO515.out).2.1); rintro e w62 ⟨rfl, hb⟩; refine ⟨_, rfl, ?_⟩; have n0_ := Aside0.mk (Kd.R_below (aP HO_3.out) hb); have n1_ := Aside0.mk (Kd.R_below (aP HO_5.out) hb); have n2_ := Aside0.mk (Kd.R_below (aP HO515.out) hb); have n3_ := Aside0.mk (below_step aB hb); clear HO_3; clear HO_5; clear HO515; clear HB; have HO_3 := n0_; have HO_5 := n1_; have HO515 := n2_; have HB := n3_; clear n0_ n1_ n2_ n3_; (try clear hb); (try clear hb2); (try clear hk); (try clear hi); have p517 : 0 ≤ (x9_2 : Int) := of_decide_eq_true aQ; have q517 : x9_2 < (t498.length : Int) := of_decide_eq_true aQ; obtain ⟨ad517, e517, hx517_0, hx517_1⟩ := at_T59 (Kd.R_reads' HO_3.out).2.2 x9_2 p517 q517; obtain rfl : ad512 = ad517 := (by injection e517); replace p517 := eq_true p517; replace q517 := eq_true q517; have p518 : 0 ≤ (x9_2 : Int) := of_decide_eq_true aQ; have q518 : x9_2 < (t502.length : Int) := of_decide_eq_true aQ; obtain ⟨ad518, e518, hx518_0⟩ := Kd.at_string (Kd.R_reads' HO_5.out).2.2 x9_2 p518 q518; cases e518; replace p518 := eq_true p518; replace q518 := eq_true q518))
           go_ret
           exact ⟨by first | rfl | (simp [errW_none, errW_some] <;> rfl) | (simp [*, errW_none, errW_some] <;> rfl), by repeat (first|(with_reducible first|exact HB.out|apply below_alloc|apply pw_below_drewN|apply below_drew1)|exact HB.out)⟩
         ·rw [if_neg c29] at H
          exact absurd H (by simp)
        ·rw [if_neg c28] at H
         exact absurd H (by simp)
       ·rw [if_neg c27] at H
        have c27b0 : decide (x9_2 < (t502.length : Int)) = false := decide_eq_false c27
        clear c27
        obtain rfl := Option.some.inj H
        obtain ⟨Ao63, co63, eo63⟩ := Kd.R_slice HO_5.out
        subst eo63
        go_wp2
        go_ret
        exact ⟨by first | rfl | (simp [errW_none, errW_some] <;> rfl) | (simp [*, errW_none, errW_some] <;> rfl), by repeat (first|(with_reducible first|exact HB.out|apply below_alloc|apply pw_below_drewN|apply below_drew1)|exact HB.out)⟩

/-- THE ONE PURE STATEMENT of laws_FnPadLines: yours. -/
def laws_FnPadLines.Pure : Prop := ∀ (l0 : List Int), l0.length ≤ maxLen → l0.length * 1 ≤ 140737488351232 → (∀ x ∈ l0, (Lit.int .u8 x).wf = true) → ∃ k, laws_FnPadLines.f k l0 = some true
theorem laws_FnPadLines.walk (P : laws_FnPadLines.Pure) (a0 : Option Addr) (len0 cap0 : Nat) (z0 : List Int) (w : World) (w0 : (a0 = none ∧ len0 = 0 ∧ cap0 = 0 ∧ z0 = []) ∨ ∃ x, a0 = some x ∧ len0 ≤ cap0 ∧ cap0 ≤ maxLen ∧ z0.length = cap0 ∧ (∀ i, i < z0.length → w.cell? (x.add i) = some (.int .u8 (z0.getD i 0))) ∧ ∀ n ∈ z0, (Lit.int .u8 n).wf = true) (y0 : len0 * 1 ≤ 140737488351232) :
  Calls Try.prog 11 #[.slice a0 len0 cap0] w fun e w' => e = .returned (.bool true) ∧ Below w.heap.size w w' := by
 obtain ⟨l0, rfl, hr0, hm0, hw0, hc0⟩ := ReadsInt.ofRowC w0
 obtain ⟨k, h⟩ := P l0 hm0 y0 hw0
 refine (laws_FnPadLines.calls k _ _ l0 true w (Kd.C_of_reads (d := (0 : Int)) (h1 := fun _ => rfl) hr0) hc0 h).mono ?_
 rintro e w' ⟨rfl, hd⟩
 exact ⟨rfl, hd⟩

end Go.Proofs.Ytkcpimhohadjkaa.PPl
