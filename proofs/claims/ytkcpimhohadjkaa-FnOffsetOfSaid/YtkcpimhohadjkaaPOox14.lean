-- Written by a program of this session (xprint). -- COMPACT
import Derived.Test.YtkcpimhohadjkaaPOox0
import Derived.Test.YtkcpimhohadjkaaPOox1
import Derived.Test.YtkcpimhohadjkaaPOox3
import Derived.Test.YtkcpimhohadjkaaPOox10
import Derived.Test.YtkcpimhohadjkaaPOox11
import Derived.Test.YtkcpimhohadjkaaPOox13
namespace Go.Proofs.Ytkcpimhohadjkaa.POo
open Go.RowKit Go.Proofs.YtkcpimhohadjkaaW.PrintWords Go.Proofs.YtkcpimhohadjkaaW.PrintLast Go.Proofs.YtkcpimhohadjkaaW.PrintMore
attribute [local go_sem] max2_int min2_int max_two min_two max_three min_three max_four min_four   -- for this text's walks alone
set_option linter.unusedVariables false
set_option linter.unusedSimpArgs false

attribute [local go_sem high] eqA50
/-! ### laws_FnOffsetOf: function 8 -/
def laws_FnOffsetOf.j0 : Nat → List (S59) → Int → Bool → Int → Bool → Bool → Int → Int → Option (Bool)
 | 0, _, _, _, _, _, _, _, _ => none
 | k + 1, x3, x5, x6, x7, x8, x42, x497000, x497001 => if x42 = true then (if x5 = x7 then (if (x6 == x8) = true then (some (x5 == 0)) else (some false)) else (some false)) else ((impl_PlaceAt.f k x3 x5).bind fun bt501 => (if bt501.2.2 = true then (if (bt501.1 == x497000 && (bt501.2.1 == x497001)) = true then ((impl_LayoutText.f k x3).bind fun t505 => (some (decide (x5 ≤ (t505.size : Int))))) else (some false)) else (some false)))
def laws_FnOffsetOf.f (k : Nat) (l0 : List Int) : Option (Bool) := if (l0.length : Int) > 1048576 then (some true) else ((spec_DrawOffsetOf.f k l0).bind fun bt491 => ((impl_OffsetOf.f k bt491.1 bt491.2.1 bt491.2.2).bind fun bt497 => ((spec_OffsetOf.f k bt491.1 bt491.2.1 bt491.2.2).bind fun bt499 => (if bt497.1 = bt499.1 then (if (bt497.2 != bt499.2) = true then (laws_FnOffsetOf.j0 k bt491.1 bt497.1 bt497.2 bt499.1 bt499.2 true bt491.2.1 bt491.2.2) else (laws_FnOffsetOf.j0 k bt491.1 bt497.1 bt497.2 bt499.1 bt499.2 (!bt497.2) bt491.2.1 bt491.2.2)) else (laws_FnOffsetOf.j0 k bt491.1 bt497.1 bt497.2 bt499.1 bt499.2 true bt491.2.1 bt491.2.2)))))
set_option maxHeartbeats 8000000 in
set_option maxRecDepth 100000 in
theorem laws_FnOffsetOf.calls (k : Nat) (A0 : Option Addr) (c0 : Nat) (l0 : List Int) (r : Bool) (w : World) (hr0 : Kd.C (Kd.int .u8) w A0 l0.length l0) (hc0 : l0.length ≤ c0) (h : laws_FnOffsetOf.f k l0 = some r) :
  Calls Try.prog 8 #[.slice A0 l0.length c0] w fun e w' => e = .returned (.bool r) ∧ Below w.heap.size w w' := by
 have hu50 := Try.underlying50
 have HR0 := Aside0.mk hr0
 have HC0 := Aside0.mk hc0
 clear hr0 hc0
 have HB := Aside0.mk (Below.refl w.heap.size w)
 have H : (if (l0.length : Int) > 1048576 then (some true) else ((spec_DrawOffsetOf.f k l0).bind fun bt491 => ((impl_OffsetOf.f k bt491.1 bt491.2.1 bt491.2.2).bind fun bt497 => ((spec_OffsetOf.f k bt491.1 bt491.2.1 bt491.2.2).bind fun bt499 => (if bt497.1 = bt499.1 then (if (bt497.2 != bt499.2) = true then (laws_FnOffsetOf.j0 k bt491.1 bt497.1 bt497.2 bt499.1 bt499.2 true bt491.2.1 bt491.2.2) else (laws_FnOffsetOf.j0 k bt491.1 bt497.1 bt497.2 bt499.1 bt499.2 (!bt497.2) bt491.2.1 bt491.2.2)) else (laws_FnOffsetOf.j0 k bt491.1 bt497.1 bt497.2 bt499.1 bt499.2 true bt491.2.1 bt491.2.2)))))) = some r := h
 clear h
 by_cases c2 : (l0.length : Int) > 1048576
 ·rw [if_pos c2] at H
  have c2b0 : decide (1048576 < (l0.length : Int)) = true := decide_eq_true c2
  have c2b1 : decide (1048576 < l0.length) = true := decide_eq_true (by omega)
  clear c2
  obtain rfl := Option.some.inj H
  go_enter Try.func8, Try.ntmps8
  go_wp2
  go_ret
  exact ⟨by first | rfl | (simp [errW_none, errW_some] <;> rfl) | (simp [*, errW_none, errW_some] <;> rfl), by repeat (first|(with_reducible first|exact HB.out|apply below_alloc|apply pw_below_drewN|apply below_drew1)|exact HB.out)⟩
 ·rw [if_neg c2] at H
  have c2b0 : decide (1048576 < (l0.length : Int)) = false := decide_eq_false c2
  have c2b1 : decide (1048576 < l0.length) = false := decide_eq_false (by omega)
  clear c2
  replace H := Option.bind_eq_some_iff.mp H
  obtain ⟨⟨t491, t494, t495⟩, A30, H⟩ := H
  replace H : ((impl_OffsetOf.f k t491 t494 t495).bind fun bt497 => ((spec_OffsetOf.f k t491 t494 t495).bind fun bt499 => (if bt497.1 = bt499.1 then (if (bt497.2 != bt499.2) = true then (laws_FnOffsetOf.j0 k t491 bt497.1 bt497.2 bt499.1 bt499.2 true t494 t495) else (laws_FnOffsetOf.j0 k t491 bt497.1 bt497.2 bt499.1 bt499.2 (!bt497.2) t494 t495)) else (laws_FnOffsetOf.j0 k t491 bt497.1 bt497.2 bt499.1 bt499.2 true t494 t495)))) = some r := H
  have A3 := Aside0.mk A30
  clear A30
  replace H := Option.bind_eq_some_iff.mp H
  obtain ⟨⟨t497, t498⟩, A40, H⟩ := H
  replace H : ((spec_OffsetOf.f k t491 t494 t495).bind fun bt499 => (if t497 = bt499.1 then (if (t498 != bt499.2) = true then (laws_FnOffsetOf.j0 k t491 t497 t498 bt499.1 bt499.2 true t494 t495) else (laws_FnOffsetOf.j0 k t491 t497 t498 bt499.1 bt499.2 (!t498) t494 t495)) else (laws_FnOffsetOf.j0 k t491 t497 t498 bt499.1 bt499.2 true t494 t495))) = some r := H
  have A4 := Aside0.mk A40
  clear A40
  replace H := Option.bind_eq_some_iff.mp H
  obtain ⟨⟨t499, t500⟩, A50, H⟩ := H
  replace H : (if t497 = t499 then (if (t498 != t500) = true then (laws_FnOffsetOf.j0 k t491 t497 t498 t499 t500 true t494 t495) else (laws_FnOffsetOf.j0 k t491 t497 t498 t499 t500 (!t498) t494 t495)) else (laws_FnOffsetOf.j0 k t491 t497 t498 t499 t500 true t494 t495)) = some r := H
  have A5 := Aside0.mk A50
  clear A50
  have HC6 := Aside0.mk H
  clear H
  go_enter Try.func8, Try.ntmps8
  go_upto_region 6 with (first | ((with_reducible refine gate_callee (f := 40) rfl ?_); refine goesL_ (some 16) rfl rfl Try.func40 aK rfl #[.slice A0 l0.length c0] rfl aL ?_; (with_reducible refine (spec_DrawOffsetOf.calls k _ _ l0 t491 t494 t495 _ ?side1 ?side2 A3.out).mono ?_); (case side1 => repeat (first | exact HR0.out | (with_reducible refine Kd.C_alloc ?_ _) | (with_reducible refine Kd.C_drewN ?_ _) | (with_reducible refine Kd.C_drew ?_))); (case side2 => exact HC0.out); rintro e w7 ⟨v492, rfl, ho0, hb⟩; refine ⟨_, rfl, ?_⟩; have n0_ := Aside0.mk (Kd.R_lower ho0 (below_size aB)); have n1_ := Aside0.mk (below_step aB hb); clear HB; have HO493 := n0_; have HB := n1_; clear n0_ n1_; (try clear hb); (try clear hb2); (try clear hk); (try clear hi); (try clear ho0)) | ((with_reducible refine gate_dst (N := 4) rfl ?_); (try (refine gate_guard (by rfl) ?_; dsimp only)); refine box_event ?hg (N := 4) ?hd (cs := #[.int .i64 0, .int .i64 0]) (t := 50) ?hr ?_; (case hd => rfl); (case hg => rfl); (case hr => first | (go_simp; done) | (go_simp; rfl)); intro gb496 hg w8 hbox hb; have n0_ := Aside0.mk (Kd.R_below (aP HO493.out) hb); have n1_ := Aside0.mk (below_step aB hb); have n2_ := Aside0.mk (hbox); have n3_ := Aside0.mk ((by rw [hg]; exact (below_size aB) : w.heap.size ≤ gb496)); have n4_ := Aside0.mk ((by rw [hg]; exact (below_size aB) : w.heap.size ≤ gb496)); clear HO493; clear HB; have HO493 := n0_; have HB := n1_; have BK496 := n2_; have GW496 := n3_; have GE496 := n4_; clear n0_ n1_ n2_ n3_ n4_; clear hb hbox hg; have hcz9_0 : w8.cell? ⟨gb496, 0, none⟩ = some (.int .i64 0) := (blk_cell BK496.out 0).trans rfl; have hcz9_1 : w8.cell? ⟨gb496, 1, none⟩ = some (.int .i64 0) := (blk_cell BK496.out 1).trans rfl; have hfz9_0 := blk_frozen BK496.out 0; have hfz9_1 := blk_frozen BK496.out 1; obtain ⟨Ao10, co10, eo10⟩ := Kd.R_slice HO493.out; subst eo10) | ((with_reducible refine gate_callee (f := 41) rfl ?_); refine goesL_ (some 22) rfl rfl Try.func41 aK rfl #[.slice Ao10 t491.length co10, .agg #[.int .i64 t494, .int .i64 t495]] rfl aL ?_; (with_reducible refine (impl_OffsetOf.calls k _ _ t491 t494 t495 t497 t498 _ ?side1 ?side2 A4.out).mono ?_); (case side1 => refine (Kd.R_reads' (e := 59) (base := w.heap.size) (ok := fun k_ => True) (n := t491.length) (c := co10) ?_).2.2; exact (by (with_reducible repeat (first|apply Kd.R_alloc|apply Kd.R_drewN|apply Kd.R_drew)); exact (Kd.R_mono (Kd.R_far (p := ⟨gb496, 1, none⟩) (Kd.R_far (p := ⟨gb496, 0, none⟩) (Kd.R_types HO493.out BK496.out (by decide)) (fun _ hk => hk.2) (.int .i64 t494)) (fun _ hk => hk.2) (.int .i64 t495)) (fun _ h_ => h_.1)))); (case side2 => exact (Kd.R_reads' HO493.out).2.1); rintro e w11 ⟨rfl, hb⟩; refine ⟨_, rfl, ?_⟩; have n0_ := Aside0.mk (Kd.R_below (by (with_reducible repeat (first|apply Kd.R_alloc|apply Kd.R_drewN|apply Kd.R_drew)); exact (Kd.R_mono (Kd.R_far (p := ⟨gb496, 1, none⟩) (Kd.R_far (p := ⟨gb496, 0, none⟩) (Kd.R_types HO493.out BK496.out (by decide)) (fun _ hk => hk.2) (.int .i64 t494)) (fun _ hk => hk.2) (.int .i64 t495)) (fun _ h_ => h_.1))) hb); have n1_ := Aside0.mk (blk_below (g := gb496) (o := .cells #[.int .i64 t494, .int .i64 t495] 50 (0, 0)) (by refine aW ?_; refine blk_put (cs := #[.int .i64 t494, .int .i64 0]) ?_ 1 _ rfl; refine aW ?_; refine blk_put (cs := #[.int .i64 0, .int .i64 0]) ?_ 0 _ rfl; refine aW ?_; exact BK496.out) hb); have n2_ := Aside0.mk (below_step (aB1 GE496.out) hb); clear HO493; clear BK496; clear HB; have HO493 := n0_; have BK496 := n1_; have HB := n2_; clear n0_ n1_ n2_; (try clear hb); (try clear hb2); (try clear hk); (try clear hi); have hcz12_0 : w11.cell? ⟨gb496, 0, none⟩ = some (.int .i64 t494) := (blk_cell BK496.out 0).trans rfl; have hcz12_1 : w11.cell? ⟨gb496, 1, none⟩ = some (.int .i64 t495) := (blk_cell BK496.out 1).trans rfl; have hfz12_0 := blk_frozen BK496.out 0; have hfz12_1 := blk_frozen BK496.out 1) | ((with_reducible refine gate_callee (f := 42) rfl ?_); refine goesL_ (some 28) rfl rfl Try.func42 aK rfl #[.slice Ao10 t491.length co10, .agg #[.int .i64 t494, .int .i64 t495]] rfl aL ?_; (with_reducible refine (spec_OffsetOf.calls k _ _ t491 t494 t495 t499 t500 _ ?side1 ?side2 A5.out).mono ?_); (case side1 => repeat (first | exact (Kd.R_reads' HO493.out).2.2 | (with_reducible refine Kd.C_alloc ?_ _) | (with_reducible refine Kd.C_drewN ?_ _) | (with_reducible refine Kd.C_drew ?_))); (case side2 => exact (Kd.R_reads' HO493.out).2.1); rintro e w13 ⟨rfl, hb⟩; refine ⟨_, rfl, ?_⟩; have n0_ := Aside0.mk (Kd.R_below (aP HO493.out) hb); have n1_ := Aside0.mk (blk_below (g := gb496) (o := .cells #[.int .i64 t494, .int .i64 t495] 50 (0, 0)) (aW BK496.out) hb); have n2_ := Aside0.mk (below_step (aB1 GE496.out) hb); clear HO493; clear BK496; clear HB; have HO493 := n0_; have BK496 := n1_; have HB := n2_; clear n0_ n1_ n2_; (try clear hb); (try clear hb2); (try clear hk); (try clear hi)))
  (try simp only [Act.put, List.setIfInBounds_toArray, List.set_cons_zero, List.set_cons_succ])
  go_cut [42] (fun v42 wc => ∃ (kq : Nat) (x42_5 : Bool), v42 = .bool x42_5 ∧ Aside0 (laws_FnOffsetOf.j0 kq t491 t497 t498 t499 t500 x42_5 t494 t495 = some r) ∧ Aside0 (kq ≤ k) ∧ Aside0 (Kd.R k59 59 wc w.heap.size (fun _ => True) (.slice Ao10 t491.length co10) t491) ∧ Aside0 (wc.heap[gb496]? = some (.cells #[.int .i64 t494, .int .i64 t495] 50 (0, 0))) ∧ Aside0 (Below w.heap.size w wc))
  case first =>
   have H := HC6.out
   clear HC6
   by_cases c14 : t497 = t499
   ·rw [if_pos c14] at H
    have c14b0 : (t497 == t499) = true := beq_iff_eq.mpr c14
    have c14b1 : (t497 != t499) = false := bne_eq_false_iff_eq.mpr c14
    clear c14
    (first | rw [c14b0] | (simp only [i64_w, i32_w]; rw [c14b0]) | skip)
    by_cases c15 : (t498 != t500) = true
    ·rw [if_pos c15] at H
     have c15b0 : (t498 != t500) = true := c15
     (try (have c15b1 : decide (t498 = t500) = false := by simpa using c15))
     (try (have c15b2 : (t498 == t500) = false := by simpa using c15))
     (try (have c15b3 : ¬ (t498 = t500) := by simpa using c15))
     clear c15
     have H' := Aside0.mk H
     clear H
     go_wp2
     go_meet
     case rel => exact ⟨_, (true), aR, H', ⟨by first | omega | exact Nat.le_refl _⟩, ⟨by (with_reducible repeat (first|apply Kd.R_alloc|apply Kd.R_drewN|apply Kd.R_drew)); exact HO493.out⟩, ⟨by refine aW ?_; exact BK496.out⟩, ⟨by repeat (first | (with_reducible first | exact HB.out | apply below_alloc | apply pw_below_drewN | apply below_drew1 | refine below_set ?_ GE496.out) | exact HB.out)⟩⟩
    ·rw [if_neg c15] at H
     have c15b0 : (t498 != t500) = false := by simpa using c15
     (try (have c15b1 : decide (t498 = t500) = true := by simpa using c15))
     (try (have c15b2 : (t498 == t500) = true := by simpa using c15))
     clear c15
     have H' := Aside0.mk H
     clear H
     go_wp2
     go_meet
     case rel => exact ⟨_, (!t498), aR, H', ⟨by first | omega | exact Nat.le_refl _⟩, ⟨by (with_reducible repeat (first|apply Kd.R_alloc|apply Kd.R_drewN|apply Kd.R_drew)); exact HO493.out⟩, ⟨by refine aW ?_; exact BK496.out⟩, ⟨by repeat (first | (with_reducible first | exact HB.out | apply below_alloc | apply pw_below_drewN | apply below_drew1 | refine below_set ?_ GE496.out) | exact HB.out)⟩⟩
   ·rw [if_neg c14] at H
    have c14b0 : (t497 == t499) = false := beq_eq_false_iff_ne.mpr c14
    have c14b1 : (t497 != t499) = true := bne_iff_ne.mpr c14
    (first | rw [c14b0] | (simp only [i64_w, i32_w]; rw [c14b0]) | skip)
    have H' := Aside0.mk H
    clear H
    go_wp2
    go_meet
    case rel => exact ⟨_, (true), aR, H', ⟨by first | omega | exact Nat.le_refl _⟩, ⟨by (with_reducible repeat (first|apply Kd.R_alloc|apply Kd.R_drewN|apply Kd.R_drew)); exact HO493.out⟩, ⟨by refine aW ?_; exact BK496.out⟩, ⟨by repeat (first | (with_reducible first | exact HB.out | apply below_alloc | apply pw_below_drewN | apply below_drew1 | refine below_set ?_ GE496.out) | exact HB.out)⟩⟩
  case rest =>
   clear HC6
   try clear c1
   try clear c2
   try clear c2b0
   try clear c2b1
   try clear p2
   try clear c4
   try clear c8
   try clear c14
   try clear c14b0
   try clear c14b1
   try clear c15
   try clear c15b0
   try clear c15b1
   try clear c15b2
   try clear hcz12_0
   try clear hcz12_1
   try clear hcz9_0
   try clear hcz9_1
   try clear hfz12_0
   try clear hfz12_1
   try clear hfz9_0
   try clear hfz9_1
   obtain ⟨kq, x42_5, rfl, HA, HJ5, HO_3, BK496, HB⟩ := hcut
   cases kq with
   | zero => exact absurd HA.out (by simp [laws_FnOffsetOf.j0])
   | succ kj5 =>
    have H := HA.out
    clear HA
    simp only [laws_FnOffsetOf.j0] at H
    by_cases c16 : x42_5 = true
    ·subst c16
     have H1 : (if t497 = t499 then (if (t498 == t500) = true then (some (t497 == 0)) else (some false)) else (some false)) = some r := by rw [if_pos rfl] at H; exact H
     clear H
     have H := H1
     clear H1
     by_cases c17 : t497 = t499
     ·rw [if_pos c17] at H
      have c17b0 : (t497 == t499) = true := beq_iff_eq.mpr c17
      have c17b1 : (t497 != t499) = false := bne_eq_false_iff_eq.mpr c17
      clear c17
      by_cases c18 : (t498 == t500) = true
      ·rw [if_pos c18] at H
       have c18b0 : (t498 == t500) = true := c18
       (try (have c18b1 : decide (t498 = t500) = true := by simpa using c18))
       (try (have c18b2 : (t498 == t500) = true := by simpa using c18))
       clear c18
       obtain rfl := Option.some.inj H
       go_wp2
       go_ret
       exact ⟨by first | rfl | (simp [errW_none, errW_some] <;> rfl) | (simp [*, errW_none, errW_some] <;> rfl), by repeat (first | (with_reducible first | exact HB.out | apply below_alloc | apply pw_below_drewN | apply below_drew1 | refine below_set ?_ GE496.out) | exact HB.out)⟩
      ·rw [if_neg c18] at H
       have c18b0 : (t498 == t500) = false := by simpa using c18
       (try (have c18b1 : decide (t498 = t500) = false := by simpa using c18))
       (try (have c18b2 : (t498 == t500) = false := by simpa using c18))
       (try (have c18b3 : ¬ (t498 = t500) := by simpa using c18))
       clear c18
       obtain rfl := Option.some.inj H
       go_wp2
       go_ret
       exact ⟨by first | rfl | (simp [errW_none, errW_some] <;> rfl) | (simp [*, errW_none, errW_some] <;> rfl), by repeat (first | (with_reducible first | exact HB.out | apply below_alloc | apply pw_below_drewN | apply below_drew1 | refine below_set ?_ GE496.out) | exact HB.out)⟩
     ·rw [if_neg c17] at H
      have c17b0 : (t497 == t499) = false := beq_eq_false_iff_ne.mpr c17
      have c17b1 : (t497 != t499) = true := bne_iff_ne.mpr c17
      obtain rfl := Option.some.inj H
      go_wp2
      go_ret
      exact ⟨by first | rfl | (simp [errW_none, errW_some] <;> rfl) | (simp [*, errW_none, errW_some] <;> rfl), by repeat (first | (with_reducible first | exact HB.out | apply below_alloc | apply pw_below_drewN | apply below_drew1 | refine below_set ?_ GE496.out) | exact HB.out)⟩
    ·replace c16 := Bool.eq_false_iff.mpr c16
     subst c16
     have H1 : ((impl_PlaceAt.f kj5 t491 t497).bind fun bt501 => (if bt501.2.2 = true then (if (bt501.1 == t494 && (bt501.2.1 == t495)) = true then ((impl_LayoutText.f kj5 t491).bind fun t505 => (some (decide (t497 ≤ (t505.size : Int))))) else (some false)) else (some false))) = some r := by rw [if_neg (show ¬ (false = true) by decide)] at H; exact H
     clear H
     have H := H1
     clear H1
     replace H := Option.bind_eq_some_iff.mp H
     obtain ⟨⟨t501, t502, t503⟩, A190, H⟩ := H
     replace H : (if t503 = true then (if (t501 == t494 && (t502 == t495)) = true then ((impl_LayoutText.f kj5 t491).bind fun t505 => (some (decide (t497 ≤ (t505.size : Int))))) else (some false)) else (some false)) = some r := H
     have A19 := Aside0.mk A190
     clear A190
     by_cases c20 : t503 = true
     ·subst c20
      have H1 : (if (t501 == t494 && (t502 == t495)) = true then ((impl_LayoutText.f kj5 t491).bind fun t505 => (some (decide (t497 ≤ (t505.size : Int))))) else (some false)) = some r := by rw [if_pos rfl] at H; exact H
      clear H
      have H := H1
      clear H1
      by_cases c21 : (t501 == t494 && (t502 == t495)) = true
      ·rw [if_pos c21] at H
       have c21b0 : (t501 == t494 && (t502 == t495)) = true := c21
       (try (have c21b1 : decide (t501 = t494 && (t502 == t495)) = true := by simpa using c21))
       (try (have c21b2 : (t501 == t494 && (t502 == t495)) = true := by simpa using c21))
       clear c21
       replace H := Option.bind_eq_some_iff.mp H
       obtain ⟨t505, A220, H⟩ := H
       replace H : (some (decide (t497 ≤ (t505.size : Int)))) = some r := H
       have A22 := Aside0.mk A220
       clear A220
       obtain rfl := Option.some.inj H
       go_wp2_with (first | ((with_reducible refine gate_callee (f := 37) rfl ?_); refine goesL_ (some 58) rfl rfl Try.func37 aK rfl #[.slice Ao10 t491.length co10, .int .i64 t497] rfl aL ?_; (with_reducible refine (impl_PlaceAt.calls kj5 _ _ t491 t497 t501 t502 true _ ?side1 ?side2 A19.out).mono ?_); (case side1 => repeat (first | exact (Kd.R_reads' HO_3.out).2.2 | (with_reducible refine Kd.C_alloc ?_ _) | (with_reducible refine Kd.C_drewN ?_ _) | (with_reducible refine Kd.C_drew ?_))); (case side2 => exact (Kd.R_reads' HO_3.out).2.1); rintro e w23 ⟨rfl, hb⟩; refine ⟨_, rfl, ?_⟩; have n0_ := Aside0.mk (Kd.R_below (aP HO_3.out) hb); have n1_ := Aside0.mk (blk_below (g := gb496) (o := .cells #[.int .i64 t494, .int .i64 t495] 50 (0, 0)) (aW BK496.out) hb); have n2_ := Aside0.mk (below_step (aB1 GE496.out) hb); clear HO_3; clear BK496; clear HB; have HO_3 := n0_; have BK496 := n1_; have HB := n2_; clear n0_ n1_ n2_; (try clear hb); (try clear hb2); (try clear hk); (try clear hi)) | ((with_reducible refine gate_dst (N := 9) rfl ?_); (try (refine gate_guard (by rfl) ?_; dsimp only)); refine box_event ?hg (N := 9) ?hd (cs := #[.int .i64 0, .int .i64 0]) (t := 50) ?hr ?_; (case hd => rfl); (case hg => rfl); (case hr => first | (go_simp; done) | (go_simp; rfl)); intro gb504 hg w24 hbox hb; have n0_ := Aside0.mk (Kd.R_below (aP HO_3.out) hb); have n1_ := Aside0.mk (blk_below (g := gb496) (o := .cells #[.int .i64 t494, .int .i64 t495] 50 (0, 0)) (aW BK496.out) hb); have n2_ := Aside0.mk (below_step (aB1 GE496.out) hb); have n3_ := Aside0.mk (hbox); have n4_ := Aside0.mk ((by rw [hg]; exact (below_size (aB1 GE496.out)) : w.heap.size ≤ gb504)); have n5_ := Aside0.mk ((by rw [hg]; exact (below_size (aB1 GE496.out)) : w.heap.size ≤ gb504)); have n6_ := Aside0.mk ((by rw [hg]; exact Nat.ne_of_lt (blk_lt (g := gb496) (o := .cells #[.int .i64 t494, .int .i64 t495] 50 (0, 0)) (aW BK496.out)) : gb496 ≠ gb504)); have n7_ := Aside0.mk ((by rw [hg]; exact Nat.ne_of_gt (blk_lt (g := gb496) (o := .cells #[.int .i64 t494, .int .i64 t495] 50 (0, 0)) (aW BK496.out)) : gb504 ≠ gb496)); clear HO_3; clear BK496; clear HB; have HO_3 := n0_; have BK496 := n1_; have HB := n2_; have BK504 := n3_; have GW504 := n4_; have GE504 := n5_; have NB496_504 := n6_; have NB504_496 := n7_; clear n0_ n1_ n2_ n3_ n4_ n5_ n6_ n7_; clear hb hbox hg; have hnb25 := NB504_496.out; have hnc25 := NB496_504.out; have hcz26_0 : w24.cell? ⟨gb504, 0, none⟩ = some (.int .i64 0) := (blk_cell BK504.out 0).trans rfl; have hcz26_1 : w24.cell? ⟨gb504, 1, none⟩ = some (.int .i64 0) := (blk_cell BK504.out 1).trans rfl; have hfz26_0 := blk_frozen BK504.out 0; have hfz26_1 := blk_frozen BK504.out 1; have hcz27_0 : w24.cell? ⟨gb496, 0, none⟩ = some (.int .i64 t494) := (blk_cell BK496.out 0).trans rfl; have hcz27_1 : w24.cell? ⟨gb496, 1, none⟩ = some (.int .i64 t495) := (blk_cell BK496.out 1).trans rfl; have hfz27_0 := blk_frozen BK496.out 0; have hfz27_1 := blk_frozen BK496.out 1) | (go_at_call 39; (with_reducible refine (impl_LayoutText.calls kj5 _ _ t491 t505 _ ?side1 ?side2 A22.out).mono ?_); (case side1 => refine (Kd.R_reads' (e := 59) (base := w.heap.size) (ok := fun k_ => True) (n := t491.length) (c := co10) ?_).2.2; exact (by (with_reducible repeat (first|apply Kd.R_alloc|apply Kd.R_drewN|apply Kd.R_drew)); exact (Kd.R_mono (Kd.R_far (p := ⟨gb504, 1, none⟩) (Kd.R_far (p := ⟨gb504, 0, none⟩) (Kd.R_types HO_3.out BK504.out (by decide)) (fun _ hk => hk.2) (.int .i64 t501)) (fun _ hk => hk.2) (.int .i64 t502)) (fun _ h_ => h_.1)))); (case side2 => exact (Kd.R_reads' HO_3.out).2.1); rintro e w28 ⟨rfl, hb⟩; have n0_ := Aside0.mk (Kd.R_below (by (with_reducible repeat (first|apply Kd.R_alloc|apply Kd.R_drewN|apply Kd.R_drew)); exact (Kd.R_mono (Kd.R_far (p := ⟨gb504, 1, none⟩) (Kd.R_far (p := ⟨gb504, 0, none⟩) (Kd.R_types HO_3.out BK504.out (by decide)) (fun _ hk => hk.2) (.int .i64 t501)) (fun _ hk => hk.2) (.int .i64 t502)) (fun _ h_ => h_.1))) hb); have n1_ := Aside0.mk (blk_below (g := gb496) (o := .cells #[.int .i64 t494, .int .i64 t495] 50 (0, 0)) (by refine aW ?_; refine blk_far ?_ NB496_504.out _; refine aW ?_; refine blk_far ?_ NB496_504.out _; refine aW ?_; exact BK496.out) hb); have n2_ := Aside0.mk (blk_below (g := gb504) (o := .cells #[.int .i64 t501, .int .i64 t502] 50 (0, 0)) (by refine aW ?_; refine blk_put (cs := #[.int .i64 t501, .int .i64 0]) ?_ 1 _ rfl; refine aW ?_; refine blk_put (cs := #[.int .i64 0, .int .i64 0]) ?_ 0 _ rfl; refine aW ?_; exact BK504.out) hb); have n3_ := Aside0.mk (below_step (aB2 GE496.out GE504.out) hb); clear HO_3; clear BK496; clear BK504; clear HB; have HO_3 := n0_; have BK496 := n1_; have BK504 := n2_; have HB := n3_; clear n0_ n1_ n2_ n3_; (try clear hb); (try clear hb2); (try clear hk); (try clear hi)))
       go_ret
       exact ⟨by first | rfl | (simp [errW_none, errW_some] <;> rfl) | (simp [*, errW_none, errW_some] <;> rfl), by repeat (first | (with_reducible first | exact HB.out | apply below_alloc | apply pw_below_drewN | apply below_drew1 | refine below_set ?_ GE496.out | refine below_set ?_ GE504.out) | exact HB.out)⟩
      ·rw [if_neg c21] at H
       have c21b0 : (t501 == t494 && (t502 == t495)) = false := by simpa using c21
       (try (have c21b1 : decide (t501 = t494 && (t502 == t495)) = false := by simpa using c21))
       (try (have c21b2 : (t501 == t494 && (t502 == t495)) = false := by simpa using c21))
       (try (have c21b3 : ¬ (t501 = t494 && (t502 == t495)) := by simpa using c21))
       clear c21
       obtain rfl := Option.some.inj H
       go_wp2_with (first | ((with_reducible refine gate_callee (f := 37) rfl ?_); refine goesL_ (some 58) rfl rfl Try.func37 aK rfl #[.slice Ao10 t491.length co10, .int .i64 t497] rfl aL ?_; (with_reducible refine (impl_PlaceAt.calls kj5 _ _ t491 t497 t501 t502 true _ ?side1 ?side2 A19.out).mono ?_); (case side1 => repeat (first | exact (Kd.R_reads' HO_3.out).2.2 | (with_reducible refine Kd.C_alloc ?_ _) | (with_reducible refine Kd.C_drewN ?_ _) | (with_reducible refine Kd.C_drew ?_))); (case side2 => exact (Kd.R_reads' HO_3.out).2.1); rintro e w29 ⟨rfl, hb⟩; refine ⟨_, rfl, ?_⟩; have n0_ := Aside0.mk (Kd.R_below (aP HO_3.out) hb); have n1_ := Aside0.mk (blk_below (g := gb496) (o := .cells #[.int .i64 t494, .int .i64 t495] 50 (0, 0)) (aW BK496.out) hb); have n2_ := Aside0.mk (below_step (aB1 GE496.out) hb); clear HO_3; clear BK496; clear HB; have HO_3 := n0_; have BK496 := n1_; have HB := n2_; clear n0_ n1_ n2_; (try clear hb); (try clear hb2); (try clear hk); (try clear hi)) | ((with_reducible refine gate_dst (N := 9) rfl ?_); (try (refine gate_guard (by rfl) ?_; dsimp only)); refine box_event ?hg (N := 9) ?hd (cs := #[.int .i64 0, .int .i64 0]) (t := 50) ?hr ?_; (case hd => rfl); (case hg => rfl); (case hr => first | (go_simp; done) | (go_simp; rfl)); intro gb504 hg w30 hbox hb; have n0_ := Aside0.mk (Kd.R_below (aP HO_3.out) hb); have n1_ := Aside0.mk (blk_below (g := gb496) (o := .cells #[.int .i64 t494, .int .i64 t495] 50 (0, 0)) (aW BK496.out) hb); have n2_ := Aside0.mk (below_step (aB1 GE496.out) hb); have n3_ := Aside0.mk (hbox); have n4_ := Aside0.mk ((by rw [hg]; exact (below_size (aB1 GE496.out)) : w.heap.size ≤ gb504)); have n5_ := Aside0.mk ((by rw [hg]; exact (below_size (aB1 GE496.out)) : w.heap.size ≤ gb504)); have n6_ := Aside0.mk ((by rw [hg]; exact Nat.ne_of_lt (blk_lt (g := gb496) (o := .cells #[.int .i64 t494, .int .i64 t495] 50 (0, 0)) (aW BK496.out)) : gb496 ≠ gb504)); have n7_ := Aside0.mk ((by rw [hg]; exact Nat.ne_of_gt (blk_lt (g := gb496) (o := .cells #[.int .i64 t494, .int .i64 t495] 50 (0, 0)) (aW BK496.out)) : gb504 ≠ gb496)); clear HO_3; clear BK496; clear HB; have HO_3 := n0_; have BK496 := n1_; have HB := n2_; have BK504 := n3_; have GW504 := n4_; have GE504 := n5_; have NB496_504 := n6_; have NB504_496 := n7_; clear n0_ n1_ n2_ n3_ n4_ n5_ n6_ n7_; clear hb hbox hg; have hnb31 := NB504_496.out; have hnc31 := NB496_504.out; have hcz32_0 : w30.cell? ⟨gb504, 0, none⟩ = some (.int .i64 0) := (blk_cell BK504.out 0).trans rfl; have hcz32_1 : w30.cell? ⟨gb504, 1, none⟩ = some (.int .i64 0) := (blk_cell BK504.out 1).trans rfl; have hfz32_0 := blk_frozen BK504.out 0; have hfz32_1 := blk_frozen BK504.out 1; have hcz33_0 : w30.cell? ⟨gb496, 0, none⟩ = some (.int .i64 t494) := (blk_cell BK496.out 0).trans rfl; have hcz33_1 : w30.cell? ⟨gb496, 1, none⟩ = some (.int .i64 t495) := (blk_cell BK496.out 1).trans rfl; have hfz33_0 := blk_frozen BK496.out 0; have hfz33_1 := blk_frozen BK496.out 1))
       go_ret
       exact ⟨by first | rfl | (simp [errW_none, errW_some] <;> rfl) | (simp [*, errW_none, errW_some] <;> rfl), by repeat (first | (with_reducible first | exact HB.out | apply below_alloc | apply pw_below_drewN | apply below_drew1 | refine below_set ?_ GE496.out | refine below_set ?_ GE504.out) | exact HB.out)⟩
     ·replace c20 := Bool.eq_false_iff.mpr c20
      subst c20
      have H1 : (some false) = some r := by rw [if_neg (show ¬ (false = true) by decide)] at H; exact H
      clear H
      have H := H1
      clear H1
      obtain rfl := Option.some.inj H
      go_wp2_with (first | ((with_reducible refine gate_callee (f := 37) rfl ?_); refine goesL_ (some 58) rfl rfl Try.func37 aK rfl #[.slice Ao10 t491.length co10, .int .i64 t497] rfl aL ?_; (with_reducible refine (impl_PlaceAt.calls kj5 _ _ t491 t497 t501 t502 false _ ?side1 ?side2 A19.out).mono ?_); (case side1 => repeat (first | exact (Kd.R_reads' HO_3.out).2.2 | (with_reducible refine Kd.C_alloc ?_ _) | (with_reducible refine Kd.C_drewN ?_ _) | (with_reducible refine Kd.C_drew ?_))); (case side2 => exact (Kd.R_reads' HO_3.out).2.1); rintro e w34 ⟨rfl, hb⟩; refine ⟨_, rfl, ?_⟩; have n0_ := Aside0.mk (Kd.R_below (aP HO_3.out) hb); have n1_ := Aside0.mk (blk_below (g := gb496) (o := .cells #[.int .i64 t494, .int .i64 t495] 50 (0, 0)) (aW BK496.out) hb); have n2_ := Aside0.mk (below_step (aB1 GE496.out) hb); clear HO_3; clear BK496; clear HB; have HO_3 := n0_; have BK496 := n1_; have HB := n2_; clear n0_ n1_ n2_; (try clear hb); (try clear hb2); (try clear hk); (try clear hi)) | ((with_reducible refine gate_dst (N := 9) rfl ?_); (try (refine gate_guard (by rfl) ?_; dsimp only)); refine box_event ?hg (N := 9) ?hd (cs := #[.int .i64 0, .int .i64 0]) (t := 50) ?hr ?_; (case hd => rfl); (case hg => rfl); (case hr => first | (go_simp; done) | (go_simp; rfl)); intro gb504 hg w35 hbox hb; have n0_ := Aside0.mk (Kd.R_below (aP HO_3.out) hb); have n1_ := Aside0.mk (blk_below (g := gb496) (o := .cells #[.int .i64 t494, .int .i64 t495] 50 (0, 0)) (aW BK496.out) hb); have n2_ := Aside0.mk (below_step (aB1 GE496.out) hb); have n3_ := Aside0.mk (hbox); have n4_ := Aside0.mk ((by rw [hg]; exact (below_size (aB1 GE496.out)) : w.heap.size ≤ gb504)); have n5_ := Aside0.mk ((by rw [hg]; exact (below_size (aB1 GE496.out)) : w.heap.size ≤ gb504)); have n6_ := Aside0.mk ((by rw [hg]; exact Nat.ne_of_lt (blk_lt (g := gb496) (o := .cells #[.int .i64 t494, .int .i64 t495] 50 (0, 0)) (aW BK496.out)) : gb496 ≠ gb504)); have n7_ := Aside0.mk ((by rw [hg]; exact Nat.ne_of_gt (blk_lt (g := gb496) (o := .cells #[.int .i64 t494, .int .i64 t495] 50 (0, 0)) (aW BK496.out)) : gb504 ≠ gb496)); clear HO_3; clear BK496; clear HB; have HO_3 := n0_; have BK496 := n1_; have HB := n2_; have BK504 := n3_; have GW504 := n4_; have GE504 := n5_; have NB496_504 := n6_; have NB504_496 := n7_; clear n0_ n1_ n2_ n3_ n4_ n5_ n6_ n7_; clear hb hbox hg; have hnb36 := NB504_496.out; have hnc36 := NB496_504.out; have hcz37_0 : w35.cell? ⟨gb504, 0, none⟩ = some (.int .i64 0) := (blk_cell BK504.out 0).trans rfl; have hcz37_1 : w35.cell? ⟨gb504, 1, none⟩ = some (.int .i64 0) := (blk_cell BK504.out 1).trans rfl; have hfz37_0 := blk_frozen BK504.out 0; have hfz37_1 := blk_frozen BK504.out 1))
      go_ret
      exact ⟨by first | rfl | (simp [errW_none, errW_some] <;> rfl) | (simp [*, errW_none, errW_some] <;> rfl), by repeat (first | (with_reducible first | exact HB.out | apply below_alloc | apply pw_below_drewN | apply below_drew1 | refine below_set ?_ GE496.out | refine below_set ?_ GE504.out) | exact HB.out)⟩

/-- THE ONE PURE STATEMENT of laws_FnOffsetOf: yours. -/
def laws_FnOffsetOf.Pure : Prop := ∀ (l0 : List Int), l0.length ≤ maxLen → l0.length * 1 ≤ 140737488351232 → (∀ x ∈ l0, (Lit.int .u8 x).wf = true) → ∃ k, laws_FnOffsetOf.f k l0 = some true
theorem laws_FnOffsetOf.walk (P : laws_FnOffsetOf.Pure) (a0 : Option Addr) (len0 cap0 : Nat) (z0 : List Int) (w : World) (w0 : (a0 = none ∧ len0 = 0 ∧ cap0 = 0 ∧ z0 = []) ∨ ∃ x, a0 = some x ∧ len0 ≤ cap0 ∧ cap0 ≤ maxLen ∧ z0.length = cap0 ∧ (∀ i, i < z0.length → w.cell? (x.add i) = some (.int .u8 (z0.getD i 0))) ∧ ∀ n ∈ z0, (Lit.int .u8 n).wf = true) (y0 : len0 * 1 ≤ 140737488351232) :
  Calls Try.prog 8 #[.slice a0 len0 cap0] w fun e w' => e = .returned (.bool true) ∧ Below w.heap.size w w' := by
 obtain ⟨l0, rfl, hr0, hm0, hw0, hc0⟩ := ReadsInt.ofRowC w0
 obtain ⟨k, h⟩ := P l0 hm0 y0 hw0
 refine (laws_FnOffsetOf.calls k _ _ l0 true w (Kd.C_of_reads (d := (0 : Int)) (h1 := fun _ => rfl) hr0) hc0 h).mono ?_
 rintro e w' ⟨rfl, hd⟩
 exact ⟨rfl, hd⟩

end Go.Proofs.Ytkcpimhohadjkaa.POo
