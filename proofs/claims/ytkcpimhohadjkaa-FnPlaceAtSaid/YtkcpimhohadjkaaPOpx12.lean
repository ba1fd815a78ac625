-- Written by a program of this session (xprint). -- COMPACT
import Derived.Test.YtkcpimhohadjkaaPOpx0
import Derived.Test.YtkcpimhohadjkaaPOpx1
import Derived.Test.YtkcpimhohadjkaaPOpx2
import Derived.Test.YtkcpimhohadjkaaPOpx9
import Derived.Test.YtkcpimhohadjkaaPOpx10
import Derived.Test.YtkcpimhohadjkaaPOpx11
namespace Go.Proofs.Ytkcpimhohadjkaa.POp
open Go.RowKit Go.Proofs.YtkcpimhohadjkaaW.PrintWords Go.Proofs.YtkcpimhohadjkaaW.PrintLast Go.Proofs.YtkcpimhohadjkaaW.PrintMore
attribute [local go_sem] max2_int min2_int max_two min_two max_three min_three max_four min_four   -- for this text's walks alone
set_option linter.unusedVariables false
set_option linter.unusedSimpArgs false

attribute [local go_sem high] eqA50
/-! ### laws_FnPlaceAt: function 9 -/
def laws_FnPlaceAt.j0 : Nat → List (S59) → Int → Bool → Bool → Bool → Int → Int → Int → Int → Option (Bool)
 | 0, _, _, _, _, _, _, _, _, _ => none
 | k + 1, x3, x4, x6, x8, x43, x491000, x491001, x495000, x495001 => if x43 = true then (if (x491000 == x495000 && (x491001 == x495001)) = true then (some (x6 == x8)) else (some false)) else ((impl_OffsetOf.f k x3 x491000 x491001).bind fun bt496 => (if x4 ≥ 0 then ((impl_LayoutText.f k x3).bind fun t498 => (if (x6 == (decide (x4 ≤ (t498.size : Int)))) = true then (if x6 = true then (if bt496.2 = true then (some (bt496.1 == x4)) else (some false)) else (some true)) else (some false))) else (if (x6 == false) = true then (if x6 = true then (if bt496.2 = true then (some (bt496.1 == x4)) else (some false)) else (some true)) else (some false))))
def laws_FnPlaceAt.f (k : Nat) (l0 : List Int) : Option (Bool) := if (l0.length : Int) > 1048576 then (some true) else ((spec_DrawPlaceAt.f k l0).bind fun bt483 => ((impl_PlaceAt.f k bt483.1 bt483.2).bind fun bt487 => ((spec_PlaceAt.f k bt483.1 bt483.2).bind fun bt491 => (if (!(bt487.1 == bt491.1) || (!(bt487.2.1 == bt491.2.1))) = true then (laws_FnPlaceAt.j0 k bt483.1 bt483.2 bt487.2.2 bt491.2.2 true bt487.1 bt487.2.1 bt491.1 bt491.2.1) else (if (bt487.2.2 != bt491.2.2) = true then (laws_FnPlaceAt.j0 k bt483.1 bt483.2 bt487.2.2 bt491.2.2 true bt487.1 bt487.2.1 bt491.1 bt491.2.1) else ((impl_LayoutValid.f k bt483.1).bind fun t495 => (laws_FnPlaceAt.j0 k bt483.1 bt483.2 bt487.2.2 bt491.2.2 (!t495) bt487.1 bt487.2.1 bt491.1 bt491.2.1)))))))
set_option maxHeartbeats 8000000 in
set_option maxRecDepth 100000 in
theorem laws_FnPlaceAt.calls (k : Nat) (A0 : Option Addr) (c0 : Nat) (l0 : List Int) (r : Bool) (w : World) (hr0 : Kd.C (Kd.int .u8) w A0 l0.length l0) (hc0 : l0.length ≤ c0) (h : laws_FnPlaceAt.f k l0 = some r) :
  Calls Try.prog 9 #[.slice A0 l0.length c0] w fun e w' => e = .returned (.bool r) ∧ Below w.heap.size w w' := by
 have hu50 := Try.underlying50
 have HR0 := Aside0.mk hr0
 have HC0 := Aside0.mk hc0
 clear hr0 hc0
 have HB := Aside0.mk (Below.refl w.heap.size w)
 have H : (if (l0.length : Int) > 1048576 then (some true) else ((spec_DrawPlaceAt.f k l0).bind fun bt483 => ((impl_PlaceAt.f k bt483.1 bt483.2).bind fun bt487 => ((spec_PlaceAt.f k bt483.1 bt483.2).bind fun bt491 => (if (!(bt487.1 == bt491.1) || (!(bt487.2.1 == bt491.2.1))) = true then (laws_FnPlaceAt.j0 k bt483.1 bt483.2 bt487.2.2 bt491.2.2 true bt487.1 bt487.2.1 bt491.1 bt491.2.1) else (if (bt487.2.2 != bt491.2.2) = true then (laws_FnPlaceAt.j0 k bt483.1 bt483.2 bt487.2.2 bt491.2.2 true bt487.1 bt487.2.1 bt491.1 bt491.2.1) else ((impl_LayoutValid.f k bt483.1).bind fun t495 => (laws_FnPlaceAt.j0 k bt483.1 bt483.2 bt487.2.2 bt491.2.2 (!t495) bt487.1 bt487.2.1 bt491.1 bt491.2.1)))))))) = some r := h
 clear h
 by_cases c2 : (l0.length : Int) > 1048576
 ·rw [if_pos c2] at H
  have c2b0 : decide (1048576 < (l0.length : Int)) = true := decide_eq_true c2
  have c2b1 : decide (1048576 < l0.length) = true := decide_eq_true (by omega)
  clear c2
  obtain rfl := Option.some.inj H
  go_enter Try.func9, Try.ntmps9
  go_wp2
  go_ret
  exact ⟨by first | rfl | (simp [errW_none, errW_some] <;> rfl) | (simp [*, errW_none, errW_some] <;> rfl), by repeat (first|(with_reducible first|exact HB.out|apply below_alloc|apply pw_below_drewN|apply below_drew1)|exact HB.out)⟩
 ·rw [if_neg c2] at H
  have c2b0 : decide (1048576 < (l0.length : Int)) = false := decide_eq_false c2
  have c2b1 : decide (1048576 < l0.length) = false := decide_eq_false (by omega)
  clear c2
  replace H := Option.bind_eq_some_iff.mp H
  obtain ⟨⟨t483, t484⟩, A30, H⟩ := H
  replace H : ((impl_PlaceAt.f k t483 t484).bind fun bt487 => ((spec_PlaceAt.f k t483 t484).bind fun bt491 => (if (!(bt487.1 == bt491.1) || (!(bt487.2.1 == bt491.2.1))) = true then (laws_FnPlaceAt.j0 k t483 t484 bt487.2.2 bt491.2.2 true bt487.1 bt487.2.1 bt491.1 bt491.2.1) else (if (bt487.2.2 != bt491.2.2) = true then (laws_FnPlaceAt.j0 k t483 t484 bt487.2.2 bt491.2.2 true bt487.1 bt487.2.1 bt491.1 bt491.2.1) else ((impl_LayoutValid.f k t483).bind fun t495 => (laws_FnPlaceAt.j0 k t483 t484 bt487.2.2 bt491.2.2 (!t495) bt487.1 bt487.2.1 bt491.1 bt491.2.1)))))) = some r := H
  have A3 := Aside0.mk A30
  clear A30
  replace H := Option.bind_eq_some_iff.mp H
  obtain ⟨⟨t487, t488, t489⟩, A40, H⟩ := H
  replace H : ((spec_PlaceAt.f k t483 t484).bind fun bt491 => (if (!(t487 == bt491.1) || (!(t488 == bt491.2.1))) = true then (laws_FnPlaceAt.j0 k t483 t484 t489 bt491.2.2 true t487 t488 bt491.1 bt491.2.1) else (if (t489 != bt491.2.2) = true then (laws_FnPlaceAt.j0 k t483 t484 t489 bt491.2.2 true t487 t488 bt491.1 bt491.2.1) else ((impl_LayoutValid.f k t483).bind fun t495 => (laws_FnPlaceAt.j0 k t483 t484 t489 bt491.2.2 (!t495) t487 t488 bt491.1 bt491.2.1))))) = some r := H
  have A4 := Aside0.mk A40
  clear A40
  replace H := Option.bind_eq_some_iff.mp H
  obtain ⟨⟨t491, t492, t493⟩, A50, H⟩ := H
  replace H : (if (!(t487 == t491) || (!(t488 == t492))) = true then (laws_FnPlaceAt.j0 k t483 t484 t489 t493 true t487 t488 t491 t492) else (if (t489 != t493) = true then (laws_FnPlaceAt.j0 k t483 t484 t489 t493 true t487 t488 t491 t492) else ((impl_LayoutValid.f k t483).bind fun t495 => (laws_FnPlaceAt.j0 k t483 t484 t489 t493 (!t495) t487 t488 t491 t492)))) = some r := H
  have A5 := Aside0.mk A50
  clear A50
  have HC6 := Aside0.mk H
  clear H
  go_enter Try.func9, Try.ntmps9
  go_upto_region 6 with (first | ((with_reducible refine gate_callee (f := 36) rfl ?_); refine goesL_ (some 16) rfl rfl Try.func36 aK rfl #[.slice A0 l0.length c0] rfl aL ?_; (with_reducible refine (spec_DrawPlaceAt.calls k _ _ l0 t483 t484 _ ?side1 ?side2 A3.out).mono ?_); (case side1 => repeat (first | exact HR0.out | (with_reducible refine Kd.C_alloc ?_ _) | (with_reducible refine Kd.C_drewN ?_ _) | (with_reducible refine Kd.C_drew ?_))); (case side2 => exact HC0.out); rintro e w7 ⟨v485, rfl, ho0, hb⟩; refine ⟨_, rfl, ?_⟩; have n0_ := Aside0.mk (Kd.R_lower ho0 (below_size aB)); have n1_ := Aside0.mk (below_step aB hb); clear HB; have HO486 := n0_; have HB := n1_; clear n0_ n1_; (try clear hb); (try clear hb2); (try clear hk); (try clear hi); (try clear ho0); obtain ⟨Ao8, co8, eo8⟩ := Kd.R_slice HO486.out; subst eo8) | ((with_reducible refine gate_callee (f := 37) rfl ?_); refine goesL_ (some 22) rfl rfl Try.func37 aK rfl #[.slice Ao8 t483.length co8, .int .i64 t484] rfl aL ?_; (with_reducible refine (impl_PlaceAt.calls k _ _ t483 t484 t487 t488 t489 _ ?side1 ?side2 A4.out).mono ?_); (case side1 => repeat (first | exact (Kd.R_reads' HO486.out).2.2 | (with_reducible refine Kd.C_alloc ?_ _) | (with_reducible refine Kd.C_drewN ?_ _) | (with_reducible refine Kd.C_drew ?_))); (case side2 => exact (Kd.R_reads' HO486.out).2.1); rintro e w9 ⟨rfl, hb⟩; refine ⟨_, rfl, ?_⟩; have n0_ := Aside0.mk (Kd.R_below (aP HO486.out) hb); have n1_ := Aside0.mk (below_step aB hb); clear HO486; clear HB; have HO486 := n0_; have HB := n1_; clear n0_ n1_; (try clear hb); (try clear hb2); (try clear hk); (try clear hi)) | ((with_reducible refine gate_dst (N := 5) rfl ?_); (try (refine gate_guard (by rfl) ?_; dsimp only)); refine box_event ?hg (N := 5) ?hd (cs := #[.int .i64 0, .int .i64 0]) (t := 50) ?hr ?_; (case hd => rfl); (case hg => rfl); (case hr => first | (go_simp; done) | (go_simp; rfl)); intro gb490 hg w10 hbox hb; have n0_ := Aside0.mk (Kd.R_below (aP HO486.out) hb); have n1_ := Aside0.mk (below_step aB hb); have n2_ := Aside0.mk (hbox); have n3_ := Aside0.mk ((by rw [hg]; exact (below_size aB) : w.heap.size ≤ gb490)); have n4_ := Aside0.mk ((by rw [hg]; exact (below_size aB) : w.heap.size ≤ gb490)); clear HO486; clear HB; have HO486 := n0_; have HB := n1_; have BK490 := n2_; have GW490 := n3_; have GE490 := n4_; clear n0_ n1_ n2_ n3_ n4_; clear hb hbox hg; have hcz11_0 : w10.cell? ⟨gb490, 0, none⟩ = some (.int .i64 0) := (blk_cell BK490.out 0).trans rfl; have hcz11_1 : w10.cell? ⟨gb490, 1, none⟩ = some (.int .i64 0) := (blk_cell BK490.out 1).trans rfl; have hfz11_0 := blk_frozen BK490.out 0; have hfz11_1 := blk_frozen BK490.out 1) | ((with_reducible refine gate_callee (f := 38) rfl ?_); refine goesL_ (some 28) rfl rfl Try.func38 aK rfl #[.slice Ao8 t483.length co8, .int .i64 t484] rfl aL ?_; (with_reducible refine (spec_PlaceAt.calls k _ _ t483 t484 t491 t492 t493 _ ?side1 ?side2 A5.out).mono ?_); (case side1 => refine (Kd.R_reads' (e := 59) (base := w.heap.size) (ok := fun k_ => True) (n := t483.length) (c := co8) ?_).2.2; exact (by (with_reducible repeat (first|apply Kd.R_alloc|apply Kd.R_drewN|apply Kd.R_drew)); exact (Kd.R_mono (Kd.R_far (p := ⟨gb490, 1, none⟩) (Kd.R_far (p := ⟨gb490, 0, none⟩) (Kd.R_types HO486.out BK490.out (by decide)) (fun _ hk => hk.2) (.int .i64 t487)) (fun _ hk => hk.2) (.int .i64 t488)) (fun _ h_ => h_.1)))); (case side2 => exact (Kd.R_reads' HO486.out).2.1); rintro e w12 ⟨rfl, hb⟩; refine ⟨_, rfl, ?_⟩; have n0_ := Aside0.mk (Kd.R_below (by (with_reducible repeat (first|apply Kd.R_alloc|apply Kd.R_drewN|apply Kd.R_drew)); exact (Kd.R_mono (Kd.R_far (p := ⟨gb490, 1, none⟩) (Kd.R_far (p := ⟨gb490, 0, none⟩) (Kd.R_types HO486.out BK490.out (by decide)) (fun _ hk => hk.2) (.int .i64 t487)) (fun _ hk => hk.2) (.int .i64 t488)) (fun _ h_ => h_.1))) hb); have n1_ := Aside0.mk (blk_below (g := gb490) (o := .cells #[.int .i64 t487, .int .i64 t488] 50 (0, 0)) (by refine aW ?_; refine blk_put (cs := #[.int .i64 t487, .int .i64 0]) ?_ 1 _ rfl; refine aW ?_; refine blk_put (cs := #[.int .i64 0, .int .i64 0]) ?_ 0 _ rfl; refine aW ?_; exact BK490.out) hb); have n2_ := Aside0.mk (below_step (aB1 GE490.out) hb); clear HO486; clear BK490; clear HB; have HO486 := n0_; have BK490 := n1_; have HB := n2_; clear n0_ n1_ n2_; (try clear hb); (try clear hb2); (try clear hk); (try clear hi)) | ((with_reducible refine gate_dst (N := 7) rfl ?_); (try (refine gate_guard (by rfl) ?_; dsimp only)); refine box_event ?hg (N := 7) ?hd (cs := #[.int .i64 0, .int .i64 0]) (t := 50) ?hr ?_; (case hd => rfl); (case hg => rfl); (case hr => first | (go_simp; done) | (go_simp; rfl)); intro gb494 hg w13 hbox hb; have n0_ := Aside0.mk (Kd.R_below (aP HO486.out) hb); have n1_ := Aside0.mk (blk_below (g := gb490) (o := .cells #[.int .i64 t487, .int .i64 t488] 50 (0, 0)) (aW BK490.out) hb); have n2_ := Aside0.mk (below_step (aB1 GE490.out) hb); have n3_ := Aside0.mk (hbox); have n4_ := Aside0.mk ((by rw [hg]; exact (below_size (aB1 GE490.out)) : w.heap.size ≤ gb494)); have n5_ := Aside0.mk ((by rw [hg]; exact (below_size (aB1 GE490.out)) : w.heap.size ≤ gb494)); have n6_ := Aside0.mk ((by rw [hg]; exact Nat.ne_of_lt (blk_lt (g := gb490) (o := .cells #[.int .i64 t487, .int .i64 t488] 50 (0, 0)) (aW BK490.out)) : gb490 ≠ gb494)); have n7_ := Aside0.mk ((by rw [hg]; exact Nat.ne_of_gt (blk_lt (g := gb490) (o := .cells #[.int .i64 t487, .int .i64 t488] 50 (0, 0)) (aW BK490.out)) : gb494 ≠ gb490)); clear HO486; clear BK490; clear HB; have HO486 := n0_; have BK490 := n1_; have HB := n2_; have BK494 := n3_; have GW494 := n4_; have GE494 := n5_; have NB490_494 := n6_; have NB494_490 := n7_; clear n0_ n1_ n2_ n3_ n4_ n5_ n6_ n7_; clear hb hbox hg; have hnb14 := NB494_490.out; have hnc14 := NB490_494.out; have hcz15_0 : w13.cell? ⟨gb494, 0, none⟩ = some (.int .i64 0) := (blk_cell BK494.out 0).trans rfl; have hcz15_1 : w13.cell? ⟨gb494, 1, none⟩ = some (.int .i64 0) := (blk_cell BK494.out 1).trans rfl; have hfz15_0 := blk_frozen BK494.out 0; have hfz15_1 := blk_frozen BK494.out 1))
  (try simp only [Act.put, List.setIfInBounds_toArray, List.set_cons_zero, List.set_cons_succ])
  go_cut [43] (fun v43 wc => ∃ (kq : Nat) (x43_5 : Bool), v43 = .bool x43_5 ∧ Aside0 (laws_FnPlaceAt.j0 kq t483 t484 t489 t493 x43_5 t487 t488 t491 t492 = some r) ∧ Aside0 (kq ≤ k) ∧ Aside0 (Kd.R k59 59 wc w.heap.size (fun _ => True) (.slice Ao8 t483.length co8) t483) ∧ Aside0 (wc.heap[gb490]? = some (.cells #[.int .i64 t487, .int .i64 t488] 50 (0, 0))) ∧ Aside0 (wc.heap[gb494]? = some (.cells #[.int .i64 t491, .int .i64 t492] 50 (0, 0))) ∧ Aside0 (Below w.heap.size w wc))
  case first =>
   have H := HC6.out
   clear HC6
   by_cases c16 : (!(t487 == t491) || (!(t488 == t492))) = true
   ·rw [if_pos c16] at H
    have c16b0 : (!(t487 == t491) || (!(t488 == t492))) = true := c16
    clear c16
    (first | rw [c16b0] | (simp only [i64_w, i32_w]; rw [c16b0]) | skip)
    have H' := Aside0.mk H
    clear H
    have hnb17 := NB490_494.out
    have hnc17 := NB494_490.out
    have hcz18_0 : w13.cell? ⟨gb490, 0, none⟩ = some (.int .i64 t487) := (blk_cell BK490.out 0).trans rfl
    have hcz18_1 : w13.cell? ⟨gb490, 1, none⟩ = some (.int .i64 t488) := (blk_cell BK490.out 1).trans rfl
    have hfz18_0 := blk_frozen BK490.out 0
    have hfz18_1 := blk_frozen BK490.out 1
    have hcz19_0 : w13.cell? ⟨gb494, 0, none⟩ = some (.int .i64 0) := (blk_cell BK494.out 0).trans rfl
    have hcz19_1 : w13.cell? ⟨gb494, 1, none⟩ = some (.int .i64 0) := (blk_cell BK494.out 1).trans rfl
    have hfz19_0 := blk_frozen BK494.out 0
    have hfz19_1 := blk_frozen BK494.out 1
    go_wp2
    go_meet
    case rel => exact ⟨_, (true), aR, H', ⟨by first | omega | exact Nat.le_refl _⟩, ⟨by (with_reducible repeat (first|apply Kd.R_alloc|apply Kd.R_drewN|apply Kd.R_drew)); exact Kd.R_mono (Kd.R_far (p := ⟨gb494, 1, none⟩) (Kd.R_far (p := ⟨gb494, 0, none⟩) (Kd.R_types HO486.out BK494.out (by decide)) (fun _ hk => hk.2) (.int .i64 t491)) (fun _ hk => hk.2) (.int .i64 t492)) (fun _ hk => trivial)⟩, ⟨by refine aW ?_; refine blk_far ?_ NB490_494.out _; refine aW ?_; refine blk_far ?_ NB490_494.out _; refine aW ?_; exact BK490.out⟩, ⟨by refine aW ?_; refine blk_put (cs := #[.int .i64 t491, .int .i64 0]) ?_ 1 _ rfl; refine aW ?_; refine blk_put (cs := #[.int .i64 0, .int .i64 0]) ?_ 0 _ rfl; refine aW ?_; exact BK494.out⟩, ⟨by repeat (first | (with_reducible first | exact HB.out | apply below_alloc | apply pw_below_drewN | apply below_drew1 | refine below_set ?_ GE490.out | refine below_set ?_ GE494.out) | exact HB.out)⟩⟩
   ·rw [if_neg c16] at H
    have c16b0 : (!(t487 == t491) || (!(t488 == t492))) = false := by simpa using c16
    clear c16
    (first | rw [c16b0] | (simp only [i64_w, i32_w]; rw [c16b0]) | skip)
    by_cases c20 : (t489 != t493) = true
    ·rw [if_pos c20] at H
     have c20b0 : (t489 != t493) = true := c20
     (try (have c20b1 : decide (t489 = t493) = false := by simpa using c20))
     (try (have c20b2 : (t489 == t493) = false := by simpa using c20))
     (try (have c20b3 : ¬ (t489 = t493) := by simpa using c20))
     clear c20
     have H' := Aside0.mk H
     clear H
     have hnb21 := NB490_494.out
     have hnc21 := NB494_490.out
     have hcz22_0 : w13.cell? ⟨gb490, 0, none⟩ = some (.int .i64 t487) := (blk_cell BK490.out 0).trans rfl
     have hcz22_1 : w13.cell? ⟨gb490, 1, none⟩ = some (.int .i64 t488) := (blk_cell BK490.out 1).trans rfl
     have hfz22_0 := blk_frozen BK490.out 0
     have hfz22_1 := blk_frozen BK490.out 1
     have hcz23_0 : w13.cell? ⟨gb494, 0, none⟩ = some (.int .i64 0) := (blk_cell BK494.out 0).trans rfl
     have hcz23_1 : w13.cell? ⟨gb494, 1, none⟩ = some (.int .i64 0) := (blk_cell BK494.out 1).trans rfl
     have hfz23_0 := blk_frozen BK494.out 0
     have hfz23_1 := blk_frozen BK494.out 1
     go_wp2
     go_meet
     case rel => exact ⟨_, (true), aR, H', ⟨by first | omega | exact Nat.le_refl _⟩, ⟨by (with_reducible repeat (first|apply Kd.R_alloc|apply Kd.R_drewN|apply Kd.R_drew)); exact Kd.R_mono (Kd.R_far (p := ⟨gb494, 1, none⟩) (Kd.R_far (p := ⟨gb494, 0, none⟩) (Kd.R_types HO486.out BK494.out (by decide)) (fun _ hk => hk.2) (.int .i64 t491)) (fun _ hk => hk.2) (.int .i64 t492)) (fun _ hk => trivial)⟩, ⟨by refine aW ?_; refine blk_far ?_ NB490_494.out _; refine aW ?_; refine blk_far ?_ NB490_494.out _; refine aW ?_; exact BK490.out⟩, ⟨by refine aW ?_; refine blk_put (cs := #[.int .i64 t491, .int .i64 0]) ?_ 1 _ rfl; refine aW ?_; refine blk_put (cs := #[.int .i64 0, .int .i64 0]) ?_ 0 _ rfl; refine aW ?_; exact BK494.out⟩, ⟨by repeat (first | (with_reducible first | exact HB.out | apply below_alloc | apply pw_below_drewN | apply below_drew1 | refine below_set ?_ GE490.out | refine below_set ?_ GE494.out) | exact HB.out)⟩⟩
    ·rw [if_neg c20] at H
     have c20b0 : (t489 != t493) = false := by simpa using c20
     (try (have c20b1 : decide (t489 = t493) = true := by simpa using c20))
     (try (have c20b2 : (t489 == t493) = true := by simpa using c20))
     clear c20
     replace H := Option.bind_eq_some_iff.mp H
     obtain ⟨t495, A240, H⟩ := H
     replace H : (laws_FnPlaceAt.j0 k t483 t484 t489 t493 (!t495) t487 t488 t491 t492) = some r := H
     have A24 := Aside0.mk A240
     clear A240
     have H' := Aside0.mk H
     clear H
     have hnb25 := NB490_494.out
     have hnc25 := NB494_490.out
     have hcz26_0 : w13.cell? ⟨gb490, 0, none⟩ = some (.int .i64 t487) := (blk_cell BK490.out 0).trans rfl
     have hcz26_1 : w13.cell? ⟨gb490, 1, none⟩ = some (.int .i64 t488) := (blk_cell BK490.out 1).trans rfl
     have hfz26_0 := blk_frozen BK490.out 0
     have hfz26_1 := blk_frozen BK490.out 1
     have hcz27_0 : w13.cell? ⟨gb494, 0, none⟩ = some (.int .i64 0) := (blk_cell BK494.out 0).trans rfl
     have hcz27_1 : w13.cell? ⟨gb494, 1, none⟩ = some (.int .i64 0) := (blk_cell BK494.out 1).trans rfl
     have hfz27_0 := blk_frozen BK494.out 0
     have hfz27_1 := blk_frozen BK494.out 1
     go_wp2_with (first | (go_at_call 34; (with_reducible refine (impl_LayoutValid.calls k _ _ t483 t495 _ ?side1 ?side2 A24.out).mono ?_); (case side1 => refine (Kd.R_reads' (e := 59) (base := w.heap.size) (ok := fun k_ => True) (n := t483.length) (c := co8) ?_).2.2; exact (by (with_reducible repeat (first|apply Kd.R_alloc|apply Kd.R_drewN|apply Kd.R_drew)); exact (Kd.R_mono (Kd.R_far (p := ⟨gb494, 1, none⟩) (Kd.R_far (p := ⟨gb494, 0, none⟩) (Kd.R_types HO486.out BK494.out (by decide)) (fun _ hk => hk.2) (.int .i64 t491)) (fun _ hk => hk.2) (.int .i64 t492)) (fun _ h_ => h_.1)))); (case side2 => exact (Kd.R_reads' HO486.out).2.1); rintro e w28 ⟨rfl, hb⟩; have n0_ := Aside0.mk (Kd.R_below (by (with_reducible repeat (first|apply Kd.R_alloc|apply Kd.R_drewN|apply Kd.R_drew)); exact (Kd.R_mono (Kd.R_far (p := ⟨gb494, 1, none⟩) (Kd.R_far (p := ⟨gb494, 0, none⟩) (Kd.R_types HO486.out BK494.out (by decide)) (fun _ hk => hk.2) (.int .i64 t491)) (fun _ hk => hk.2) (.int .i64 t492)) (fun _ h_ => h_.1))) hb); have n1_ := Aside0.mk (blk_below (g := gb490) (o := .cells #[.int .i64 t487, .int .i64 t488] 50 (0, 0)) (by refine aW ?_; refine blk_far ?_ NB490_494.out _; refine aW ?_; refine blk_far ?_ NB490_494.out _; refine aW ?_; exact BK490.out) hb); have n2_ := Aside0.mk (blk_below (g := gb494) (o := .cells #[.int .i64 t491, .int .i64 t492] 50 (0, 0)) (by refine aW ?_; refine blk_put (cs := #[.int .i64 t491, .int .i64 0]) ?_ 1 _ rfl; refine aW ?_; refine blk_put (cs := #[.int .i64 0, .int .i64 0]) ?_ 0 _ rfl; refine aW ?_; exact BK494.out) hb); have n3_ := Aside0.mk (below_step (aB2 GE490.out GE494.out) hb); clear HO486; clear BK490; clear BK494; clear HB; have HO486 := n0_; have BK490 := n1_; have BK494 := n2_; have HB := n3_; clear n0_ n1_ n2_ n3_; (try clear hb); (try clear hb2); (try clear hk); (try clear hi)))
     go_meet
     case rel => exact ⟨_, (!t495), aR, H', ⟨by first | omega | exact Nat.le_refl _⟩, ⟨by (with_reducible repeat (first|apply Kd.R_alloc|apply Kd.R_drewN|apply Kd.R_drew)); exact HO486.out⟩, ⟨by refine aW ?_; exact BK490.out⟩, ⟨by refine aW ?_; exact BK494.out⟩, ⟨by repeat (first | (with_reducible first | exact HB.out | apply below_alloc | apply pw_below_drewN | apply below_drew1 | refine below_set ?_ GE490.out | refine below_set ?_ GE494.out) | exact HB.out)⟩⟩
  case rest =>
   clear HC6
   try clear c1
   try clear c2
   try clear c2b0
   try clear c2b1
   try clear p2
   try clear c3
   try clear c9
   try clear c14
   try clear c16
   try clear c16b0
   try clear c17
   try clear c20
   try clear c20b0
   try clear c20b1
   try clear c20b2
   try clear c21
   try clear c25
   try clear hcz11_0
   try clear hcz11_1
   try clear hcz15_0
   try clear hcz15_1
   try clear hcz18_0
   try clear hcz18_1
   try clear hcz19_0
   try clear hcz19_1
   try clear hcz22_0
   try clear hcz22_1
   try clear hcz23_0
   try clear hcz23_1
   try clear hcz26_0
   try clear hcz26_1
   try clear hcz27_0
   try clear hcz27_1
   try clear hfz11_0
   try clear hfz11_1
   try clear hfz15_0
   try clear hfz15_1
   try clear hfz18_0
   try clear hfz18_1
   try clear hfz19_0
   try clear hfz19_1
   try clear hfz22_0
   try clear hfz22_1
   try clear hfz23_0
   try clear hfz23_1
   try clear hfz26_0
   try clear hfz26_1
   try clear hfz27_0
   try clear hfz27_1
   obtain ⟨kq, x43_5, rfl, HA, HJ5, HO_3, BK490, BK494, HB⟩ := hcut
   cases kq with
   | zero => exact absurd HA.out (by simp [laws_FnPlaceAt.j0])
   | succ kj5 =>
    have H := HA.out
    clear HA
    simp only [laws_FnPlaceAt.j0] at H
    by_cases c29 : x43_5 = true
    ·subst c29
     have H1 : (if (t487 == t491 && (t488 == t492)) = true then (some (t489 == t493)) else (some false)) = some r := by rw [if_pos rfl] at H; exact H
     clear H
     have H := H1
     clear H1
     by_cases c30 : (t487 == t491 && (t488 == t492)) = true
     ·rw [if_pos c30] at H
      have c30b0 : (t487 == t491 && (t488 == t492)) = true := c30
      (try (have c30b1 : decide (t487 = t491 && (t488 == t492)) = true := by simpa using c30))
      (try (have c30b2 : (t487 == t491 && (t488 == t492)) = true := by simpa using c30))
      clear c30
      obtain rfl := Option.some.inj H
      have hnb31 := NB490_494.out
      have hnc31 := NB494_490.out
      have hcz32_0 : wc.cell? ⟨gb490, 0, none⟩ = some (.int .i64 t487) := (blk_cell BK490.out 0).trans rfl
      have hcz32_1 : wc.cell? ⟨gb490, 1, none⟩ = some (.int .i64 t488) := (blk_cell BK490.out 1).trans rfl
      have hfz32_0 := blk_frozen BK490.out 0
      have hfz32_1 := blk_frozen BK490.out 1
      have hcz33_0 : wc.cell? ⟨gb494, 0, none⟩ = some (.int .i64 t491) := (blk_cell BK494.out 0).trans rfl
      have hcz33_1 : wc.cell? ⟨gb494, 1, none⟩ = some (.int .i64 t492) := (blk_cell BK494.out 1).trans rfl
      have hfz33_0 := blk_frozen BK494.out 0
      have hfz33_1 := blk_frozen BK494.out 1
      go_wp2
      go_ret
      exact ⟨by first | rfl | (simp [errW_none, errW_some] <;> rfl) | (simp [*, errW_none, errW_some] <;> rfl), by repeat (first | (with_reducible first | exact HB.out | apply below_alloc | apply pw_below_drewN | apply below_drew1 | refine below_set ?_ GE490.out | refine below_set ?_ GE494.out) | exact HB.out)⟩
     ·rw [if_neg c30] at H
      have c30b0 : (t487 == t491 && (t488 == t492)) = false := by simpa using c30
      (try (have c30b1 : decide (t487 = t491 && (t488 == t492)) = false := by simpa using c30))
      (try (have c30b2 : (t487 == t491 && (t488 == t492)) = false := by simpa using c30))
      (try (have c30b3 : ¬ (t487 = t491 && (t488 == t492)) := by simpa using c30))
      clear c30
      obtain rfl := Option.some.inj H
      have hnb34 := NB490_494.out
      have hnc34 := NB494_490.out
      have hcz35_0 : wc.cell? ⟨gb490, 0, none⟩ = some (.int .i64 t487) := (blk_cell BK490.out 0).trans rfl
      have hcz35_1 : wc.cell? ⟨gb490, 1, none⟩ = some (.int .i64 t488) := (blk_cell BK490.out 1).trans rfl
      have hfz35_0 := blk_frozen BK490.out 0
      have hfz35_1 := blk_frozen BK490.out 1
      have hcz36_0 : wc.cell? ⟨gb494, 0, none⟩ = some (.int .i64 t491) := (blk_cell BK494.out 0).trans rfl
      have hcz36_1 : wc.cell? ⟨gb494, 1, none⟩ = some (.int .i64 t492) := (blk_cell BK494.out 1).trans rfl
      have hfz36_0 := blk_frozen BK494.out 0
      have hfz36_1 := blk_frozen BK494.out 1
      go_wp2
      go_ret
      exact ⟨by first | rfl | (simp [errW_none, errW_some] <;> rfl) | (simp [*, errW_none, errW_some] <;> rfl), by repeat (first | (with_reducible first | exact HB.out | apply below_alloc | apply pw_below_drewN | apply below_drew1 | refine below_set ?_ GE490.out | refine below_set ?_ GE494.out) | exact HB.out)⟩
    ·replace c29 := Bool.eq_false_iff.mpr c29
     subst c29
     have H1 : ((impl_OffsetOf.f kj5 t483 t487 t488).bind fun bt496 => (if t484 ≥ 0 then ((impl_LayoutText.f kj5 t483).bind fun t498 => (if (t489 == (decide (t484 ≤ (t498.size : Int)))) = true then (if t489 = true then (if bt496.2 = true then (some (bt496.1 == t484)) else (some false)) else (some true)) else (some false))) else (if (t489 == false) = true then (if t489 = true then (if bt496.2 = true then (some (bt496.1 == t484)) else (some false)) else (some true)) else (some false)))) = some r := by rw [if_neg (show ¬ (false = true) by decide)] at H; exact H
     clear H
     have H := H1
     clear H1
     replace H := Option.bind_eq_some_iff.mp H
     obtain ⟨⟨t496, t497⟩, A370, H⟩ := H
     replace H : (if t484 ≥ 0 then ((impl_LayoutText.f kj5 t483).bind fun t498 => (if (t489 == (decide (t484 ≤ (t498.size : Int)))) = true then (if t489 = true then (if t497 = true then (some (t496 == t484)) else (some false)) else (some true)) else (some false))) else (if (t489 == false) = true then (if t489 = true then (if t497 = true then (some (t496 == t484)) else (some false)) else (some true)) else (some false))) = some r := H
     have A37 := Aside0.mk A370
     clear A370
     by_cases c38 : t484 ≥ 0
     ·rw [if_pos c38] at H
      have c38b0 : decide (0 ≤ t484) = true := decide_eq_true c38
      clear c38
      replace H := Option.bind_eq_some_iff.mp H
      obtain ⟨t498, A390, H⟩ := H
      replace H : (if (t489 == (decide (t484 ≤ (t498.size : Int)))) = true then (if t489 = true then (if t497 = true then (some (t496 == t484)) else (some false)) else (some true)) else (some false)) = some r := H
      have A39 := Aside0.mk A390
      clear A390
      by_cases c40 : (t489 == (decide (t484 ≤ (t498.size : Int)))) = true
      ·rw [if_pos c40] at H
       have c40b0 : (t489 == (decide (t484 ≤ (t498.size : Int)))) = true := c40
       (try (have c40b1 : decide (t489 = (decide (t484 ≤ (t498.size : Int)))) = true := by simpa using c40))
       (try (have c40b2 : (t489 == (decide (t484 ≤ (t498.size : Int)))) = true := by simpa using c40))
       clear c40
       by_cases c41 : t489 = true
       ·subst c41
        have H1 : (if t497 = true then (some (t496 == t484)) else (some false)) = some r := by rw [if_pos rfl] at H; exact H
        clear H
        have H := H1
        clear H1
        by_cases c42 : t497 = true
        ·subst c42
         have H1 : (some (t496 == t484)) = some r := by rw [if_pos rfl] at H; exact H
         clear H
         have H := H1
         clear H1
         obtain rfl := Option.some.inj H
         have hnb43 := NB490_494.out
         have hnc43 := NB494_490.out
         have hcz44_0 : wc.cell? ⟨gb490, 0, none⟩ = some (.int .i64 t487) := (blk_cell BK490.out 0).trans rfl
         have hcz44_1 : wc.cell? ⟨gb490, 1, none⟩ = some (.int .i64 t488) := (blk_cell BK490.out 1).trans rfl
         have hfz44_0 := blk_frozen BK490.out 0
         have hfz44_1 := blk_frozen BK490.out 1
         go_wp2_with (first | ((with_reducible refine gate_callee (f := 41) rfl ?_); refine goesL_ (some 55) rfl rfl Try.func41 aK rfl #[.slice Ao8 t483.length co8, .agg #[.int .i64 t487, .int .i64 t488]] rfl aL ?_; (with_reducible refine (impl_OffsetOf.calls kj5 _ _ t483 t487 t488 t496 true _ ?side1 ?side2 A37.out).mono ?_); (case side1 => repeat (first | exact (Kd.R_reads' HO_3.out).2.2 | (with_reducible refine Kd.C_alloc ?_ _) | (with_reducible refine Kd.C_drewN ?_ _) | (with_reducible refine Kd.C_drew ?_))); (case side2 => exact (Kd.R_reads' HO_3.out).2.1); rintro e w45 ⟨rfl, hb⟩; refine ⟨_, rfl, ?_⟩; have n0_ := Aside0.mk (Kd.R_below (aP HO_3.out) hb); have n1_ := Aside0.mk (blk_below (g := gb490) (o := .cells #[.int .i64 t487, .int .i64 t488] 50 (0, 0)) (aW BK490.out) hb); have n2_ := Aside0.mk (blk_below (g := gb494) (o := .cells #[.int .i64 t491, .int .i64 t492] 50 (0, 0)) (aW BK494.out) hb); have n3_ := Aside0.mk (below_step (aB2 GE490.out GE494.out) hb); clear HO_3; clear BK490; clear BK494; clear HB; have HO_3 := n0_; have BK490 := n1_; have BK494 := n2_; have HB := n3_; clear n0_ n1_ n2_ n3_; (try clear hb); (try clear hb2); (try clear hk); (try clear hi)) | (go_at_call 39; (with_reducible refine (impl_LayoutText.calls kj5 _ _ t483 t498 _ ?side1 ?side2 A39.out).mono ?_); (case side1 => repeat (first | exact (Kd.R_reads' HO_3.out).2.2 | (with_reducible refine Kd.C_alloc ?_ _) | (with_reducible refine Kd.C_drewN ?_ _) | (with_reducible refine Kd.C_drew ?_))); (case side2 => exact (Kd.R_reads' HO_3.out).2.1); rintro e w46 ⟨rfl, hb⟩; have n0_ := Aside0.mk (Kd.R_below (aP HO_3.out) hb); have n1_ := Aside0.mk (blk_below (g := gb490) (o := .cells #[.int .i64 t487, .int .i64 t488] 50 (0, 0)) (aW BK490.out) hb); have n2_ := Aside0.mk (blk_below (g := gb494) (o := .cells #[.int .i64 t491, .int .i64 t492] 50 (0, 0)) (aW BK494.out) hb); have n3_ := Aside0.mk (below_step (aB2 GE490.out GE494.out) hb); clear HO_3; clear BK490; clear BK494; clear HB; have HO_3 := n0_; have BK490 := n1_; have BK494 := n2_; have HB := n3_; clear n0_ n1_ n2_ n3_; (try clear hb); (try clear hb2); (try clear hk); (try clear hi)))
         go_ret
         exact ⟨by first | rfl | (simp [errW_none, errW_some] <;> rfl) | (simp [*, errW_none, errW_some] <;> rfl), by repeat (first | (with_reducible first | exact HB.out | apply below_alloc | apply pw_below_drewN | apply below_drew1 | refine below_set ?_ GE490.out | refine below_set ?_ GE494.out) | exact HB.out)⟩
        ·replace c42 := Bool.eq_false_iff.mpr c42
         subst c42
         have H1 : (some false) = some r := by rw [if_neg (show ¬ (false = true) by decide)] at H; exact H
         clear H
         have H := H1
         clear H1
         obtain rfl := Option.some.inj H
         have hnb47 := NB490_494.out
         have hnc47 := NB494_490.out
         have hcz48_0 : wc.cell? ⟨gb490, 0, none⟩ = some (.int .i64 t487) := (blk_cell BK490.out 0).trans rfl
         have hcz48_1 : wc.cell? ⟨gb490, 1, none⟩ = some (.int .i64 t488) := (blk_cell BK490.out 1).trans rfl
         have hfz48_0 := blk_frozen BK490.out 0
         have hfz48_1 := blk_frozen BK490.out 1
         go_wp2_with (first | ((with_reducible refine gate_callee (f := 41) rfl ?_); refine goesL_ (some 55) rfl rfl Try.func41 aK rfl #[.slice Ao8 t483.length co8, .agg #[.int .i64 t487, .int .i64 t488]] rfl aL ?_; (with_reducible refine (impl_OffsetOf.calls kj5 _ _ t483 t487 t488 t496 false _ ?side1 ?side2 A37.out).mono ?_); (case side1 => repeat (first | exact (Kd.R_reads' HO_3.out).2.2 | (with_reducible refine Kd.C_alloc ?_ _) | (with_reducible refine Kd.C_drewN ?_ _) | (with_reducible refine Kd.C_drew ?_))); (case side2 => exact (Kd.R_reads' HO_3.out).2.1); rintro e w49 ⟨rfl, hb⟩; refine ⟨_, rfl, ?_⟩; have n0_ := Aside0.mk (Kd.R_below (aP HO_3.out) hb); have n1_ := Aside0.mk (blk_below (g := gb490) (o := .cells #[.int .i64 t487, .int .i64 t488] 50 (0, 0)) (aW BK490.out) hb); have n2_ := Aside0.mk (blk_below (g := gb494) (o := .cells #[.int .i64 t491, .int .i64 t492] 50 (0, 0)) (aW BK494.out) hb); have n3_ := Aside0.mk (below_step (aB2 GE490.out GE494.out) hb); clear HO_3; clear BK490; clear BK494; clear HB; have HO_3 := n0_; have BK490 := n1_; have BK494 := n2_; have HB := n3_; clear n0_ n1_ n2_ n3_; (try clear hb); (try clear hb2); (try clear hk); (try clear hi)) | (go_at_call 39; (with_reducible refine (impl_LayoutText.calls kj5 _ _ t483 t498 _ ?side1 ?side2 A39.out).mono ?_); (case side1 => repeat (first | exact (Kd.R_reads' HO_3.out).2.2 | (with_reducible refine Kd.C_alloc ?_ _) | (with_reducible refine Kd.C_drewN ?_ _) | (with_reducible refine Kd.C_drew ?_))); (case side2 => exact (Kd.R_reads' HO_3.out).2.1); rintro e w50 ⟨rfl, hb⟩; have n0_ := Aside0.mk (Kd.R_below (aP HO_3.out) hb); have n1_ := Aside0.mk (blk_below (g := gb490) (o := .cells #[.int .i64 t487, .int .i64 t488] 50 (0, 0)) (aW BK490.out) hb); have n2_ := Aside0.mk (blk_below (g := gb494) (o := .cells #[.int .i64 t491, .int .i64 t492] 50 (0, 0)) (aW BK494.out) hb); have n3_ := Aside0.mk (below_step (aB2 GE490.out GE494.out) hb); clear HO_3; clear BK490; clear BK494; clear HB; have HO_3 := n0_; have BK490 := n1_; have BK494 := n2_; have HB := n3_; clear n0_ n1_ n2_ n3_; (try clear hb); (try clear hb2); (try clear hk); (try clear hi)))
         go_ret
         exact ⟨by first | rfl | (simp [errW_none, errW_some] <;> rfl) | (simp [*, errW_none, errW_some] <;> rfl), by repeat (first | (with_reducible first | exact HB.out | apply below_alloc | apply pw_below_drewN | apply below_drew1 | refine below_set ?_ GE490.out | refine below_set ?_ GE494.out) | exact HB.out)⟩
       ·replace c41 := Bool.eq_false_iff.mpr c41
        subst c41
        have H1 : (some true) = some r := by rw [if_neg (show ¬ (false = true) by decide)] at H; exact H
        clear H
        have H := H1
        clear H1
        obtain rfl := Option.some.inj H
        have hnb51 := NB490_494.out
        have hnc51 := NB494_490.out
        have hcz52_0 : wc.cell? ⟨gb490, 0, none⟩ = some (.int .i64 t487) := (blk_cell BK490.out 0).trans rfl
        have hcz52_1 : wc.cell? ⟨gb490, 1, none⟩ = some (.int .i64 t488) := (blk_cell BK490.out 1).trans rfl
        have hfz52_0 := blk_frozen BK490.out 0
        have hfz52_1 := blk_frozen BK490.out 1
        go_wp2_with (first | ((with_reducible refine gate_callee (f := 41) rfl ?_); refine goesL_ (some 55) rfl rfl Try.func41 aK rfl #[.slice Ao8 t483.length co8, .agg #[.int .i64 t487, .int .i64 t488]] rfl aL ?_; (with_reducible refine (impl_OffsetOf.calls kj5 _ _ t483 t487 t488 t496 t497 _ ?side1 ?side2 A37.out).mono ?_); (case side1 => repeat (first | exact (Kd.R_reads' HO_3.out).2.2 | (with_reducible refine Kd.C_alloc ?_ _) | (with_reducible refine Kd.C_drewN ?_ _) | (with_reducible refine Kd.C_drew ?_))); (case side2 => exact (Kd.R_reads' HO_3.out).2.1); rintro e w53 ⟨rfl, hb⟩; refine ⟨_, rfl, ?_⟩; have n0_ := Aside0.mk (Kd.R_below (aP HO_3.out) hb); have n1_ := Aside0.mk (blk_below (g := gb490) (o := .cells #[.int .i64 t487, .int .i64 t488] 50 (0, 0)) (aW BK490.out) hb); have n2_ := Aside0.mk (blk_below (g := gb494) (o := .cells #[.int .i64 t491, .int .i64 t492] 50 (0, 0)) (aW BK494.out) hb); have n3_ := Aside0.mk (below_step (aB2 GE490.out GE494.out) hb); clear HO_3; clear BK490; clear BK494; clear HB; have HO_3 := n0_; have BK490 := n1_; have BK494 := n2_; have HB := n3_; clear n0_ n1_ n2_ n3_; (try clear hb); (try clear hb2); (try clear hk); (try clear hi)) | (go_at_call 39; (with_reducible refine (impl_LayoutText.calls kj5 _ _ t483 t498 _ ?side1 ?side2 A39.out).mono ?_); (case side1 => repeat (first | exact (Kd.R_reads' HO_3.out).2.2 | (with_reducible refine Kd.C_alloc ?_ _) | (with_reducible refine Kd.C_drewN ?_ _) | (with_reducible refine Kd.C_drew ?_))); (case side2 => exact (Kd.R_reads' HO_3.out).2.1); rintro e w54 ⟨rfl, hb⟩; have n0_ := Aside0.mk (Kd.R_below (aP HO_3.out) hb); have n1_ := Aside0.mk (blk_below (g := gb490) (o := .cells #[.int .i64 t487, .int .i64 t488] 50 (0, 0)) (aW BK490.out) hb); have n2_ := Aside0.mk (blk_below (g := gb494) (o := .cells #[.int .i64 t491, .int .i64 t492] 50 (0, 0)) (aW BK494.out) hb); have n3_ := Aside0.mk (below_step (aB2 GE490.out GE494.out) hb); clear HO_3; clear BK490; clear BK494; clear HB; have HO_3 := n0_; have BK490 := n1_; have BK494 := n2_; have HB := n3_; clear n0_ n1_ n2_ n3_; (try clear hb); (try clear hb2); (try clear hk); (try clear hi)))
        go_ret
        exact ⟨by first | rfl | (simp [errW_none, errW_some] <;> rfl) | (simp [*, errW_none, errW_some] <;> rfl), by repeat (first | (with_reducible first | exact HB.out | apply below_alloc | apply pw_below_drewN | apply below_drew1 | refine below_set ?_ GE490.out | refine below_set ?_ GE494.out) | exact HB.out)⟩
      ·rw [if_neg c40] at H
       have c40b0 : (t489 == (decide (t484 ≤ (t498.size : Int)))) = false := by simpa using c40
       (try (have c40b1 : decide (t489 = (decide (t484 ≤ (t498.size : Int)))) = false := by simpa using c40))
       (try (have c40b2 : (t489 == (decide (t484 ≤ (t498.size : Int)))) = false := by simpa using c40))
       (try (have c40b3 : ¬ (t489 = (decide (t484 ≤ (t498.size : Int)))) := by simpa using c40))
       clear c40
       obtain rfl := Option.some.inj H
       have hnb55 := NB490_494.out
       have hnc55 := NB494_490.out
       have hcz56_0 : wc.cell? ⟨gb490, 0, none⟩ = some (.int .i64 t487) := (blk_cell BK490.out 0).trans rfl
       have hcz56_1 : wc.cell? ⟨gb490, 1, none⟩ = some (.int .i64 t488) := (blk_cell BK490.out 1).trans rfl
       have hfz56_0 := blk_frozen BK490.out 0
       have hfz56_1 := blk_frozen BK490.out 1
       go_wp2_with (first | ((with_reducible refine gate_callee (f := 41) rfl ?_); refine goesL_ (some 55) rfl rfl Try.func41 aK rfl #[.slice Ao8 t483.length co8, .agg #[.int .i64 t487, .int .i64 t488]] rfl aL ?_; (with_reducible refine (impl_OffsetOf.calls kj5 _ _ t483 t487 t488 t496 t497 _ ?side1 ?side2 A37.out).mono ?_); (case side1 => repeat (first | exact (Kd.R_reads' HO_3.out).2.2 | (with_reducible refine Kd.C_alloc ?_ _) | (with_reducible refine Kd.C_drewN ?_ _) | (with_reducible refine Kd.C_drew ?_))); (case side2 => exact (Kd.R_reads' HO_3.out).2.1); rintro e w57 ⟨rfl, hb⟩; refine ⟨_, rfl, ?_⟩; have n0_ := Aside0.mk (Kd.R_below (aP HO_3.out) hb); have n1_ := Aside0.mk (blk_below (g := gb490) (o := .cells #[.int .i64 t487, .int .i64 t488] 50 (0, 0)) (aW BK490.out) hb); have n2_ := Aside0.mk (blk_below (g := gb494) (o := .cells #[.int .i64 t491, .int .i64 t492] 50 (0, 0)) (aW BK494.out) hb); have n3_ := Aside0.mk (below_step (aB2 GE490.out GE494.out) hb); clear HO_3; clear BK490; clear BK494; clear HB; have HO_3 := n0_; have BK490 := n1_; have BK494 := n2_; have HB := n3_; clear n0_ n1_ n2_ n3_; (try clear hb); (try clear hb2); (try clear hk); (try clear hi)) | (go_at_call 39; (with_reducible refine (impl_LayoutText.calls kj5 _ _ t483 t498 _ ?side1 ?side2 A39.out).mono ?_); (case side1 => repeat (first | exact (Kd.R_reads' HO_3.out).2.2 | (with_reducible refine Kd.C_alloc ?_ _) | (with_reducible refine Kd.C_drewN ?_ _) | (with_reducible refine Kd.C_drew ?_))); (case side2 => exact (Kd.R_reads' HO_3.out).2.1); rintro e w58 ⟨rfl, hb⟩; have n0_ := Aside0.mk (Kd.R_below (aP HO_3.out) hb); have n1_ := Aside0.mk (blk_below (g := gb490) (o := .cells #[.int .i64 t487, .int .i64 t488] 50 (0, 0)) (aW BK490.out) hb); have n2_ := Aside0.mk (blk_below (g := gb494) (o := .cells #[.int .i64 t491, .int .i64 t492] 50 (0, 0)) (aW BK494.out) hb); have n3_ := Aside0.mk (below_step (aB2 GE490.out GE494.out) hb); clear HO_3; clear BK490; clear BK494; clear HB; have HO_3 := n0_; have BK490 := n1_; have BK494 := n2_; have HB := n3_; clear n0_ n1_ n2_ n3_; (try clear hb); (try clear hb2); (try clear hk); (try clear hi)))
       go_ret
       exact ⟨by first | rfl | (simp [errW_none, errW_some] <;> rfl) | (simp [*, errW_none, errW_some] <;> rfl), by repeat (first | (with_reducible first | exact HB.out | apply below_alloc | apply pw_below_drewN | apply below_drew1 | refine below_set ?_ GE490.out | refine below_set ?_ GE494.out) | exact HB.out)⟩
     ·rw [if_neg c38] at H
      have c38b0 : decide (0 ≤ t484) = false := decide_eq_false c38
      clear c38
      by_cases c59 : (t489 == false) = true
      ·rw [if_pos c59] at H
       have c59b0 : (t489 == false) = true := c59
       (try (have c59b1 : decide (t489 = false) = true := by simpa using c59))
       (try (have c59b2 : (t489 == false) = true := by simpa using c59))
       clear c59
       by_cases c60 : t489 = true
       ·subst c60
        have H1 : (if t497 = true then (some (t496 == t484)) else (some false)) = some r := by rw [if_pos rfl] at H; exact H
        clear H
        have H := H1
        clear H1
        by_cases c61 : t497 = true
        ·subst c61
         have H1 : (some (t496 == t484)) = some r := by rw [if_pos rfl] at H; exact H
         clear H
         have H := H1
         clear H1
         obtain rfl := Option.some.inj H
         have hnb62 := NB490_494.out
         have hnc62 := NB494_490.out
         have hcz63_0 : wc.cell? ⟨gb490, 0, none⟩ = some (.int .i64 t487) := (blk_cell BK490.out 0).trans rfl
         have hcz63_1 : wc.cell? ⟨gb490, 1, none⟩ = some (.int .i64 t488) := (blk_cell BK490.out 1).trans rfl
         have hfz63_0 := blk_frozen BK490.out 0
         have hfz63_1 := blk_frozen BK490.out 1
         go_wp2_with (first | ((with_reducible refine gate_callee (f := 41) rfl ?_); refine goesL_ (some 55) rfl rfl Try.func41 aK rfl #[.slice Ao8 t483.length co8, .agg #[.int .i64 t487, .int .i64 t488]] rfl aL ?_; (with_reducible refine (impl_OffsetOf.calls kj5 _ _ t483 t487 t488 t496 true _ ?side1 ?side2 A37.out).mono ?_); (case side1 => repeat (first | exact (Kd.R_reads' HO_3.out).2.2 | (with_reducible refine Kd.C_alloc ?_ _) | (with_reducible refine Kd.C_drewN ?_ _) | (with_reducible refine Kd.C_drew ?_))); (case side2 => exact (Kd.R_reads' HO_3.out).2.1); rintro e w64 ⟨rfl, hb⟩; refine ⟨_, rfl, ?_⟩; have n0_ := Aside0.mk (Kd.R_below (aP HO_3.out) hb); have n1_ := Aside0.mk (blk_below (g := gb490) (o := .cells #[.int .i64 t487, .int .i64 t488] 50 (0, 0)) (aW BK490.out) hb); have n2_ := Aside0.mk (blk_below (g := gb494) (o := .cells #[.int .i64 t491, .int .i64 t492] 50 (0, 0)) (aW BK494.out) hb); have n3_ := Aside0.mk (below_step (aB2 GE490.out GE494.out) hb); clear HO_3; clear BK490; clear BK494; clear HB; have HO_3 := n0_; have BK490 := n1_; have BK494 := n2_; have HB := n3_; clear n0_ n1_ n2_ n3_; (try clear hb); (try clear hb2); (try clear hk); (try clear hi)))
         go_ret
         exact ⟨by first | rfl | (simp [errW_none, errW_some] <;> rfl) | (simp [*, errW_none, errW_some] <;> rfl), by repeat (first | (with_reducible first | exact HB.out | apply below_alloc | apply pw_below_drewN | apply below_drew1 | refine below_set ?_ GE490.out | refine below_set ?_ GE494.out) | exact HB.out)⟩
        ·replace c61 := Bool.eq_false_iff.mpr c61
         subst c61
         have H1 : (some false) = some r := by rw [if_neg (show ¬ (false = true) by decide)] at H; exact H
         clear H
         have H := H1
         clear H1
         obtain rfl := Option.some.inj H
         have hnb65 := NB490_494.out
         have hnc65 := NB494_490.out
         have hcz66_0 : wc.cell? ⟨gb490, 0, none⟩ = some (.int .i64 t487) := (blk_cell BK490.out 0).trans rfl
         have hcz66_1 : wc.cell? ⟨gb490, 1, none⟩ = some (.int .i64 t488) := (blk_cell BK490.out 1).trans rfl
         have hfz66_0 := blk_frozen BK490.out 0
         have hfz66_1 := blk_frozen BK490.out 1
         go_wp2_with (first | ((with_reducible refine gate_callee (f := 41) rfl ?_); refine goesL_ (some 55) rfl rfl Try.func41 aK rfl #[.slice Ao8 t483.length co8, .agg #[.int .i64 t487, .int .i64 t488]] rfl aL ?_; (with_reducible refine (impl_OffsetOf.calls kj5 _ _ t483 t487 t488 t496 false _ ?side1 ?side2 A37.out).mono ?_); (case side1 => repeat (first | exact (Kd.R_reads' HO_3.out).2.2 | (with_reducible refine Kd.C_alloc ?_ _) | (with_reducible refine Kd.C_drewN ?_ _) | (with_reducible refine Kd.C_drew ?_))); (case side2 => exact (Kd.R_reads' HO_3.out).2.1); rintro e w67 ⟨rfl, hb⟩; refine ⟨_, rfl, ?_⟩; have n0_ := Aside0.mk (Kd.R_below (aP HO_3.out) hb); have n1_ := Aside0.mk (blk_below (g := gb490) (o := .cells #[.int .i64 t487, .int .i64 t488] 50 (0, 0)) (aW BK490.out) hb); have n2_ := Aside0.mk (blk_below (g := gb494) (o := .cells #[.int .i64 t491, .int .i64 t492] 50 (0, 0)) (aW BK494.out) hb); have n3_ := Aside0.mk (below_step (aB2 GE490.out GE494.out) hb); clear HO_3; clear BK490; clear BK494; clear HB; have HO_3 := n0_; have BK490 := n1_; have BK494 := n2_; have HB := n3_; clear n0_ n1_ n2_ n3_; (try clear hb); (try clear hb2); (try clear hk); (try clear hi)))
         go_ret
         exact ⟨by first | rfl | (simp [errW_none, errW_some] <;> rfl) | (simp [*, errW_none, errW_some] <;> rfl), by repeat (first | (with_reducible first | exact HB.out | apply below_alloc | apply pw_below_drewN | apply below_drew1 | refine below_set ?_ GE490.out | refine below_set ?_ GE494.out) | exact HB.out)⟩
       ·replace c60 := Bool.eq_false_iff.mpr c60
        subst c60
        have H1 : (some true) = some r := by rw [if_neg (show ¬ (false = true) by decide)] at H; exact H
        clear H
        have H := H1
        clear H1
        obtain rfl := Option.some.inj H
        have hnb68 := NB490_494.out
        have hnc68 := NB494_490.out
        have hcz69_0 : wc.cell? ⟨gb490, 0, none⟩ = some (.int .i64 t487) := (blk_cell BK490.out 0).trans rfl
        have hcz69_1 : wc.cell? ⟨gb490, 1, none⟩ = some (.int .i64 t488) := (blk_cell BK490.out 1).trans rfl
        have hfz69_0 := blk_frozen BK490.out 0
        have hfz69_1 := blk_frozen BK490.out 1
        go_wp2_with (first | ((with_reducible refine gate_callee (f := 41) rfl ?_); refine goesL_ (some 55) rfl rfl Try.func41 aK rfl #[.slice Ao8 t483.length co8, .agg #[.int .i64 t487, .int .i64 t488]] rfl aL ?_; (with_reducible refine (impl_OffsetOf.calls kj5 _ _ t483 t487 t488 t496 t497 _ ?side1 ?side2 A37.out).mono ?_); (case side1 => repeat (first | exact (Kd.R_reads' HO_3.out).2.2 | (with_reducible refine Kd.C_alloc ?_ _) | (with_reducible refine Kd.C_drewN ?_ _) | (with_reducible refine Kd.C_drew ?_))); (case side2 => exact (Kd.R_reads' HO_3.out).2.1); rintro e w70 ⟨rfl, hb⟩; refine ⟨_, rfl, ?_⟩; have n0_ := Aside0.mk (Kd.R_below (aP HO_3.out) hb); have n1_ := Aside0.mk (blk_below (g := gb490) (o := .cells #[.int .i64 t487, .int .i64 t488] 50 (0, 0)) (aW BK490.out) hb); have n2_ := Aside0.mk (blk_below (g := gb494) (o := .cells #[.int .i64 t491, .int .i64 t492] 50 (0, 0)) (aW BK494.out) hb); have n3_ := Aside0.mk (below_step (aB2 GE490.out GE494.out) hb); clear HO_3; clear BK490; clear BK494; clear HB; have HO_3 := n0_; have BK490 := n1_; have BK494 := n2_; have HB := n3_; clear n0_ n1_ n2_ n3_; (try clear hb); (try clear hb2); (try clear hk); (try clear hi)))
        go_ret
        exact ⟨by first | rfl | (simp [errW_none, errW_some] <;> rfl) | (simp [*, errW_none, errW_some] <;> rfl), by repeat (first | (with_reducible first | exact HB.out | apply below_alloc | apply pw_below_drewN | apply below_drew1 | refine below_set ?_ GE490.out | refine below_set ?_ GE494.out) | exact HB.out)⟩
      ·rw [if_neg c59] at H
       have c59b0 : (t489 == false) = false := by simpa using c59
       (try (have c59b1 : decide (t489 = false) = false := by simpa using c59))
       (try (have c59b2 : (t489 == false) = false := by simpa using c59))
       (try (have c59b3 : ¬ (t489 = false) := by simpa using c59))
       clear c59
       obtain rfl := Option.some.inj H
       have hnb71 := NB490_494.out
       have hnc71 := NB494_490.out
       have hcz72_0 : wc.cell? ⟨gb490, 0, none⟩ = some (.int .i64 t487) := (blk_cell BK490.out 0).trans rfl
       have hcz72_1 : wc.cell? ⟨gb490, 1, none⟩ = some (.int .i64 t488) := (blk_cell BK490.out 1).trans rfl
       have hfz72_0 := blk_frozen BK490.out 0
       have hfz72_1 := blk_frozen BK490.out 1
       go_wp2_with (first | ((with_reducible refine gate_callee (f := 41) rfl ?_); refine goesL_ (some 55) rfl rfl Try.func41 aK rfl #[.slice Ao8 t483.length co8, .agg #[.int .i64 t487, .int .i64 t488]] rfl aL ?_; (with_reducible refine (impl_OffsetOf.calls kj5 _ _ t483 t487 t488 t496 t497 _ ?side1 ?side2 A37.out).mono ?_); (case side1 => repeat (first | exact (Kd.R_reads' HO_3.out).2.2 | (with_reducible refine Kd.C_alloc ?_ _) | (with_reducible refine Kd.C_drewN ?_ _) | (with_reducible refine Kd.C_drew ?_))); (case side2 => exact (Kd.R_reads' HO_3.out).2.1); rintro e w73 ⟨rfl, hb⟩; refine ⟨_, rfl, ?_⟩; have n0_ := Aside0.mk (Kd.R_below (aP HO_3.out) hb); have n1_ := Aside0.mk (blk_below (g := gb490) (o := .cells #[.int .i64 t487, .int .i64 t488] 50 (0, 0)) (aW BK490.out) hb); have n2_ := Aside0.mk (blk_below (g := gb494) (o := .cells #[.int .i64 t491, .int .i64 t492] 50 (0, 0)) (aW BK494.out) hb); have n3_ := Aside0.mk (below_step (aB2 GE490.out GE494.out) hb); clear HO_3; clear BK490; clear BK494; clear HB; have HO_3 := n0_; have BK490 := n1_; have BK494 := n2_; have HB := n3_; clear n0_ n1_ n2_ n3_; (try clear hb); (try clear hb2); (try clear hk); (try clear hi)))
       go_ret
       exact ⟨by first | rfl | (simp [errW_none, errW_some] <;> rfl) | (simp [*, errW_none, errW_some] <;> rfl), by repeat (first | (with_reducible first | exact HB.out | apply below_alloc | apply pw_below_drewN | apply below_drew1 | refine below_set ?_ GE490.out | refine below_set ?_ GE494.out) | exact HB.out)⟩

/-- THE ONE PURE STATEMENT of laws_FnPlaceAt: yours. -/
def laws_FnPlaceAt.Pure : Prop := ∀ (l0 : List Int), l0.length ≤ maxLen → l0.length * 1 ≤ 140737488351232 → (∀ x ∈ l0, (Lit.int .u8 x).wf = true) → ∃ k, laws_FnPlaceAt.f k l0 = some true
theorem laws_FnPlaceAt.walk (P : laws_FnPlaceAt.Pure) (a0 : Option Addr) (len0 cap0 : Nat) (z0 : List Int) (w : World) (w0 : (a0 = none ∧ len0 = 0 ∧ cap0 = 0 ∧ z0 = []) ∨ ∃ x, a0 = some x ∧ len0 ≤ cap0 ∧ cap0 ≤ maxLen ∧ z0.length = cap0 ∧ (∀ i, i < z0.length → w.cell? (x.add i) = some (.int .u8 (z0.getD i 0))) ∧ ∀ n ∈ z0, (Lit.int .u8 n).wf = true) (y0 : len0 * 1 ≤ 140737488351232) :
  Calls Try.prog 9 #[.slice a0 len0 cap0] w fun e w' => e = .returned (.bool true) ∧ Below w.heap.size w w' := by
 obtain ⟨l0, rfl, hr0, hm0, hw0, hc0⟩ := ReadsInt.ofRowC w0
 obtain ⟨k, h⟩ := P l0 hm0 y0 hw0
 refine (laws_FnPlaceAt.calls k _ _ l0 true w (Kd.C_of_reads (d := (0 : Int)) (h1 := fun _ => rfl) hr0) hc0 h).mono ?_
 rintro e w' ⟨rfl, hd⟩
 exact ⟨rfl, hd⟩

end Go.Proofs.Ytkcpimhohadjkaa.POp
