-- Written by a program of this session (xprint). -- COMPACT
import Derived.Test.YtkcpimhohadjkaaPPex0
import Derived.Test.YtkcpimhohadjkaaPPex3
namespace Go.Proofs.Ytkcpimhohadjkaa.PPe
open Go.RowKit Go.Proofs.YtkcpimhohadjkaaW.PrintWords Go.Proofs.YtkcpimhohadjkaaW.PrintLast Go.Proofs.YtkcpimhohadjkaaW.PrintMore
attribute [local go_sem] max2_int min2_int max_two min_two max_three min_three max_four min_four   -- for this text's walks alone
set_option linter.unusedVariables false
set_option linter.unusedSimpArgs false

/-! ### spec_PadLines: function 15 -/
mutual
def spec_PadLines.j0 : Nat → List (S59) → Int → List ByteArray → Bool → Option (List ByteArray × Bool)
 | 0, _, _, _, _ => none
 | k + 1, x0, x1, x6, x22 => if x22 = true then (some (x6, false)) else (spec_PadLines.l0 k x0 x1 x6 0)
def spec_PadLines.l0 : Nat → List (S59) → Int → List ByteArray → Int → Option (List ByteArray × Bool)
 | 0, _, _, _, _ => none
 | k + 1, x0, x1, x6, x7 => if x7 < (x0.length : Int) then (if 0 ≤ x7 then ((spec_l2Line.f k ((rd_T59 x0 x7).f0) ((rd_T59 x0 x7).f1)).bind fun t125 => ((spec_l2Spaces.f k (wrap64 (x1 - (t125.size : Int)))).bind fun t126 => (if t125.size + t126.size ≤ 9223372036854775807 then (if x6.length < 8796093022208 then (spec_PadLines.l0 k x0 x1 (x6 ++ [t125 ++ t126]) (wrap64 (x7 + 1))) else (none)) else (none)))) else (none)) else (some (x6, true))
end
def spec_PadLines.f (k : Nat) (l0 : List (S59)) (a1 : Int) : Option (List ByteArray × Bool) := (some (([] : List ByteArray) : List ByteArray)).bind fun y119 => ((spec_LayoutValid.f k l0).bind fun t122 => (if t122 = true then ((spec_LayoutWidth.f k l0).bind fun t123 => (if a1 < t123 then (spec_PadLines.j0 k l0 a1 y119 true) else (spec_PadLines.j0 k l0 a1 y119 (decide (a1 > 200))))) else (spec_PadLines.j0 k l0 a1 y119 true)))
set_option maxHeartbeats 8000000 in
set_option maxRecDepth 100000 in
theorem spec_PadLines.calls (k : Nat) (A0 : Option Addr) (c0 : Nat) (l0 : List (S59)) (a1 : Int) (r1 : List ByteArray) (r2 : Bool) (w : World) (hr0 : Kd.C k59 w A0 l0.length l0) (hc0 : l0.length ≤ c0) (h : spec_PadLines.f k l0 a1 = some (r1, r2)) :
  Calls Try.prog 15 #[.slice A0 l0.length c0, .int .i64 a1] w fun e w' => ∃ v0_ : Value, e = .returned (.tuple #[v0_, .bool r2]) ∧ Kd.R Kd.string 9 w' w.heap.size (fun _ => True) v0_ r1 ∧ Below w.heap.size w w' := by
 have hu59 := Try.underlying59
 have HR0 := Aside0.mk hr0
 have HC0 := Aside0.mk hc0
 clear hr0 hc0
 have HB := Aside0.mk (Below.refl w.heap.size w)
 have H : ((some (([] : List ByteArray) : List ByteArray)).bind fun y119 => ((spec_LayoutValid.f k l0).bind fun t122 => (if t122 = true then ((spec_LayoutWidth.f k l0).bind fun t123 => (if a1 < t123 then (spec_PadLines.j0 k l0 a1 y119 true) else (spec_PadLines.j0 k l0 a1 y119 (decide (a1 > 200))))) else (spec_PadLines.j0 k l0 a1 y119 true)))) = some (r1, r2) := h
 clear h
 obtain ⟨y119, hy119⟩ : ∃ y_ : List ByteArray, y_ = (([] : List ByteArray)) := ⟨_, rfl⟩
 replace H : ((spec_LayoutValid.f k l0).bind fun t122 => (if t122 = true then ((spec_LayoutWidth.f k l0).bind fun t123 => (if a1 < t123 then (spec_PadLines.j0 k l0 a1 y119 true) else (spec_PadLines.j0 k l0 a1 y119 (decide (a1 > 200))))) else (spec_PadLines.j0 k l0 a1 y119 true))) = some (r1, r2) := by first | (rw [hy119]; with_reducible exact H) | (have H2_ := (Option.bind_some _ _).symm.trans H; rw [hy119]; with_reducible exact H2_) | (have H2_ := (Option.bind_some _ _).symm.trans H; with_reducible exact H2_) | with_reducible exact H | (rw [hy119]; exact H) | exact H
 have Ny119 := Aside0.mk hy119
 clear hy119
 have HC3 := Aside0.mk H
 clear H
 go_enter Try.func15, Try.ntmps15
 go_upto_region 2 with (first | ((with_reducible refine gate_dst (N := 9) rfl ?_); refine Kd.R_lit Kd.string _ 9 ?hg (N := 9) ?hd (xs := ([] : List ByteArray)) (inner := []) (ok := fun _ => True) (okp := fun _ => True) ?hr ?hp (fun _ hk => hk) trivial (Below.refl _ _) (Nat.le_refl _) (by simp) ?_; (case hd => rfl); (case hg => rfl); (case hr => first | (go_simp; done) | (go_simp; rfl)); (case hp => exact (Reps.none _ _)); intro v120 w4 ho5 hb hg_ hnew_; clear hg_ hnew_; (first | rw [← Ny119.out] at ho5 | (simp only [Int.reduceToNat] at ho5; rw [← Ny119.out] at ho5)); have n0_ := Aside0.mk (Kd.R_lower ho5 (below_size (by repeat (first|(with_reducible first|exact HB.out|apply below_alloc|apply pw_below_drewN|apply below_drew1)|exact HB.out)))); have n1_ := Aside0.mk (below_step (by repeat (first|(with_reducible first|exact HB.out|apply below_alloc|apply pw_below_drewN|apply below_drew1)|exact HB.out)) hb); clear HB; have HO121 := n0_; have HB := n1_; clear n0_ n1_; clear hb ho5))
 (try simp only [Act.put, List.setIfInBounds_toArray, List.set_cons_zero, List.set_cons_succ])
 go_cut [22] (fun v22 wc => ∃ (kq : Nat) (x22_2 : Bool), v22 = .bool x22_2 ∧ Aside0 (spec_PadLines.j0 kq l0 a1 y119 x22_2 = some (r1, r2)) ∧ Aside0 (kq ≤ k) ∧ Aside0 (Kd.R Kd.string 9 wc w.heap.size (fun _ => True) v120 y119) ∧ Aside0 (Below w.heap.size w wc))
 case first =>
  have H := HC3.out
  clear HC3
  replace H := Option.bind_eq_some_iff.mp H
  obtain ⟨t122, A60, H⟩ := H
  replace H : (if t122 = true then ((spec_LayoutWidth.f k l0).bind fun t123 => (if a1 < t123 then (spec_PadLines.j0 k l0 a1 y119 true) else (spec_PadLines.j0 k l0 a1 y119 (decide (a1 > 200))))) else (spec_PadLines.j0 k l0 a1 y119 true)) = some (r1, r2) := H
  have A6 := Aside0.mk A60
  clear A60
  by_cases c7 : t122 = true
  ·subst c7
   have H1 : ((spec_LayoutWidth.f k l0).bind fun t123 => (if a1 < t123 then (spec_PadLines.j0 k l0 a1 y119 true) else (spec_PadLines.j0 k l0 a1 y119 (decide (a1 > 200))))) = some (r1, r2) := by rw [if_pos rfl] at H; exact H
   clear H
   have H := H1
   clear H1
   replace H := Option.bind_eq_some_iff.mp H
   obtain ⟨t123, A80, H⟩ := H
   replace H : (if a1 < t123 then (spec_PadLines.j0 k l0 a1 y119 true) else (spec_PadLines.j0 k l0 a1 y119 (decide (a1 > 200)))) = some (r1, r2) := H
   have A8 := Aside0.mk A80
   clear A80
   by_cases c9 : a1 < t123
   ·rw [if_pos c9] at H
    have c9b0 : decide (a1 < t123) = true := decide_eq_true c9
    clear c9
    (first | rw [c9b0] | (simp only [i64_w, i32_w]; rw [c9b0]) | skip)
    have H' := Aside0.mk H
    clear H
    go_wp2_with (first | ((with_reducible refine gate_callee (f := 52) rfl ?_); refine goesL_ (some 11) rfl rfl Try.func52 (by kernel_rfl) rfl #[.slice A0 l0.length c0] rfl (by (try simp only [List.map_toArray, List.map_cons, List.map_nil]); first | done | rfl | (simp only [List.length_drop, List.length_take]; rfl)) ?_; (with_reducible refine (spec_LayoutValid.calls k _ _ l0 true _ ?side1 ?side2 A6.out).mono ?_); (case side1 => repeat (first | exact (Kd.C_below HR0.out HB.out) | (with_reducible refine Kd.C_alloc ?_ _) | (with_reducible refine Kd.C_drewN ?_ _) | (with_reducible refine Kd.C_drew ?_))); (case side2 => exact HC0.out); rintro e w' ⟨rfl, ⟨nd, rfl⟩⟩; refine ⟨_, rfl, ?_⟩) | (go_at_call 53; (with_reducible refine (spec_LayoutWidth.calls k _ _ l0 t123 _ ?side1 ?side2 A8.out).mono ?_); (case side1 => repeat (first | exact (Kd.C_below HR0.out (by repeat (first|(with_reducible first|exact HB.out|apply below_alloc|apply pw_below_drewN|apply below_drew1)|exact HB.out))) | (with_reducible refine Kd.C_alloc ?_ _) | (with_reducible refine Kd.C_drewN ?_ _) | (with_reducible refine Kd.C_drew ?_))); (case side2 => exact HC0.out); rintro e w10 ⟨rfl, hb⟩; have n0_ := Aside0.mk (Kd.R_below (by (with_reducible repeat (first|apply Kd.R_alloc|apply Kd.R_drewN|apply Kd.R_drew)); exact HO121.out) hb); have n1_ := Aside0.mk (below_step (by repeat (first|(with_reducible first|exact HB.out|apply below_alloc|apply pw_below_drewN|apply below_drew1)|exact HB.out)) hb); clear HO121; clear HB; have HO121 := n0_; have HB := n1_; clear n0_ n1_; (try clear hb); (try clear hb2); (try clear hk); (try clear hi)))
    go_meet
    case rel => exact ⟨_, (true), (by first|rfl|(simp;done)|(simp[*];done)), H', ⟨by first | omega | exact Nat.le_refl _⟩, ⟨by (with_reducible repeat (first|apply Kd.R_alloc|apply Kd.R_drewN|apply Kd.R_drew)); exact HO121.out⟩, ⟨by repeat (first|(with_reducible first|exact HB.out|apply below_alloc|apply pw_below_drewN|apply below_drew1)|exact HB.out)⟩⟩
   ·rw [if_neg c9] at H
    have c9b0 : decide (a1 < t123) = false := decide_eq_false c9
    clear c9
    (first | rw [c9b0] | (simp only [i64_w, i32_w]; rw [c9b0]) | skip)
    have H' := Aside0.mk H
    clear H
    go_wp2_with (first | ((with_reducible refine gate_callee (f := 52) rfl ?_); refine goesL_ (some 11) rfl rfl Try.func52 (by kernel_rfl) rfl #[.slice A0 l0.length c0] rfl (by (try simp only [List.map_toArray, List.map_cons, List.map_nil]); first | done | rfl | (simp only [List.length_drop, List.length_take]; rfl)) ?_; (with_reducible refine (spec_LayoutValid.calls k _ _ l0 true _ ?side1 ?side2 A6.out).mono ?_); (case side1 => repeat (first | exact (Kd.C_below HR0.out HB.out) | (with_reducible refine Kd.C_alloc ?_ _) | (with_reducible refine Kd.C_drewN ?_ _) | (with_reducible refine Kd.C_drew ?_))); (case side2 => exact HC0.out); rintro e w' ⟨rfl, ⟨nd, rfl⟩⟩; refine ⟨_, rfl, ?_⟩) | (go_at_call 53; (with_reducible refine (spec_LayoutWidth.calls k _ _ l0 t123 _ ?side1 ?side2 A8.out).mono ?_); (case side1 => repeat (first | exact (Kd.C_below HR0.out (by repeat (first|(with_reducible first|exact HB.out|apply below_alloc|apply pw_below_drewN|apply below_drew1)|exact HB.out))) | (with_reducible refine Kd.C_alloc ?_ _) | (with_reducible refine Kd.C_drewN ?_ _) | (with_reducible refine Kd.C_drew ?_))); (case side2 => exact HC0.out); rintro e w11 ⟨rfl, hb⟩; have n0_ := Aside0.mk (Kd.R_below (by (with_reducible repeat (first|apply Kd.R_alloc|apply Kd.R_drewN|apply Kd.R_drew)); exact HO121.out) hb); have n1_ := Aside0.mk (below_step (by repeat (first|(with_reducible first|exact HB.out|apply below_alloc|apply pw_below_drewN|apply below_drew1)|exact HB.out)) hb); clear HO121; clear HB; have HO121 := n0_; have HB := n1_; clear n0_ n1_; (try clear hb); (try clear hb2); (try clear hk); (try clear hi)))
    go_meet
    case rel => exact ⟨_, (decide (a1 > 200)), (by first|rfl|(simp;done)|(simp[*];done)), H', ⟨by first | omega | exact Nat.le_refl _⟩, ⟨by (with_reducible repeat (first|apply Kd.R_alloc|apply Kd.R_drewN|apply Kd.R_drew)); exact HO121.out⟩, ⟨by repeat (first|(with_reducible first|exact HB.out|apply below_alloc|apply pw_below_drewN|apply below_drew1)|exact HB.out)⟩⟩
  ·replace c7 := Bool.eq_false_iff.mpr c7
   subst c7
   have H1 : (spec_PadLines.j0 k l0 a1 y119 true) = some (r1, r2) := by rw [if_neg (show ¬ (false = true) by decide)] at H; exact H
   clear H
   have H := H1
   clear H1
   have H' := Aside0.mk H
   clear H
   go_wp2_with (first | ((with_reducible refine gate_callee (f := 52) rfl ?_); refine goesL_ (some 11) rfl rfl Try.func52 (by kernel_rfl) rfl #[.slice A0 l0.length c0] rfl (by (try simp only [List.map_toArray, List.map_cons, List.map_nil]); first | done | rfl | (simp only [List.length_drop, List.length_take]; rfl)) ?_; (with_reducible refine (spec_LayoutValid.calls k _ _ l0 false _ ?side1 ?side2 A6.out).mono ?_); (case side1 => repeat (first | exact (Kd.C_below HR0.out HB.out) | (with_reducible refine Kd.C_alloc ?_ _) | (with_reducible refine Kd.C_drewN ?_ _) | (with_reducible refine Kd.C_drew ?_))); (case side2 => exact HC0.out); rintro e w' ⟨rfl, ⟨nd, rfl⟩⟩; refine ⟨_, rfl, ?_⟩))
   go_meet
   case rel => exact ⟨_, (true), (by first|rfl|(simp;done)|(simp[*];done)), H', ⟨by first | omega | exact Nat.le_refl _⟩, ⟨by (with_reducible repeat (first|apply Kd.R_alloc|apply Kd.R_drewN|apply Kd.R_drew)); exact HO121.out⟩, ⟨by repeat (first|(with_reducible first|exact HB.out|apply below_alloc|apply pw_below_drewN|apply below_drew1)|exact HB.out)⟩⟩
 case rest =>
  clear HC3
  try clear c1
  try clear p2
  try clear c5
  try clear c7
  try clear c9
  try clear c9b0
  obtain ⟨kq, x22_2, rfl, HA, HJ2, HO_6, HB⟩ := hcut
  cases kq with
  | zero => exact absurd HA.out (by simp [spec_PadLines.j0])
  | succ kj2 =>
   have H := HA.out
   clear HA
   simp only [spec_PadLines.j0] at H
   by_cases c12 : x22_2 = true
   ·subst c12
    have H1 : (some (y119, false)) = some (r1, r2) := by rw [if_pos rfl] at H; exact H
    clear H
    have H := H1
    clear H1
    simp only [Option.some.injEq, Prod.mk.injEq] at H
    obtain ⟨rfl, rfl⟩ := H
    go_wp2
    go_ret2
    exact ⟨_, by first | rfl | (simp [errW_none, errW_some] <;> rfl) | (simp [*, errW_none, errW_some] <;> rfl), by (with_reducible repeat (first|apply Kd.R_alloc|apply Kd.R_drewN|apply Kd.R_drew)); exact HO_6.out, by repeat (first|(with_reducible first|exact HB.out|apply below_alloc|apply pw_below_drewN|apply below_drew1)|exact HB.out)⟩
   ·replace c12 := Bool.eq_false_iff.mpr c12
    subst c12
    have H1 : (spec_PadLines.l0 kj2 l0 a1 y119 0) = some (r1, r2) := by rw [if_neg (show ¬ (false = true) by decide)] at H; exact H
    clear H
    have H := H1
    clear H1
    have H' := Aside0.mk H
    clear H
    go_wp2
    go_loopg [6, 7] kj2 (fun kq v6 v7 w' => ∃ (x6_2 : List ByteArray) (x7_2 : Int), v7 = .int .i64 x7_2 ∧ Aside0 (spec_PadLines.l0 kq l0 a1 x6_2 x7_2 = some (r1, r2)) ∧ Aside0 (kq ≤ kj2) ∧ Aside0 (Kd.R Kd.string 9 w' w.heap.size (fun _ => True) v6 x6_2) ∧ Aside0 (Below w.heap.size w w'))
    case atStart => exact ⟨(y119), (0), (by first|rfl|(simp;done)|(simp[*];done)), H', ⟨Nat.le_refl _⟩, ⟨by (with_reducible repeat (first|apply Kd.R_alloc|apply Kd.R_drewN|apply Kd.R_drew)); exact HO_6.out⟩, ⟨by repeat (first|(with_reducible first|exact HB.out|apply below_alloc|apply pw_below_drewN|apply below_drew1)|exact HB.out)⟩⟩
    case round =>
     clear H'
     try clear c1
     try clear p2
     try clear c5
     try clear c7
     try clear c9
     try clear c9b0
     try clear c12
     try clear p2
     obtain ⟨x6_2, x7_2, rfl, HA, HK2, HO_6, HB⟩ := hrel
     cases gk with
     | zero => exact absurd HA.out (by simp [spec_PadLines.l0])
     | succ k2 =>
      have H := HA.out
      clear HA
      simp only [spec_PadLines.l0] at H
      by_cases c13 : x7_2 < (l0.length : Int)
      ·rw [if_pos c13] at H
       have c13b0 : decide (x7_2 < (l0.length : Int)) = true := decide_eq_true c13
       clear c13
       by_cases c14 : 0 ≤ x7_2
       ·rw [if_pos c14] at H
        have c14b0 : decide (0 ≤ x7_2) = true := decide_eq_true c14
        clear c14
        replace H := Option.bind_eq_some_iff.mp H
        obtain ⟨t125, A150, H⟩ := H
        replace H : ((spec_l2Spaces.f k2 (wrap64 (a1 - (t125.size : Int)))).bind fun t126 => (if t125.size + t126.size ≤ 9223372036854775807 then (if x6_2.length < 8796093022208 then (spec_PadLines.l0 k2 l0 a1 (x6_2 ++ [t125 ++ t126]) (wrap64 (x7_2 + 1))) else (none)) else (none))) = some (r1, r2) := H
        have A15 := Aside0.mk A150
        clear A150
        replace H := Option.bind_eq_some_iff.mp H
        obtain ⟨t126, A160, H⟩ := H
        replace H : (if t125.size + t126.size ≤ 9223372036854775807 then (if x6_2.length < 8796093022208 then (spec_PadLines.l0 k2 l0 a1 (x6_2 ++ [t125 ++ t126]) (wrap64 (x7_2 + 1))) else (none)) else (none)) = some (r1, r2) := H
        have A16 := Aside0.mk A160
        clear A160
        by_cases c17 : t125.size + t126.size ≤ 9223372036854775807
        ·rw [if_pos c17] at H
         have c17b0 := eq_true c17
         have c17b1 : decide (t125.size + t126.size ≤ 9223372036854775807) = true := decide_eq_true c17
         try have c17b2 : (9223372036854775807 < t125.size + t126.size) = False := eq_false (Nat.not_lt.2 c17)
         by_cases c18 : x6_2.length < 8796093022208
         ·rw [if_pos c18] at H
          have LMc18 := Aside0.mk c18
          clear c18
          obtain ⟨y127, hy127⟩ : ∃ y_ : List ByteArray, y_ = (x6_2 ++ [t125 ++ t126]) := ⟨_, rfl⟩
          replace H : (spec_PadLines.l0 k2 l0 a1 y127 (wrap64 (x7_2 + 1))) = some (r1, r2) := by first | (rw [hy127]; with_reducible exact H) | (have H2_ := (Option.bind_some _ _).symm.trans H; rw [hy127]; with_reducible exact H2_) | (have H2_ := (Option.bind_some _ _).symm.trans H; with_reducible exact H2_) | with_reducible exact H | (rw [hy127]; exact H) | exact H
          have Ny127 := Aside0.mk hy127
          clear hy127
          have H' := Aside0.mk H
          clear H
          have p124 : 0 ≤ (x7_2 : Int) := of_decide_eq_true (by first|(with_reducible assumption)|assumption)
          have q124 : x7_2 < (l0.length : Int) := of_decide_eq_true (by first|(with_reducible assumption)|assumption)
          obtain ⟨ad124, e124, hx124_0, hx124_1⟩ := at_T59 HR0.out x7_2 p124 q124
          cases e124
          replace hx124_0 := (HB.out.cell (World.block_lt_of_cell? w _ hx124_0)).trans hx124_0
          replace hx124_1 := (HB.out.cell (World.block_lt_of_cell? w _ hx124_1)).trans hx124_1
          replace p124 := eq_true p124
          replace q124 := eq_true q124
          go_wp2_with (first | ((with_reducible refine gate_callee (f := 54) rfl ?_); refine goesL_ (some 34) rfl rfl Try.func54 (by kernel_rfl) rfl #[.agg #[.int .i64 ((rd_T59 l0 x7_2).f0), .string ((rd_T59 l0 x7_2).f1)]] rfl (by (try simp only [List.map_toArray, List.map_cons, List.map_nil]); first | done | rfl | (simp only [List.length_drop, List.length_take]; rfl)) ?_; (with_reducible refine (spec_l2Line.calls k2 ((rd_T59 l0 x7_2).f0) ((rd_T59 l0 x7_2).f1) t125 _ A15.out).mono ?_); rintro e w19 ⟨rfl, hb⟩; refine ⟨_, rfl, ?_⟩; have n0_ := Aside0.mk (Kd.R_below (by (with_reducible repeat (first|apply Kd.R_alloc|apply Kd.R_drewN|apply Kd.R_drew)); exact HO_6.out) hb); have n1_ := Aside0.mk (below_step (by repeat (first|(with_reducible first|exact HB.out|apply below_alloc|apply pw_below_drewN|apply below_drew1)|exact HB.out)) hb); clear HO_6; clear HB; have HO_6 := n0_; have HB := n1_; clear n0_ n1_; (try clear hb); (try clear hb2); (try clear hk); (try clear hi)) | ((with_reducible refine gate_callee (f := 55) rfl ?_); refine goesL_ (some 41) rfl rfl Try.func55 (by kernel_rfl) rfl #[.int .i64 (wrap64 (a1 - (t125.size : Int)))] rfl (by (try simp only [List.map_toArray, List.map_cons, List.map_nil]); first | done | rfl | (simp only [List.length_drop, List.length_take]; rfl)) ?_; (with_reducible refine (spec_l2Spaces.calls k2 (wrap64 (a1 - (t125.size : Int))) t126 _ A16.out).mono ?_); rintro e w' ⟨rfl, ⟨nd, rfl⟩⟩; refine ⟨_, rfl, ?_⟩) | ((with_reducible refine gate_builtin (b := .append) (xs := #[.tmp 35, .tmp 43]) rfl ?_); at_builtin; refine Kd.R_append Kd.string (w0 := w) w.heap.size rfl (.tmp 35) (.tmp 43) 24 9 (.string ⟨#[]⟩) 16 rfl Try.underlying24 info9 rfl (by decide) (by omega) u6 x6_2 (t125 ++ t126) [.string (t125 ++ t126)] (fun _ => True) (fun _ => False) rfl rfl ?aP (fun _ hk => hk.elim) ?aF ?aO ?aB ?aS ?aL ?_; (case aP => exact rfl); (case aB => exact (by repeat (first|(with_reducible first|exact HB.out|apply below_alloc|apply pw_below_drewN|apply below_drew1)|exact HB.out))); (case aF => exact (fun _ _ => trivial)); (case aO => exact (by (with_reducible repeat (first|apply Kd.R_alloc|apply Kd.R_drewN|apply Kd.R_drew)); exact HO_6.out)); (case aS => exact (below_size (by repeat (first|(with_reducible first|exact HB.out|apply below_alloc|apply pw_below_drewN|apply below_drew1)|exact HB.out)))); (case aL => have := LMc18.out; omega); intro v128 w20 ho hb hg hat; rw [← Ny127.out] at ho; have n0_ := Aside0.mk (hb); have n1_ := Aside0.mk (ho); clear HB; clear HO_6; have HB := n0_; have HO129 := n1_; clear n0_ n1_; clear ho hb hg hat))
          go_roundg k2
          case measure => have := HJ2.out; have := HK2.out; omega
          case rel => exact ⟨(y127), (wrap64 (x7_2 + 1)), (by first|rfl|(simp;done)|(simp[*];done)), H', ⟨by have := HJ2.out; have := HK2.out; omega⟩, ⟨by (with_reducible repeat (first|apply Kd.R_alloc|apply Kd.R_drewN|apply Kd.R_drew)); exact HO129.out⟩, ⟨by repeat (first|(with_reducible first|exact HB.out|apply below_alloc|apply pw_below_drewN|apply below_drew1)|exact HB.out)⟩⟩
         ·rw [if_neg c18] at H
          exact absurd H (by simp)
        ·rw [if_neg c17] at H
         exact absurd H (by simp)
       ·rw [if_neg c14] at H
        exact absurd H (by simp)
      ·rw [if_neg c13] at H
       have c13b0 : decide (x7_2 < (l0.length : Int)) = false := decide_eq_false c13
       clear c13
       simp only [Option.some.injEq, Prod.mk.injEq] at H
       obtain ⟨rfl, rfl⟩ := H
       go_wp2
       go_ret2
       exact ⟨_, by first | rfl | (simp [errW_none, errW_some] <;> rfl) | (simp [*, errW_none, errW_some] <;> rfl), by (with_reducible repeat (first|apply Kd.R_alloc|apply Kd.R_drewN|apply Kd.R_drew)); exact HO_6.out, by repeat (first|(with_reducible first|exact HB.out|apply below_alloc|apply pw_below_drewN|apply below_drew1)|exact HB.out)⟩

/-! ### laws_toRow: function 56 -/
def laws_toRow.f (a0_0 : Int) (a0_1 : ByteArray) : Option (Int × ByteArray) := some (a0_0, a0_1)
set_option maxHeartbeats 8000000 in
set_option maxRecDepth 100000 in
theorem laws_toRow.calls (a0_0 : Int) (a0_1 : ByteArray) (r1 : Int) (r2 : ByteArray) (w : World) (h : laws_toRow.f a0_0 a0_1 = some (r1, r2)) :
  Calls Try.prog 56 #[.agg #[.int .i64 a0_0, .string a0_1]] w fun e w' => e = .returned (.agg #[.int .i64 r1, .string r2]) ∧ Below w.heap.size w w' := by
 have hu69 := Try.underlying69
 have hu59 := Try.underlying59
 have HB := Aside0.mk (Below.refl w.heap.size w)
 have H : (some (a0_0, a0_1)) = some (r1, r2) := h
 clear h
 simp only [Option.some.injEq, Prod.mk.injEq] at H
 obtain ⟨rfl, rfl⟩ := H
 go_enter Try.func56, Try.ntmps56
 go_wp2_with (first | ((with_reducible refine gate_dst (N := 1) rfl ?_); refine box_event ?hg (N := 1) ?hd (cs := #[.int .i64 a0_0, .string a0_1]) (t := 69) ?hr ?_; (case hd => rfl); (case hg => rfl); (case hr => first | (go_simp; done) | (go_simp; rfl)); intro gb130 hg w2 hbox hb; have n0_ := Aside0.mk (below_step (by repeat (first|(with_reducible first|exact HB.out|apply below_alloc|apply pw_below_drewN|apply below_drew1)|exact HB.out)) hb); have n1_ := Aside0.mk (hbox); have n2_ := Aside0.mk ((by rw [hg]; exact (below_size (by repeat (first|(with_reducible first|exact HB.out|apply below_alloc|apply pw_below_drewN|apply below_drew1)|exact HB.out))) : w.heap.size ≤ gb130)); have n3_ := Aside0.mk ((by rw [hg]; exact (below_size (by repeat (first|(with_reducible first|exact HB.out|apply below_alloc|apply pw_below_drewN|apply below_drew1)|exact HB.out))) : w.heap.size ≤ gb130)); clear HB; have HB := n0_; have BK130 := n1_; have GW130 := n2_; have GE130 := n3_; clear n0_ n1_ n2_ n3_; clear hb hbox hg) | ((with_reducible refine gate_dst (N := 2) rfl ?_); refine box_event ?hg (N := 2) ?hd (cs := #[.int .i64 0, .string (⟨#[]⟩ : ByteArray)]) (t := 59) ?hr ?_; (case hd => rfl); (case hg => rfl); (case hr => first | (go_simp; done) | (go_simp; rfl)); intro gb131 hg w3 hbox hb; have n0_ := Aside0.mk (blk_below (g := gb130) (o := .cells #[.int .i64 a0_0, .string a0_1] 69 (0, 0)) (by (with_reducible repeat (first | refine blk_drewN ?_ _ | refine blk_drew ?_ | refine blk_alloc ?_ _)); exact BK130.out) hb); have n1_ := Aside0.mk (below_step (by repeat (first | (with_reducible first | exact HB.out | apply below_alloc | apply pw_below_drewN | apply below_drew1 | refine below_set ?_ GE130.out) | exact HB.out)) hb); have n2_ := Aside0.mk (hbox); have n3_ := Aside0.mk ((by rw [hg]; exact (below_size (by repeat (first | (with_reducible first | exact HB.out | apply below_alloc | apply pw_below_drewN | apply below_drew1 | refine below_set ?_ GE130.out) | exact HB.out))) : w.heap.size ≤ gb131)); have n4_ := Aside0.mk ((by rw [hg]; exact (below_size (by repeat (first | (with_reducible first | exact HB.out | apply below_alloc | apply pw_below_drewN | apply below_drew1 | refine below_set ?_ GE130.out) | exact HB.out))) : w.heap.size ≤ gb131)); have n5_ := Aside0.mk ((by rw [hg]; exact Nat.ne_of_lt (blk_lt (g := gb130) (o := .cells #[.int .i64 a0_0, .string a0_1] 69 (0, 0)) (by (with_reducible repeat (first | refine blk_drewN ?_ _ | refine blk_drew ?_ | refine blk_alloc ?_ _)); exact BK130.out)) : gb130 ≠ gb131)); have n6_ := Aside0.mk ((by rw [hg]; exact Nat.ne_of_gt (blk_lt (g := gb130) (o := .cells #[.int .i64 a0_0, .string a0_1] 69 (0, 0)) (by (with_reducible repeat (first | refine blk_drewN ?_ _ | refine blk_drew ?_ | refine blk_alloc ?_ _)); exact BK130.out)) : gb131 ≠ gb130)); clear BK130; clear HB; have BK130 := n0_; have HB := n1_; have BK131 := n2_; have GW131 := n3_; have GE131 := n4_; have NB130_131 := n5_; have NB131_130 := n6_; clear n0_ n1_ n2_ n3_ n4_ n5_ n6_; clear hb hbox hg) | ((with_reducible refine gate_dst (N := 3) rfl ?_); refine box_event ?hg (N := 3) ?hd (cs := #[.int .i64 0, .string (⟨#[]⟩ : ByteArray)]) (t := 59) ?hr ?_; (case hd => rfl); (case hg => rfl); (case hr => first | (go_simp; done) | (go_simp; rfl)); intro gb132 hg w4 hbox hb; have n0_ := Aside0.mk (blk_below (g := gb130) (o := .cells #[.int .i64 a0_0, .string a0_1] 69 (0, 0)) (by (with_reducible repeat (first | refine blk_drewN ?_ _ | refine blk_drew ?_ | refine blk_alloc ?_ _)); exact BK130.out) hb); have n1_ := Aside0.mk (blk_below (g := gb131) (o := .cells #[.int .i64 0, .string (⟨#[]⟩ : ByteArray)] 59 (0, 0)) (by (with_reducible repeat (first | refine blk_drewN ?_ _ | refine blk_drew ?_ | refine blk_alloc ?_ _)); exact BK131.out) hb); have n2_ := Aside0.mk (below_step (by repeat (first | (with_reducible first | exact HB.out | apply below_alloc | apply pw_below_drewN | apply below_drew1 | refine below_set ?_ GE130.out | refine below_set ?_ GE131.out) | exact HB.out)) hb); have n3_ := Aside0.mk (hbox); have n4_ := Aside0.mk ((by rw [hg]; exact (below_size (by repeat (first | (with_reducible first | exact HB.out | apply below_alloc | apply pw_below_drewN | apply below_drew1 | refine below_set ?_ GE130.out | refine below_set ?_ GE131.out) | exact HB.out))) : w.heap.size ≤ gb132)); have n5_ := Aside0.mk ((by rw [hg]; exact (below_size (by repeat (first | (with_reducible first | exact HB.out | apply below_alloc | apply pw_below_drewN | apply below_drew1 | refine below_set ?_ GE130.out | refine below_set ?_ GE131.out) | exact HB.out))) : w.heap.size ≤ gb132)); have n6_ := Aside0.mk ((by rw [hg]; exact Nat.ne_of_lt (blk_lt (g := gb130) (o := .cells #[.int .i64 a0_0, .string a0_1] 69 (0, 0)) (by (with_reducible repeat (first | refine blk_drewN ?_ _ | refine blk_drew ?_ | refine blk_alloc ?_ _)); exact BK130.out)) : gb130 ≠ gb132)); have n7_ := Aside0.mk ((by rw [hg]; exact Nat.ne_of_gt (blk_lt (g := gb130) (o := .cells #[.int .i64 a0_0, .string a0_1] 69 (0, 0)) (by (with_reducible repeat (first | refine blk_drewN ?_ _ | refine blk_drew ?_ | refine blk_alloc ?_ _)); exact BK130.out)) : gb132 ≠ gb130)); have n8_ := Aside0.mk ((by rw [hg]; exact Nat.ne_of_lt (blk_lt (g := gb131) (o := .cells #[.int .i64 0, .string (⟨#[]⟩ : ByteArray)] 59 (0, 0)) (by (with_reducible repeat (first | refine blk_drewN ?_ _ | refine blk_drew ?_ | refine blk_alloc ?_ _)); exact BK131.out)) : gb131 ≠ gb132)); have n9_ := Aside0.mk ((by rw [hg]; exact Nat.ne_of_gt (blk_lt (g := gb131) (o := .cells #[.int .i64 0, .string (⟨#[]⟩ : ByteArray)] 59 (0, 0)) (by (with_reducible repeat (first | refine blk_drewN ?_ _ | refine blk_drew ?_ | refine blk_alloc ?_ _)); exact BK131.out)) : gb132 ≠ gb131)); clear BK130; clear BK131; clear HB; have BK130 := n0_; have BK131 := n1_; have HB := n2_; have BK132 := n3_; have GW132 := n4_; have GE132 := n5_; have NB130_132 := n6_; have NB132_130 := n7_; have NB131_132 := n8_; have NB132_131 := n9_; clear n0_ n1_ n2_ n3_ n4_ n5_ n6_ n7_ n8_ n9_; clear hb hbox hg; have hnb5 := NB130_131.out; have hnc5 := NB131_130.out; have hnb6 := NB130_132.out; have hnc6 := NB132_130.out; have hcz7_0 : w4.cell? ⟨gb130, 0, none⟩ = some (.int .i64 a0_0) := (blk_cell BK130.out 0).trans rfl; have hcz7_1 : w4.cell? ⟨gb130, 1, none⟩ = some (.string a0_1) := (blk_cell BK130.out 1).trans rfl; have hfz7_0 := blk_frozen BK130.out 0; have hfz7_1 := blk_frozen BK130.out 1; have hnb8 := NB132_131.out; have hnc8 := NB131_132.out; have hcz9_0 : w4.cell? ⟨gb132, 0, none⟩ = some (.int .i64 0) := (blk_cell BK132.out 0).trans rfl; have hcz9_1 : w4.cell? ⟨gb132, 1, none⟩ = some (.string (⟨#[]⟩ : ByteArray)) := (blk_cell BK132.out 1).trans rfl; have hfz9_0 := blk_frozen BK132.out 0; have hfz9_1 := blk_frozen BK132.out 1; have hcz10_0 : w4.cell? ⟨gb131, 0, none⟩ = some (.int .i64 0) := (blk_cell BK131.out 0).trans rfl; have hcz10_1 : w4.cell? ⟨gb131, 1, none⟩ = some (.string (⟨#[]⟩ : ByteArray)) := (blk_cell BK131.out 1).trans rfl; have hfz10_0 := blk_frozen BK131.out 0; have hfz10_1 := blk_frozen BK131.out 1))
 refine bodyPost_ret (results_cell_row rfl _ _ gb131 59 #[.int .i64 a0_0, .string a0_1] (0, 0) _ rfl (by (with_reducible repeat (first | refine blk_drewN ?_ _ | refine blk_drew ?_ | refine blk_alloc ?_ _)); refine blk_put (cs := #[.int .i64 a0_0, .string (⟨#[]⟩ : ByteArray)]) ?_ 1 _ rfl; (with_reducible repeat (first | refine blk_drewN ?_ _ | refine blk_drew ?_ | refine blk_alloc ?_ _)); refine blk_put (cs := #[.int .i64 0, .string (⟨#[]⟩ : ByteArray)]) ?_ 0 _ rfl; (with_reducible repeat (first | refine blk_drewN ?_ _ | refine blk_drew ?_ | refine blk_alloc ?_ _)); refine blk_far ?_ NB131_132.out _; (with_reducible repeat (first | refine blk_drewN ?_ _ | refine blk_drew ?_ | refine blk_alloc ?_ _)); refine blk_far ?_ NB131_132.out _; (with_reducible repeat (first | refine blk_drewN ?_ _ | refine blk_drew ?_ | refine blk_alloc ?_ _)); exact BK131.out) Try.underlying59 rfl (by kernel_rfl)) rfl ?_
 exact ⟨by first | rfl | (simp [errW_none, errW_some] <;> rfl) | (simp [*, errW_none, errW_some] <;> rfl), by repeat (first | (with_reducible first | exact HB.out | apply below_alloc | apply pw_below_drewN | apply below_drew1 | refine below_set ?_ GE130.out | refine below_set ?_ GE131.out | refine below_set ?_ GE132.out) | exact HB.out)⟩

/-! ### laws_toRowS: function 16 -/
def laws_toRowS.l0 : Nat → List (S69) → List (S59) → Int → Option ((List (S59)))
 | 0, _, _, _ => none
 | k + 1, x0, x3, x4 => if x4 < (x0.length : Int) then (if 0 ≤ x4 then ((laws_toRow.f ((rd_T69 x0 x4).f0) ((rd_T69 x0 x4).f1)).bind fun bt137 => (if x4 < (x3.length : Int) then (laws_toRowS.l0 k x0 (x3.set (x4 : Int).toNat (⟨bt137.1, bt137.2⟩ : S59)) (wrap64 (x4 + 1))) else (none))) else (none)) else (some x3)
def laws_toRowS.f (k : Nat) (l0 : List (S69)) : Option ((List (S59))) := if 0 ≤ (l0.length : Int) then (if ((l0.length : Int) : Int).toNat ≤ 11728124029610 then (laws_toRowS.l0 k l0 (List.replicate ((l0.length : Int) : Int).toNat z59) 0) else (none)) else (none)
set_option maxHeartbeats 8000000 in
set_option maxRecDepth 100000 in
theorem laws_toRowS.calls (k : Nat) (A0 : Option Addr) (c0 : Nat) (l0 : List (S69)) (r : List (S59)) (w : World) (hr0 : Kd.C k69 w A0 l0.length l0) (hc0 : l0.length ≤ c0) (h : laws_toRowS.f k l0 = some r) :
  Calls Try.prog 16 #[.slice A0 l0.length c0] w fun e w' => ∃ v0_ : Value, e = .returned (v0_) ∧ Kd.R k59 59 w' w.heap.size (fun _ => True) v0_ r ∧ Below w.heap.size w w' := by
 have hu69 := Try.underlying69
 have hu59 := Try.underlying59
 have HR0 := Aside0.mk hr0
 have HC0 := Aside0.mk hc0
 clear hr0 hc0
 have HB := Aside0.mk (Below.refl w.heap.size w)
 have H : (if 0 ≤ (l0.length : Int) then (if ((l0.length : Int) : Int).toNat ≤ 11728124029610 then (laws_toRowS.l0 k l0 (List.replicate ((l0.length : Int) : Int).toNat z59) 0) else (none)) else (none)) = some r := h
 clear h
 by_cases c2 : 0 ≤ (l0.length : Int)
 ·rw [if_pos c2] at H
  have c2b0 := eq_true c2
  have c2b1 : decide (0 ≤ (l0.length : Int)) = true := decide_eq_true c2
  clear c2
  by_cases c3 : ((l0.length : Int) : Int).toNat ≤ 11728124029610
  ·rw [if_pos c3] at H
   have c3b0 := eq_true c3
   have c3b1 : decide (((l0.length : Int) : Int).toNat ≤ 11728124029610) = true := decide_eq_true c3
   clear c3
   obtain ⟨y133, hy133⟩ : ∃ y_ : List (S59), y_ = (List.replicate ((l0.length : Int) : Int).toNat z59) := ⟨_, rfl⟩
   replace H : (laws_toRowS.l0 k l0 y133 0) = some r := by first | (rw [hy133]; with_reducible exact H) | (have H2_ := (Option.bind_some _ _).symm.trans H; rw [hy133]; with_reducible exact H2_) | (have H2_ := (Option.bind_some _ _).symm.trans H; with_reducible exact H2_) | with_reducible exact H | (rw [hy133]; exact H) | exact H
   have Ny133 := Aside0.mk hy133
   clear hy133
   have H' := Aside0.mk H
   clear H
   go_enter Try.func16, Try.ntmps16
   go_wp2_with (first | ((with_reducible refine gate_dst (N := 7) rfl ?_); refine Kd.R_make k59 _ 59 rfl (N := 7) rfl 27 _ _ rfl (l0.length : Int) rfl rfl Try.underlying27 (.agg #[(.int .i64 0), (.string ⟨#[]⟩)]) 24 info59 rfl (by decide) (by omega) z59 (ok := fun _ => True) (okp := fun _ => True) (k59_mkM _ _ _ z59 ) (fun _ hk => hk) trivial (of_decide_eq_true (by first|(with_reducible assumption)|assumption)) (Nat.le_trans (Nat.mul_le_mul_right _ (of_decide_eq_true (by first|(with_reducible assumption)|assumption) : (l0.length : Int).toNat ≤ 11728124029610)) (by omega)) (Below.refl _ _) (Nat.le_refl _) ?_; intro v134 w4 ho5 hb hg_ hnew_; clear hg_ hnew_; (first | rw [← Ny133.out] at ho5 | (simp only [Int.reduceToNat] at ho5; rw [← Ny133.out] at ho5)); have n0_ := Aside0.mk (Kd.R_lower ho5 (below_size (by repeat (first|(with_reducible first|exact HB.out|apply below_alloc|apply pw_below_drewN|apply below_drew1)|exact HB.out)))); have n1_ := Aside0.mk (below_step (by repeat (first|(with_reducible first|exact HB.out|apply below_alloc|apply pw_below_drewN|apply below_drew1)|exact HB.out)) hb); clear HB; have HO135 := n0_; have HB := n1_; clear n0_ n1_; clear hb ho5))
   go_loopg [4] k (fun kq v4 w' => ∃ (x3_1 : List (S59)) (x4_1 : Int), v4 = .int .i64 x4_1 ∧ Aside0 (laws_toRowS.l0 kq l0 x3_1 x4_1 = some r) ∧ Aside0 (kq ≤ k) ∧ Aside0 (Kd.R k59 59 w' w.heap.size (fun _ => True) v134 x3_1) ∧ Aside0 (Below w.heap.size w w'))
   case atStart => exact ⟨(y133), (0), (by first|rfl|(simp;done)|(simp[*];done)), H', ⟨Nat.le_refl _⟩, ⟨by (with_reducible repeat (first|apply Kd.R_alloc|apply Kd.R_drewN|apply Kd.R_drew)); exact HO135.out⟩, ⟨by repeat (first|(with_reducible first|exact HB.out|apply below_alloc|apply pw_below_drewN|apply below_drew1)|exact HB.out)⟩⟩
   case round =>
    clear H'
    try clear c1
    try clear c2
    try clear c2b0
    try clear c2b1
    try clear p2
    try clear c3
    try clear c3b0
    try clear c3b1
    obtain ⟨x3_1, x4_1, rfl, HA, HK1, HO_3, HB⟩ := hrel
    cases gk with
    | zero => exact absurd HA.out (by simp [laws_toRowS.l0])
    | succ k1 =>
     have H := HA.out
     clear HA
     simp only [laws_toRowS.l0] at H
     by_cases c6 : x4_1 < (l0.length : Int)
     ·rw [if_pos c6] at H
      have c6b0 : decide (x4_1 < (l0.length : Int)) = true := decide_eq_true c6
      clear c6
      by_cases c7 : 0 ≤ x4_1
      ·rw [if_pos c7] at H
       have c7b0 : decide (0 ≤ x4_1) = true := decide_eq_true c7
       clear c7
       replace H := Option.bind_eq_some_iff.mp H
       obtain ⟨⟨t137, t138⟩, A80, H⟩ := H
       replace H : (if x4_1 < (x3_1.length : Int) then (laws_toRowS.l0 k1 l0 (x3_1.set (x4_1 : Int).toNat (⟨t137, t138⟩ : S59)) (wrap64 (x4_1 + 1))) else (none)) = some r := H
       have A8 := Aside0.mk A80
       clear A80
       by_cases c9 : x4_1 < (x3_1.length : Int)
       ·rw [if_pos c9] at H
        have c9b0 : decide (x4_1 < (x3_1.length : Int)) = true := decide_eq_true c9
        clear c9
        obtain ⟨y139, hy139⟩ : ∃ y_ : List (S59), y_ = (x3_1.set (x4_1 : Int).toNat (⟨t137, t138⟩ : S59)) := ⟨_, rfl⟩
        replace H : (laws_toRowS.l0 k1 l0 y139 (wrap64 (x4_1 + 1))) = some r := by first | (rw [hy139]; with_reducible exact H) | (have H2_ := (Option.bind_some _ _).symm.trans H; rw [hy139]; with_reducible exact H2_) | (have H2_ := (Option.bind_some _ _).symm.trans H; with_reducible exact H2_) | with_reducible exact H | (rw [hy139]; exact H) | exact H
        have Ny139 := Aside0.mk hy139
        clear hy139
        have H' := Aside0.mk H
        clear H
        have p136 : 0 ≤ (x4_1 : Int) := of_decide_eq_true (by first|(with_reducible assumption)|assumption)
        have q136 : x4_1 < (l0.length : Int) := of_decide_eq_true (by first|(with_reducible assumption)|assumption)
        obtain ⟨ad136, e136, hx136_0, hx136_1⟩ := at_T69 HR0.out x4_1 p136 q136
        cases e136
        replace hx136_0 := (HB.out.cell (World.block_lt_of_cell? w _ hx136_0)).trans hx136_0
        replace hx136_1 := (HB.out.cell (World.block_lt_of_cell? w _ hx136_1)).trans hx136_1
        replace p136 := eq_true p136
        replace q136 := eq_true q136
        go_wp2_with (first | ((with_reducible refine gate_callee (f := 56) rfl ?_); refine goesL_ (some 20) rfl rfl Try.func56 (by kernel_rfl) rfl #[.agg #[.int .i64 ((rd_T69 l0 x4_1).f0), .string ((rd_T69 l0 x4_1).f1)]] rfl (by (try simp only [List.map_toArray, List.map_cons, List.map_nil]); first | done | rfl | (simp only [List.length_drop, List.length_take]; rfl)) ?_; (with_reducible refine (laws_toRow.calls ((rd_T69 l0 x4_1).f0) ((rd_T69 l0 x4_1).f1) t137 t138 _ A8.out).mono ?_); rintro e w11 ⟨rfl, hb⟩; refine ⟨_, rfl, ?_⟩; have n0_ := Aside0.mk (Kd.R_below (by (with_reducible repeat (first|apply Kd.R_alloc|apply Kd.R_drewN|apply Kd.R_drew)); exact HO_3.out) hb); have n1_ := Aside0.mk (below_step (by repeat (first|(with_reducible first|exact HB.out|apply below_alloc|apply pw_below_drewN|apply below_drew1)|exact HB.out)) hb); clear HO_3; clear HB; have HO_3 := n0_; have HB := n1_; clear n0_ n1_; (try clear hb); (try clear hb2); (try clear hk); (try clear hi); have p10 : 0 ≤ (x4_1 : Int) := of_decide_eq_true (by first|(with_reducible assumption)|assumption); have q10 : (x4_1 : Int) < ((x3_1.length : Int) : Int) := of_decide_eq_true (by first|(with_reducible assumption)|assumption); obtain ⟨go10, co10, eo10, gb10, gl10, cl10, HG10⟩ := Kd.R_form HO_3.out (by omega); (first | cases eo10 | (injection eo10 with ea_ en_ ec_; (first | subst ea_ | (injection ea_ with ea_; subst ea_)); subst ec_; clear en_)); have GB10 := Aside0.mk gb10; have GG10 := Aside0.mk HG10; clear gb10 gl10 HG10; obtain ⟨ce10, hcl10, hM10, hcc10, hfr10⟩ := Kd.R_elem HO_3.out z59 (x4_1 : Int) p10 q10; obtain rfl := k59_openM hM10; have hx10_0 : w11.cell? ⟨go10, (x4_1 : Int).toNat * 2, none⟩ = some (.int .i64 ((rd_T59 x3_1 x4_1).f0)) := hcc10 0 _ rfl; have hx10_1 : w11.cell? ⟨go10, (x4_1 : Int).toNat * 2 + 1, none⟩ = some (.string ((rd_T59 x3_1 x4_1).f1)) := hcc10 1 _ rfl; have hf10_0 : w11.frozen? ⟨go10, (x4_1 : Int).toNat * 2, none⟩ = false := hfr10 0; have hf10_1 : w11.frozen? ⟨go10, (x4_1 : Int).toNat * 2 + 1, none⟩ = false := hfr10 1; clear hcl10 hcc10 hfr10 hM10; replace p10 := eq_true p10; replace q10 := eq_true q10; have HX12 := Aside0.mk (show Kd.R k59 59 w11 w.heap.size (fun _ => True) (.slice (some ⟨go10, 0, none⟩) x3_1.length co10) x3_1 from (by (with_reducible repeat (first|apply Kd.R_alloc|apply Kd.R_drewN|apply Kd.R_drew)); exact HO_3.out)); obtain ⟨ce12, hcl12, hM12, hcc12, hfr12⟩ := Kd.R_elem HX12.out z59 (x4_1 : Int) (of_decide_eq_true (by first|(with_reducible assumption)|assumption)) (by have h_ : (x4_1 : Int) < ((x3_1.length : Int) : Int) := of_decide_eq_true (by first|(with_reducible assumption)|assumption); first | exact h_ | (have e_ := (Kd.R_reads' HO_3.out).1; omega) | simpa using h_); obtain rfl := k59_openM hM12; have HP12 := Kd.R_seg HX12.out (x4_1 : Int) (of_decide_eq_true (by first|(with_reducible assumption)|assumption)) (by have h_ : (x4_1 : Int) < ((x3_1.length : Int) : Int) := of_decide_eq_true (by first|(with_reducible assumption)|assumption); first | exact h_ | (have e_ := (Kd.R_reads' HO_3.out).1; omega) | simpa using h_) (seg := [.int .i64 t137, .string t138]) (j := 0) hcl12 hcc12 (show 2 ≤ 2 from by decide) (x' := (⟨t137, t138⟩ : S59)) (k59_mkM _ _ _ (⟨t137, t138⟩ : S59) ) (fun _ hk => hk); have hx12_0 := hcc12 0 _ rfl; (try simp only [show (k59).sz = 2 from rfl, Nat.mul_one, Nat.add_zero] at hx12_0); have hf12_0 := hfr12 0; (try simp only [show (k59).sz = 2 from rfl, Nat.mul_one, Nat.add_zero] at hf12_0); have hx12_1 := hcc12 1 _ rfl; (try simp only [show (k59).sz = 2 from rfl, Nat.mul_one, Nat.add_zero] at hx12_1); have hf12_1 := hfr12 1; (try simp only [show (k59).sz = 2 from rfl, Nat.mul_one, Nat.add_zero] at hf12_1); clear hcl12 hcc12 hfr12 hM12) | ((with_reducible refine gate_store (t := 59) (p := 21) rfl ?_); refine store_event (t := 59) (p := 21) (v := ?vo_w13) (w1 := ((w11.setCell ⟨go10, (x4_1 : Int).toNat * 2, none⟩ (.int .i64 t137)).setCell ⟨go10, (x4_1 : Int).toNat * 2 + 1, none⟩ (.string t138))) ?hg ?ho ?hn ?hr ?_; (case ho => rfl); (case hg => rfl); (case hn => rfl); (case hr => first | (go_simp; done) | (go_simp; rfl)); intro w13 hw; have hg : w11.grownBy w13 (some go10) := (by rw [hw]; exact HP12.2); have hp_ : Kd.R k59 59 w13 w.heap.size (fun _ => True) (.slice (some ⟨go10, 0, none⟩) x3_1.length co10) y139 := (by rw [hw, Ny139.out]; exact HP12.1); clear HP12; have n0_ := Aside0.mk (hp_); have n1_ := Aside0.mk ((by rw [hw]; exact below_set (below_set (HB.out) GB10.out) GB10.out : Below w.heap.size w w13)); clear HO_3; clear HB; have HO_3 := n0_; have HB := n1_; clear n0_ n1_; clear hg hw hp_))
        go_roundg k1
        case measure => have := HK1.out; omega
        case rel => exact ⟨(y139), (wrap64 (x4_1 + 1)), (by first|rfl|(simp;done)|(simp[*];done)), H', ⟨by have := HK1.out; omega⟩, ⟨by (with_reducible repeat (first|apply Kd.R_alloc|apply Kd.R_drewN|apply Kd.R_drew)); exact HO_3.out⟩, ⟨by repeat (first|(with_reducible first|exact HB.out|apply below_alloc|apply pw_below_drewN|apply below_drew1)|exact HB.out)⟩⟩
       ·rw [if_neg c9] at H
        exact absurd H (by simp)
      ·rw [if_neg c7] at H
       exact absurd H (by simp)
     ·rw [if_neg c6] at H
      have c6b0 : decide (x4_1 < (l0.length : Int)) = false := decide_eq_false c6
      clear c6
      obtain rfl := Option.some.inj H
      go_wp2
      go_ret
      exact ⟨_, by first | rfl | (simp [errW_none, errW_some] <;> rfl) | (simp [*, errW_none, errW_some] <;> rfl), by (with_reducible repeat (first|apply Kd.R_alloc|apply Kd.R_drewN|apply Kd.R_drew)); exact HO_3.out, by repeat (first|(with_reducible first|exact HB.out|apply below_alloc|apply pw_below_drewN|apply below_drew1)|exact HB.out)⟩
  ·rw [if_neg c3] at H
   exact absurd H (by simp)
 ·rw [if_neg c2] at H
  exact absurd H (by simp)

/-! ### strings_IndexByte: function 102 -/
def strings_IndexByte.f (a0 : ByteArray) (a1 : Int) : Option Int := some (Lib.indexByte a0.data.toList a1.toNat.toUInt8)
theorem strings_IndexByte.calls (a0 : ByteArray) (a1 : Int) (r : Int) (w : World) (h : strings_IndexByte.f a0 a1 = some r) :
  Calls Try.prog 102 #[.string a0, .int .u8 a1] w fun e w' => e = .returned (.int .i64 r) ∧ Drawn0 w w' := by
 unfold strings_IndexByte.f at h
 obtain rfl := Option.some.inj h
 refine (Try.strings_IndexByte a0 a1 w).mono ?_
 rintro e w' ⟨rfl, rfl⟩
 exact ⟨rfl, Drawn0.refl _⟩

/-! ### impl_TextValid: function 89 -/
def impl_TextValid.l0 : Nat → ByteArray → Int → Option (Bool)
 | 0, _, _ => none
 | k + 1, x0, x3 => if x3 < (x0.size : Int) then (if 0 ≤ x3 then (if (bt x0 x3) ≥ 97 then (if (bt x0 x3) ≤ 122 then (impl_TextValid.l0 k x0 (wrap64 (x3 + 1))) else (if (bt x0 x3) ≥ 48 then (if (bt x0 x3) ≤ 57 then (impl_TextValid.l0 k x0 (wrap64 (x3 + 1))) else ((strings_IndexByte.f (⟨#[44, 58, 61, 123, 125, 40, 41, 91, 93]⟩ : ByteArray) (bt x0 x3)).bind fun t140 => (if t140 ≥ 0 then (impl_TextValid.l0 k x0 (wrap64 (x3 + 1))) else (some false)))) else ((strings_IndexByte.f (⟨#[44, 58, 61, 123, 125, 40, 41, 91, 93]⟩ : ByteArray) (bt x0 x3)).bind fun t141 => (if t141 ≥ 0 then (impl_TextValid.l0 k x0 (wrap64 (x3 + 1))) else (some false))))) else (if (bt x0 x3) ≥ 48 then (if (bt x0 x3) ≤ 57 then (impl_TextValid.l0 k x0 (wrap64 (x3 + 1))) else ((strings_IndexByte.f (⟨#[44, 58, 61, 123, 125, 40, 41, 91, 93]⟩ : ByteArray) (bt x0 x3)).bind fun t142 => (if t142 ≥ 0 then (impl_TextValid.l0 k x0 (wrap64 (x3 + 1))) else (some false)))) else ((strings_IndexByte.f (⟨#[44, 58, 61, 123, 125, 40, 41, 91, 93]⟩ : ByteArray) (bt x0 x3)).bind fun t143 => (if t143 ≥ 0 then (impl_TextValid.l0 k x0 (wrap64 (x3 + 1))) else (some false))))) else (none)) else (if (x0.size : Int) ≥ 1 then (some (decide ((x0.size : Int) ≤ 12))) else (some false))
def impl_TextValid.f (k : Nat) (a0 : ByteArray) : Option (Bool) := impl_TextValid.l0 k a0 0
set_option maxHeartbeats 8000000 in
set_option maxRecDepth 100000 in
theorem impl_TextValid.calls (k : Nat) (a0 : ByteArray) (r : Bool) (w : World) (h : impl_TextValid.f k a0 = some r) :
  Calls Try.prog 89 #[.string a0] w fun e w' => e = .returned (.bool r) ∧ Drawn0 w w' := by
 have H : (impl_TextValid.l0 k a0 0) = some r := h
 clear h
 have H' := Aside0.mk H
 clear H
 go_enter Try.func89, Try.ntmps89
 go_wp2
 go_loopg [3] k (fun kq v3 w' => ∃ (x3_1 : Int), v3 = .int .i64 x3_1 ∧ Aside0 (impl_TextValid.l0 kq a0 x3_1 = some r) ∧ Aside0 (kq ≤ k) ∧ Drawn0 w w')
 case atStart => exact ⟨(0), (by first|rfl|(simp;done)|(simp[*];done)), H', ⟨Nat.le_refl _⟩, by repeat (first | exact Drawn0.refl _ | apply Drawn0.step)⟩
 case round =>
  clear H'
  obtain ⟨x3_1, rfl, HA, HK1, ⟨m1, rfl⟩⟩ := hrel
  cases gk with
  | zero => exact absurd HA.out (by simp [impl_TextValid.l0])
  | succ k1 =>
   have H := HA.out
   clear HA
   simp only [impl_TextValid.l0] at H
   by_cases c2 : x3_1 < (a0.size : Int)
   ·rw [if_pos c2] at H
    have c2b0 : decide (x3_1 < (a0.size : Int)) = true := decide_eq_true c2
    clear c2
    by_cases c3 : 0 ≤ x3_1
    ·rw [if_pos c3] at H
     have c3b0 : decide (0 ≤ x3_1) = true := decide_eq_true c3
     clear c3
     by_cases c5 : (bt a0 x3_1) ≥ 97
     ·rw [if_pos c5] at H
      have c5b0 : decide (97 ≤ (bt a0 x3_1)) = true := decide_eq_true c5
      clear c5
      by_cases c7 : (bt a0 x3_1) ≤ 122
      ·rw [if_pos c7] at H
       have c7b0 : decide ((bt a0 x3_1) ≤ 122) = true := decide_eq_true c7
       clear c7
       have H' := Aside0.mk H
       clear H
       have p4 : 0 ≤ (x3_1 : Int) := of_decide_eq_true (by first|(with_reducible assumption)|assumption)
       have q4 : x3_1 < (a0.size : Int) := of_decide_eq_true (by first|(with_reducible assumption)|assumption)
       have hx4 := bt_at a0 x3_1
       replace p4 := eq_true p4
       replace q4 := eq_true q4
       have p6 : 0 ≤ (x3_1 : Int) := of_decide_eq_true (by first|(with_reducible assumption)|assumption)
       have q6 : x3_1 < (a0.size : Int) := of_decide_eq_true (by first|(with_reducible assumption)|assumption)
       have hx6 := bt_at a0 x3_1
       replace p6 := eq_true p6
       replace q6 := eq_true q6
       go_wp2
       go_roundg k1
       case measure => have := HK1.out; omega
       case rel => exact ⟨(wrap64 (x3_1 + 1)), (by first|rfl|(simp;done)|(simp[*];done)), H', ⟨by have := HK1.out; omega⟩, by repeat (first | exact Drawn0.refl _ | apply Drawn0.step)⟩
      ·rw [if_neg c7] at H
       have c7b0 : decide ((bt a0 x3_1) ≤ 122) = false := decide_eq_false c7
       clear c7
       by_cases c9 : (bt a0 x3_1) ≥ 48
       ·rw [if_pos c9] at H
        have c9b0 : decide (48 ≤ (bt a0 x3_1)) = true := decide_eq_true c9
        clear c9
        by_cases c11 : (bt a0 x3_1) ≤ 57
        ·rw [if_pos c11] at H
         have c11b0 : decide ((bt a0 x3_1) ≤ 57) = true := decide_eq_true c11
         clear c11
         have H' := Aside0.mk H
         clear H
         have p4 : 0 ≤ (x3_1 : Int) := of_decide_eq_true (by first|(with_reducible assumption)|assumption)
         have q4 : x3_1 < (a0.size : Int) := of_decide_eq_true (by first|(with_reducible assumption)|assumption)
         have hx4 := bt_at a0 x3_1
         replace p4 := eq_true p4
         replace q4 := eq_true q4
         have p6 : 0 ≤ (x3_1 : Int) := of_decide_eq_true (by first|(with_reducible assumption)|assumption)
         have q6 : x3_1 < (a0.size : Int) := of_decide_eq_true (by first|(with_reducible assumption)|assumption)
         have hx6 := bt_at a0 x3_1
         replace p6 := eq_true p6
         replace q6 := eq_true q6
         have p8 : 0 ≤ (x3_1 : Int) := of_decide_eq_true (by first|(with_reducible assumption)|assumption)
         have q8 : x3_1 < (a0.size : Int) := of_decide_eq_true (by first|(with_reducible assumption)|assumption)
         have hx8 := bt_at a0 x3_1
         replace p8 := eq_true p8
         replace q8 := eq_true q8
         have p10 : 0 ≤ (x3_1 : Int) := of_decide_eq_true (by first|(with_reducible assumption)|assumption)
         have q10 : x3_1 < (a0.size : Int) := of_decide_eq_true (by first|(with_reducible assumption)|assumption)
         have hx10 := bt_at a0 x3_1
         replace p10 := eq_true p10
         replace q10 := eq_true q10
         go_wp2
         go_roundg k1
         case measure => have := HK1.out; omega
         case rel => exact ⟨(wrap64 (x3_1 + 1)), (by first|rfl|(simp;done)|(simp[*];done)), H', ⟨by have := HK1.out; omega⟩, by repeat (first | exact Drawn0.refl _ | apply Drawn0.step)⟩
        ·rw [if_neg c11] at H
         have c11b0 : decide ((bt a0 x3_1) ≤ 57) = false := decide_eq_false c11
         clear c11
         replace H := Option.bind_eq_some_iff.mp H
         obtain ⟨t140, A130, H⟩ := H
         replace H : (if t140 ≥ 0 then (impl_TextValid.l0 k1 a0 (wrap64 (x3_1 + 1))) else (some false)) = some r := H
         have A13 := Aside0.mk A130
         clear A130
         by_cases c14 : t140 ≥ 0
         ·rw [if_pos c14] at H
          have c14b0 : decide (0 ≤ t140) = true := decide_eq_true c14
          clear c14
          have H' := Aside0.mk H
          clear H
          have p4 : 0 ≤ (x3_1 : Int) := of_decide_eq_true (by first|(with_reducible assumption)|assumption)
          have q4 : x3_1 < (a0.size : Int) := of_decide_eq_true (by first|(with_reducible assumption)|assumption)
          have hx4 := bt_at a0 x3_1
          replace p4 := eq_true p4
          replace q4 := eq_true q4
          have p6 : 0 ≤ (x3_1 : Int) := of_decide_eq_true (by first|(with_reducible assumption)|assumption)
          have q6 : x3_1 < (a0.size : Int) := of_decide_eq_true (by first|(with_reducible assumption)|assumption)
          have hx6 := bt_at a0 x3_1
          replace p6 := eq_true p6
          replace q6 := eq_true q6
          have p8 : 0 ≤ (x3_1 : Int) := of_decide_eq_true (by first|(with_reducible assumption)|assumption)
          have q8 : x3_1 < (a0.size : Int) := of_decide_eq_true (by first|(with_reducible assumption)|assumption)
          have hx8 := bt_at a0 x3_1
          replace p8 := eq_true p8
          replace q8 := eq_true q8
          have p10 : 0 ≤ (x3_1 : Int) := of_decide_eq_true (by first|(with_reducible assumption)|assumption)
          have q10 : x3_1 < (a0.size : Int) := of_decide_eq_true (by first|(with_reducible assumption)|assumption)
          have hx10 := bt_at a0 x3_1
          replace p10 := eq_true p10
          replace q10 := eq_true q10
          have p12 : 0 ≤ (x3_1 : Int) := of_decide_eq_true (by first|(with_reducible assumption)|assumption)
          have q12 : x3_1 < (a0.size : Int) := of_decide_eq_true (by first|(with_reducible assumption)|assumption)
          have hx12 := bt_at a0 x3_1
          replace p12 := eq_true p12
          replace q12 := eq_true q12
          go_wp2_with (first | (go_at_call 102; (with_reducible refine (strings_IndexByte.calls (⟨#[44, 58, 61, 123, 125, 40, 41, 91, 93]⟩ : ByteArray) (bt a0 x3_1) t140 _ A13.out).mono ?_); rintro e w' ⟨rfl, ⟨nd, rfl⟩⟩))
          go_roundg k1
          case measure => have := HK1.out; omega
          case rel => exact ⟨(wrap64 (x3_1 + 1)), (by first|rfl|(simp;done)|(simp[*];done)), H', ⟨by have := HK1.out; omega⟩, by repeat (first | exact Drawn0.refl _ | apply Drawn0.step)⟩
         ·rw [if_neg c14] at H
          have c14b0 : decide (0 ≤ t140) = false := decide_eq_false c14
          clear c14
          obtain rfl := Option.some.inj H
          have p4 : 0 ≤ (x3_1 : Int) := of_decide_eq_true (by first|(with_reducible assumption)|assumption)
          have q4 : x3_1 < (a0.size : Int) := of_decide_eq_true (by first|(with_reducible assumption)|assumption)
          have hx4 := bt_at a0 x3_1
          replace p4 := eq_true p4
          replace q4 := eq_true q4
          have p6 : 0 ≤ (x3_1 : Int) := of_decide_eq_true (by first|(with_reducible assumption)|assumption)
          have q6 : x3_1 < (a0.size : Int) := of_decide_eq_true (by first|(with_reducible assumption)|assumption)
          have hx6 := bt_at a0 x3_1
          replace p6 := eq_true p6
          replace q6 := eq_true q6
          have p8 : 0 ≤ (x3_1 : Int) := of_decide_eq_true (by first|(with_reducible assumption)|assumption)
          have q8 : x3_1 < (a0.size : Int) := of_decide_eq_true (by first|(with_reducible assumption)|assumption)
          have hx8 := bt_at a0 x3_1
          replace p8 := eq_true p8
          replace q8 := eq_true q8
          have p10 : 0 ≤ (x3_1 : Int) := of_decide_eq_true (by first|(with_reducible assumption)|assumption)
          have q10 : x3_1 < (a0.size : Int) := of_decide_eq_true (by first|(with_reducible assumption)|assumption)
          have hx10 := bt_at a0 x3_1
          replace p10 := eq_true p10
          replace q10 := eq_true q10
          have p12 : 0 ≤ (x3_1 : Int) := of_decide_eq_true (by first|(with_reducible assumption)|assumption)
          have q12 : x3_1 < (a0.size : Int) := of_decide_eq_true (by first|(with_reducible assumption)|assumption)
          have hx12 := bt_at a0 x3_1
          replace p12 := eq_true p12
          replace q12 := eq_true q12
          go_wp2_with (first | (go_at_call 102; (with_reducible refine (strings_IndexByte.calls (⟨#[44, 58, 61, 123, 125, 40, 41, 91, 93]⟩ : ByteArray) (bt a0 x3_1) t140 _ A13.out).mono ?_); rintro e w' ⟨rfl, ⟨nd, rfl⟩⟩))
          go_ret
          exact ⟨by first | rfl | (simp; done) | (simp [*]; done), by repeat (first | exact Drawn0.refl _ | apply Drawn0.step)⟩
       ·rw [if_neg c9] at H
        have c9b0 : decide (48 ≤ (bt a0 x3_1)) = false := decide_eq_false c9
        clear c9
        replace H := Option.bind_eq_some_iff.mp H
        obtain ⟨t141, A160, H⟩ := H
        replace H : (if t141 ≥ 0 then (impl_TextValid.l0 k1 a0 (wrap64 (x3_1 + 1))) else (some false)) = some r := H
        have A16 := Aside0.mk A160
        clear A160
        by_cases c17 : t141 ≥ 0
        ·rw [if_pos c17] at H
         have c17b0 : decide (0 ≤ t141) = true := decide_eq_true c17
         clear c17
         have H' := Aside0.mk H
         clear H
         have p4 : 0 ≤ (x3_1 : Int) := of_decide_eq_true (by first|(with_reducible assumption)|assumption)
         have q4 : x3_1 < (a0.size : Int) := of_decide_eq_true (by first|(with_reducible assumption)|assumption)
         have hx4 := bt_at a0 x3_1
         replace p4 := eq_true p4
         replace q4 := eq_true q4
         have p6 : 0 ≤ (x3_1 : Int) := of_decide_eq_true (by first|(with_reducible assumption)|assumption)
         have q6 : x3_1 < (a0.size : Int) := of_decide_eq_true (by first|(with_reducible assumption)|assumption)
         have hx6 := bt_at a0 x3_1
         replace p6 := eq_true p6
         replace q6 := eq_true q6
         have p8 : 0 ≤ (x3_1 : Int) := of_decide_eq_true (by first|(with_reducible assumption)|assumption)
         have q8 : x3_1 < (a0.size : Int) := of_decide_eq_true (by first|(with_reducible assumption)|assumption)
         have hx8 := bt_at a0 x3_1
         replace p8 := eq_true p8
         replace q8 := eq_true q8
         have p15 : 0 ≤ (x3_1 : Int) := of_decide_eq_true (by first|(with_reducible assumption)|assumption)
         have q15 : x3_1 < (a0.size : Int) := of_decide_eq_true (by first|(with_reducible assumption)|assumption)
         have hx15 := bt_at a0 x3_1
         replace p15 := eq_true p15
         replace q15 := eq_true q15
         go_wp2_with (first | (go_at_call 102; (with_reducible refine (strings_IndexByte.calls (⟨#[44, 58, 61, 123, 125, 40, 41, 91, 93]⟩ : ByteArray) (bt a0 x3_1) t141 _ A16.out).mono ?_); rintro e w' ⟨rfl, ⟨nd, rfl⟩⟩))
         go_roundg k1
         case measure => have := HK1.out; omega
         case rel => exact ⟨(wrap64 (x3_1 + 1)), (by first|rfl|(simp;done)|(simp[*];done)), H', ⟨by have := HK1.out; omega⟩, by repeat (first | exact Drawn0.refl _ | apply Drawn0.step)⟩
        ·rw [if_neg c17] at H
         have c17b0 : decide (0 ≤ t141) = false := decide_eq_false c17
         clear c17
         obtain rfl := Option.some.inj H
         have p4 : 0 ≤ (x3_1 : Int) := of_decide_eq_true (by first|(with_reducible assumption)|assumption)
         have q4 : x3_1 < (a0.size : Int) := of_decide_eq_true (by first|(with_reducible assumption)|assumption)
         have hx4 := bt_at a0 x3_1
         replace p4 := eq_true p4
         replace q4 := eq_true q4
         have p6 : 0 ≤ (x3_1 : Int) := of_decide_eq_true (by first|(with_reducible assumption)|assumption)
         have q6 : x3_1 < (a0.size : Int) := of_decide_eq_true (by first|(with_reducible assumption)|assumption)
         have hx6 := bt_at a0 x3_1
         replace p6 := eq_true p6
         replace q6 := eq_true q6
         have p8 : 0 ≤ (x3_1 : Int) := of_decide_eq_true (by first|(with_reducible assumption)|assumption)
         have q8 : x3_1 < (a0.size : Int) := of_decide_eq_true (by first|(with_reducible assumption)|assumption)
         have hx8 := bt_at a0 x3_1
         replace p8 := eq_true p8
         replace q8 := eq_true q8
         have p15 : 0 ≤ (x3_1 : Int) := of_decide_eq_true (by first|(with_reducible assumption)|assumption)
         have q15 : x3_1 < (a0.size : Int) := of_decide_eq_true (by first|(with_reducible assumption)|assumption)
         have hx15 := bt_at a0 x3_1
         replace p15 := eq_true p15
         replace q15 := eq_true q15
         go_wp2_with (first | (go_at_call 102; (with_reducible refine (strings_IndexByte.calls (⟨#[44, 58, 61, 123, 125, 40, 41, 91, 93]⟩ : ByteArray) (bt a0 x3_1) t141 _ A16.out).mono ?_); rintro e w' ⟨rfl, ⟨nd, rfl⟩⟩))
         go_ret
         exact ⟨by first | rfl | (simp; done) | (simp [*]; done), by repeat (first | exact Drawn0.refl _ | apply Drawn0.step)⟩
     ·rw [if_neg c5] at H
      have c5b0 : decide (97 ≤ (bt a0 x3_1)) = false := decide_eq_false c5
      clear c5
      by_cases c19 : (bt a0 x3_1) ≥ 48
      ·rw [if_pos c19] at H
       have c19b0 : decide (48 ≤ (bt a0 x3_1)) = true := decide_eq_true c19
       clear c19
       by_cases c21 : (bt a0 x3_1) ≤ 57
       ·rw [if_pos c21] at H
        have c21b0 : decide ((bt a0 x3_1) ≤ 57) = true := decide_eq_true c21
        clear c21
        have H' := Aside0.mk H
        clear H
        have p4 : 0 ≤ (x3_1 : Int) := of_decide_eq_true (by first|(with_reducible assumption)|assumption)
        have q4 : x3_1 < (a0.size : Int) := of_decide_eq_true (by first|(with_reducible assumption)|assumption)
        have hx4 := bt_at a0 x3_1
        replace p4 := eq_true p4
        replace q4 := eq_true q4
        have p18 : 0 ≤ (x3_1 : Int) := of_decide_eq_true (by first|(with_reducible assumption)|assumption)
        have q18 : x3_1 < (a0.size : Int) := of_decide_eq_true (by first|(with_reducible assumption)|assumption)
        have hx18 := bt_at a0 x3_1
        replace p18 := eq_true p18
        replace q18 := eq_true q18
        have p20 : 0 ≤ (x3_1 : Int) := of_decide_eq_true (by first|(with_reducible assumption)|assumption)
        have q20 : x3_1 < (a0.size : Int) := of_decide_eq_true (by first|(with_reducible assumption)|assumption)
        have hx20 := bt_at a0 x3_1
        replace p20 := eq_true p20
        replace q20 := eq_true q20
        go_wp2
        go_roundg k1
        case measure => have := HK1.out; omega
        case rel => exact ⟨(wrap64 (x3_1 + 1)), (by first|rfl|(simp;done)|(simp[*];done)), H', ⟨by have := HK1.out; omega⟩, by repeat (first | exact Drawn0.refl _ | apply Drawn0.step)⟩
       ·rw [if_neg c21] at H
        have c21b0 : decide ((bt a0 x3_1) ≤ 57) = false := decide_eq_false c21
        clear c21
        replace H := Option.bind_eq_some_iff.mp H
        obtain ⟨t142, A230, H⟩ := H
        replace H : (if t142 ≥ 0 then (impl_TextValid.l0 k1 a0 (wrap64 (x3_1 + 1))) else (some false)) = some r := H
        have A23 := Aside0.mk A230
        clear A230
        by_cases c24 : t142 ≥ 0
        ·rw [if_pos c24] at H
         have c24b0 : decide (0 ≤ t142) = true := decide_eq_true c24
         clear c24
         have H' := Aside0.mk H
         clear H
         have p4 : 0 ≤ (x3_1 : Int) := of_decide_eq_true (by first|(with_reducible assumption)|assumption)
         have q4 : x3_1 < (a0.size : Int) := of_decide_eq_true (by first|(with_reducible assumption)|assumption)
         have hx4 := bt_at a0 x3_1
         replace p4 := eq_true p4
         replace q4 := eq_true q4
         have p18 : 0 ≤ (x3_1 : Int) := of_decide_eq_true (by first|(with_reducible assumption)|assumption)
         have q18 : x3_1 < (a0.size : Int) := of_decide_eq_true (by first|(with_reducible assumption)|assumption)
         have hx18 := bt_at a0 x3_1
         replace p18 := eq_true p18
         replace q18 := eq_true q18
         have p20 : 0 ≤ (x3_1 : Int) := of_decide_eq_true (by first|(with_reducible assumption)|assumption)
         have q20 : x3_1 < (a0.size : Int) := of_decide_eq_true (by first|(with_reducible assumption)|assumption)
         have hx20 := bt_at a0 x3_1
         replace p20 := eq_true p20
         replace q20 := eq_true q20
         have p22 : 0 ≤ (x3_1 : Int) := of_decide_eq_true (by first|(with_reducible assumption)|assumption)
         have q22 : x3_1 < (a0.size : Int) := of_decide_eq_true (by first|(with_reducible assumption)|assumption)
         have hx22 := bt_at a0 x3_1
         replace p22 := eq_true p22
         replace q22 := eq_true q22
         go_wp2_with (first | (go_at_call 102; (with_reducible refine (strings_IndexByte.calls (⟨#[44, 58, 61, 123, 125, 40, 41, 91, 93]⟩ : ByteArray) (bt a0 x3_1) t142 _ A23.out).mono ?_); rintro e w' ⟨rfl, ⟨nd, rfl⟩⟩))
         go_roundg k1
         case measure => have := HK1.out; omega
         case rel => exact ⟨(wrap64 (x3_1 + 1)), (by first|rfl|(simp;done)|(simp[*];done)), H', ⟨by have := HK1.out; omega⟩, by repeat (first | exact Drawn0.refl _ | apply Drawn0.step)⟩
        ·rw [if_neg c24] at H
         have c24b0 : decide (0 ≤ t142) = false := decide_eq_false c24
         clear c24
         obtain rfl := Option.some.inj H
         have p4 : 0 ≤ (x3_1 : Int) := of_decide_eq_true (by first|(with_reducible assumption)|assumption)
         have q4 : x3_1 < (a0.size : Int) := of_decide_eq_true (by first|(with_reducible assumption)|assumption)
         have hx4 := bt_at a0 x3_1
         replace p4 := eq_true p4
         replace q4 := eq_true q4
         have p18 : 0 ≤ (x3_1 : Int) := of_decide_eq_true (by first|(with_reducible assumption)|assumption)
         have q18 : x3_1 < (a0.size : Int) := of_decide_eq_true (by first|(with_reducible assumption)|assumption)
         have hx18 := bt_at a0 x3_1
         replace p18 := eq_true p18
         replace q18 := eq_true q18
         have p20 : 0 ≤ (x3_1 : Int) := of_decide_eq_true (by first|(with_reducible assumption)|assumption)
         have q20 : x3_1 < (a0.size : Int) := of_decide_eq_true (by first|(with_reducible assumption)|assumption)
         have hx20 := bt_at a0 x3_1
         replace p20 := eq_true p20
         replace q20 := eq_true q20
         have p22 : 0 ≤ (x3_1 : Int) := of_decide_eq_true (by first|(with_reducible assumption)|assumption)
         have q22 : x3_1 < (a0.size : Int) := of_decide_eq_true (by first|(with_reducible assumption)|assumption)
         have hx22 := bt_at a0 x3_1
         replace p22 := eq_true p22
         replace q22 := eq_true q22
         go_wp2_with (first | (go_at_call 102; (with_reducible refine (strings_IndexByte.calls (⟨#[44, 58, 61, 123, 125, 40, 41, 91, 93]⟩ : ByteArray) (bt a0 x3_1) t142 _ A23.out).mono ?_); rintro e w' ⟨rfl, ⟨nd, rfl⟩⟩))
         go_ret
         exact ⟨by first | rfl | (simp; done) | (simp [*]; done), by repeat (first | exact Drawn0.refl _ | apply Drawn0.step)⟩
      ·rw [if_neg c19] at H
       have c19b0 : decide (48 ≤ (bt a0 x3_1)) = false := decide_eq_false c19
       clear c19
       replace H := Option.bind_eq_some_iff.mp H
       obtain ⟨t143, A260, H⟩ := H
       replace H : (if t143 ≥ 0 then (impl_TextValid.l0 k1 a0 (wrap64 (x3_1 + 1))) else (some false)) = some r := H
       have A26 := Aside0.mk A260
       clear A260
       by_cases c27 : t143 ≥ 0
       ·rw [if_pos c27] at H
        have c27b0 : decide (0 ≤ t143) = true := decide_eq_true c27
        clear c27
        have H' := Aside0.mk H
        clear H
        have p4 : 0 ≤ (x3_1 : Int) := of_decide_eq_true (by first|(with_reducible assumption)|assumption)
        have q4 : x3_1 < (a0.size : Int) := of_decide_eq_true (by first|(with_reducible assumption)|assumption)
        have hx4 := bt_at a0 x3_1
        replace p4 := eq_true p4
        replace q4 := eq_true q4
        have p18 : 0 ≤ (x3_1 : Int) := of_decide_eq_true (by first|(with_reducible assumption)|assumption)
        have q18 : x3_1 < (a0.size : Int) := of_decide_eq_true (by first|(with_reducible assumption)|assumption)
        have hx18 := bt_at a0 x3_1
        replace p18 := eq_true p18
        replace q18 := eq_true q18
        have p25 : 0 ≤ (x3_1 : Int) := of_decide_eq_true (by first|(with_reducible assumption)|assumption)
        have q25 : x3_1 < (a0.size : Int) := of_decide_eq_true (by first|(with_reducible assumption)|assumption)
        have hx25 := bt_at a0 x3_1
        replace p25 := eq_true p25
        replace q25 := eq_true q25
        go_wp2_with (first | (go_at_call 102; (with_reducible refine (strings_IndexByte.calls (⟨#[44, 58, 61, 123, 125, 40, 41, 91, 93]⟩ : ByteArray) (bt a0 x3_1) t143 _ A26.out).mono ?_); rintro e w' ⟨rfl, ⟨nd, rfl⟩⟩))
        go_roundg k1
        case measure => have := HK1.out; omega
        case rel => exact ⟨(wrap64 (x3_1 + 1)), (by first|rfl|(simp;done)|(simp[*];done)), H', ⟨by have := HK1.out; omega⟩, by repeat (first | exact Drawn0.refl _ | apply Drawn0.step)⟩
       ·rw [if_neg c27] at H
        have c27b0 : decide (0 ≤ t143) = false := decide_eq_false c27
        clear c27
        obtain rfl := Option.some.inj H
        have p4 : 0 ≤ (x3_1 : Int) := of_decide_eq_true (by first|(with_reducible assumption)|assumption)
        have q4 : x3_1 < (a0.size : Int) := of_decide_eq_true (by first|(with_reducible assumption)|assumption)
        have hx4 := bt_at a0 x3_1
        replace p4 := eq_true p4
        replace q4 := eq_true q4
        have p18 : 0 ≤ (x3_1 : Int) := of_decide_eq_true (by first|(with_reducible assumption)|assumption)
        have q18 : x3_1 < (a0.size : Int) := of_decide_eq_true (by first|(with_reducible assumption)|assumption)
        have hx18 := bt_at a0 x3_1
        replace p18 := eq_true p18
        replace q18 := eq_true q18
        have p25 : 0 ≤ (x3_1 : Int) := of_decide_eq_true (by first|(with_reducible assumption)|assumption)
        have q25 : x3_1 < (a0.size : Int) := of_decide_eq_true (by first|(with_reducible assumption)|assumption)
        have hx25 := bt_at a0 x3_1
        replace p25 := eq_true p25
        replace q25 := eq_true q25
        go_wp2_with (first | (go_at_call 102; (with_reducible refine (strings_IndexByte.calls (⟨#[44, 58, 61, 123, 125, 40, 41, 91, 93]⟩ : ByteArray) (bt a0 x3_1) t143 _ A26.out).mono ?_); rintro e w' ⟨rfl, ⟨nd, rfl⟩⟩))
        go_ret
        exact ⟨by first | rfl | (simp; done) | (simp [*]; done), by repeat (first | exact Drawn0.refl _ | apply Drawn0.step)⟩
    ·rw [if_neg c3] at H
     exact absurd H (by simp)
   ·rw [if_neg c2] at H
    have c2b0 : decide (x3_1 < (a0.size : Int)) = false := decide_eq_false c2
    clear c2
    by_cases c28 : (a0.size : Int) ≥ 1
    ·rw [if_pos c28] at H
     have c28b0 : decide (1 ≤ (a0.size : Int)) = true := decide_eq_true c28
     have c28b1 : decide (1 ≤ a0.size) = true := decide_eq_true (by omega)
     clear c28
     obtain rfl := Option.some.inj H
     go_wp2
     go_ret
     exact ⟨by first | rfl | (simp; done) | (simp [*]; done), by repeat (first | exact Drawn0.refl _ | apply Drawn0.step)⟩
    ·rw [if_neg c28] at H
     have c28b0 : decide (1 ≤ (a0.size : Int)) = false := decide_eq_false c28
     have c28b1 : decide (1 ≤ a0.size) = false := decide_eq_false (by omega)
     clear c28
     obtain rfl := Option.some.inj H
     go_wp2
     go_ret
     exact ⟨by first | rfl | (simp; done) | (simp [*]; done), by repeat (first | exact Drawn0.refl _ | apply Drawn0.step)⟩

/-! ### impl_rowBytes: function 73 -/
def impl_rowBytes.l0 : Nat → ByteArray → Int → Option (Bool)
 | 0, _, _ => none
 | k + 1, x0, x3 => if x3 < (x0.size : Int) then (if 0 ≤ x3 then (if (bt x0 x3) = 32 then (impl_rowBytes.l0 k x0 (wrap64 (x3 + 1))) else (if x3 ≤ (wrap64 (x3 + 1)) then (if (wrap64 (x3 + 1)) ≤ (x0.size : Int) then ((impl_TextValid.f k (x0.extract (x3 : Int).toNat ((wrap64 (x3 + 1)) : Int).toNat)).bind fun t144 => (if t144 = true then (impl_rowBytes.l0 k x0 (wrap64 (x3 + 1))) else (some false))) else (none)) else (none))) else (none)) else (some true)
def impl_rowBytes.f (k : Nat) (a0 : ByteArray) : Option (Bool) := impl_rowBytes.l0 k a0 0
set_option maxHeartbeats 8000000 in
set_option maxRecDepth 100000 in
theorem impl_rowBytes.calls (k : Nat) (a0 : ByteArray) (r : Bool) (w : World) (h : impl_rowBytes.f k a0 = some r) :
  Calls Try.prog 73 #[.string a0] w fun e w' => e = .returned (.bool r) ∧ Drawn0 w w' := by
 have H : (impl_rowBytes.l0 k a0 0) = some r := h
 clear h
 have H' := Aside0.mk H
 clear H
 go_enter Try.func73, Try.ntmps73
 go_wp2
 go_loopg [3] k (fun kq v3 w' => ∃ (x3_1 : Int), v3 = .int .i64 x3_1 ∧ Aside0 (impl_rowBytes.l0 kq a0 x3_1 = some r) ∧ Aside0 (kq ≤ k) ∧ Drawn0 w w')
 case atStart => exact ⟨(0), (by first|rfl|(simp;done)|(simp[*];done)), H', ⟨Nat.le_refl _⟩, by repeat (first | exact Drawn0.refl _ | apply Drawn0.step)⟩
 case round =>
  clear H'
  obtain ⟨x3_1, rfl, HA, HK1, ⟨m1, rfl⟩⟩ := hrel
  cases gk with
  | zero => exact absurd HA.out (by simp [impl_rowBytes.l0])
  | succ k1 =>
   have H := HA.out
   clear HA
   simp only [impl_rowBytes.l0] at H
   by_cases c2 : x3_1 < (a0.size : Int)
   ·rw [if_pos c2] at H
    have c2b0 : decide (x3_1 < (a0.size : Int)) = true := decide_eq_true c2
    clear c2
    by_cases c3 : 0 ≤ x3_1
    ·rw [if_pos c3] at H
     have c3b0 : decide (0 ≤ x3_1) = true := decide_eq_true c3
     clear c3
     by_cases c5 : (bt a0 x3_1) = 32
     ·rw [if_pos c5] at H
      have c5b0 : ((bt a0 x3_1) == 32) = true := beq_iff_eq.mpr c5
      have c5b1 : ((bt a0 x3_1) != 32) = false := bne_eq_false_iff_eq.mpr c5
      clear c5
      have H' := Aside0.mk H
      clear H
      have p4 : 0 ≤ (x3_1 : Int) := of_decide_eq_true (by first|(with_reducible assumption)|assumption)
      have q4 : x3_1 < (a0.size : Int) := of_decide_eq_true (by first|(with_reducible assumption)|assumption)
      have hx4 := bt_at a0 x3_1
      replace p4 := eq_true p4
      replace q4 := eq_true q4
      go_wp2
      go_roundg k1
      case measure => have := HK1.out; omega
      case rel => exact ⟨(wrap64 (x3_1 + 1)), (by first|rfl|(simp;done)|(simp[*];done)), H', ⟨by have := HK1.out; omega⟩, by repeat (first | exact Drawn0.refl _ | apply Drawn0.step)⟩
     ·rw [if_neg c5] at H
      have c5b0 : ((bt a0 x3_1) == 32) = false := beq_eq_false_iff_ne.mpr c5
      have c5b1 : ((bt a0 x3_1) != 32) = true := bne_iff_ne.mpr c5
      have c6b0 := eq_true (of_decide_eq_true (by first|(with_reducible assumption)|assumption) : 0 ≤ x3_1)
      by_cases c7 : x3_1 ≤ (wrap64 (x3_1 + 1))
      ·rw [if_pos c7] at H
       have c7b0 := eq_true c7
       have c7b1 : decide (x3_1 ≤ (wrap64 (x3_1 + 1))) = true := decide_eq_true c7
       by_cases c8 : (wrap64 (x3_1 + 1)) ≤ (a0.size : Int)
       ·rw [if_pos c8] at H
        have c8b0 := eq_true c8
        have c8b1 : decide ((wrap64 (x3_1 + 1)) ≤ (a0.size : Int)) = true := decide_eq_true c8
        replace H := Option.bind_eq_some_iff.mp H
        obtain ⟨t144, A90, H⟩ := H
        replace H : (if t144 = true then (impl_rowBytes.l0 k1 a0 (wrap64 (x3_1 + 1))) else (some false)) = some r := H
        have A9 := Aside0.mk A90
        clear A90
        by_cases c10 : t144 = true
        ·subst c10
         have H1 : (impl_rowBytes.l0 k1 a0 (wrap64 (x3_1 + 1))) = some r := by rw [if_pos rfl] at H; exact H
         clear H
         have H := H1
         clear H1
         have H' := Aside0.mk H
         clear H
         have p4 : 0 ≤ (x3_1 : Int) := of_decide_eq_true (by first|(with_reducible assumption)|assumption)
         have q4 : x3_1 < (a0.size : Int) := of_decide_eq_true (by first|(with_reducible assumption)|assumption)
         have hx4 := bt_at a0 x3_1
         replace p4 := eq_true p4
         replace q4 := eq_true q4
         go_wp2_with (first | (go_at_call 89; (with_reducible refine (impl_TextValid.calls k1 (a0.extract (x3_1 : Int).toNat ((wrap64 (x3_1 + 1)) : Int).toNat) true _ A9.out).mono ?_); rintro e w' ⟨rfl, ⟨nd, rfl⟩⟩))
         go_roundg k1
         case measure => have := HK1.out; omega
         case rel => exact ⟨(wrap64 (x3_1 + 1)), (by first|rfl|(simp;done)|(simp[*];done)), H', ⟨by have := HK1.out; omega⟩, by repeat (first | exact Drawn0.refl _ | apply Drawn0.step)⟩
        ·replace c10 := Bool.eq_false_iff.mpr c10
         subst c10
         have H1 : (some false) = some r := by rw [if_neg (show ¬ (false = true) by decide)] at H; exact H
         clear H
         have H := H1
         clear H1
         obtain rfl := Option.some.inj H
         have p4 : 0 ≤ (x3_1 : Int) := of_decide_eq_true (by first|(with_reducible assumption)|assumption)
         have q4 : x3_1 < (a0.size : Int) := of_decide_eq_true (by first|(with_reducible assumption)|assumption)
         have hx4 := bt_at a0 x3_1
         replace p4 := eq_true p4
         replace q4 := eq_true q4
         go_wp2_with (first | (go_at_call 89; (with_reducible refine (impl_TextValid.calls k1 (a0.extract (x3_1 : Int).toNat ((wrap64 (x3_1 + 1)) : Int).toNat) false _ A9.out).mono ?_); rintro e w' ⟨rfl, ⟨nd, rfl⟩⟩))
         go_ret
         exact ⟨by first | rfl | (simp; done) | (simp [*]; done), by repeat (first | exact Drawn0.refl _ | apply Drawn0.step)⟩
       ·rw [if_neg c8] at H
        exact absurd H (by simp)
      ·rw [if_neg c7] at H
       exact absurd H (by simp)
    ·rw [if_neg c3] at H
     exact absurd H (by simp)
   ·rw [if_neg c2] at H
    have c2b0 : decide (x3_1 < (a0.size : Int)) = false := decide_eq_false c2
    clear c2
    obtain rfl := Option.some.inj H
    go_wp2
    go_ret
    exact ⟨by first | rfl | (simp; done) | (simp [*]; done), by repeat (first | exact Drawn0.refl _ | apply Drawn0.step)⟩

end Go.Proofs.Ytkcpimhohadjkaa.PPe
