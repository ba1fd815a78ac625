-- Written by a program of this session (xprint). -- COMPACT
import Derived.Test.YtkcpimhohadjkaaPOpx0
import Derived.Test.YtkcpimhohadjkaaPOpx2
import Derived.Test.YtkcpimhohadjkaaPOpx9
namespace Go.Proofs.Ytkcpimhohadjkaa.POp
open Go.RowKit Go.Proofs.YtkcpimhohadjkaaW.PrintWords Go.Proofs.YtkcpimhohadjkaaW.PrintLast Go.Proofs.YtkcpimhohadjkaaW.PrintMore
attribute [local go_sem] max2_int min2_int max_two min_two max_three min_three max_four min_four   -- for this text's walks alone
set_option linter.unusedVariables false
set_option linter.unusedSimpArgs false

/-! ### spec_LayoutValid: function 52 -/
mutual
def spec_LayoutValid.l0 : Nat → List (S59) → Int → Option (Bool)
 | 0, _, _ => none
 | k + 1, x0, x3 => if x3 < (x0.length : Int) then (spec_LayoutValid.j1 k x0 x3 (decide (x3 ≤ 200))) else (spec_LayoutValid.j1 k x0 x3 false)
def spec_LayoutValid.j1 : Nat → List (S59) → Int → Bool → Option (Bool)
 | 0, _, _, _ => none
 | k + 1, x0, x3, x11 => if x11 = true then (if 0 ≤ x3 then (if x3 < (x0.length : Int) then (if ((rd_T59 x0 x3).f0) < 0 then (some false) else (if ((rd_T59 x0 x3).f0) > 400 then (some false) else (if x3 = 0 then (if ((rd_T59 x0 x3).f0) = 0 then ((spec_l2Text.f k ((rd_T59 x0 x3).f1)).bind fun t450 => (if t450 = true then (spec_LayoutValid.l0 k x0 (wrap64 (x3 + 1))) else (some false))) else (some false)) else ((spec_l2Text.f k ((rd_T59 x0 x3).f1)).bind fun t452 => (if t452 = true then (spec_LayoutValid.l0 k x0 (wrap64 (x3 + 1))) else (some false)))))) else (none)) else (none)) else (if (x0.length : Int) > 0 then (some (decide ((x0.length : Int) ≤ 200))) else (some false))
end
def spec_LayoutValid.f (k : Nat) (l0 : List (S59)) : Option (Bool) := spec_LayoutValid.l0 k l0 0
set_option maxHeartbeats 8000000 in
set_option maxRecDepth 100000 in
theorem spec_LayoutValid.calls (k : Nat) (A0 : Option Addr) (c0 : Nat) (l0 : List (S59)) (r : Bool) (w : World) (hr0 : Kd.C k59 w A0 l0.length l0) (hc0 : l0.length ≤ c0) (h : spec_LayoutValid.f k l0 = some r) :
  Calls Try.prog 52 #[.slice A0 l0.length c0] w fun e w' => e = .returned (.bool r) ∧ Drawn0 w w' := by
 have HR0 := Aside0.mk hr0
 have HC0 := Aside0.mk hc0
 clear hr0 hc0
 have H : (spec_LayoutValid.l0 k l0 0) = some r := h
 clear h
 have H' := Aside0.mk H
 clear H
 go_enter Try.func52, Try.ntmps52
 go_wp2
 go_loopg [3] k (fun kq v3 w' => ∃ (x3_1 : Int), v3 = .int .i64 x3_1 ∧ Aside0 (spec_LayoutValid.l0 kq l0 x3_1 = some r) ∧ Aside0 (kq ≤ k) ∧ Drawn0 w w')
 case atStart => exact ⟨(0), aR, H', ⟨Nat.le_refl _⟩, by repeat (first | exact Drawn0.refl _ | apply Drawn0.step)⟩
 case round =>
  clear H'
  obtain ⟨x3_1, rfl, HA, HK1, ⟨m1, rfl⟩⟩ := hrel
  cases gk with
  | zero => exact absurd HA.out (by simp [spec_LayoutValid.l0])
  | succ k1 =>
   have H := HA.out
   clear HA
   simp only [spec_LayoutValid.l0] at H
   have HC2 := Aside0.mk H
   clear H
   go_upto_region 2 with (fail)
   go_cut [11] (fun v11 wc => ∃ (kq : Nat) (x11_1 : Bool), v11 = .bool x11_1 ∧ Aside0 (spec_LayoutValid.j1 kq l0 x3_1 x11_1 = some r) ∧ Aside0 (kq ≤ k1) ∧ Drawn0 w wc)
   case first =>
    have H := HC2.out
    clear HC2
    by_cases c3 : x3_1 < (l0.length : Int)
    ·rw [if_pos c3] at H
     have c3b0 : decide (x3_1 < (l0.length : Int)) = true := decide_eq_true c3
     clear c3
     (first | rw [c3b0] | (simp only [i64_w, i32_w]; rw [c3b0]) | skip)
     have H' := Aside0.mk H
     clear H
     go_wp2
     go_meet
     case rel => exact ⟨_, (decide (x3_1 ≤ 200)), aR, H', ⟨by have := HK1.out; first | omega | exact Nat.le_refl _⟩, by repeat (first | exact Drawn0.refl _ | apply Drawn0.step)⟩
    ·rw [if_neg c3] at H
     have c3b0 : decide (x3_1 < (l0.length : Int)) = false := decide_eq_false c3
     clear c3
     (first | rw [c3b0] | (simp only [i64_w, i32_w]; rw [c3b0]) | skip)
     have H' := Aside0.mk H
     clear H
     go_wp2
     go_meet
     case rel => exact ⟨_, (false), aR, H', ⟨by have := HK1.out; first | omega | exact Nat.le_refl _⟩, by repeat (first | exact Drawn0.refl _ | apply Drawn0.step)⟩
   case rest =>
    clear HC2
    try clear p2
    try clear c3
    try clear c3b0
    obtain ⟨kq, x11_1, rfl, HA, HJ1, ⟨mc1, rfl⟩⟩ := hcut
    cases kq with
    | zero => exact absurd HA.out (by simp [spec_LayoutValid.j1])
    | succ kj1 =>
     have H := HA.out
     clear HA
     simp only [spec_LayoutValid.j1] at H
     by_cases c4 : x11_1 = true
     ·subst c4
      have H1 : (if 0 ≤ x3_1 then (if x3_1 < (l0.length : Int) then (if ((rd_T59 l0 x3_1).f0) < 0 then (some false) else (if ((rd_T59 l0 x3_1).f0) > 400 then (some false) else (if x3_1 = 0 then (if ((rd_T59 l0 x3_1).f0) = 0 then ((spec_l2Text.f kj1 ((rd_T59 l0 x3_1).f1)).bind fun t450 => (if t450 = true then (spec_LayoutValid.l0 kj1 l0 (wrap64 (x3_1 + 1))) else (some false))) else (some false)) else ((spec_l2Text.f kj1 ((rd_T59 l0 x3_1).f1)).bind fun t452 => (if t452 = true then (spec_LayoutValid.l0 kj1 l0 (wrap64 (x3_1 + 1))) else (some false)))))) else (none)) else (none)) = some r := by rw [if_pos rfl] at H; exact H
      clear H
      have H := H1
      clear H1
      by_cases c5 : 0 ≤ x3_1
      ·rw [if_pos c5] at H
       have c5b0 : decide (0 ≤ x3_1) = true := decide_eq_true c5
       clear c5
       by_cases c6 : x3_1 < (l0.length : Int)
       ·rw [if_pos c6] at H
        have c6b0 : decide (x3_1 < (l0.length : Int)) = true := decide_eq_true c6
        clear c6
        by_cases c7 : ((rd_T59 l0 x3_1).f0) < 0
        ·rw [if_pos c7] at H
         have c7b0 : decide (((rd_T59 l0 x3_1).f0) < 0) = true := decide_eq_true c7
         clear c7
         obtain rfl := Option.some.inj H
         have p446 : 0 ≤ (x3_1 : Int) := of_decide_eq_true aQ
         have q446 : x3_1 < (l0.length : Int) := of_decide_eq_true aQ
         obtain ⟨ad446, e446, hx446_0, hx446_1⟩ := at_T59 HR0.out x3_1 p446 q446
         cases e446
         replace p446 := eq_true p446
         replace q446 := eq_true q446
         go_wp2
         go_ret
         exact ⟨by first | rfl | (simp; done) | (simp [*]; done), by repeat (first | exact Drawn0.refl _ | apply Drawn0.step)⟩
        ·rw [if_neg c7] at H
         have c7b0 : decide (((rd_T59 l0 x3_1).f0) < 0) = false := decide_eq_false c7
         clear c7
         by_cases c8 : ((rd_T59 l0 x3_1).f0) > 400
         ·rw [if_pos c8] at H
          have c8b0 : decide (400 < ((rd_T59 l0 x3_1).f0)) = true := decide_eq_true c8
          clear c8
          obtain rfl := Option.some.inj H
          have p446 : 0 ≤ (x3_1 : Int) := of_decide_eq_true aQ
          have q446 : x3_1 < (l0.length : Int) := of_decide_eq_true aQ
          obtain ⟨ad446, e446, hx446_0, hx446_1⟩ := at_T59 HR0.out x3_1 p446 q446
          cases e446
          replace p446 := eq_true p446
          replace q446 := eq_true q446
          have p447 : 0 ≤ (x3_1 : Int) := of_decide_eq_true aQ
          have q447 : x3_1 < (l0.length : Int) := of_decide_eq_true aQ
          obtain ⟨ad447, e447, hx447_0, hx447_1⟩ := at_T59 HR0.out x3_1 p447 q447
          obtain rfl : ad446 = ad447 := (by injection e447)
          replace p447 := eq_true p447
          replace q447 := eq_true q447
          go_wp2
          go_ret
          exact ⟨by first | rfl | (simp; done) | (simp [*]; done), by repeat (first | exact Drawn0.refl _ | apply Drawn0.step)⟩
         ·rw [if_neg c8] at H
          have c8b0 : decide (400 < ((rd_T59 l0 x3_1).f0)) = false := decide_eq_false c8
          clear c8
          by_cases c9 : x3_1 = 0
          ·rw [if_pos c9] at H
           have c9b0 : (x3_1 == 0) = true := beq_iff_eq.mpr c9
           have c9b1 : (x3_1 != 0) = false := bne_eq_false_iff_eq.mpr c9
           clear c9
           by_cases c10 : ((rd_T59 l0 x3_1).f0) = 0
           ·rw [if_pos c10] at H
            have c10b0 : (((rd_T59 l0 x3_1).f0) == 0) = true := beq_iff_eq.mpr c10
            have c10b1 : (((rd_T59 l0 x3_1).f0) != 0) = false := bne_eq_false_iff_eq.mpr c10
            clear c10
            replace H := Option.bind_eq_some_iff.mp H
            obtain ⟨t450, A110, H⟩ := H
            replace H : (if t450 = true then (spec_LayoutValid.l0 kj1 l0 (wrap64 (x3_1 + 1))) else (some false)) = some r := H
            have A11 := Aside0.mk A110
            clear A110
            by_cases c12 : t450 = true
            ·subst c12
             have H1 : (spec_LayoutValid.l0 kj1 l0 (wrap64 (x3_1 + 1))) = some r := by rw [if_pos rfl] at H; exact H
             clear H
             have H := H1
             clear H1
             have H' := Aside0.mk H
             clear H
             have p446 : 0 ≤ (x3_1 : Int) := of_decide_eq_true aQ
             have q446 : x3_1 < (l0.length : Int) := of_decide_eq_true aQ
             obtain ⟨ad446, e446, hx446_0, hx446_1⟩ := at_T59 HR0.out x3_1 p446 q446
             cases e446
             replace p446 := eq_true p446
             replace q446 := eq_true q446
             have p447 : 0 ≤ (x3_1 : Int) := of_decide_eq_true aQ
             have q447 : x3_1 < (l0.length : Int) := of_decide_eq_true aQ
             obtain ⟨ad447, e447, hx447_0, hx447_1⟩ := at_T59 HR0.out x3_1 p447 q447
             obtain rfl : ad446 = ad447 := (by injection e447)
             replace p447 := eq_true p447
             replace q447 := eq_true q447
             have p448 : 0 ≤ (x3_1 : Int) := of_decide_eq_true aQ
             have q448 : x3_1 < (l0.length : Int) := of_decide_eq_true aQ
             obtain ⟨ad448, e448, hx448_0, hx448_1⟩ := at_T59 HR0.out x3_1 p448 q448
             obtain rfl : ad446 = ad448 := (by injection e448)
             replace p448 := eq_true p448
             replace q448 := eq_true q448
             have p449 : 0 ≤ (x3_1 : Int) := of_decide_eq_true aQ
             have q449 : x3_1 < (l0.length : Int) := of_decide_eq_true aQ
             obtain ⟨ad449, e449, hx449_0, hx449_1⟩ := at_T59 HR0.out x3_1 p449 q449
             obtain rfl : ad446 = ad449 := (by injection e449)
             replace p449 := eq_true p449
             replace q449 := eq_true q449
             go_wp2_with (first | (go_at_call 76; (with_reducible refine (spec_l2Text.calls kj1 ((rd_T59 l0 x3_1).f1) true _ A11.out).mono ?_); rintro e w' ⟨rfl, ⟨nd, rfl⟩⟩))
             go_roundg kj1
             case measure => have := HK1.out; have := HJ1.out; omega
             case rel => exact ⟨(wrap64 (x3_1 + 1)), aR, H', ⟨by have := HK1.out; have := HJ1.out; omega⟩, by repeat (first | exact Drawn0.refl _ | apply Drawn0.step)⟩
            ·replace c12 := Bool.eq_false_iff.mpr c12
             subst c12
             have H1 : (some false) = some r := by rw [if_neg (show ¬ (false = true) by decide)] at H; exact H
             clear H
             have H := H1
             clear H1
             obtain rfl := Option.some.inj H
             have p446 : 0 ≤ (x3_1 : Int) := of_decide_eq_true aQ
             have q446 : x3_1 < (l0.length : Int) := of_decide_eq_true aQ
             obtain ⟨ad446, e446, hx446_0, hx446_1⟩ := at_T59 HR0.out x3_1 p446 q446
             cases e446
             replace p446 := eq_true p446
             replace q446 := eq_true q446
             have p447 : 0 ≤ (x3_1 : Int) := of_decide_eq_true aQ
             have q447 : x3_1 < (l0.length : Int) := of_decide_eq_true aQ
             obtain ⟨ad447, e447, hx447_0, hx447_1⟩ := at_T59 HR0.out x3_1 p447 q447
             obtain rfl : ad446 = ad447 := (by injection e447)
             replace p447 := eq_true p447
             replace q447 := eq_true q447
             have p448 : 0 ≤ (x3_1 : Int) := of_decide_eq_true aQ
             have q448 : x3_1 < (l0.length : Int) := of_decide_eq_true aQ
             obtain ⟨ad448, e448, hx448_0, hx448_1⟩ := at_T59 HR0.out x3_1 p448 q448
             obtain rfl : ad446 = ad448 := (by injection e448)
             replace p448 := eq_true p448
             replace q448 := eq_true q448
             have p449 : 0 ≤ (x3_1 : Int) := of_decide_eq_true aQ
             have q449 : x3_1 < (l0.length : Int) := of_decide_eq_true aQ
             obtain ⟨ad449, e449, hx449_0, hx449_1⟩ := at_T59 HR0.out x3_1 p449 q449
             obtain rfl : ad446 = ad449 := (by injection e449)
             replace p449 := eq_true p449
             replace q449 := eq_true q449
             go_wp2_with (first | (go_at_call 76; (with_reducible refine (spec_l2Text.calls kj1 ((rd_T59 l0 x3_1).f1) false _ A11.out).mono ?_); rintro e w' ⟨rfl, ⟨nd, rfl⟩⟩))
             go_ret
             exact ⟨by first | rfl | (simp; done) | (simp [*]; done), by repeat (first | exact Drawn0.refl _ | apply Drawn0.step)⟩
           ·rw [if_neg c10] at H
            have c10b0 : (((rd_T59 l0 x3_1).f0) == 0) = false := beq_eq_false_iff_ne.mpr c10
            have c10b1 : (((rd_T59 l0 x3_1).f0) != 0) = true := bne_iff_ne.mpr c10
            obtain rfl := Option.some.inj H
            have p446 : 0 ≤ (x3_1 : Int) := of_decide_eq_true aQ
            have q446 : x3_1 < (l0.length : Int) := of_decide_eq_true aQ
            obtain ⟨ad446, e446, hx446_0, hx446_1⟩ := at_T59 HR0.out x3_1 p446 q446
            cases e446
            replace p446 := eq_true p446
            replace q446 := eq_true q446
            have p447 : 0 ≤ (x3_1 : Int) := of_decide_eq_true aQ
            have q447 : x3_1 < (l0.length : Int) := of_decide_eq_true aQ
            obtain ⟨ad447, e447, hx447_0, hx447_1⟩ := at_T59 HR0.out x3_1 p447 q447
            obtain rfl : ad446 = ad447 := (by injection e447)
            replace p447 := eq_true p447
            replace q447 := eq_true q447
            have p448 : 0 ≤ (x3_1 : Int) := of_decide_eq_true aQ
            have q448 : x3_1 < (l0.length : Int) := of_decide_eq_true aQ
            obtain ⟨ad448, e448, hx448_0, hx448_1⟩ := at_T59 HR0.out x3_1 p448 q448
            obtain rfl : ad446 = ad448 := (by injection e448)
            replace p448 := eq_true p448
            replace q448 := eq_true q448
            go_wp2
            go_ret
            exact ⟨by first | rfl | (simp; done) | (simp [*]; done), by repeat (first | exact Drawn0.refl _ | apply Drawn0.step)⟩
          ·rw [if_neg c9] at H
           have c9b0 : (x3_1 == 0) = false := beq_eq_false_iff_ne.mpr c9
           have c9b1 : (x3_1 != 0) = true := bne_iff_ne.mpr c9
           replace H := Option.bind_eq_some_iff.mp H
           obtain ⟨t452, A130, H⟩ := H
           replace H : (if t452 = true then (spec_LayoutValid.l0 kj1 l0 (wrap64 (x3_1 + 1))) else (some false)) = some r := H
           have A13 := Aside0.mk A130
           clear A130
           by_cases c14 : t452 = true
           ·subst c14
            have H1 : (spec_LayoutValid.l0 kj1 l0 (wrap64 (x3_1 + 1))) = some r := by rw [if_pos rfl] at H; exact H
            clear H
            have H := H1
            clear H1
            have H' := Aside0.mk H
            clear H
            have p446 : 0 ≤ (x3_1 : Int) := of_decide_eq_true aQ
            have q446 : x3_1 < (l0.length : Int) := of_decide_eq_true aQ
            obtain ⟨ad446, e446, hx446_0, hx446_1⟩ := at_T59 HR0.out x3_1 p446 q446
            cases e446
            replace p446 := eq_true p446
            replace q446 := eq_true q446
            have p447 : 0 ≤ (x3_1 : Int) := of_decide_eq_true aQ
            have q447 : x3_1 < (l0.length : Int) := of_decide_eq_true aQ
            obtain ⟨ad447, e447, hx447_0, hx447_1⟩ := at_T59 HR0.out x3_1 p447 q447
            obtain rfl : ad446 = ad447 := (by injection e447)
            replace p447 := eq_true p447
            replace q447 := eq_true q447
            have p451 : 0 ≤ (x3_1 : Int) := of_decide_eq_true aQ
            have q451 : x3_1 < (l0.length : Int) := of_decide_eq_true aQ
            obtain ⟨ad451, e451, hx451_0, hx451_1⟩ := at_T59 HR0.out x3_1 p451 q451
            obtain rfl : ad446 = ad451 := (by injection e451)
            replace p451 := eq_true p451
            replace q451 := eq_true q451
            go_wp2_with (first | (go_at_call 76; (with_reducible refine (spec_l2Text.calls kj1 ((rd_T59 l0 x3_1).f1) true _ A13.out).mono ?_); rintro e w' ⟨rfl, ⟨nd, rfl⟩⟩))
            go_roundg kj1
            case measure => have := HK1.out; have := HJ1.out; omega
            case rel => exact ⟨(wrap64 (x3_1 + 1)), aR, H', ⟨by have := HK1.out; have := HJ1.out; omega⟩, by repeat (first | exact Drawn0.refl _ | apply Drawn0.step)⟩
           ·replace c14 := Bool.eq_false_iff.mpr c14
            subst c14
            have H1 : (some false) = some r := by rw [if_neg (show ¬ (false = true) by decide)] at H; exact H
            clear H
            have H := H1
            clear H1
            obtain rfl := Option.some.inj H
            have p446 : 0 ≤ (x3_1 : Int) := of_decide_eq_true aQ
            have q446 : x3_1 < (l0.length : Int) := of_decide_eq_true aQ
            obtain ⟨ad446, e446, hx446_0, hx446_1⟩ := at_T59 HR0.out x3_1 p446 q446
            cases e446
            replace p446 := eq_true p446
            replace q446 := eq_true q446
            have p447 : 0 ≤ (x3_1 : Int) := of_decide_eq_true aQ
            have q447 : x3_1 < (l0.length : Int) := of_decide_eq_true aQ
            obtain ⟨ad447, e447, hx447_0, hx447_1⟩ := at_T59 HR0.out x3_1 p447 q447
            obtain rfl : ad446 = ad447 := (by injection e447)
            replace p447 := eq_true p447
            replace q447 := eq_true q447
            have p451 : 0 ≤ (x3_1 : Int) := of_decide_eq_true aQ
            have q451 : x3_1 < (l0.length : Int) := of_decide_eq_true aQ
            obtain ⟨ad451, e451, hx451_0, hx451_1⟩ := at_T59 HR0.out x3_1 p451 q451
            obtain rfl : ad446 = ad451 := (by injection e451)
            replace p451 := eq_true p451
            replace q451 := eq_true q451
            go_wp2_with (first | (go_at_call 76; (with_reducible refine (spec_l2Text.calls kj1 ((rd_T59 l0 x3_1).f1) false _ A13.out).mono ?_); rintro e w' ⟨rfl, ⟨nd, rfl⟩⟩))
            go_ret
            exact ⟨by first | rfl | (simp; done) | (simp [*]; done), by repeat (first | exact Drawn0.refl _ | apply Drawn0.step)⟩
       ·rw [if_neg c6] at H
        exact absurd H (by simp)
      ·rw [if_neg c5] at H
       exact absurd H (by simp)
     ·replace c4 := Bool.eq_false_iff.mpr c4
      subst c4
      have H1 : (if (l0.length : Int) > 0 then (some (decide ((l0.length : Int) ≤ 200))) else (some false)) = some r := by rw [if_neg (show ¬ (false = true) by decide)] at H; exact H
      clear H
      have H := H1
      clear H1
      by_cases c15 : (l0.length : Int) > 0
      ·rw [if_pos c15] at H
       have c15b0 : decide (0 < (l0.length : Int)) = true := decide_eq_true c15
       have c15b1 : decide (0 < l0.length) = true := decide_eq_true (by omega)
       clear c15
       obtain rfl := Option.some.inj H
       go_wp2
       go_ret
       exact ⟨by first | rfl | (simp; done) | (simp [*]; done), by repeat (first | exact Drawn0.refl _ | apply Drawn0.step)⟩
      ·rw [if_neg c15] at H
       have c15b0 : decide (0 < (l0.length : Int)) = false := decide_eq_false c15
       have c15b1 : decide (0 < l0.length) = false := decide_eq_false (by omega)
       clear c15
       obtain rfl := Option.some.inj H
       go_wp2
       go_ret
       exact ⟨by first | rfl | (simp; done) | (simp [*]; done), by repeat (first | exact Drawn0.refl _ | apply Drawn0.step)⟩

/-! ### spec_l2Spaces: function 55 -/
def spec_l2Spaces.l0 : Nat → Int → ByteArray → Int → Option (ByteArray)
 | 0, _, _, _ => none
 | k + 1, x0, x3, x4 => if x4 < x0 then (if x3.size + 1 ≤ 9223372036854775807 then (spec_l2Spaces.l0 k x0 (x3 ++ (⟨#[32]⟩ : ByteArray)) (wrap64 (x4 + 1))) else (none)) else (some x3)
def spec_l2Spaces.f (k : Nat) (a0 : Int) : Option (ByteArray) := spec_l2Spaces.l0 k a0 (⟨#[]⟩ : ByteArray) 0
set_option maxHeartbeats 8000000 in
set_option maxRecDepth 100000 in
theorem spec_l2Spaces.calls (k : Nat) (a0 : Int) (r : ByteArray) (w : World) (h : spec_l2Spaces.f k a0 = some r) :
  Calls Try.prog 55 #[.int .i64 a0] w fun e w' => e = .returned (.string r) ∧ Drawn0 w w' := by
 have H : (spec_l2Spaces.l0 k a0 (⟨#[]⟩ : ByteArray) 0) = some r := h
 clear h
 have H' := Aside0.mk H
 clear H
 go_enter Try.func55, Try.ntmps55
 go_wp2
 go_loopg [3, 4] k (fun kq v3 v4 w' => ∃ (x3_1 : ByteArray) (x4_1 : Int), v3 = .string x3_1 ∧ v4 = .int .i64 x4_1 ∧ Aside0 (spec_l2Spaces.l0 kq a0 x3_1 x4_1 = some r) ∧ Aside0 (kq ≤ k) ∧ Drawn0 w w')
 case atStart => exact ⟨((⟨#[]⟩ : ByteArray)), (0), aR, aR, H', ⟨Nat.le_refl _⟩, by repeat (first | exact Drawn0.refl _ | apply Drawn0.step)⟩
 case round =>
  clear H'
  obtain ⟨x3_1, x4_1, rfl, rfl, HA, HK1, ⟨m1, rfl⟩⟩ := hrel
  cases gk with
  | zero => exact absurd HA.out (by simp [spec_l2Spaces.l0])
  | succ k1 =>
   have H := HA.out
   clear HA
   simp only [spec_l2Spaces.l0] at H
   by_cases c2 : x4_1 < a0
   ·rw [if_pos c2] at H
    have c2b0 : decide (x4_1 < a0) = true := decide_eq_true c2
    clear c2
    by_cases c3 : x3_1.size + 1 ≤ 9223372036854775807
    ·rw [if_pos c3] at H
     have c3b0 := eq_true c3
     have c3b1 : decide (x3_1.size + 1 ≤ 9223372036854775807) = true := decide_eq_true c3
     try have c3b2 : (9223372036854775807 < x3_1.size + 1) = False := eq_false (Nat.not_lt.2 c3)
     have H' := Aside0.mk H
     clear H
     go_wp2
     go_roundg k1
     case measure => have := HK1.out; omega
     case rel => exact ⟨(x3_1 ++ (⟨#[32]⟩ : ByteArray)), (wrap64 (x4_1 + 1)), aR, aR, H', ⟨by have := HK1.out; omega⟩, by repeat (first | exact Drawn0.refl _ | apply Drawn0.step)⟩
    ·rw [if_neg c3] at H
     exact absurd H (by simp)
   ·rw [if_neg c2] at H
    have c2b0 : decide (x4_1 < a0) = false := decide_eq_false c2
    clear c2
    obtain rfl := Option.some.inj H
    go_wp2
    go_ret
    exact ⟨by first | rfl | (simp; done) | (simp [*]; done), by repeat (first | exact Drawn0.refl _ | apply Drawn0.step)⟩

/-! ### spec_l2Line: function 54 -/
def spec_l2Line.f (k : Nat) (a0_0 : Int) (a0_1 : ByteArray) : Option (ByteArray) := if a0_1.toList = ([] : List UInt8) then (some (⟨#[]⟩ : ByteArray)) else ((spec_l2Spaces.f k a0_0).bind fun t454 => (if t454.size + a0_1.size ≤ 9223372036854775807 then (some (t454 ++ a0_1)) else (none)))
set_option maxHeartbeats 8000000 in
set_option maxRecDepth 100000 in
theorem spec_l2Line.calls (k : Nat) (a0_0 : Int) (a0_1 : ByteArray) (r : ByteArray) (w : World) (h : spec_l2Line.f k a0_0 a0_1 = some r) :
  Calls Try.prog 54 #[.agg #[.int .i64 a0_0, .string a0_1]] w fun e w' => e = .returned (.string r) ∧ Below w.heap.size w w' := by
 have hu59 := Try.underlying59
 have HB := Aside0.mk (Below.refl w.heap.size w)
 have H : (if a0_1.toList = ([] : List UInt8) then (some (⟨#[]⟩ : ByteArray)) else ((spec_l2Spaces.f k a0_0).bind fun t454 => (if t454.size + a0_1.size ≤ 9223372036854775807 then (some (t454 ++ a0_1)) else (none)))) = some r := h
 clear h
 by_cases c2 : a0_1.toList = ([] : List UInt8)
 ·rw [if_pos c2] at H
  have c2b0 : (a0_1.toList == ([] : List UInt8)) = true := beq_iff_eq.mpr c2
  have c2b1 : (a0_1.toList != ([] : List UInt8)) = false := bne_eq_false_iff_eq.mpr c2
  clear c2
  obtain rfl := Option.some.inj H
  go_enter Try.func54, Try.ntmps54
  go_wp2_with (first | ((with_reducible refine gate_dst (N := 1) rfl ?_); refine box_event ?hg (N := 1) ?hd (cs := #[.int .i64 a0_0, .string a0_1]) (t := 59) ?hr ?_; (case hd => rfl); (case hg => rfl); (case hr => first | (go_simp; done) | (go_simp; rfl)); intro gb453 hg w3 hbox hb; have n0_ := Aside0.mk (below_step aB hb); have n1_ := Aside0.mk (hbox); have n2_ := Aside0.mk ((by rw [hg]; exact (below_size aB) : w.heap.size ≤ gb453)); have n3_ := Aside0.mk ((by rw [hg]; exact (below_size aB) : w.heap.size ≤ gb453)); clear HB; have HB := n0_; have BK453 := n1_; have GW453 := n2_; have GE453 := n3_; clear n0_ n1_ n2_ n3_; clear hb hbox hg; have hcz4_0 : w3.cell? ⟨gb453, 0, none⟩ = some (.int .i64 a0_0) := (blk_cell BK453.out 0).trans rfl; have hcz4_1 : w3.cell? ⟨gb453, 1, none⟩ = some (.string a0_1) := (blk_cell BK453.out 1).trans rfl; have hfz4_0 := blk_frozen BK453.out 0; have hfz4_1 := blk_frozen BK453.out 1))
  repeat (go_quiet (first | ((with_reducible refine gate_dst (N := 1) rfl ?_); refine box_event ?hg (N := 1) ?hd (cs := #[.int .i64 a0_0, .string a0_1]) (t := 59) ?hr ?_; (case hd => rfl); (case hg => rfl); (case hr => first | (go_simp; done) | (go_simp; rfl)); intro gb453 hg w3 hbox hb; have n0_ := Aside0.mk (below_step aB hb); have n1_ := Aside0.mk (hbox); have n2_ := Aside0.mk ((by rw [hg]; exact (below_size aB) : w.heap.size ≤ gb453)); have n3_ := Aside0.mk ((by rw [hg]; exact (below_size aB) : w.heap.size ≤ gb453)); clear HB; have HB := n0_; have BK453 := n1_; have GW453 := n2_; have GE453 := n3_; clear n0_ n1_ n2_ n3_; clear hb hbox hg; have hcz4_0 : w3.cell? ⟨gb453, 0, none⟩ = some (.int .i64 a0_0) := (blk_cell BK453.out 0).trans rfl; have hcz4_1 : w3.cell? ⟨gb453, 1, none⟩ = some (.string a0_1) := (blk_cell BK453.out 1).trans rfl; have hfz4_0 := blk_frozen BK453.out 0; have hfz4_1 := blk_frozen BK453.out 1)); try go_wp2_with (first | ((with_reducible refine gate_dst (N := 1) rfl ?_); refine box_event ?hg (N := 1) ?hd (cs := #[.int .i64 a0_0, .string a0_1]) (t := 59) ?hr ?_; (case hd => rfl); (case hg => rfl); (case hr => first | (go_simp; done) | (go_simp; rfl)); intro gb453 hg w3 hbox hb; have n0_ := Aside0.mk (below_step aB hb); have n1_ := Aside0.mk (hbox); have n2_ := Aside0.mk ((by rw [hg]; exact (below_size aB) : w.heap.size ≤ gb453)); have n3_ := Aside0.mk ((by rw [hg]; exact (below_size aB) : w.heap.size ≤ gb453)); clear HB; have HB := n0_; have BK453 := n1_; have GW453 := n2_; have GE453 := n3_; clear n0_ n1_ n2_ n3_; clear hb hbox hg; have hcz4_0 : w3.cell? ⟨gb453, 0, none⟩ = some (.int .i64 a0_0) := (blk_cell BK453.out 0).trans rfl; have hcz4_1 : w3.cell? ⟨gb453, 1, none⟩ = some (.string a0_1) := (blk_cell BK453.out 1).trans rfl; have hfz4_0 := blk_frozen BK453.out 0; have hfz4_1 := blk_frozen BK453.out 1)))
  go_ret
  exact ⟨by first | rfl | (simp [errW_none, errW_some] <;> rfl) | (simp [*, errW_none, errW_some] <;> rfl), by repeat (first | (with_reducible first | exact HB.out | apply below_alloc | apply pw_below_drewN | apply below_drew1 | refine below_set ?_ GE453.out) | exact HB.out)⟩
 ·rw [if_neg c2] at H
  have c2b0 : (a0_1.toList == ([] : List UInt8)) = false := beq_eq_false_iff_ne.mpr c2
  have c2b1 : (a0_1.toList != ([] : List UInt8)) = true := bne_iff_ne.mpr c2
  replace H := Option.bind_eq_some_iff.mp H
  obtain ⟨t454, A50, H⟩ := H
  replace H : (if t454.size + a0_1.size ≤ 9223372036854775807 then (some (t454 ++ a0_1)) else (none)) = some r := H
  have A5 := Aside0.mk A50
  clear A50
  by_cases c6 : t454.size + a0_1.size ≤ 9223372036854775807
  ·rw [if_pos c6] at H
   have c6b0 := eq_true c6
   have c6b1 : decide (t454.size + a0_1.size ≤ 9223372036854775807) = true := decide_eq_true c6
   try have c6b2 : (9223372036854775807 < t454.size + a0_1.size) = False := eq_false (Nat.not_lt.2 c6)
   obtain rfl := Option.some.inj H
   go_enter Try.func54, Try.ntmps54
   go_wp2_with (first | ((with_reducible refine gate_dst (N := 1) rfl ?_); refine box_event ?hg (N := 1) ?hd (cs := #[.int .i64 a0_0, .string a0_1]) (t := 59) ?hr ?_; (case hd => rfl); (case hg => rfl); (case hr => first | (go_simp; done) | (go_simp; rfl)); intro gb453 hg w7 hbox hb; have n0_ := Aside0.mk (below_step aB hb); have n1_ := Aside0.mk (hbox); have n2_ := Aside0.mk ((by rw [hg]; exact (below_size aB) : w.heap.size ≤ gb453)); have n3_ := Aside0.mk ((by rw [hg]; exact (below_size aB) : w.heap.size ≤ gb453)); clear HB; have HB := n0_; have BK453 := n1_; have GW453 := n2_; have GE453 := n3_; clear n0_ n1_ n2_ n3_; clear hb hbox hg; have hcz8_0 : w7.cell? ⟨gb453, 0, none⟩ = some (.int .i64 a0_0) := (blk_cell BK453.out 0).trans rfl; have hcz8_1 : w7.cell? ⟨gb453, 1, none⟩ = some (.string a0_1) := (blk_cell BK453.out 1).trans rfl; have hfz8_0 := blk_frozen BK453.out 0; have hfz8_1 := blk_frozen BK453.out 1) | (go_at_call 55; (with_reducible refine (spec_l2Spaces.calls k a0_0 t454 _ A5.out).mono ?_); rintro e w' ⟨rfl, ⟨nd, rfl⟩⟩; (try first | exact ⟨rfl, _, World.drewN_drewN _ _ _⟩ | exact ⟨rfl, _, Eq.trans (World.drewN_drewN _ _ _) (congrArg (World.drewN _) (Nat.add_assoc _ _ _))⟩)))
   repeat (go_quiet (first | ((with_reducible refine gate_dst (N := 1) rfl ?_); refine box_event ?hg (N := 1) ?hd (cs := #[.int .i64 a0_0, .string a0_1]) (t := 59) ?hr ?_; (case hd => rfl); (case hg => rfl); (case hr => first | (go_simp; done) | (go_simp; rfl)); intro gb453 hg w7 hbox hb; have n0_ := Aside0.mk (below_step aB hb); have n1_ := Aside0.mk (hbox); have n2_ := Aside0.mk ((by rw [hg]; exact (below_size aB) : w.heap.size ≤ gb453)); have n3_ := Aside0.mk ((by rw [hg]; exact (below_size aB) : w.heap.size ≤ gb453)); clear HB; have HB := n0_; have BK453 := n1_; have GW453 := n2_; have GE453 := n3_; clear n0_ n1_ n2_ n3_; clear hb hbox hg; have hcz8_0 : w7.cell? ⟨gb453, 0, none⟩ = some (.int .i64 a0_0) := (blk_cell BK453.out 0).trans rfl; have hcz8_1 : w7.cell? ⟨gb453, 1, none⟩ = some (.string a0_1) := (blk_cell BK453.out 1).trans rfl; have hfz8_0 := blk_frozen BK453.out 0; have hfz8_1 := blk_frozen BK453.out 1) | (go_at_call 55; (with_reducible refine (spec_l2Spaces.calls k a0_0 t454 _ A5.out).mono ?_); rintro e w' ⟨rfl, ⟨nd, rfl⟩⟩; (try first | exact ⟨rfl, _, World.drewN_drewN _ _ _⟩ | exact ⟨rfl, _, Eq.trans (World.drewN_drewN _ _ _) (congrArg (World.drewN _) (Nat.add_assoc _ _ _))⟩))); try go_wp2_with (first | ((with_reducible refine gate_dst (N := 1) rfl ?_); refine box_event ?hg (N := 1) ?hd (cs := #[.int .i64 a0_0, .string a0_1]) (t := 59) ?hr ?_; (case hd => rfl); (case hg => rfl); (case hr => first | (go_simp; done) | (go_simp; rfl)); intro gb453 hg w7 hbox hb; have n0_ := Aside0.mk (below_step aB hb); have n1_ := Aside0.mk (hbox); have n2_ := Aside0.mk ((by rw [hg]; exact (below_size aB) : w.heap.size ≤ gb453)); have n3_ := Aside0.mk ((by rw [hg]; exact (below_size aB) : w.heap.size ≤ gb453)); clear HB; have HB := n0_; have BK453 := n1_; have GW453 := n2_; have GE453 := n3_; clear n0_ n1_ n2_ n3_; clear hb hbox hg; have hcz8_0 : w7.cell? ⟨gb453, 0, none⟩ = some (.int .i64 a0_0) := (blk_cell BK453.out 0).trans rfl; have hcz8_1 : w7.cell? ⟨gb453, 1, none⟩ = some (.string a0_1) := (blk_cell BK453.out 1).trans rfl; have hfz8_0 := blk_frozen BK453.out 0; have hfz8_1 := blk_frozen BK453.out 1) | (go_at_call 55; (with_reducible refine (spec_l2Spaces.calls k a0_0 t454 _ A5.out).mono ?_); rintro e w' ⟨rfl, ⟨nd, rfl⟩⟩; (try first | exact ⟨rfl, _, World.drewN_drewN _ _ _⟩ | exact ⟨rfl, _, Eq.trans (World.drewN_drewN _ _ _) (congrArg (World.drewN _) (Nat.add_assoc _ _ _))⟩))))
   go_ret
   exact ⟨by first | rfl | (simp [errW_none, errW_some] <;> rfl) | (simp [*, errW_none, errW_some] <;> rfl), by repeat (first | (with_reducible first | exact HB.out | apply below_alloc | apply pw_below_drewN | apply below_drew1 | refine below_set ?_ GE453.out) | exact HB.out)⟩
  ·rw [if_neg c6] at H
   exact absurd H (by simp)

/-! ### spec_PlaceAt: function 38 -/
mutual
def spec_PlaceAt.j0 : Nat → List (S59) → Int → Bool → Option (Int × Int × Bool)
 | 0, _, _, _ => none
 | k + 1, x0, x1, x14 => if x14 = true then (some (0, 0, false)) else (spec_PlaceAt.l0 k x0 x1 0)
def spec_PlaceAt.l0 : Nat → List (S59) → Int → Int → Option (Int × Int × Bool)
 | 0, _, _, _ => none
 | k + 1, x0, x1, x6 => if x6 < (x0.length : Int) then (if 0 ≤ x6 then ((spec_l2Line.f k ((rd_T59 x0 x6).f0) ((rd_T59 x0 x6).f1)).bind fun t458 => (if x1 ≤ (t458.size : Int) then (some (x6, x1, true)) else (spec_PlaceAt.l0 k x0 (wrap64 ((wrap64 (x1 - (t458.size : Int))) - 1)) (wrap64 (x6 + 1))))) else (none)) else (some (0, 0, false))
end
def spec_PlaceAt.f (k : Nat) (l0 : List (S59)) (a1 : Int) : Option (Int × Int × Bool) := (spec_LayoutValid.f k l0).bind fun t456 => (if t456 = true then (spec_PlaceAt.j0 k l0 a1 (decide (a1 < 0))) else (spec_PlaceAt.j0 k l0 a1 true))
set_option maxHeartbeats 8000000 in
set_option maxRecDepth 100000 in
theorem spec_PlaceAt.calls (k : Nat) (A0 : Option Addr) (c0 : Nat) (l0 : List (S59)) (a1 : Int) (r1 : Int) (r2 : Int) (r3 : Bool) (w : World) (hr0 : Kd.C k59 w A0 l0.length l0) (hc0 : l0.length ≤ c0) (h : spec_PlaceAt.f k l0 a1 = some (r1, r2, r3)) :
  Calls Try.prog 38 #[.slice A0 l0.length c0, .int .i64 a1] w fun e w' => e = .returned (.tuple #[.agg #[.int .i64 r1, .int .i64 r2], .bool r3]) ∧ Below w.heap.size w w' := by
 have hu50 := Try.underlying50
 have hu59 := Try.underlying59
 have HR0 := Aside0.mk hr0
 have HC0 := Aside0.mk hc0
 clear hr0 hc0
 have HB := Aside0.mk (Below.refl w.heap.size w)
 have H : ((spec_LayoutValid.f k l0).bind fun t456 => (if t456 = true then (spec_PlaceAt.j0 k l0 a1 (decide (a1 < 0))) else (spec_PlaceAt.j0 k l0 a1 true))) = some (r1, r2, r3) := h
 clear h
 have HC3 := Aside0.mk H
 clear H
 go_enter Try.func38, Try.ntmps38
 go_upto_region 1 with (first | ((with_reducible refine gate_dst (N := 4) rfl ?_); refine box_event ?hg (N := 4) ?hd (cs := #[.int .i64 0, .int .i64 0]) (t := 50) ?hr ?_; (case hd => rfl); (case hg => rfl); (case hr => first | (go_simp; done) | (go_simp; rfl)); intro gb455 hg w4 hbox hb; have n0_ := Aside0.mk (below_step aB hb); have n1_ := Aside0.mk (hbox); have n2_ := Aside0.mk ((by rw [hg]; exact (below_size aB) : w.heap.size ≤ gb455)); have n3_ := Aside0.mk ((by rw [hg]; exact (below_size aB) : w.heap.size ≤ gb455)); clear HB; have HB := n0_; have BK455 := n1_; have GW455 := n2_; have GE455 := n3_; clear n0_ n1_ n2_ n3_; clear hb hbox hg))
 (try simp only [Act.put, List.setIfInBounds_toArray, List.set_cons_zero, List.set_cons_succ])
 go_cut [14] (fun v14 wc => ∃ (kq : Nat) (x14_2 : Bool), v14 = .bool x14_2 ∧ Aside0 (spec_PlaceAt.j0 kq l0 a1 x14_2 = some (r1, r2, r3)) ∧ Aside0 (kq ≤ k) ∧ Aside0 (wc.heap[gb455]? = some (.cells #[.int .i64 0, .int .i64 0] 50 (0, 0))) ∧ Aside0 (Below w.heap.size w wc))
 case first =>
  have H := HC3.out
  clear HC3
  replace H := Option.bind_eq_some_iff.mp H
  obtain ⟨t456, A50, H⟩ := H
  replace H : (if t456 = true then (spec_PlaceAt.j0 k l0 a1 (decide (a1 < 0))) else (spec_PlaceAt.j0 k l0 a1 true)) = some (r1, r2, r3) := H
  have A5 := Aside0.mk A50
  clear A50
  by_cases c6 : t456 = true
  ·subst c6
   have H1 : (spec_PlaceAt.j0 k l0 a1 (decide (a1 < 0))) = some (r1, r2, r3) := by rw [if_pos rfl] at H; exact H
   clear H
   have H := H1
   clear H1
   have H' := Aside0.mk H
   clear H
   go_wp2_with (first | ((with_reducible refine gate_callee (f := 52) rfl ?_); refine goesL_ (some 9) rfl rfl Try.func52 aK rfl #[.slice A0 l0.length c0] rfl aL ?_; (with_reducible refine (spec_LayoutValid.calls k _ _ l0 true _ ?side1 ?side2 A5.out).mono ?_); (case side1 => repeat (first | exact (Kd.C_below HR0.out HB.out) | (with_reducible refine Kd.C_alloc ?_ _) | (with_reducible refine Kd.C_drewN ?_ _) | (with_reducible refine Kd.C_drew ?_))); (case side2 => exact HC0.out); rintro e w' ⟨rfl, ⟨nd, rfl⟩⟩; refine ⟨_, rfl, ?_⟩))
   go_meet
   case rel => exact ⟨_, (decide (a1 < 0)), aR, H', ⟨by first | omega | exact Nat.le_refl _⟩, ⟨by refine aW ?_; exact BK455.out⟩, ⟨by repeat (first | (with_reducible first | exact HB.out | apply below_alloc | apply pw_below_drewN | apply below_drew1 | refine below_set ?_ GE455.out) | exact HB.out)⟩⟩
  ·replace c6 := Bool.eq_false_iff.mpr c6
   subst c6
   have H1 : (spec_PlaceAt.j0 k l0 a1 true) = some (r1, r2, r3) := by rw [if_neg (show ¬ (false = true) by decide)] at H; exact H
   clear H
   have H := H1
   clear H1
   have H' := Aside0.mk H
   clear H
   go_wp2_with (first | ((with_reducible refine gate_callee (f := 52) rfl ?_); refine goesL_ (some 9) rfl rfl Try.func52 aK rfl #[.slice A0 l0.length c0] rfl aL ?_; (with_reducible refine (spec_LayoutValid.calls k _ _ l0 false _ ?side1 ?side2 A5.out).mono ?_); (case side1 => repeat (first | exact (Kd.C_below HR0.out HB.out) | (with_reducible refine Kd.C_alloc ?_ _) | (with_reducible refine Kd.C_drewN ?_ _) | (with_reducible refine Kd.C_drew ?_))); (case side2 => exact HC0.out); rintro e w' ⟨rfl, ⟨nd, rfl⟩⟩; refine ⟨_, rfl, ?_⟩))
   go_meet
   case rel => exact ⟨_, (true), aR, H', ⟨by first | omega | exact Nat.le_refl _⟩, ⟨by refine aW ?_; exact BK455.out⟩, ⟨by repeat (first | (with_reducible first | exact HB.out | apply below_alloc | apply pw_below_drewN | apply below_drew1 | refine below_set ?_ GE455.out) | exact HB.out)⟩⟩
 case rest =>
  clear HC3
  try clear p2
  try clear c3
  try clear c5
  try clear c6
  obtain ⟨kq, x14_2, rfl, HA, HJ2, BK455, HB⟩ := hcut
  cases kq with
  | zero => exact absurd HA.out (by simp [spec_PlaceAt.j0])
  | succ kj2 =>
   have H := HA.out
   clear HA
   simp only [spec_PlaceAt.j0] at H
   by_cases c7 : x14_2 = true
   ·subst c7
    have H1 : (some (0, 0, false)) = some (r1, r2, r3) := by rw [if_pos rfl] at H; exact H
    clear H
    have H := H1
    clear H1
    simp only [Option.some.injEq, Prod.mk.injEq] at H
    obtain ⟨rfl, rfl, rfl⟩ := H
    have hcz8_0 : wc.cell? ⟨gb455, 0, none⟩ = some (.int .i64 0) := (blk_cell BK455.out 0).trans rfl
    have hcz8_1 : wc.cell? ⟨gb455, 1, none⟩ = some (.int .i64 0) := (blk_cell BK455.out 1).trans rfl
    have hfz8_0 := blk_frozen BK455.out 0
    have hfz8_1 := blk_frozen BK455.out 1
    go_wp2
    refine bodyPost_ret (results_ct rfl _ _ gb455 50 #[.int .i64 0, .int .i64 0] (0, 0) _ rfl (by refine aW ?_; refine blk_put (cs := #[.int .i64 0, .int .i64 0]) ?_ 1 _ rfl; refine aW ?_; refine blk_put (cs := #[.int .i64 0, .int .i64 0]) ?_ 0 _ rfl; refine aW ?_; exact BK455.out) Try.underlying50 rfl aK) rfl ?_
    exact ⟨by first | rfl | (simp [errW_none, errW_some] <;> rfl) | (simp [*, errW_none, errW_some] <;> rfl), by repeat (first | (with_reducible first | exact HB.out | apply below_alloc | apply pw_below_drewN | apply below_drew1 | refine below_set ?_ GE455.out) | exact HB.out)⟩
   ·replace c7 := Bool.eq_false_iff.mpr c7
    subst c7
    have H1 : (spec_PlaceAt.l0 kj2 l0 a1 0) = some (r1, r2, r3) := by rw [if_neg (show ¬ (false = true) by decide)] at H; exact H
    clear H
    have H := H1
    clear H1
    have H' := Aside0.mk H
    clear H
    go_wp2
    go_loopg [1, 6] kj2 (fun kq v1 v6 w' => ∃ (x1_2 : Int) (x6_2 : Int) (x456000_2 : Int) (x456001_2 : Int), v1 = .int .i64 x1_2 ∧ v6 = .int .i64 x6_2 ∧ Aside0 (spec_PlaceAt.l0 kq l0 x1_2 x6_2 = some (r1, r2, r3)) ∧ Aside0 (kq ≤ kj2) ∧ Aside0 (w'.heap[gb455]? = some (.cells #[.int .i64 x456000_2, .int .i64 x456001_2] 50 (0, 0))) ∧ Aside0 (Below w.heap.size w w'))
    case atStart => exact ⟨(a1), (0), (0), (0), aR, aR, H', ⟨Nat.le_refl _⟩, ⟨by refine aW ?_; exact BK455.out⟩, ⟨by repeat (first | (with_reducible first | exact HB.out | apply below_alloc | apply pw_below_drewN | apply below_drew1 | refine below_set ?_ GE455.out) | exact HB.out)⟩⟩
    case round =>
     clear H'
     try clear p2
     try clear c3
     try clear c5
     try clear c6
     try clear c7
     try clear hcz8_0
     try clear hcz8_1
     try clear hfz8_0
     try clear hfz8_1
     try clear p2
     obtain ⟨x1_2, x6_2, x456000_2, x456001_2, rfl, rfl, HA, HK2, BK455, HB⟩ := hrel
     cases gk with
     | zero => exact absurd HA.out (by simp [spec_PlaceAt.l0])
     | succ k2 =>
      have H := HA.out
      clear HA
      simp only [spec_PlaceAt.l0] at H
      by_cases c9 : x6_2 < (l0.length : Int)
      ·rw [if_pos c9] at H
       have c9b0 : decide (x6_2 < (l0.length : Int)) = true := decide_eq_true c9
       clear c9
       by_cases c10 : 0 ≤ x6_2
       ·rw [if_pos c10] at H
        have c10b0 : decide (0 ≤ x6_2) = true := decide_eq_true c10
        clear c10
        replace H := Option.bind_eq_some_iff.mp H
        obtain ⟨t458, A110, H⟩ := H
        replace H : (if x1_2 ≤ (t458.size : Int) then (some (x6_2, x1_2, true)) else (spec_PlaceAt.l0 k2 l0 (wrap64 ((wrap64 (x1_2 - (t458.size : Int))) - 1)) (wrap64 (x6_2 + 1)))) = some (r1, r2, r3) := H
        have A11 := Aside0.mk A110
        clear A110
        by_cases c12 : x1_2 ≤ (t458.size : Int)
        ·rw [if_pos c12] at H
         have c12b0 : decide (x1_2 ≤ (t458.size : Int)) = true := decide_eq_true c12
         clear c12
         simp only [Option.some.injEq, Prod.mk.injEq] at H
         obtain ⟨rfl, rfl, rfl⟩ := H
         have p457 : 0 ≤ (x6_2 : Int) := of_decide_eq_true aQ
         have q457 : x6_2 < (l0.length : Int) := of_decide_eq_true aQ
         obtain ⟨ad457, e457, hx457_0, hx457_1⟩ := at_T59 HR0.out x6_2 p457 q457
         cases e457
         replace hx457_0 := (HB.out.cell (World.block_lt_of_cell? w _ hx457_0)).trans hx457_0
         replace hx457_1 := (HB.out.cell (World.block_lt_of_cell? w _ hx457_1)).trans hx457_1
         replace p457 := eq_true p457
         replace q457 := eq_true q457
         go_wp2_with (first | ((with_reducible refine gate_callee (f := 54) rfl ?_); refine goesL_ (some 26) rfl rfl Try.func54 aK rfl #[.agg #[.int .i64 ((rd_T59 l0 x6_2).f0), .string ((rd_T59 l0 x6_2).f1)]] rfl aL ?_; (with_reducible refine (spec_l2Line.calls k2 ((rd_T59 l0 x6_2).f0) ((rd_T59 l0 x6_2).f1) t458 _ A11.out).mono ?_); rintro e w13 ⟨rfl, hb⟩; refine ⟨_, rfl, ?_⟩; have n0_ := Aside0.mk (blk_below (g := gb455) (o := .cells #[.int .i64 x456000_2, .int .i64 x456001_2] 50 (0, 0)) (aW BK455.out) hb); have n1_ := Aside0.mk (below_step (aB1 GE455.out) hb); clear BK455; clear HB; have BK455 := n0_; have HB := n1_; clear n0_ n1_; (try clear hb); (try clear hb2); (try clear hk); (try clear hi); have hcz14_0 : w13.cell? ⟨gb455, 0, none⟩ = some (.int .i64 x456000_2) := (blk_cell BK455.out 0).trans rfl; have hcz14_1 : w13.cell? ⟨gb455, 1, none⟩ = some (.int .i64 x456001_2) := (blk_cell BK455.out 1).trans rfl; have hfz14_0 := blk_frozen BK455.out 0; have hfz14_1 := blk_frozen BK455.out 1))
         refine bodyPost_ret (results_ct rfl _ _ gb455 50 #[.int .i64 x6_2, .int .i64 x1_2] (0, 0) _ rfl (by refine aW ?_; refine blk_put (cs := #[.int .i64 x6_2, .int .i64 x456001_2]) ?_ 1 _ rfl; refine aW ?_; refine blk_put (cs := #[.int .i64 x456000_2, .int .i64 x456001_2]) ?_ 0 _ rfl; refine aW ?_; exact BK455.out) Try.underlying50 rfl aK) rfl ?_
         exact ⟨by first | rfl | (simp [errW_none, errW_some] <;> rfl) | (simp [*, errW_none, errW_some] <;> rfl), by repeat (first | (with_reducible first | exact HB.out | apply below_alloc | apply pw_below_drewN | apply below_drew1 | refine below_set ?_ GE455.out) | exact HB.out)⟩
        ·rw [if_neg c12] at H
         have c12b0 : decide (x1_2 ≤ (t458.size : Int)) = false := decide_eq_false c12
         clear c12
         have H' := Aside0.mk H
         clear H
         have p457 : 0 ≤ (x6_2 : Int) := of_decide_eq_true aQ
         have q457 : x6_2 < (l0.length : Int) := of_decide_eq_true aQ
         obtain ⟨ad457, e457, hx457_0, hx457_1⟩ := at_T59 HR0.out x6_2 p457 q457
         cases e457
         replace hx457_0 := (HB.out.cell (World.block_lt_of_cell? w _ hx457_0)).trans hx457_0
         replace hx457_1 := (HB.out.cell (World.block_lt_of_cell? w _ hx457_1)).trans hx457_1
         replace p457 := eq_true p457
         replace q457 := eq_true q457
         go_wp2_with (first | ((with_reducible refine gate_callee (f := 54) rfl ?_); refine goesL_ (some 26) rfl rfl Try.func54 aK rfl #[.agg #[.int .i64 ((rd_T59 l0 x6_2).f0), .string ((rd_T59 l0 x6_2).f1)]] rfl aL ?_; (with_reducible refine (spec_l2Line.calls k2 ((rd_T59 l0 x6_2).f0) ((rd_T59 l0 x6_2).f1) t458 _ A11.out).mono ?_); rintro e w15 ⟨rfl, hb⟩; refine ⟨_, rfl, ?_⟩; have n0_ := Aside0.mk (blk_below (g := gb455) (o := .cells #[.int .i64 x456000_2, .int .i64 x456001_2] 50 (0, 0)) (aW BK455.out) hb); have n1_ := Aside0.mk (below_step (aB1 GE455.out) hb); clear BK455; clear HB; have BK455 := n0_; have HB := n1_; clear n0_ n1_; (try clear hb); (try clear hb2); (try clear hk); (try clear hi)))
         go_roundg k2
         case measure => have := HJ2.out; have := HK2.out; omega
         case rel => exact ⟨(wrap64 ((wrap64 (x1_2 - (t458.size : Int))) - 1)), (wrap64 (x6_2 + 1)), (x456000_2), (x456001_2), aR, aR, H', ⟨by have := HJ2.out; have := HK2.out; omega⟩, ⟨by refine aW ?_; exact BK455.out⟩, ⟨by repeat (first | (with_reducible first | exact HB.out | apply below_alloc | apply pw_below_drewN | apply below_drew1 | refine below_set ?_ GE455.out) | exact HB.out)⟩⟩
       ·rw [if_neg c10] at H
        exact absurd H (by simp)
      ·rw [if_neg c9] at H
       have c9b0 : decide (x6_2 < (l0.length : Int)) = false := decide_eq_false c9
       clear c9
       simp only [Option.some.injEq, Prod.mk.injEq] at H
       obtain ⟨rfl, rfl, rfl⟩ := H
       have hcz16_0 : wr.cell? ⟨gb455, 0, none⟩ = some (.int .i64 x456000_2) := (blk_cell BK455.out 0).trans rfl
       have hcz16_1 : wr.cell? ⟨gb455, 1, none⟩ = some (.int .i64 x456001_2) := (blk_cell BK455.out 1).trans rfl
       have hfz16_0 := blk_frozen BK455.out 0
       have hfz16_1 := blk_frozen BK455.out 1
       go_wp2
       refine bodyPost_ret (results_ct rfl _ _ gb455 50 #[.int .i64 0, .int .i64 0] (0, 0) _ rfl (by refine aW ?_; refine blk_put (cs := #[.int .i64 0, .int .i64 x456001_2]) ?_ 1 _ rfl; refine aW ?_; refine blk_put (cs := #[.int .i64 x456000_2, .int .i64 x456001_2]) ?_ 0 _ rfl; refine aW ?_; exact BK455.out) Try.underlying50 rfl aK) rfl ?_
       exact ⟨by first | rfl | (simp [errW_none, errW_some] <;> rfl) | (simp [*, errW_none, errW_some] <;> rfl), by repeat (first | (with_reducible first | exact HB.out | apply below_alloc | apply pw_below_drewN | apply below_drew1 | refine below_set ?_ GE455.out) | exact HB.out)⟩

/-! ### strings_Repeat: function 71 -/
def strings_Repeat.f (a0 : ByteArray) (a1 : Int) : Option ByteArray := if 0 ≤ a1 ∧ a1 ≤ 9223372036854775807 ∧ a0.size * a1.toNat ≤ 140737488355328 then some ⟨(Lib.repeatL a0.data.toList a1.toNat).toArray⟩ else none
theorem strings_Repeat.calls (a0 : ByteArray) (a1 : Int) (r : ByteArray) (w : World) (h : strings_Repeat.f a0 a1 = some r) :
  Calls Try.prog 71 #[.string a0, .int .i64 a1] w fun e w' => e = .returned (.string r) ∧ Below w.heap.size w w' := by
 unfold strings_Repeat.f at h
 by_cases hc : 0 ≤ a1 ∧ a1 ≤ 9223372036854775807 ∧ a0.size * a1.toNat ≤ 140737488355328
 ·rw [if_pos hc] at h
  obtain rfl := Option.some.inj h
  obtain ⟨m, rfl⟩ := Int.eq_ofNat_of_zero_le hc.1
  exact Any.strings_Repeat Try.lays105 Try.Builder_Extra_105 a0 m w (by omega) hc.2.2
 ·rw [if_neg hc] at h
  cases h

/-! ### impl_rowText: function 58 -/
def impl_rowText.f (a0_0 : Int) (a0_1 : ByteArray) : Option (ByteArray) := if a0_1.toList = ([] : List UInt8) then (some (⟨#[]⟩ : ByteArray)) else ((strings_Repeat.f (⟨#[32]⟩ : ByteArray) a0_0).bind fun t460 => (if t460.size + a0_1.size ≤ 9223372036854775807 then (some (t460 ++ a0_1)) else (none)))
set_option maxHeartbeats 8000000 in
set_option maxRecDepth 100000 in
theorem impl_rowText.calls (a0_0 : Int) (a0_1 : ByteArray) (r : ByteArray) (w : World) (h : impl_rowText.f a0_0 a0_1 = some r) :
  Calls Try.prog 58 #[.agg #[.int .i64 a0_0, .string a0_1]] w fun e w' => e = .returned (.string r) ∧ Below w.heap.size w w' := by
 have hu59 := Try.underlying59
 have HB := Aside0.mk (Below.refl w.heap.size w)
 have H : (if a0_1.toList = ([] : List UInt8) then (some (⟨#[]⟩ : ByteArray)) else ((strings_Repeat.f (⟨#[32]⟩ : ByteArray) a0_0).bind fun t460 => (if t460.size + a0_1.size ≤ 9223372036854775807 then (some (t460 ++ a0_1)) else (none)))) = some r := h
 clear h
 by_cases c2 : a0_1.toList = ([] : List UInt8)
 ·rw [if_pos c2] at H
  have c2b0 : (a0_1.toList == ([] : List UInt8)) = true := beq_iff_eq.mpr c2
  have c2b1 : (a0_1.toList != ([] : List UInt8)) = false := bne_eq_false_iff_eq.mpr c2
  clear c2
  obtain rfl := Option.some.inj H
  go_enter Try.func58, Try.ntmps58
  go_wp2_with (first | ((with_reducible refine gate_dst (N := 1) rfl ?_); refine box_event ?hg (N := 1) ?hd (cs := #[.int .i64 a0_0, .string a0_1]) (t := 59) ?hr ?_; (case hd => rfl); (case hg => rfl); (case hr => first | (go_simp; done) | (go_simp; rfl)); intro gb459 hg w3 hbox hb; have n0_ := Aside0.mk (below_step aB hb); have n1_ := Aside0.mk (hbox); have n2_ := Aside0.mk ((by rw [hg]; exact (below_size aB) : w.heap.size ≤ gb459)); have n3_ := Aside0.mk ((by rw [hg]; exact (below_size aB) : w.heap.size ≤ gb459)); clear HB; have HB := n0_; have BK459 := n1_; have GW459 := n2_; have GE459 := n3_; clear n0_ n1_ n2_ n3_; clear hb hbox hg; have hcz4_0 : w3.cell? ⟨gb459, 0, none⟩ = some (.int .i64 a0_0) := (blk_cell BK459.out 0).trans rfl; have hcz4_1 : w3.cell? ⟨gb459, 1, none⟩ = some (.string a0_1) := (blk_cell BK459.out 1).trans rfl; have hfz4_0 := blk_frozen BK459.out 0; have hfz4_1 := blk_frozen BK459.out 1))
  go_ret
  exact ⟨by first | rfl | (simp [errW_none, errW_some] <;> rfl) | (simp [*, errW_none, errW_some] <;> rfl), by repeat (first | (with_reducible first | exact HB.out | apply below_alloc | apply pw_below_drewN | apply below_drew1 | refine below_set ?_ GE459.out) | exact HB.out)⟩
 ·rw [if_neg c2] at H
  have c2b0 : (a0_1.toList == ([] : List UInt8)) = false := beq_eq_false_iff_ne.mpr c2
  have c2b1 : (a0_1.toList != ([] : List UInt8)) = true := bne_iff_ne.mpr c2
  replace H := Option.bind_eq_some_iff.mp H
  obtain ⟨t460, A50, H⟩ := H
  replace H : (if t460.size + a0_1.size ≤ 9223372036854775807 then (some (t460 ++ a0_1)) else (none)) = some r := H
  have A5 := Aside0.mk A50
  clear A50
  by_cases c6 : t460.size + a0_1.size ≤ 9223372036854775807
  ·rw [if_pos c6] at H
   have c6b0 := eq_true c6
   have c6b1 : decide (t460.size + a0_1.size ≤ 9223372036854775807) = true := decide_eq_true c6
   try have c6b2 : (9223372036854775807 < t460.size + a0_1.size) = False := eq_false (Nat.not_lt.2 c6)
   obtain rfl := Option.some.inj H
   go_enter Try.func58, Try.ntmps58
   try go_wp2_with (first | ((with_reducible refine gate_dst (N := 1) rfl ?_); refine box_event ?hg (N := 1) ?hd (cs := #[.int .i64 a0_0, .string a0_1]) (t := 59) ?hr ?_; (case hd => rfl); (case hg => rfl); (case hr => first | (go_simp; done) | (go_simp; rfl)); intro gb459 hg w7 hbox hb; have n0_ := Aside0.mk (below_step aB hb); have n1_ := Aside0.mk (hbox); have n2_ := Aside0.mk ((by rw [hg]; exact (below_size aB) : w.heap.size ≤ gb459)); have n3_ := Aside0.mk ((by rw [hg]; exact (below_size aB) : w.heap.size ≤ gb459)); clear HB; have HB := n0_; have BK459 := n1_; have GW459 := n2_; have GE459 := n3_; clear n0_ n1_ n2_ n3_; clear hb hbox hg; have hcz8_0 : w7.cell? ⟨gb459, 0, none⟩ = some (.int .i64 a0_0) := (blk_cell BK459.out 0).trans rfl; have hcz8_1 : w7.cell? ⟨gb459, 1, none⟩ = some (.string a0_1) := (blk_cell BK459.out 1).trans rfl; have hfz8_0 := blk_frozen BK459.out 0; have hfz8_1 := blk_frozen BK459.out 1))
   have n0_ := Aside0.mk (blk_drew BK459.out)
   have n1_ := Aside0.mk (below_drew1 HB.out)
   clear BK459
   clear HB
   have BK459 := n0_
   have HB := n1_
   clear n0_ n1_
   refine start_ (n := 7) (S := fun w' => w'.cell? ⟨gb459, 0, none⟩ = some (.int .i64 a0_0) ∧ w'.cell? ⟨gb459, 1, none⟩ = some (.string a0_1)) (ds := []) #[false, false, false, false, false, false, false] aK rfl rfl ⟨(blk_cell BK459.out 0).trans rfl, (blk_cell BK459.out 1).trans rfl⟩ (fun hHeld => ?_)
   generalize w7.drew = w9 at BK459 HB hHeld ⊢
   refine pure_ (i := 0) (N := some 6) (v := ?_) (a' := ?_) #[true, false, false, false, false, false, false] rfl rfl aK (fun _ _ _ h => h) (Or.inl ⟨by rfl, ?_⟩) ?_ ?_
   rotate_left
   ·exact aV
   rotate_left
   ·exact aA
   refine pure_ (i := 3) (N := some 9) (v := ?_) (a' := ?_) #[true, false, false, true, false, false, false] rfl rfl aK (fun _ _ _ h => h) (Or.inl ⟨by rfl, ?_⟩) ?_ ?_
   rotate_left
   ·exact aV
   rotate_left
   ·exact aA
   refine take_ (i := 1) (N := some 7) (v := ?_) (a' := ?_) #[true, true, false, true, false, false, false] rfl rfl aK (fun _ _ _ h => h) (Or.inl ⟨by rfl, ?_⟩) hHeld ?_ ?_
   rotate_left
   ·rintro w' ⟨s0, s1⟩
    go_simp
    with_reducible rfl
   rotate_left
   ·exact aA
   refine take_ (i := 4) (N := some 10) (v := ?_) (a' := ?_) #[true, true, false, true, true, false, false] rfl rfl aK (fun _ _ _ h => h) (Or.inl ⟨by rfl, ?_⟩) hHeld ?_ ?_
   rotate_left
   ·rintro w' ⟨s0, s1⟩
    go_simp
    with_reducible rfl
   rotate_left
   ·exact aA
   refine one_ (i := 2) (N := some 8) #[true, true, true, true, true, false, false] rfl rfl aK (by decide) (fun K hK => ?_)
   refine goes_ Try.func71 aK rfl #[.string (⟨#[32]⟩ : ByteArray), .int .i64 a0_0] (by rfl) rfl rfl aL ?_
   with_reducible refine (strings_Repeat.calls (⟨#[32]⟩ : ByteArray) a0_0 t460 _ A5.out).mono ?_
   rintro e w10 ⟨rfl, hb⟩
   refine ⟨_, rfl, ?_⟩
   have n0_ := Aside0.mk (blk_below (g := gb459) (o := .cells #[.int .i64 a0_0, .string a0_1] 59 (0, 0)) (aW BK459.out) hb)
   have n1_ := Aside0.mk (below_step (aB1 GE459.out) hb)
   clear BK459
   clear HB
   have BK459 := n0_
   have HB := n1_
   clear n0_ n1_
   (try clear hb)
   (try clear hb2)
   (try clear hk)
   (try clear hi)
   refine hK.out _ _ ⟨(blk_cell BK459.out 0).trans rfl, (blk_cell BK459.out 1).trans rfl⟩ (fun hHeld => ?_)
   clear hK K
   refine norm_ (a' := ?_) ?_ ?_
   rotate_left
   ·show Act.put _ (some 8) _ = _
    simp only [Act.put, List.setIfInBounds_toArray, List.set_cons_zero, List.set_cons_succ, i64_w, i32_w]
    rfl
   refine pure_ (i := 5) (N := some 11) (v := ?_) (a' := ?_) #[true, true, true, true, true, true, false] rfl rfl aK (fun _ _ _ h => h) (Or.inl ⟨by rfl, ?_⟩) ?_ ?_
   rotate_left
   ·exact aV
   rotate_left
   ·exact aA
   refine pure_ (i := 6) (N := some 2) (v := ?_) (a' := ?_) #[true, true, true, true, true, true, true] rfl rfl aK (fun _ _ _ h => h) (Or.inl ⟨by rfl, ?_⟩) ?_ ?_
   rotate_left
   ·exact aV
   rotate_left
   ·exact aA
   refine done_ aK ?_
   try go_wp2
   go_ret
   exact ⟨by first | rfl | (simp [errW_none, errW_some] <;> rfl) | (simp [*, errW_none, errW_some] <;> rfl), by repeat (first | (with_reducible first | exact HB.out | apply below_alloc | apply pw_below_drewN | apply below_drew1 | refine below_set ?_ GE459.out) | exact HB.out)⟩
  ·rw [if_neg c6] at H
   exact absurd H (by simp)

/-! ### strings_Join: function 70 -/
def strings_Join.f (l0 : List ByteArray) (a1 : ByteArray) : Option ByteArray := if l0.length ≤ 140737488355328 ∧ (Lib.join (l0.map (·.data.toList)) a1.data.toList).length ≤ 140737488355328 then some ⟨(Lib.join (l0.map (·.data.toList)) a1.data.toList).toArray⟩ else none
theorem strings_Join.calls (A0 : Option Addr) (c0 : Nat) (l0 : List ByteArray) (a1 : ByteArray) (r : ByteArray) (w : World) (hr0 : Kd.C Kd.string w A0 l0.length l0) (hc0 : l0.length ≤ c0) (h : strings_Join.f l0 a1 = some r) :
  Calls Try.prog 70 #[.slice A0 l0.length c0, .string a1] w fun e w' => e = .returned (.string r) ∧ Below w.heap.size w w' := by
 unfold strings_Join.f at h
 by_cases hc : l0.length ≤ 140737488355328 ∧ (Lib.join (l0.map (·.data.toList)) a1.data.toList).length ≤ 140737488355328
 ·rw [if_pos hc] at h
  obtain rfl := Option.some.inj h
  cases hl : l0 with
  | nil => exact (Any.strings_Join_none Try.lays156 Try.Builder_Extra_156 A0 c0 a1 w).mono fun e w' ⟨he, hw⟩ => ⟨he, hw ▸ Below.refl _ _⟩
  | cons x0 xs0 =>
   rw [← hl]
   have hpos : 0 < l0.length := by rw [hl]; simp
   obtain ⟨ad, e, hx⟩ := Kd.at_string hr0 0 (by omega) (by omega)
   have hsp : ad = ⟨ad.block, ad.off, none⟩ := by
    rw [show (0 : Int).toNat = 0 from rfl, Addr.add_zero'] at hx
    obtain ⟨b, o, s⟩ := ad
    unfold World.cell? at hx
    cases s with
    | none => rfl
    | some q => split at hx <;> simp at hx
   subst e
   rw [hsp]
   refine Any.strings_Join Try.lays156 Try.Builder_Extra_156 ad.block ad.off c0 l0 a1 w ?_ (World.block_lt_of_cell? w _ hx) hc.1 hc0 hc.2
   intro j x hj
   have hjl := (List.getElem?_eq_some_iff.1 hj).1
   obtain ⟨ad', e', hx'⟩ := Kd.at_string hr0 (j : Int) (by omega) (by omega)
   obtain rfl := Option.some.inj e'
   rw [Int.toNat_natCast, hsp, Addr.add_lit] at hx'
   rw [hx']
   unfold rdOf
   rw [Int.toNat_natCast, List.getD_eq_getElem?_getD, hj]; rfl
 ·rw [if_neg hc] at h
  cases h

/-! ### impl_LayoutText: function 39 -/
def impl_LayoutText.l0 : Nat → List ByteArray → List (S59) → Int → Int → Option (ByteArray)
 | 0, _, _, _, _ => none
 | k + 1, x3, x10, x11, x12 => if x12 < x11 then (if 0 ≤ x12 then (if x12 < (x10.length : Int) then ((impl_rowText.f ((rd_T59 x10 x12).f0) ((rd_T59 x10 x12).f1)).bind fun t467 => (if x3.length < 8796093022208 then (impl_LayoutText.l0 k (x3 ++ [t467]) x10 x11 (wrap64 (x12 + 1))) else (none))) else (none)) else (none)) else ((strings_Join.f x3 (⟨#[10]⟩ : ByteArray)).bind fun t471 => (some t471))
def impl_LayoutText.f (k : Nat) (l0 : List (S59)) : Option (ByteArray) := (impl_LayoutValid.f k l0).bind fun t461 => (if t461 = true then (impl_LayoutText.l0 k (([] : List ByteArray)) l0 (l0.length : Int) 0) else (some (⟨#[]⟩ : ByteArray)))
set_option maxHeartbeats 8000000 in
set_option maxRecDepth 100000 in
theorem impl_LayoutText.calls (k : Nat) (A0 : Option Addr) (c0 : Nat) (l0 : List (S59)) (r : ByteArray) (w : World) (hr0 : Kd.C k59 w A0 l0.length l0) (hc0 : l0.length ≤ c0) (h : impl_LayoutText.f k l0 = some r) :
  Calls Try.prog 39 #[.slice A0 l0.length c0] w fun e w' => e = .returned (.string r) ∧ Below w.heap.size w w' := by
 have hu59 := Try.underlying59
 have HR0 := Aside0.mk hr0
 have HC0 := Aside0.mk hc0
 clear hr0 hc0
 have HB := Aside0.mk (Below.refl w.heap.size w)
 have H : ((impl_LayoutValid.f k l0).bind fun t461 => (if t461 = true then (impl_LayoutText.l0 k (([] : List ByteArray)) l0 (l0.length : Int) 0) else (some (⟨#[]⟩ : ByteArray)))) = some r := h
 clear h
 replace H := Option.bind_eq_some_iff.mp H
 obtain ⟨t461, A20, H⟩ := H
 replace H : (if t461 = true then (impl_LayoutText.l0 k (([] : List ByteArray)) l0 (l0.length : Int) 0) else (some (⟨#[]⟩ : ByteArray))) = some r := H
 have A2 := Aside0.mk A20
 clear A20
 by_cases c3 : t461 = true
 ·subst c3
  have H1 : (impl_LayoutText.l0 k (([] : List ByteArray)) l0 (l0.length : Int) 0) = some r := by rw [if_pos rfl] at H; exact H
  clear H
  have H := H1
  clear H1
  obtain ⟨y462, hy462⟩ : ∃ y_ : List ByteArray, y_ = (([] : List ByteArray)) := ⟨_, rfl⟩
  replace H : (impl_LayoutText.l0 k y462 l0 (l0.length : Int) 0) = some r := by first | (rw [hy462]; with_reducible exact H) | (have H2_ := (Option.bind_some _ _).symm.trans H; rw [hy462]; with_reducible exact H2_) | (have H2_ := (Option.bind_some _ _).symm.trans H; with_reducible exact H2_) | with_reducible exact H | (rw [hy462]; exact H) | exact H
  have Ny462 := Aside0.mk hy462
  clear hy462
  have H' := Aside0.mk H
  clear H
  go_enter Try.func39, Try.ntmps39
  go_wp2_with (first | ((with_reducible refine gate_callee (f := 34) rfl ?_); refine goesL_ (some 7) rfl rfl Try.func34 aK rfl #[.slice A0 l0.length c0] rfl aL ?_; (with_reducible refine (impl_LayoutValid.calls k _ _ l0 true _ ?side1 ?side2 A2.out).mono ?_); (case side1 => repeat (first | exact HR0.out | (with_reducible refine Kd.C_alloc ?_ _) | (with_reducible refine Kd.C_drewN ?_ _) | (with_reducible refine Kd.C_drew ?_))); (case side2 => exact HC0.out); rintro e w4 ⟨rfl, hb⟩; refine ⟨_, rfl, ?_⟩; have n0_ := Aside0.mk (below_step aB hb); clear HB; have HB := n0_; clear n0_; (try clear hb); (try clear hb2); (try clear hk); (try clear hi)) | ((with_reducible refine gate_dst (N := 9) rfl ?_); refine Kd.R_lit Kd.string _ 9 ?hg (N := 9) ?hd (xs := ([] : List ByteArray)) (inner := []) (ok := fun _ => True) (okp := fun _ => True) ?hr ?hp (fun _ hk => hk) trivial (Below.refl _ _) (Nat.le_refl _) (by simp) ?_; (case hd => rfl); (case hg => rfl); (case hr => first | (go_simp; done) | (go_simp; rfl)); (case hp => exact (Reps.none _ _)); intro v463 w5 ho6 hb hg_ hnew_; clear hg_ hnew_; (first | rw [← Ny462.out] at ho6 | (simp only [Int.reduceToNat] at ho6; rw [← Ny462.out] at ho6)); have n0_ := Aside0.mk (Kd.R_lower ho6 (below_size aB)); have n1_ := Aside0.mk (below_step aB hb); clear HB; have HO464 := n0_; have HB := n1_; clear n0_ n1_; clear hb ho6))
  go_loopg [3, 12] k (fun kq v3 v12 w' => ∃ (x3_1 : List ByteArray) (x12_1 : Int), v12 = .int .i64 x12_1 ∧ Aside0 (impl_LayoutText.l0 kq x3_1 l0 (l0.length : Int) x12_1 = some r) ∧ Aside0 (kq ≤ k) ∧ Aside0 (Kd.R Kd.string 9 w' w.heap.size (fun _ => True) v3 x3_1) ∧ Aside0 (Below w.heap.size w w'))
  case atStart => exact ⟨(y462), (0), aR, H', ⟨Nat.le_refl _⟩, ⟨by (with_reducible repeat (first|apply Kd.R_alloc|apply Kd.R_drewN|apply Kd.R_drew)); exact HO464.out⟩, ⟨by repeat (first|(with_reducible first|exact HB.out|apply below_alloc|apply pw_below_drewN|apply below_drew1)|exact HB.out)⟩⟩
  case round =>
   clear H'
   try clear p2
   try clear c3
   obtain ⟨x3_1, x12_1, rfl, HA, HK1, HO_3, HB⟩ := hrel
   cases gk with
   | zero => exact absurd HA.out (by simp [impl_LayoutText.l0])
   | succ k1 =>
    have H := HA.out
    clear HA
    simp only [impl_LayoutText.l0] at H
    by_cases c7 : x12_1 < (l0.length : Int)
    ·rw [if_pos c7] at H
     have c7b0 : decide (x12_1 < (l0.length : Int)) = true := decide_eq_true c7
     clear c7
     by_cases c8 : 0 ≤ x12_1
     ·rw [if_pos c8] at H
      have c8b0 : decide (0 ≤ x12_1) = true := decide_eq_true c8
      clear c8
      by_cases c9 : x12_1 < (l0.length : Int)
      ·rw [if_pos c9] at H
       have c9b0 : decide (x12_1 < (l0.length : Int)) = true := decide_eq_true c9
       clear c9
       replace H := Option.bind_eq_some_iff.mp H
       obtain ⟨t467, A100, H⟩ := H
       replace H : (if x3_1.length < 8796093022208 then (impl_LayoutText.l0 k1 (x3_1 ++ [t467]) l0 (l0.length : Int) (wrap64 (x12_1 + 1))) else (none)) = some r := H
       have A10 := Aside0.mk A100
       clear A100
       by_cases c11 : x3_1.length < 8796093022208
       ·rw [if_pos c11] at H
        have LMc11 := Aside0.mk c11
        clear c11
        obtain ⟨y468, hy468⟩ : ∃ y_ : List ByteArray, y_ = (x3_1 ++ [t467]) := ⟨_, rfl⟩
        replace H : (impl_LayoutText.l0 k1 y468 l0 (l0.length : Int) (wrap64 (x12_1 + 1))) = some r := by first | (rw [hy468]; with_reducible exact H) | (have H2_ := (Option.bind_some _ _).symm.trans H; rw [hy468]; with_reducible exact H2_) | (have H2_ := (Option.bind_some _ _).symm.trans H; with_reducible exact H2_) | with_reducible exact H | (rw [hy468]; exact H) | exact H
        have Ny468 := Aside0.mk hy468
        clear hy468
        have H' := Aside0.mk H
        clear H
        have p465 : 0 ≤ (x12_1 : Int) := of_decide_eq_true aQ
        have q465 : x12_1 < (l0.length : Int) := of_decide_eq_true aQ
        obtain ⟨ad465, e465, hx465_0, hx465_1⟩ := at_T59 HR0.out x12_1 p465 q465
        cases e465
        replace hx465_0 := (HB.out.cell (World.block_lt_of_cell? w _ hx465_0)).trans hx465_0
        replace hx465_1 := (HB.out.cell (World.block_lt_of_cell? w _ hx465_1)).trans hx465_1
        replace p465 := eq_true p465
        replace q465 := eq_true q465
        go_wp2_with (first | ((with_reducible refine gate_dst (N := 5) rfl ?_); refine box_event ?hg (N := 5) ?hd (cs := #[.int .i64 0, .string (⟨#[]⟩ : ByteArray)]) (t := 59) ?hr ?_; (case hd => rfl); (case hg => rfl); (case hr => first | (go_simp; done) | (go_simp; rfl)); intro gb466 hg w12 hbox hb; have n0_ := Aside0.mk (Kd.R_below (aP HO_3.out) hb); have n1_ := Aside0.mk (below_step aB hb); have n2_ := Aside0.mk (hbox); have n3_ := Aside0.mk ((by rw [hg]; exact (below_size aB) : w.heap.size ≤ gb466)); have n4_ := Aside0.mk ((by rw [hg]; exact (below_size aB) : w.heap.size ≤ gb466)); clear HO_3; clear HB; have HO_3 := n0_; have HB := n1_; have BK466 := n2_; have GW466 := n3_; have GE466 := n4_; clear n0_ n1_ n2_ n3_ n4_; clear hb hbox hg; have hcz13_0 : w12.cell? ⟨gb466, 0, none⟩ = some (.int .i64 0) := (blk_cell BK466.out 0).trans rfl; have hcz13_1 : w12.cell? ⟨gb466, 1, none⟩ = some (.string (⟨#[]⟩ : ByteArray)) := (blk_cell BK466.out 1).trans rfl; have hfz13_0 := blk_frozen BK466.out 0; have hfz13_1 := blk_frozen BK466.out 1) | ((with_reducible refine gate_callee (f := 58) rfl ?_); refine goesL_ (some 18) rfl rfl Try.func58 aK rfl #[.agg #[.int .i64 ((rd_T59 l0 x12_1).f0), .string ((rd_T59 l0 x12_1).f1)]] rfl aL ?_; (with_reducible refine (impl_rowText.calls ((rd_T59 l0 x12_1).f0) ((rd_T59 l0 x12_1).f1) t467 _ A10.out).mono ?_); rintro e w14 ⟨rfl, hb⟩; refine ⟨_, rfl, ?_⟩; have n0_ := Aside0.mk (Kd.R_below (by (with_reducible repeat (first|apply Kd.R_alloc|apply Kd.R_drewN|apply Kd.R_drew)); exact (Kd.R_mono (Kd.R_far (p := ⟨gb466, 1, none⟩) (Kd.R_far (p := ⟨gb466, 0, none⟩) (Kd.R_types HO_3.out BK466.out (by decide)) (fun _ hk => hk.2) (.int .i64 ((rd_T59 l0 x12_1).f0))) (fun _ hk => hk.2) (.string ((rd_T59 l0 x12_1).f1))) (fun _ h_ => h_.1))) hb); have n1_ := Aside0.mk (blk_below (g := gb466) (o := .cells #[.int .i64 ((rd_T59 l0 x12_1).f0), .string ((rd_T59 l0 x12_1).f1)] 59 (0, 0)) (by refine aW ?_; refine blk_put (cs := #[.int .i64 ((rd_T59 l0 x12_1).f0), .string (⟨#[]⟩ : ByteArray)]) ?_ 1 _ rfl; refine aW ?_; refine blk_put (cs := #[.int .i64 0, .string (⟨#[]⟩ : ByteArray)]) ?_ 0 _ rfl; refine aW ?_; exact BK466.out) hb); have n2_ := Aside0.mk (below_step (aB1 GE466.out) hb); clear HO_3; clear BK466; clear HB; have HO_3 := n0_; have BK466 := n1_; have HB := n2_; clear n0_ n1_ n2_; (try clear hb); (try clear hb2); (try clear hk); (try clear hi)) | ((with_reducible refine gate_builtin (b := .append) (xs := #[.tmp 16, .tmp 19]) rfl ?_); at_builtin; refine Kd.R_append Kd.string (w0 := w) w.heap.size rfl (.tmp 16) (.tmp 19) 24 9 (.string ⟨#[]⟩) 16 rfl Try.underlying24 info9 rfl (by decide) (by omega) u3 x3_1 t467 [.string t467] (fun _ => True) (fun _ => False) rfl rfl ?aP (fun _ hk => hk.elim) ?aF ?aO ?aB ?aS ?aL ?_; (case aP => exact rfl); (case aB => exact (aB1 GE466.out)); (case aF => exact (fun _ _ => trivial)); (case aO => exact (aP HO_3.out)); (case aS => exact (below_size (aB1 GE466.out))); (case aL => have := LMc11.out; omega); intro v469 w15 ho hb hg hat; rw [← Ny468.out] at ho; have n0_ := Aside0.mk (blk_grown (g := gb466) (o := .cells #[.int .i64 ((rd_T59 l0 x12_1).f0), .string ((rd_T59 l0 x12_1).f1)] 59 (0, 0)) (aW BK466.out) hg (Kd.R_ne HO_3.out BK466.out (by decide))); have n1_ := Aside0.mk (hb); have n2_ := Aside0.mk (ho); clear BK466; clear HB; clear HO_3; have BK466 := n0_; have HB := n1_; have HO470 := n2_; clear n0_ n1_ n2_; clear ho hb hg hat))
        go_roundg k1
        case measure => have := HK1.out; omega
        case rel => exact ⟨(y468), (wrap64 (x12_1 + 1)), aR, H', ⟨by have := HK1.out; omega⟩, ⟨by (with_reducible repeat (first|apply Kd.R_alloc|apply Kd.R_drewN|apply Kd.R_drew)); exact HO470.out⟩, ⟨by repeat (first | (with_reducible first | exact HB.out | apply below_alloc | apply pw_below_drewN | apply below_drew1 | refine below_set ?_ GE466.out) | exact HB.out)⟩⟩
       ·rw [if_neg c11] at H
        exact absurd H (by simp)
      ·rw [if_neg c9] at H
       exact absurd H (by simp)
     ·rw [if_neg c8] at H
      exact absurd H (by simp)
    ·rw [if_neg c7] at H
     have c7b0 : decide (x12_1 < (l0.length : Int)) = false := decide_eq_false c7
     clear c7
     replace H := Option.bind_eq_some_iff.mp H
     obtain ⟨t471, A160, H⟩ := H
     replace H : (some t471) = some r := H
     have A16 := Aside0.mk A160
     clear A160
     obtain rfl := Option.some.inj H
     obtain ⟨Ao17, co17, eo17⟩ := Kd.R_slice HO_3.out
     subst eo17
     go_wp2_with (first | ((with_reducible refine gate_callee (f := 70) rfl ?_); refine goesL_ (some 23) rfl rfl Try.func70 aK rfl #[.slice Ao17 x3_1.length co17, .string (⟨#[10]⟩ : ByteArray)] rfl aL ?_; (with_reducible refine (strings_Join.calls _ _ x3_1 (⟨#[10]⟩ : ByteArray) t471 _ ?side1 ?side2 A16.out).mono ?_); (case side1 => repeat (first | exact (Kd.R_reads' HO_3.out).2.2 | (with_reducible refine Kd.C_alloc ?_ _) | (with_reducible refine Kd.C_drewN ?_ _) | (with_reducible refine Kd.C_drew ?_))); (case side2 => exact (Kd.R_reads' HO_3.out).2.1); rintro e w18 ⟨rfl, hb⟩; refine ⟨_, rfl, ?_⟩; have n0_ := Aside0.mk (Kd.R_below (aP HO_3.out) hb); have n1_ := Aside0.mk (below_step aB hb); clear HO_3; clear HB; have HO_3 := n0_; have HB := n1_; clear n0_ n1_; (try clear hb); (try clear hb2); (try clear hk); (try clear hi)))
     go_ret
     exact ⟨by first | rfl | (simp [errW_none, errW_some] <;> rfl) | (simp [*, errW_none, errW_some] <;> rfl), by repeat (first|(with_reducible first|exact HB.out|apply below_alloc|apply pw_below_drewN|apply below_drew1)|exact HB.out)⟩
 ·replace c3 := Bool.eq_false_iff.mpr c3
  subst c3
  have H1 : (some (⟨#[]⟩ : ByteArray)) = some r := by rw [if_neg (show ¬ (false = true) by decide)] at H; exact H
  clear H
  have H := H1
  clear H1
  obtain rfl := Option.some.inj H
  go_enter Try.func39, Try.ntmps39
  go_wp2_with (first | ((with_reducible refine gate_callee (f := 34) rfl ?_); refine goesL_ (some 7) rfl rfl Try.func34 aK rfl #[.slice A0 l0.length c0] rfl aL ?_; (with_reducible refine (impl_LayoutValid.calls k _ _ l0 false _ ?side1 ?side2 A2.out).mono ?_); (case side1 => repeat (first | exact HR0.out | (with_reducible refine Kd.C_alloc ?_ _) | (with_reducible refine Kd.C_drewN ?_ _) | (with_reducible refine Kd.C_drew ?_))); (case side2 => exact HC0.out); rintro e w19 ⟨rfl, hb⟩; refine ⟨_, rfl, ?_⟩; have n0_ := Aside0.mk (below_step aB hb); clear HB; have HB := n0_; clear n0_; (try clear hb); (try clear hb2); (try clear hk); (try clear hi)))
  go_ret
  exact ⟨by first | rfl | (simp [errW_none, errW_some] <;> rfl) | (simp [*, errW_none, errW_some] <;> rfl), by repeat (first|(with_reducible first|exact HB.out|apply below_alloc|apply pw_below_drewN|apply below_drew1)|exact HB.out)⟩

end Go.Proofs.Ytkcpimhohadjkaa.POp
