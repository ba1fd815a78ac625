-- Written by a program of this session (xprint). -- COMPACT
import Derived.Test.YtkcpimhohadjkaaPOox0
import Derived.Test.YtkcpimhohadjkaaPOox7
namespace Go.Proofs.Ytkcpimhohadjkaa.POo
open Go.RowKit Go.Proofs.YtkcpimhohadjkaaW.PrintWords Go.Proofs.YtkcpimhohadjkaaW.PrintLast Go.Proofs.YtkcpimhohadjkaaW.PrintMore
attribute [local go_sem] max2_int min2_int max_two min_two max_three min_three max_four min_four   -- for this text's walks alone
set_option linter.unusedVariables false
set_option linter.unusedSimpArgs false

/-! ### spec_l2Text: function 76 -/
mutual
def spec_l2Text.l0 : Nat → ByteArray → Int → Option (Bool)
 | 0, _, _ => none
 | k + 1, x0, x3 => if x3 < (x0.size : Int) then (spec_l2Text.j1 k x0 x3 (decide (x3 < 2000))) else (spec_l2Text.j1 k x0 x3 false)
def spec_l2Text.j1 : Nat → ByteArray → Int → Bool → Option (Bool)
 | 0, _, _, _ => none
 | k + 1, x0, x3, x11 => if x11 = true then (if 0 ≤ x3 then (if x3 < (x0.size : Int) then (if (bt x0 x3) = 32 then (spec_l2Text.l0 k x0 (wrap64 (x3 + 1))) else (if x3 ≤ (wrap64 (x3 + 1)) then (if (wrap64 (x3 + 1)) ≤ (x0.size : Int) then ((spec_TextValid.f k (x0.extract (x3 : Int).toNat ((wrap64 (x3 + 1)) : Int).toNat)).bind fun t475 => (if t475 = true then (spec_l2Text.l0 k x0 (wrap64 (x3 + 1))) else (some false))) else (none)) else (none))) else (none)) else (none)) else (some (decide ((x0.size : Int) < 2000)))
end
def spec_l2Text.f (k : Nat) (a0 : ByteArray) : Option (Bool) := spec_l2Text.l0 k a0 0
set_option maxHeartbeats 8000000 in
set_option maxRecDepth 100000 in
theorem spec_l2Text.calls (k : Nat) (a0 : ByteArray) (r : Bool) (w : World) (h : spec_l2Text.f k a0 = some r) :
  Calls Try.prog 76 #[.string a0] w fun e w' => e = .returned (.bool r) ∧ Drawn0 w w' := by
 have H : (spec_l2Text.l0 k a0 0) = some r := h
 clear h
 have H' := Aside0.mk H
 clear H
 go_enter Try.func76, Try.ntmps76
 go_wp2
 go_loopg [3] k (fun kq v3 w' => ∃ (x3_1 : Int), v3 = .int .i64 x3_1 ∧ Aside0 (spec_l2Text.l0 kq a0 x3_1 = some r) ∧ Aside0 (kq ≤ k) ∧ Drawn0 w w')
 case atStart => exact ⟨(0), aR, H', ⟨Nat.le_refl _⟩, by repeat (first | exact Drawn0.refl _ | apply Drawn0.step)⟩
 case round =>
  clear H'
  obtain ⟨x3_1, rfl, HA, HK1, ⟨m1, rfl⟩⟩ := hrel
  cases gk with
  | zero => exact absurd HA.out (by simp [spec_l2Text.l0])
  | succ k1 =>
   have H := HA.out
   clear HA
   simp only [spec_l2Text.l0] at H
   have HC2 := Aside0.mk H
   clear H
   go_upto_region 2 with (fail)
   go_cut [11] (fun v11 wc => ∃ (kq : Nat) (x11_1 : Bool), v11 = .bool x11_1 ∧ Aside0 (spec_l2Text.j1 kq a0 x3_1 x11_1 = some r) ∧ Aside0 (kq ≤ k1) ∧ Drawn0 w wc)
   case first =>
    have H := HC2.out
    clear HC2
    by_cases c3 : x3_1 < (a0.size : Int)
    ·rw [if_pos c3] at H
     have c3b0 : decide (x3_1 < (a0.size : Int)) = true := decide_eq_true c3
     clear c3
     (first | rw [c3b0] | (simp only [i64_w, i32_w]; rw [c3b0]) | skip)
     have H' := Aside0.mk H
     clear H
     go_wp2
     go_meet
     case rel => exact ⟨_, (decide (x3_1 < 2000)), aR, H', ⟨by have := HK1.out; first | omega | exact Nat.le_refl _⟩, by repeat (first | exact Drawn0.refl _ | apply Drawn0.step)⟩
    ·rw [if_neg c3] at H
     have c3b0 : decide (x3_1 < (a0.size : Int)) = false := decide_eq_false c3
     clear c3
     (first | rw [c3b0] | (simp only [i64_w, i32_w]; rw [c3b0]) | skip)
     have H' := Aside0.mk H
     clear H
     go_wp2
     go_meet
     case rel => exact ⟨_, (false), aR, H', ⟨by have := HK1.out; first | omega | exact Nat.le_refl _⟩, by repeat (first | exact Drawn0.refl _ | apply Drawn0.step)⟩
   case rest =>
    clear HC2
    try clear p2
    try clear c3
    try clear c3b0
    obtain ⟨kq, x11_1, rfl, HA, HJ1, ⟨mc1, rfl⟩⟩ := hcut
    cases kq with
    | zero => exact absurd HA.out (by simp [spec_l2Text.j1])
    | succ kj1 =>
     have H := HA.out
     clear HA
     simp only [spec_l2Text.j1] at H
     by_cases c4 : x11_1 = true
     ·subst c4
      have H1 : (if 0 ≤ x3_1 then (if x3_1 < (a0.size : Int) then (if (bt a0 x3_1) = 32 then (spec_l2Text.l0 kj1 a0 (wrap64 (x3_1 + 1))) else (if x3_1 ≤ (wrap64 (x3_1 + 1)) then (if (wrap64 (x3_1 + 1)) ≤ (a0.size : Int) then ((spec_TextValid.f kj1 (a0.extract (x3_1 : Int).toNat ((wrap64 (x3_1 + 1)) : Int).toNat)).bind fun t475 => (if t475 = true then (spec_l2Text.l0 kj1 a0 (wrap64 (x3_1 + 1))) else (some false))) else (none)) else (none))) else (none)) else (none)) = some r := by rw [if_pos rfl] at H; exact H
      clear H
      have H := H1
      clear H1
      by_cases c5 : 0 ≤ x3_1
      ·rw [if_pos c5] at H
       have c5b0 : decide (0 ≤ x3_1) = true := decide_eq_true c5
       clear c5
       by_cases c6 : x3_1 < (a0.size : Int)
       ·rw [if_pos c6] at H
        have c6b0 : decide (x3_1 < (a0.size : Int)) = true := decide_eq_true c6
        clear c6
        by_cases c8 : (bt a0 x3_1) = 32
        ·rw [if_pos c8] at H
         have c8b0 : ((bt a0 x3_1) == 32) = true := beq_iff_eq.mpr c8
         have c8b1 : ((bt a0 x3_1) != 32) = false := bne_eq_false_iff_eq.mpr c8
         clear c8
         have H' := Aside0.mk H
         clear H
         have p7 : 0 ≤ (x3_1 : Int) := of_decide_eq_true aQ
         have q7 : x3_1 < (a0.size : Int) := of_decide_eq_true aQ
         have hx7 := bt_at a0 x3_1
         replace p7 := eq_true p7
         replace q7 := eq_true q7
         go_wp2
         go_roundg kj1
         case measure => have := HK1.out; have := HJ1.out; omega
         case rel => exact ⟨(wrap64 (x3_1 + 1)), aR, H', ⟨by have := HK1.out; have := HJ1.out; omega⟩, by repeat (first | exact Drawn0.refl _ | apply Drawn0.step)⟩
        ·rw [if_neg c8] at H
         have c8b0 : ((bt a0 x3_1) == 32) = false := beq_eq_false_iff_ne.mpr c8
         have c8b1 : ((bt a0 x3_1) != 32) = true := bne_iff_ne.mpr c8
         have c9b0 := eq_true (of_decide_eq_true aQ : 0 ≤ x3_1)
         by_cases c10 : x3_1 ≤ (wrap64 (x3_1 + 1))
         ·rw [if_pos c10] at H
          have c10b0 := eq_true c10
          have c10b1 : decide (x3_1 ≤ (wrap64 (x3_1 + 1))) = true := decide_eq_true c10
          by_cases c11 : (wrap64 (x3_1 + 1)) ≤ (a0.size : Int)
          ·rw [if_pos c11] at H
           have c11b0 := eq_true c11
           have c11b1 : decide ((wrap64 (x3_1 + 1)) ≤ (a0.size : Int)) = true := decide_eq_true c11
           replace H := Option.bind_eq_some_iff.mp H
           obtain ⟨t475, A120, H⟩ := H
           replace H : (if t475 = true then (spec_l2Text.l0 kj1 a0 (wrap64 (x3_1 + 1))) else (some false)) = some r := H
           have A12 := Aside0.mk A120
           clear A120
           by_cases c13 : t475 = true
           ·subst c13
            have H1 : (spec_l2Text.l0 kj1 a0 (wrap64 (x3_1 + 1))) = some r := by rw [if_pos rfl] at H; exact H
            clear H
            have H := H1
            clear H1
            have H' := Aside0.mk H
            clear H
            have p7 : 0 ≤ (x3_1 : Int) := of_decide_eq_true aQ
            have q7 : x3_1 < (a0.size : Int) := of_decide_eq_true aQ
            have hx7 := bt_at a0 x3_1
            replace p7 := eq_true p7
            replace q7 := eq_true q7
            go_wp2_with (first | (go_at_call 80; (with_reducible refine (spec_TextValid.calls kj1 (a0.extract (x3_1 : Int).toNat ((wrap64 (x3_1 + 1)) : Int).toNat) true _ A12.out).mono ?_); rintro e w' ⟨rfl, ⟨nd, rfl⟩⟩))
            go_roundg kj1
            case measure => have := HK1.out; have := HJ1.out; omega
            case rel => exact ⟨(wrap64 (x3_1 + 1)), aR, H', ⟨by have := HK1.out; have := HJ1.out; omega⟩, by repeat (first | exact Drawn0.refl _ | apply Drawn0.step)⟩
           ·replace c13 := Bool.eq_false_iff.mpr c13
            subst c13
            have H1 : (some false) = some r := by rw [if_neg (show ¬ (false = true) by decide)] at H; exact H
            clear H
            have H := H1
            clear H1
            obtain rfl := Option.some.inj H
            have p7 : 0 ≤ (x3_1 : Int) := of_decide_eq_true aQ
            have q7 : x3_1 < (a0.size : Int) := of_decide_eq_true aQ
            have hx7 := bt_at a0 x3_1
            replace p7 := eq_true p7
            replace q7 := eq_true q7
            go_wp2_with (first | (go_at_call 80; (with_reducible refine (spec_TextValid.calls kj1 (a0.extract (x3_1 : Int).toNat ((wrap64 (x3_1 + 1)) : Int).toNat) false _ A12.out).mono ?_); rintro e w' ⟨rfl, ⟨nd, rfl⟩⟩))
            go_ret
            exact ⟨by first | rfl | (simp; done) | (simp [*]; done), by repeat (first | exact Drawn0.refl _ | apply Drawn0.step)⟩
          ·rw [if_neg c11] at H
           exact absurd H (by simp)
         ·rw [if_neg c10] at H
          exact absurd H (by simp)
       ·rw [if_neg c6] at H
        exact absurd H (by simp)
      ·rw [if_neg c5] at H
       exact absurd H (by simp)
     ·replace c4 := Bool.eq_false_iff.mpr c4
      subst c4
      have H1 : (some (decide ((a0.size : Int) < 2000))) = some r := by rw [if_neg (show ¬ (false = true) by decide)] at H; exact H
      clear H
      have H := H1
      clear H1
      obtain rfl := Option.some.inj H
      go_wp2
      go_ret
      exact ⟨by first | rfl | (simp; done) | (simp [*]; done), by repeat (first | exact Drawn0.refl _ | apply Drawn0.step)⟩

/-! ### spec_LayoutValid: function 52 -/
mutual
def spec_LayoutValid.l0 : Nat → List (S59) → Int → Option (Bool)
 | 0, _, _ => none
 | k + 1, x0, x3 => if x3 < (x0.length : Int) then (spec_LayoutValid.j1 k x0 x3 (decide (x3 ≤ 200))) else (spec_LayoutValid.j1 k x0 x3 false)
def spec_LayoutValid.j1 : Nat → List (S59) → Int → Bool → Option (Bool)
 | 0, _, _, _ => none
 | k + 1, x0, x3, x11 => if x11 = true then (if 0 ≤ x3 then (if x3 < (x0.length : Int) then (if ((rd_T59 x0 x3).f0) < 0 then (some false) else (if ((rd_T59 x0 x3).f0) > 400 then (some false) else (if x3 = 0 then (if ((rd_T59 x0 x3).f0) = 0 then ((spec_l2Text.f k ((rd_T59 x0 x3).f1)).bind fun t480 => (if t480 = true then (spec_LayoutValid.l0 k x0 (wrap64 (x3 + 1))) else (some false))) else (some false)) else ((spec_l2Text.f k ((rd_T59 x0 x3).f1)).bind fun t482 => (if t482 = true then (spec_LayoutValid.l0 k x0 (wrap64 (x3 + 1))) else (some false)))))) else (none)) else (none)) else (if (x0.length : Int) > 0 then (some (decide ((x0.length : Int) ≤ 200))) else (some false))
end
def spec_LayoutValid.f (k : Nat) (l0 : List (S59)) : Option (Bool) := spec_LayoutValid.l0 k l0 0
set_option maxHeartbeats 8000000 in
set_option maxRecDepth 100000 in
theorem spec_LayoutValid.calls (k : Nat) (A0 : Option Addr) (c0 : Nat) (l0 : List (S59)) (r : Bool) (w : World) (hr0 : Kd.C k59 w A0 l0.length l0) (hc0 : l0.length ≤ c0) (h : spec_LayoutValid.f k l0 = some r) :
  Calls Try.prog 52 #[.slice A0 l0.length c0] w fun e w' => e = .returned (.bool r) ∧ Drawn0 w w' := by
 have HR0 := Aside0.mk hr0
 have HC0 := Aside0.mk hc0
 clear hr0 hc0
 have H : (spec_LayoutValid.l0 k l0 0) = some r := h
 clear h
 have H' := Aside0.mk H
 clear H
 go_enter Try.func52, Try.ntmps52
 go_wp2
 go_loopg [3] k (fun kq v3 w' => ∃ (x3_1 : Int), v3 = .int .i64 x3_1 ∧ Aside0 (spec_LayoutValid.l0 kq l0 x3_1 = some r) ∧ Aside0 (kq ≤ k) ∧ Drawn0 w w')
 case atStart => exact ⟨(0), aR, H', ⟨Nat.le_refl _⟩, by repeat (first | exact Drawn0.refl _ | apply Drawn0.step)⟩
 case round =>
  clear H'
  obtain ⟨x3_1, rfl, HA, HK1, ⟨m1, rfl⟩⟩ := hrel
  cases gk with
  | zero => exact absurd HA.out (by simp [spec_LayoutValid.l0])
  | succ k1 =>
   have H := HA.out
   clear HA
   simp only [spec_LayoutValid.l0] at H
   have HC2 := Aside0.mk H
   clear H
   go_upto_region 2 with (fail)
   go_cut [11] (fun v11 wc => ∃ (kq : Nat) (x11_1 : Bool), v11 = .bool x11_1 ∧ Aside0 (spec_LayoutValid.j1 kq l0 x3_1 x11_1 = some r) ∧ Aside0 (kq ≤ k1) ∧ Drawn0 w wc)
   case first =>
    have H := HC2.out
    clear HC2
    by_cases c3 : x3_1 < (l0.length : Int)
    ·rw [if_pos c3] at H
     have c3b0 : decide (x3_1 < (l0.length : Int)) = true := decide_eq_true c3
     clear c3
     (first | rw [c3b0] | (simp only [i64_w, i32_w]; rw [c3b0]) | skip)
     have H' := Aside0.mk H
     clear H
     go_wp2
     go_meet
     case rel => exact ⟨_, (decide (x3_1 ≤ 200)), aR, H', ⟨by have := HK1.out; first | omega | exact Nat.le_refl _⟩, by repeat (first | exact Drawn0.refl _ | apply Drawn0.step)⟩
    ·rw [if_neg c3] at H
     have c3b0 : decide (x3_1 < (l0.length : Int)) = false := decide_eq_false c3
     clear c3
     (first | rw [c3b0] | (simp only [i64_w, i32_w]; rw [c3b0]) | skip)
     have H' := Aside0.mk H
     clear H
     go_wp2
     go_meet
     case rel => exact ⟨_, (false), aR, H', ⟨by have := HK1.out; first | omega | exact Nat.le_refl _⟩, by repeat (first | exact Drawn0.refl _ | apply Drawn0.step)⟩
   case rest =>
    clear HC2
    try clear p2
    try clear c3
    try clear c3b0
    obtain ⟨kq, x11_1, rfl, HA, HJ1, ⟨mc1, rfl⟩⟩ := hcut
    cases kq with
    | zero => exact absurd HA.out (by simp [spec_LayoutValid.j1])
    | succ kj1 =>
     have H := HA.out
     clear HA
     simp only [spec_LayoutValid.j1] at H
     by_cases c4 : x11_1 = true
     ·subst c4
      have H1 : (if 0 ≤ x3_1 then (if x3_1 < (l0.length : Int) then (if ((rd_T59 l0 x3_1).f0) < 0 then (some false) else (if ((rd_T59 l0 x3_1).f0) > 400 then (some false) else (if x3_1 = 0 then (if ((rd_T59 l0 x3_1).f0) = 0 then ((spec_l2Text.f kj1 ((rd_T59 l0 x3_1).f1)).bind fun t480 => (if t480 = true then (spec_LayoutValid.l0 kj1 l0 (wrap64 (x3_1 + 1))) else (some false))) else (some false)) else ((spec_l2Text.f kj1 ((rd_T59 l0 x3_1).f1)).bind fun t482 => (if t482 = true then (spec_LayoutValid.l0 kj1 l0 (wrap64 (x3_1 + 1))) else (some false)))))) else (none)) else (none)) = some r := by rw [if_pos rfl] at H; exact H
      clear H
      have H := H1
      clear H1
      by_cases c5 : 0 ≤ x3_1
      ·rw [if_pos c5] at H
       have c5b0 : decide (0 ≤ x3_1) = true := decide_eq_true c5
       clear c5
       by_cases c6 : x3_1 < (l0.length : Int)
       ·rw [if_pos c6] at H
        have c6b0 : decide (x3_1 < (l0.length : Int)) = true := decide_eq_true c6
        clear c6
        by_cases c7 : ((rd_T59 l0 x3_1).f0) < 0
        ·rw [if_pos c7] at H
         have c7b0 : decide (((rd_T59 l0 x3_1).f0) < 0) = true := decide_eq_true c7
         clear c7
         obtain rfl := Option.some.inj H
         have p476 : 0 ≤ (x3_1 : Int) := of_decide_eq_true aQ
         have q476 : x3_1 < (l0.length : Int) := of_decide_eq_true aQ
         obtain ⟨ad476, e476, hx476_0, hx476_1⟩ := at_T59 HR0.out x3_1 p476 q476
         cases e476
         replace p476 := eq_true p476
         replace q476 := eq_true q476
         go_wp2
         go_ret
         exact ⟨by first | rfl | (simp; done) | (simp [*]; done), by repeat (first | exact Drawn0.refl _ | apply Drawn0.step)⟩
        ·rw [if_neg c7] at H
         have c7b0 : decide (((rd_T59 l0 x3_1).f0) < 0) = false := decide_eq_false c7
         clear c7
         by_cases c8 : ((rd_T59 l0 x3_1).f0) > 400
         ·rw [if_pos c8] at H
          have c8b0 : decide (400 < ((rd_T59 l0 x3_1).f0)) = true := decide_eq_true c8
          clear c8
          obtain rfl := Option.some.inj H
          have p476 : 0 ≤ (x3_1 : Int) := of_decide_eq_true aQ
          have q476 : x3_1 < (l0.length : Int) := of_decide_eq_true aQ
          obtain ⟨ad476, e476, hx476_0, hx476_1⟩ := at_T59 HR0.out x3_1 p476 q476
          cases e476
          replace p476 := eq_true p476
          replace q476 := eq_true q476
          have p477 : 0 ≤ (x3_1 : Int) := of_decide_eq_true aQ
          have q477 : x3_1 < (l0.length : Int) := of_decide_eq_true aQ
          obtain ⟨ad477, e477, hx477_0, hx477_1⟩ := at_T59 HR0.out x3_1 p477 q477
          obtain rfl : ad476 = ad477 := (by injection e477)
          replace p477 := eq_true p477
          replace q477 := eq_true q477
          go_wp2
          go_ret
          exact ⟨by first | rfl | (simp; done) | (simp [*]; done), by repeat (first | exact Drawn0.refl _ | apply Drawn0.step)⟩
         ·rw [if_neg c8] at H
          have c8b0 : decide (400 < ((rd_T59 l0 x3_1).f0)) = false := decide_eq_false c8
          clear c8
          by_cases c9 : x3_1 = 0
          ·rw [if_pos c9] at H
           have c9b0 : (x3_1 == 0) = true := beq_iff_eq.mpr c9
           have c9b1 : (x3_1 != 0) = false := bne_eq_false_iff_eq.mpr c9
           clear c9
           by_cases c10 : ((rd_T59 l0 x3_1).f0) = 0
           ·rw [if_pos c10] at H
            have c10b0 : (((rd_T59 l0 x3_1).f0) == 0) = true := beq_iff_eq.mpr c10
            have c10b1 : (((rd_T59 l0 x3_1).f0) != 0) = false := bne_eq_false_iff_eq.mpr c10
            clear c10
            replace H := Option.bind_eq_some_iff.mp H
            obtain ⟨t480, A110, H⟩ := H
            replace H : (if t480 = true then (spec_LayoutValid.l0 kj1 l0 (wrap64 (x3_1 + 1))) else (some false)) = some r := H
            have A11 := Aside0.mk A110
            clear A110
            by_cases c12 : t480 = true
            ·subst c12
             have H1 : (spec_LayoutValid.l0 kj1 l0 (wrap64 (x3_1 + 1))) = some r := by rw [if_pos rfl] at H; exact H
             clear H
             have H := H1
             clear H1
             have H' := Aside0.mk H
             clear H
             have p476 : 0 ≤ (x3_1 : Int) := of_decide_eq_true aQ
             have q476 : x3_1 < (l0.length : Int) := of_decide_eq_true aQ
             obtain ⟨ad476, e476, hx476_0, hx476_1⟩ := at_T59 HR0.out x3_1 p476 q476
             cases e476
             replace p476 := eq_true p476
             replace q476 := eq_true q476
             have p477 : 0 ≤ (x3_1 : Int) := of_decide_eq_true aQ
             have q477 : x3_1 < (l0.length : Int) := of_decide_eq_true aQ
             obtain ⟨ad477, e477, hx477_0, hx477_1⟩ := at_T59 HR0.out x3_1 p477 q477
             obtain rfl : ad476 = ad477 := (by injection e477)
             replace p477 := eq_true p477
             replace q477 := eq_true q477
             have p478 : 0 ≤ (x3_1 : Int) := of_decide_eq_true aQ
             have q478 : x3_1 < (l0.length : Int) := of_decide_eq_true aQ
             obtain ⟨ad478, e478, hx478_0, hx478_1⟩ := at_T59 HR0.out x3_1 p478 q478
             obtain rfl : ad476 = ad478 := (by injection e478)
             replace p478 := eq_true p478
             replace q478 := eq_true q478
             have p479 : 0 ≤ (x3_1 : Int) := of_decide_eq_true aQ
             have q479 : x3_1 < (l0.length : Int) := of_decide_eq_true aQ
             obtain ⟨ad479, e479, hx479_0, hx479_1⟩ := at_T59 HR0.out x3_1 p479 q479
             obtain rfl : ad476 = ad479 := (by injection e479)
             replace p479 := eq_true p479
             replace q479 := eq_true q479
             go_wp2_with (first | (go_at_call 76; (with_reducible refine (spec_l2Text.calls kj1 ((rd_T59 l0 x3_1).f1) true _ A11.out).mono ?_); rintro e w' ⟨rfl, ⟨nd, rfl⟩⟩))
             go_roundg kj1
             case measure => have := HK1.out; have := HJ1.out; omega
             case rel => exact ⟨(wrap64 (x3_1 + 1)), aR, H', ⟨by have := HK1.out; have := HJ1.out; omega⟩, by repeat (first | exact Drawn0.refl _ | apply Drawn0.step)⟩
            ·replace c12 := Bool.eq_false_iff.mpr c12
             subst c12
             have H1 : (some false) = some r := by rw [if_neg (show ¬ (false = true) by decide)] at H; exact H
             clear H
             have H := H1
             clear H1
             obtain rfl := Option.some.inj H
             have p476 : 0 ≤ (x3_1 : Int) := of_decide_eq_true aQ
             have q476 : x3_1 < (l0.length : Int) := of_decide_eq_true aQ
             obtain ⟨ad476, e476, hx476_0, hx476_1⟩ := at_T59 HR0.out x3_1 p476 q476
             cases e476
             replace p476 := eq_true p476
             replace q476 := eq_true q476
             have p477 : 0 ≤ (x3_1 : Int) := of_decide_eq_true aQ
             have q477 : x3_1 < (l0.length : Int) := of_decide_eq_true aQ
             obtain ⟨ad477, e477, hx477_0, hx477_1⟩ := at_T59 HR0.out x3_1 p477 q477
             obtain rfl : ad476 = ad477 := (by injection e477)
             replace p477 := eq_true p477
             replace q477 := eq_true q477
             have p478 : 0 ≤ (x3_1 : Int) := of_decide_eq_true aQ
             have q478 : x3_1 < (l0.length : Int) := of_decide_eq_true aQ
             obtain ⟨ad478, e478, hx478_0, hx478_1⟩ := at_T59 HR0.out x3_1 p478 q478
             obtain rfl : ad476 = ad478 := (by injection e478)
             replace p478 := eq_true p478
             replace q478 := eq_true q478
             have p479 : 0 ≤ (x3_1 : Int) := of_decide_eq_true aQ
             have q479 : x3_1 < (l0.length : Int) := of_decide_eq_true aQ
             obtain ⟨ad479, e479, hx479_0, hx479_1⟩ := at_T59 HR0.out x3_1 p479 q479
             obtain rfl : ad476 = ad479 := (by injection e479)
             replace p479 := eq_true p479
             replace q479 := eq_true q479
             go_wp2_with (first | (go_at_call 76; (with_reducible refine (spec_l2Text.calls kj1 ((rd_T59 l0 x3_1).f1) false _ A11.out).mono ?_); rintro e w' ⟨rfl, ⟨nd, rfl⟩⟩))
             go_ret
             exact ⟨by first | rfl | (simp; done) | (simp [*]; done), by repeat (first | exact Drawn0.refl _ | apply Drawn0.step)⟩
           ·rw [if_neg c10] at H
            have c10b0 : (((rd_T59 l0 x3_1).f0) == 0) = false := beq_eq_false_iff_ne.mpr c10
            have c10b1 : (((rd_T59 l0 x3_1).f0) != 0) = true := bne_iff_ne.mpr c10
            obtain rfl := Option.some.inj H
            have p476 : 0 ≤ (x3_1 : Int) := of_decide_eq_true aQ
            have q476 : x3_1 < (l0.length : Int) := of_decide_eq_true aQ
            obtain ⟨ad476, e476, hx476_0, hx476_1⟩ := at_T59 HR0.out x3_1 p476 q476
            cases e476
            replace p476 := eq_true p476
            replace q476 := eq_true q476
            have p477 : 0 ≤ (x3_1 : Int) := of_decide_eq_true aQ
            have q477 : x3_1 < (l0.length : Int) := of_decide_eq_true aQ
            obtain ⟨ad477, e477, hx477_0, hx477_1⟩ := at_T59 HR0.out x3_1 p477 q477
            obtain rfl : ad476 = ad477 := (by injection e477)
            replace p477 := eq_true p477
            replace q477 := eq_true q477
            have p478 : 0 ≤ (x3_1 : Int) := of_decide_eq_true aQ
            have q478 : x3_1 < (l0.length : Int) := of_decide_eq_true aQ
            obtain ⟨ad478, e478, hx478_0, hx478_1⟩ := at_T59 HR0.out x3_1 p478 q478
            obtain rfl : ad476 = ad478 := (by injection e478)
            replace p478 := eq_true p478
            replace q478 := eq_true q478
            go_wp2
            go_ret
            exact ⟨by first | rfl | (simp; done) | (simp [*]; done), by repeat (first | exact Drawn0.refl _ | apply Drawn0.step)⟩
          ·rw [if_neg c9] at H
           have c9b0 : (x3_1 == 0) = false := beq_eq_false_iff_ne.mpr c9
           have c9b1 : (x3_1 != 0) = true := bne_iff_ne.mpr c9
           replace H := Option.bind_eq_some_iff.mp H
           obtain ⟨t482, A130, H⟩ := H
           replace H : (if t482 = true then (spec_LayoutValid.l0 kj1 l0 (wrap64 (x3_1 + 1))) else (some false)) = some r := H
           have A13 := Aside0.mk A130
           clear A130
           by_cases c14 : t482 = true
           ·subst c14
            have H1 : (spec_LayoutValid.l0 kj1 l0 (wrap64 (x3_1 + 1))) = some r := by rw [if_pos rfl] at H; exact H
            clear H
            have H := H1
            clear H1
            have H' := Aside0.mk H
            clear H
            have p476 : 0 ≤ (x3_1 : Int) := of_decide_eq_true aQ
            have q476 : x3_1 < (l0.length : Int) := of_decide_eq_true aQ
            obtain ⟨ad476, e476, hx476_0, hx476_1⟩ := at_T59 HR0.out x3_1 p476 q476
            cases e476
            replace p476 := eq_true p476
            replace q476 := eq_true q476
            have p477 : 0 ≤ (x3_1 : Int) := of_decide_eq_true aQ
            have q477 : x3_1 < (l0.length : Int) := of_decide_eq_true aQ
            obtain ⟨ad477, e477, hx477_0, hx477_1⟩ := at_T59 HR0.out x3_1 p477 q477
            obtain rfl : ad476 = ad477 := (by injection e477)
            replace p477 := eq_true p477
            replace q477 := eq_true q477
            have p481 : 0 ≤ (x3_1 : Int) := of_decide_eq_true aQ
            have q481 : x3_1 < (l0.length : Int) := of_decide_eq_true aQ
            obtain ⟨ad481, e481, hx481_0, hx481_1⟩ := at_T59 HR0.out x3_1 p481 q481
            obtain rfl : ad476 = ad481 := (by injection e481)
            replace p481 := eq_true p481
            replace q481 := eq_true q481
            go_wp2_with (first | (go_at_call 76; (with_reducible refine (spec_l2Text.calls kj1 ((rd_T59 l0 x3_1).f1) true _ A13.out).mono ?_); rintro e w' ⟨rfl, ⟨nd, rfl⟩⟩))
            go_roundg kj1
            case measure => have := HK1.out; have := HJ1.out; omega
            case rel => exact ⟨(wrap64 (x3_1 + 1)), aR, H', ⟨by have := HK1.out; have := HJ1.out; omega⟩, by repeat (first | exact Drawn0.refl _ | apply Drawn0.step)⟩
           ·replace c14 := Bool.eq_false_iff.mpr c14
            subst c14
            have H1 : (some false) = some r := by rw [if_neg (show ¬ (false = true) by decide)] at H; exact H
            clear H
            have H := H1
            clear H1
            obtain rfl := Option.some.inj H
            have p476 : 0 ≤ (x3_1 : Int) := of_decide_eq_true aQ
            have q476 : x3_1 < (l0.length : Int) := of_decide_eq_true aQ
            obtain ⟨ad476, e476, hx476_0, hx476_1⟩ := at_T59 HR0.out x3_1 p476 q476
            cases e476
            replace p476 := eq_true p476
            replace q476 := eq_true q476
            have p477 : 0 ≤ (x3_1 : Int) := of_decide_eq_true aQ
            have q477 : x3_1 < (l0.length : Int) := of_decide_eq_true aQ
            obtain ⟨ad477, e477, hx477_0, hx477_1⟩ := at_T59 HR0.out x3_1 p477 q477
            obtain rfl : ad476 = ad477 := (by injection e477)
            replace p477 := eq_true p477
            replace q477 := eq_true q477
            have p481 : 0 ≤ (x3_1 : Int) := of_decide_eq_true aQ
            have q481 : x3_1 < (l0.length : Int) := of_decide_eq_true aQ
            obtain ⟨ad481, e481, hx481_0, hx481_1⟩ := at_T59 HR0.out x3_1 p481 q481
            obtain rfl : ad476 = ad481 := (by injection e481)
            replace p481 := eq_true p481
            replace q481 := eq_true q481
            go_wp2_with (first | (go_at_call 76; (with_reducible refine (spec_l2Text.calls kj1 ((rd_T59 l0 x3_1).f1) false _ A13.out).mono ?_); rintro e w' ⟨rfl, ⟨nd, rfl⟩⟩))
            go_ret
            exact ⟨by first | rfl | (simp; done) | (simp [*]; done), by repeat (first | exact Drawn0.refl _ | apply Drawn0.step)⟩
       ·rw [if_neg c6] at H
        exact absurd H (by simp)
      ·rw [if_neg c5] at H
       exact absurd H (by simp)
     ·replace c4 := Bool.eq_false_iff.mpr c4
      subst c4
      have H1 : (if (l0.length : Int) > 0 then (some (decide ((l0.length : Int) ≤ 200))) else (some false)) = some r := by rw [if_neg (show ¬ (false = true) by decide)] at H; exact H
      clear H
      have H := H1
      clear H1
      by_cases c15 : (l0.length : Int) > 0
      ·rw [if_pos c15] at H
       have c15b0 : decide (0 < (l0.length : Int)) = true := decide_eq_true c15
       have c15b1 : decide (0 < l0.length) = true := decide_eq_true (by omega)
       clear c15
       obtain rfl := Option.some.inj H
       go_wp2
       go_ret
       exact ⟨by first | rfl | (simp; done) | (simp [*]; done), by repeat (first | exact Drawn0.refl _ | apply Drawn0.step)⟩
      ·rw [if_neg c15] at H
       have c15b0 : decide (0 < (l0.length : Int)) = false := decide_eq_false c15
       have c15b1 : decide (0 < l0.length) = false := decide_eq_false (by omega)
       clear c15
       obtain rfl := Option.some.inj H
       go_wp2
       go_ret
       exact ⟨by first | rfl | (simp; done) | (simp [*]; done), by repeat (first | exact Drawn0.refl _ | apply Drawn0.step)⟩

/-! ### spec_l2Spaces: function 55 -/
def spec_l2Spaces.l0 : Nat → Int → ByteArray → Int → Option (ByteArray)
 | 0, _, _, _ => none
 | k + 1, x0, x3, x4 => if x4 < x0 then (if x3.size + 1 ≤ 9223372036854775807 then (spec_l2Spaces.l0 k x0 (x3 ++ (⟨#[32]⟩ : ByteArray)) (wrap64 (x4 + 1))) else (none)) else (some x3)
def spec_l2Spaces.f (k : Nat) (a0 : Int) : Option (ByteArray) := spec_l2Spaces.l0 k a0 (⟨#[]⟩ : ByteArray) 0
set_option maxHeartbeats 8000000 in
set_option maxRecDepth 100000 in
theorem spec_l2Spaces.calls (k : Nat) (a0 : Int) (r : ByteArray) (w : World) (h : spec_l2Spaces.f k a0 = some r) :
  Calls Try.prog 55 #[.int .i64 a0] w fun e w' => e = .returned (.string r) ∧ Drawn0 w w' := by
 have H : (spec_l2Spaces.l0 k a0 (⟨#[]⟩ : ByteArray) 0) = some r := h
 clear h
 have H' := Aside0.mk H
 clear H
 go_enter Try.func55, Try.ntmps55
 go_wp2
 go_loopg [3, 4] k (fun kq v3 v4 w' => ∃ (x3_1 : ByteArray) (x4_1 : Int), v3 = .string x3_1 ∧ v4 = .int .i64 x4_1 ∧ Aside0 (spec_l2Spaces.l0 kq a0 x3_1 x4_1 = some r) ∧ Aside0 (kq ≤ k) ∧ Drawn0 w w')
 case atStart => exact ⟨((⟨#[]⟩ : ByteArray)), (0), aR, aR, H', ⟨Nat.le_refl _⟩, by repeat (first | exact Drawn0.refl _ | apply Drawn0.step)⟩
 case round =>
  clear H'
  obtain ⟨x3_1, x4_1, rfl, rfl, HA, HK1, ⟨m1, rfl⟩⟩ := hrel
  cases gk with
  | zero => exact absurd HA.out (by simp [spec_l2Spaces.l0])
  | succ k1 =>
   have H := HA.out
   clear HA
   simp only [spec_l2Spaces.l0] at H
   by_cases c2 : x4_1 < a0
   ·rw [if_pos c2] at H
    have c2b0 : decide (x4_1 < a0) = true := decide_eq_true c2
    clear c2
    by_cases c3 : x3_1.size + 1 ≤ 9223372036854775807
    ·rw [if_pos c3] at H
     have c3b0 := eq_true c3
     have c3b1 : decide (x3_1.size + 1 ≤ 9223372036854775807) = true := decide_eq_true c3
     try have c3b2 : (9223372036854775807 < x3_1.size + 1) = False := eq_false (Nat.not_lt.2 c3)
     have H' := Aside0.mk H
     clear H
     go_wp2
     go_roundg k1
     case measure => have := HK1.out; omega
     case rel => exact ⟨(x3_1 ++ (⟨#[32]⟩ : ByteArray)), (wrap64 (x4_1 + 1)), aR, aR, H', ⟨by have := HK1.out; omega⟩, by repeat (first | exact Drawn0.refl _ | apply Drawn0.step)⟩
    ·rw [if_neg c3] at H
     exact absurd H (by simp)
   ·rw [if_neg c2] at H
    have c2b0 : decide (x4_1 < a0) = false := decide_eq_false c2
    clear c2
    obtain rfl := Option.some.inj H
    go_wp2
    go_ret
    exact ⟨by first | rfl | (simp; done) | (simp [*]; done), by repeat (first | exact Drawn0.refl _ | apply Drawn0.step)⟩

/-! ### spec_l2Line: function 54 -/
def spec_l2Line.f (k : Nat) (a0_0 : Int) (a0_1 : ByteArray) : Option (ByteArray) := if a0_1.toList = ([] : List UInt8) then (some (⟨#[]⟩ : ByteArray)) else ((spec_l2Spaces.f k a0_0).bind fun t484 => (if t484.size + a0_1.size ≤ 9223372036854775807 then (some (t484 ++ a0_1)) else (none)))
set_option maxHeartbeats 8000000 in
set_option maxRecDepth 100000 in
theorem spec_l2Line.calls (k : Nat) (a0_0 : Int) (a0_1 : ByteArray) (r : ByteArray) (w : World) (h : spec_l2Line.f k a0_0 a0_1 = some r) :
  Calls Try.prog 54 #[.agg #[.int .i64 a0_0, .string a0_1]] w fun e w' => e = .returned (.string r) ∧ Below w.heap.size w w' := by
 have hu59 := Try.underlying59
 have HB := Aside0.mk (Below.refl w.heap.size w)
 have H : (if a0_1.toList = ([] : List UInt8) then (some (⟨#[]⟩ : ByteArray)) else ((spec_l2Spaces.f k a0_0).bind fun t484 => (if t484.size + a0_1.size ≤ 9223372036854775807 then (some (t484 ++ a0_1)) else (none)))) = some r := h
 clear h
 by_cases c2 : a0_1.toList = ([] : List UInt8)
 ·rw [if_pos c2] at H
  have c2b0 : (a0_1.toList == ([] : List UInt8)) = true := beq_iff_eq.mpr c2
  have c2b1 : (a0_1.toList != ([] : List UInt8)) = false := bne_eq_false_iff_eq.mpr c2
  clear c2
  obtain rfl := Option.some.inj H
  go_enter Try.func54, Try.ntmps54
  go_wp2_with (first | ((with_reducible refine gate_dst (N := 1) rfl ?_); refine box_event ?hg (N := 1) ?hd (cs := #[.int .i64 a0_0, .string a0_1]) (t := 59) ?hr ?_; (case hd => rfl); (case hg => rfl); (case hr => first | (go_simp; done) | (go_simp; rfl)); intro gb483 hg w3 hbox hb; have n0_ := Aside0.mk (below_step aB hb); have n1_ := Aside0.mk (hbox); have n2_ := Aside0.mk ((by rw [hg]; exact (below_size aB) : w.heap.size ≤ gb483)); have n3_ := Aside0.mk ((by rw [hg]; exact (below_size aB) : w.heap.size ≤ gb483)); clear HB; have HB := n0_; have BK483 := n1_; have GW483 := n2_; have GE483 := n3_; clear n0_ n1_ n2_ n3_; clear hb hbox hg; have hcz4_0 : w3.cell? ⟨gb483, 0, none⟩ = some (.int .i64 a0_0) := (blk_cell BK483.out 0).trans rfl; have hcz4_1 : w3.cell? ⟨gb483, 1, none⟩ = some (.string a0_1) := (blk_cell BK483.out 1).trans rfl; have hfz4_0 := blk_frozen BK483.out 0; have hfz4_1 := blk_frozen BK483.out 1))
  repeat (go_quiet (first | ((with_reducible refine gate_dst (N := 1) rfl ?_); refine box_event ?hg (N := 1) ?hd (cs := #[.int .i64 a0_0, .string a0_1]) (t := 59) ?hr ?_; (case hd => rfl); (case hg => rfl); (case hr => first | (go_simp; done) | (go_simp; rfl)); intro gb483 hg w3 hbox hb; have n0_ := Aside0.mk (below_step aB hb); have n1_ := Aside0.mk (hbox); have n2_ := Aside0.mk ((by rw [hg]; exact (below_size aB) : w.heap.size ≤ gb483)); have n3_ := Aside0.mk ((by rw [hg]; exact (below_size aB) : w.heap.size ≤ gb483)); clear HB; have HB := n0_; have BK483 := n1_; have GW483 := n2_; have GE483 := n3_; clear n0_ n1_ n2_ n3_; clear hb hbox hg; have hcz4_0 : w3.cell? ⟨gb483, 0, none⟩ = some (.int .i64 a0_0) := (blk_cell BK483.out 0).trans rfl; have hcz4_1 : w3.cell? ⟨gb483, 1, none⟩ = some (.string a0_1) := (blk_cell BK483.out 1).trans rfl; have hfz4_0 := blk_frozen BK483.out 0; have hfz4_1 := blk_frozen BK483.out 1)); try go_wp2_with (first | ((with_reducible refine gate_dst (N := 1) rfl ?_); refine box_event ?hg (N := 1) ?hd (cs := #[.int .i64 a0_0, .string a0_1]) (t := 59) ?hr ?_; (case hd => rfl); (case hg => rfl); (case hr => first | (go_simp; done) | (go_simp; rfl)); intro gb483 hg w3 hbox hb; have n0_ := Aside0.mk (below_step aB hb); have n1_ := Aside0.mk (hbox); have n2_ := Aside0.mk ((by rw [hg]; exact (below_size aB) : w.heap.size ≤ gb483)); have n3_ := Aside0.mk ((by rw [hg]; exact (below_size aB) : w.heap.size ≤ gb483)); clear HB; have HB := n0_; have BK483 := n1_; have GW483 := n2_; have GE483 := n3_; clear n0_ n1_ n2_ n3_; clear hb hbox hg; have hcz4_0 : w3.cell? ⟨gb483, 0, none⟩ = some (.int .i64 a0_0) := (blk_cell BK483.out 0).trans rfl; have hcz4_1 : w3.cell? ⟨gb483, 1, none⟩ = some (.string a0_1) := (blk_cell BK483.out 1).trans rfl; have hfz4_0 := blk_frozen BK483.out 0; have hfz4_1 := blk_frozen BK483.out 1)))
  go_ret
  exact ⟨by first | rfl | (simp [errW_none, errW_some] <;> rfl) | (simp [*, errW_none, errW_some] <;> rfl), by repeat (first | (with_reducible first | exact HB.out | apply below_alloc | apply pw_below_drewN | apply below_drew1 | refine below_set ?_ GE483.out) | exact HB.out)⟩
 ·rw [if_neg c2] at H
  have c2b0 : (a0_1.toList == ([] : List UInt8)) = false := beq_eq_false_iff_ne.mpr c2
  have c2b1 : (a0_1.toList != ([] : List UInt8)) = true := bne_iff_ne.mpr c2
  replace H := Option.bind_eq_some_iff.mp H
  obtain ⟨t484, A50, H⟩ := H
  replace H : (if t484.size + a0_1.size ≤ 9223372036854775807 then (some (t484 ++ a0_1)) else (none)) = some r := H
  have A5 := Aside0.mk A50
  clear A50
  by_cases c6 : t484.size + a0_1.size ≤ 9223372036854775807
  ·rw [if_pos c6] at H
   have c6b0 := eq_true c6
   have c6b1 : decide (t484.size + a0_1.size ≤ 9223372036854775807) = true := decide_eq_true c6
   try have c6b2 : (9223372036854775807 < t484.size + a0_1.size) = False := eq_false (Nat.not_lt.2 c6)
   obtain rfl := Option.some.inj H
   go_enter Try.func54, Try.ntmps54
   go_wp2_with (first | ((with_reducible refine gate_dst (N := 1) rfl ?_); refine box_event ?hg (N := 1) ?hd (cs := #[.int .i64 a0_0, .string a0_1]) (t := 59) ?hr ?_; (case hd => rfl); (case hg => rfl); (case hr => first | (go_simp; done) | (go_simp; rfl)); intro gb483 hg w7 hbox hb; have n0_ := Aside0.mk (below_step aB hb); have n1_ := Aside0.mk (hbox); have n2_ := Aside0.mk ((by rw [hg]; exact (below_size aB) : w.heap.size ≤ gb483)); have n3_ := Aside0.mk ((by rw [hg]; exact (below_size aB) : w.heap.size ≤ gb483)); clear HB; have HB := n0_; have BK483 := n1_; have GW483 := n2_; have GE483 := n3_; clear n0_ n1_ n2_ n3_; clear hb hbox hg; have hcz8_0 : w7.cell? ⟨gb483, 0, none⟩ = some (.int .i64 a0_0) := (blk_cell BK483.out 0).trans rfl; have hcz8_1 : w7.cell? ⟨gb483, 1, none⟩ = some (.string a0_1) := (blk_cell BK483.out 1).trans rfl; have hfz8_0 := blk_frozen BK483.out 0; have hfz8_1 := blk_frozen BK483.out 1) | (go_at_call 55; (with_reducible refine (spec_l2Spaces.calls k a0_0 t484 _ A5.out).mono ?_); rintro e w' ⟨rfl, ⟨nd, rfl⟩⟩; (try first | exact ⟨rfl, _, World.drewN_drewN _ _ _⟩ | exact ⟨rfl, _, Eq.trans (World.drewN_drewN _ _ _) (congrArg (World.drewN _) (Nat.add_assoc _ _ _))⟩)))
   repeat (go_quiet (first | ((with_reducible refine gate_dst (N := 1) rfl ?_); refine box_event ?hg (N := 1) ?hd (cs := #[.int .i64 a0_0, .string a0_1]) (t := 59) ?hr ?_; (case hd => rfl); (case hg => rfl); (case hr => first | (go_simp; done) | (go_simp; rfl)); intro gb483 hg w7 hbox hb; have n0_ := Aside0.mk (below_step aB hb); have n1_ := Aside0.mk (hbox); have n2_ := Aside0.mk ((by rw [hg]; exact (below_size aB) : w.heap.size ≤ gb483)); have n3_ := Aside0.mk ((by rw [hg]; exact (below_size aB) : w.heap.size ≤ gb483)); clear HB; have HB := n0_; have BK483 := n1_; have GW483 := n2_; have GE483 := n3_; clear n0_ n1_ n2_ n3_; clear hb hbox hg; have hcz8_0 : w7.cell? ⟨gb483, 0, none⟩ = some (.int .i64 a0_0) := (blk_cell BK483.out 0).trans rfl; have hcz8_1 : w7.cell? ⟨gb483, 1, none⟩ = some (.string a0_1) := (blk_cell BK483.out 1).trans rfl; have hfz8_0 := blk_frozen BK483.out 0; have hfz8_1 := blk_frozen BK483.out 1) | (go_at_call 55; (with_reducible refine (spec_l2Spaces.calls k a0_0 t484 _ A5.out).mono ?_); rintro e w' ⟨rfl, ⟨nd, rfl⟩⟩; (try first | exact ⟨rfl, _, World.drewN_drewN _ _ _⟩ | exact ⟨rfl, _, Eq.trans (World.drewN_drewN _ _ _) (congrArg (World.drewN _) (Nat.add_assoc _ _ _))⟩))); try go_wp2_with (first | ((with_reducible refine gate_dst (N := 1) rfl ?_); refine box_event ?hg (N := 1) ?hd (cs := #[.int .i64 a0_0, .string a0_1]) (t := 59) ?hr ?_; (case hd => rfl); (case hg => rfl); (case hr => first | (go_simp; done) | (go_simp; rfl)); intro gb483 hg w7 hbox hb; have n0_ := Aside0.mk (below_step aB hb); have n1_ := Aside0.mk (hbox); have n2_ := Aside0.mk ((by rw [hg]; exact (below_size aB) : w.heap.size ≤ gb483)); have n3_ := Aside0.mk ((by rw [hg]; exact (below_size aB) : w.heap.size ≤ gb483)); clear HB; have HB := n0_; have BK483 := n1_; have GW483 := n2_; have GE483 := n3_; clear n0_ n1_ n2_ n3_; clear hb hbox hg; have hcz8_0 : w7.cell? ⟨gb483, 0, none⟩ = some (.int .i64 a0_0) := (blk_cell BK483.out 0).trans rfl; have hcz8_1 : w7.cell? ⟨gb483, 1, none⟩ = some (.string a0_1) := (blk_cell BK483.out 1).trans rfl; have hfz8_0 := blk_frozen BK483.out 0; have hfz8_1 := blk_frozen BK483.out 1) | (go_at_call 55; (with_reducible refine (spec_l2Spaces.calls k a0_0 t484 _ A5.out).mono ?_); rintro e w' ⟨rfl, ⟨nd, rfl⟩⟩; (try first | exact ⟨rfl, _, World.drewN_drewN _ _ _⟩ | exact ⟨rfl, _, Eq.trans (World.drewN_drewN _ _ _) (congrArg (World.drewN _) (Nat.add_assoc _ _ _))⟩))))
   go_ret
   exact ⟨by first | rfl | (simp [errW_none, errW_some] <;> rfl) | (simp [*, errW_none, errW_some] <;> rfl), by repeat (first | (with_reducible first | exact HB.out | apply below_alloc | apply pw_below_drewN | apply below_drew1 | refine below_set ?_ GE483.out) | exact HB.out)⟩
  ·rw [if_neg c6] at H
   exact absurd H (by simp)

end Go.Proofs.Ytkcpimhohadjkaa.POo
