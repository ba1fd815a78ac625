-- Written by a program of this session (xprint). -- COMPACT
import Derived.Test.YtkcpimhohadjkaaPPbx0
import Derived.Test.YtkcpimhohadjkaaPPbx1
namespace Go.Proofs.Ytkcpimhohadjkaa.PPb
open Go.RowKit Go.Proofs.YtkcpimhohadjkaaW.PrintWords Go.Proofs.YtkcpimhohadjkaaW.PrintLast Go.Proofs.YtkcpimhohadjkaaW.PrintMore
attribute [local go_sem] max2_int min2_int max_two min_two max_three min_three max_four min_four   -- for this text's walks alone
set_option linter.unusedVariables false
set_option linter.unusedSimpArgs false

/-! ### spec_l2Text: function 76 -/
mutual
def spec_l2Text.l0 : Nat → ByteArray → Int → Option (Bool)
 | 0, _, _ => none
 | k + 1, x0, x3 => if x3 < (x0.size : Int) then (spec_l2Text.j1 k x0 x3 (decide (x3 < 2000))) else (spec_l2Text.j1 k x0 x3 false)
def spec_l2Text.j1 : Nat → ByteArray → Int → Bool → Option (Bool)
 | 0, _, _, _ => none
 | k + 1, x0, x3, x11 => if x11 = true then (if 0 ≤ x3 then (if x3 < (x0.size : Int) then (if (bt x0 x3) = 32 then (spec_l2Text.l0 k x0 (wrap64 (x3 + 1))) else (if x3 ≤ (wrap64 (x3 + 1)) then (if (wrap64 (x3 + 1)) ≤ (x0.size : Int) then ((spec_TextValid.f k (x0.extract (x3 : Int).toNat ((wrap64 (x3 + 1)) : Int).toNat)).bind fun t101 => (if t101 = true then (spec_l2Text.l0 k x0 (wrap64 (x3 + 1))) else (some false))) else (none)) else (none))) else (none)) else (none)) else (some (decide ((x0.size : Int) < 2000)))
end
def spec_l2Text.f (k : Nat) (a0 : ByteArray) : Option (Bool) := spec_l2Text.l0 k a0 0
set_option maxHeartbeats 8000000 in
set_option maxRecDepth 100000 in
theorem spec_l2Text.calls (k : Nat) (a0 : ByteArray) (r : Bool) (w : World) (h : spec_l2Text.f k a0 = some r) :
  Calls Try.prog 76 #[.string a0] w fun e w' => e = .returned (.bool r) ∧ Drawn0 w w' := by
 have H : (spec_l2Text.l0 k a0 0) = some r := h
 clear h
 have H' := Aside0.mk H
 clear H
 go_enter Try.func76, Try.ntmps76
 go_wp2
 go_loopg [3] k (fun kq v3 w' => ∃ (x3_1 : Int), v3 = .int .i64 x3_1 ∧ Aside0 (spec_l2Text.l0 kq a0 x3_1 = some r) ∧ Aside0 (kq ≤ k) ∧ Drawn0 w w')
 case atStart => exact ⟨(0), aR, H', ⟨Nat.le_refl _⟩, by repeat (first | exact Drawn0.refl _ | apply Drawn0.step)⟩
 case round =>
  clear H'
  obtain ⟨x3_1, rfl, HA, HK1, ⟨m1, rfl⟩⟩ := hrel
  cases gk with
  | zero => exact absurd HA.out (by simp [spec_l2Text.l0])
  | succ k1 =>
   have H := HA.out
   clear HA
   simp only [spec_l2Text.l0] at H
   have HC2 := Aside0.mk H
   clear H
   go_upto_region 2 with (fail)
   go_cut [11] (fun v11 wc => ∃ (kq : Nat) (x11_1 : Bool), v11 = .bool x11_1 ∧ Aside0 (spec_l2Text.j1 kq a0 x3_1 x11_1 = some r) ∧ Aside0 (kq ≤ k1) ∧ Drawn0 w wc)
   case first =>
    have H := HC2.out
    clear HC2
    by_cases c3 : x3_1 < (a0.size : Int)
    ·rw [if_pos c3] at H
     have c3b0 : decide (x3_1 < (a0.size : Int)) = true := decide_eq_true c3
     clear c3
     (first | rw [c3b0] | (simp only [i64_w, i32_w]; rw [c3b0]) | skip)
     have H' := Aside0.mk H
     clear H
     go_wp2
     go_meet
     case rel => exact ⟨_, (decide (x3_1 < 2000)), aR, H', ⟨by have := HK1.out; first | omega | exact Nat.le_refl _⟩, by repeat (first | exact Drawn0.refl _ | apply Drawn0.step)⟩
    ·rw [if_neg c3] at H
     have c3b0 : decide (x3_1 < (a0.size : Int)) = false := decide_eq_false c3
     clear c3
     (first | rw [c3b0] | (simp only [i64_w, i32_w]; rw [c3b0]) | skip)
     have H' := Aside0.mk H
     clear H
     go_wp2
     go_meet
     case rel => exact ⟨_, (false), aR, H', ⟨by have := HK1.out; first | omega | exact Nat.le_refl _⟩, by repeat (first | exact Drawn0.refl _ | apply Drawn0.step)⟩
   case rest =>
    clear HC2
    try clear p2
    try clear c3
    try clear c3b0
    obtain ⟨kq, x11_1, rfl, HA, HJ1, ⟨mc1, rfl⟩⟩ := hcut
    cases kq with
    | zero => exact absurd HA.out (by simp [spec_l2Text.j1])
    | succ kj1 =>
     have H := HA.out
     clear HA
     simp only [spec_l2Text.j1] at H
     by_cases c4 : x11_1 = true
     ·subst c4
      have H1 : (if 0 ≤ x3_1 then (if x3_1 < (a0.size : Int) then (if (bt a0 x3_1) = 32 then (spec_l2Text.l0 kj1 a0 (wrap64 (x3_1 + 1))) else (if x3_1 ≤ (wrap64 (x3_1 + 1)) then (if (wrap64 (x3_1 + 1)) ≤ (a0.size : Int) then ((spec_TextValid.f kj1 (a0.extract (x3_1 : Int).toNat ((wrap64 (x3_1 + 1)) : Int).toNat)).bind fun t101 => (if t101 = true then (spec_l2Text.l0 kj1 a0 (wrap64 (x3_1 + 1))) else (some false))) else (none)) else (none))) else (none)) else (none)) = some r := by rw [if_pos rfl] at H; exact H
      clear H
      have H := H1
      clear H1
      by_cases c5 : 0 ≤ x3_1
      ·rw [if_pos c5] at H
       have c5b0 : decide (0 ≤ x3_1) = true := decide_eq_true c5
       clear c5
       by_cases c6 : x3_1 < (a0.size : Int)
       ·rw [if_pos c6] at H
        have c6b0 : decide (x3_1 < (a0.size : Int)) = true := decide_eq_true c6
        clear c6
        by_cases c8 : (bt a0 x3_1) = 32
        ·rw [if_pos c8] at H
         have c8b0 : ((bt a0 x3_1) == 32) = true := beq_iff_eq.mpr c8
         have c8b1 : ((bt a0 x3_1) != 32) = false := bne_eq_false_iff_eq.mpr c8
         clear c8
         have H' := Aside0.mk H
         clear H
         have p7 : 0 ≤ (x3_1 : Int) := of_decide_eq_true aQ
         have q7 : x3_1 < (a0.size : Int) := of_decide_eq_true aQ
         have hx7 := bt_at a0 x3_1
         replace p7 := eq_true p7
         replace q7 := eq_true q7
         go_wp2
         go_roundg kj1
         case measure => have := HK1.out; have := HJ1.out; omega
         case rel => exact ⟨(wrap64 (x3_1 + 1)), aR, H', ⟨by have := HK1.out; have := HJ1.out; omega⟩, by repeat (first | exact Drawn0.refl _ | apply Drawn0.step)⟩
        ·rw [if_neg c8] at H
         have c8b0 : ((bt a0 x3_1) == 32) = false := beq_eq_false_iff_ne.mpr c8
         have c8b1 : ((bt a0 x3_1) != 32) = true := bne_iff_ne.mpr c8
         have c9b0 := eq_true (of_decide_eq_true aQ : 0 ≤ x3_1)
         by_cases c10 : x3_1 ≤ (wrap64 (x3_1 + 1))
         ·rw [if_pos c10] at H
          have c10b0 := eq_true c10
          have c10b1 : decide (x3_1 ≤ (wrap64 (x3_1 + 1))) = true := decide_eq_true c10
          by_cases c11 : (wrap64 (x3_1 + 1)) ≤ (a0.size : Int)
          ·rw [if_pos c11] at H
           have c11b0 := eq_true c11
           have c11b1 : decide ((wrap64 (x3_1 + 1)) ≤ (a0.size : Int)) = true := decide_eq_true c11
           replace H := Option.bind_eq_some_iff.mp H
           obtain ⟨t101, A120, H⟩ := H
           replace H : (if t101 = true then (spec_l2Text.l0 kj1 a0 (wrap64 (x3_1 + 1))) else (some false)) = some r := H
           have A12 := Aside0.mk A120
           clear A120
           by_cases c13 : t101 = true
           ·subst c13
            have H1 : (spec_l2Text.l0 kj1 a0 (wrap64 (x3_1 + 1))) = some r := by rw [if_pos rfl] at H; exact H
            clear H
            have H := H1
            clear H1
            have H' := Aside0.mk H
            clear H
            have p7 : 0 ≤ (x3_1 : Int) := of_decide_eq_true aQ
            have q7 : x3_1 < (a0.size : Int) := of_decide_eq_true aQ
            have hx7 := bt_at a0 x3_1
            replace p7 := eq_true p7
            replace q7 := eq_true q7
            go_wp2_with (first | (go_at_call 80; (with_reducible refine (spec_TextValid.calls kj1 (a0.extract (x3_1 : Int).toNat ((wrap64 (x3_1 + 1)) : Int).toNat) true _ A12.out).mono ?_); rintro e w' ⟨rfl, ⟨nd, rfl⟩⟩))
            go_roundg kj1
            case measure => have := HK1.out; have := HJ1.out; omega
            case rel => exact ⟨(wrap64 (x3_1 + 1)), aR, H', ⟨by have := HK1.out; have := HJ1.out; omega⟩, by repeat (first | exact Drawn0.refl _ | apply Drawn0.step)⟩
           ·replace c13 := Bool.eq_false_iff.mpr c13
            subst c13
            have H1 : (some false) = some r := by rw [if_neg (show ¬ (false = true) by decide)] at H; exact H
            clear H
            have H := H1
            clear H1
            obtain rfl := Option.some.inj H
            have p7 : 0 ≤ (x3_1 : Int) := of_decide_eq_true aQ
            have q7 : x3_1 < (a0.size : Int) := of_decide_eq_true aQ
            have hx7 := bt_at a0 x3_1
            replace p7 := eq_true p7
            replace q7 := eq_true q7
            go_wp2_with (first | (go_at_call 80; (with_reducible refine (spec_TextValid.calls kj1 (a0.extract (x3_1 : Int).toNat ((wrap64 (x3_1 + 1)) : Int).toNat) false _ A12.out).mono ?_); rintro e w' ⟨rfl, ⟨nd, rfl⟩⟩))
            go_ret
            exact ⟨by first | rfl | (simp; done) | (simp [*]; done), by repeat (first | exact Drawn0.refl _ | apply Drawn0.step)⟩
          ·rw [if_neg c11] at H
           exact absurd H (by simp)
         ·rw [if_neg c10] at H
          exact absurd H (by simp)
       ·rw [if_neg c6] at H
        exact absurd H (by simp)
      ·rw [if_neg c5] at H
       exact absurd H (by simp)
     ·replace c4 := Bool.eq_false_iff.mpr c4
      subst c4
      have H1 : (some (decide ((a0.size : Int) < 2000))) = some r := by rw [if_neg (show ¬ (false = true) by decide)] at H; exact H
      clear H
      have H := H1
      clear H1
      obtain rfl := Option.some.inj H
      go_wp2
      go_ret
      exact ⟨by first | rfl | (simp; done) | (simp [*]; done), by repeat (first | exact Drawn0.refl _ | apply Drawn0.step)⟩

/-! ### spec_LayoutValid: function 52 -/
mutual
def spec_LayoutValid.l0 : Nat → List (S59) → Int → Option (Bool)
 | 0, _, _ => none
 | k + 1, x0, x3 => if x3 < (x0.length : Int) then (spec_LayoutValid.j1 k x0 x3 (decide (x3 ≤ 200))) else (spec_LayoutValid.j1 k x0 x3 false)
def spec_LayoutValid.j1 : Nat → List (S59) → Int → Bool → Option (Bool)
 | 0, _, _, _ => none
 | k + 1, x0, x3, x11 => if x11 = true then (if 0 ≤ x3 then (if x3 < (x0.length : Int) then (if ((rd_T59 x0 x3).f0) < 0 then (some false) else (if ((rd_T59 x0 x3).f0) > 400 then (some false) else (if x3 = 0 then (if ((rd_T59 x0 x3).f0) = 0 then ((spec_l2Text.f k ((rd_T59 x0 x3).f1)).bind fun t106 => (if t106 = true then (spec_LayoutValid.l0 k x0 (wrap64 (x3 + 1))) else (some false))) else (some false)) else ((spec_l2Text.f k ((rd_T59 x0 x3).f1)).bind fun t108 => (if t108 = true then (spec_LayoutValid.l0 k x0 (wrap64 (x3 + 1))) else (some false)))))) else (none)) else (none)) else (if (x0.length : Int) > 0 then (some (decide ((x0.length : Int) ≤ 200))) else (some false))
end
def spec_LayoutValid.f (k : Nat) (l0 : List (S59)) : Option (Bool) := spec_LayoutValid.l0 k l0 0
set_option maxHeartbeats 8000000 in
set_option maxRecDepth 100000 in
theorem spec_LayoutValid.calls (k : Nat) (A0 : Option Addr) (c0 : Nat) (l0 : List (S59)) (r : Bool) (w : World) (hr0 : Kd.C k59 w A0 l0.length l0) (hc0 : l0.length ≤ c0) (h : spec_LayoutValid.f k l0 = some r) :
  Calls Try.prog 52 #[.slice A0 l0.length c0] w fun e w' => e = .returned (.bool r) ∧ Drawn0 w w' := by
 have HR0 := Aside0.mk hr0
 have HC0 := Aside0.mk hc0
 clear hr0 hc0
 have H : (spec_LayoutValid.l0 k l0 0) = some r := h
 clear h
 have H' := Aside0.mk H
 clear H
 go_enter Try.func52, Try.ntmps52
 go_wp2
 go_loopg [3] k (fun kq v3 w' => ∃ (x3_1 : Int), v3 = .int .i64 x3_1 ∧ Aside0 (spec_LayoutValid.l0 kq l0 x3_1 = some r) ∧ Aside0 (kq ≤ k) ∧ Drawn0 w w')
 case atStart => exact ⟨(0), aR, H', ⟨Nat.le_refl _⟩, by repeat (first | exact Drawn0.refl _ | apply Drawn0.step)⟩
 case round =>
  clear H'
  obtain ⟨x3_1, rfl, HA, HK1, ⟨m1, rfl⟩⟩ := hrel
  cases gk with
  | zero => exact absurd HA.out (by simp [spec_LayoutValid.l0])
  | succ k1 =>
   have H := HA.out
   clear HA
   simp only [spec_LayoutValid.l0] at H
   have HC2 := Aside0.mk H
   clear H
   go_upto_region 2 with (fail)
   go_cut [11] (fun v11 wc => ∃ (kq : Nat) (x11_1 : Bool), v11 = .bool x11_1 ∧ Aside0 (spec_LayoutValid.j1 kq l0 x3_1 x11_1 = some r) ∧ Aside0 (kq ≤ k1) ∧ Drawn0 w wc)
   case first =>
    have H := HC2.out
    clear HC2
    by_cases c3 : x3_1 < (l0.length : Int)
    ·rw [if_pos c3] at H
     have c3b0 : decide (x3_1 < (l0.length : Int)) = true := decide_eq_true c3
     clear c3
     (first | rw [c3b0] | (simp only [i64_w, i32_w]; rw [c3b0]) | skip)
     have H' := Aside0.mk H
     clear H
     go_wp2
     go_meet
     case rel => exact ⟨_, (decide (x3_1 ≤ 200)), aR, H', ⟨by have := HK1.out; first | omega | exact Nat.le_refl _⟩, by repeat (first | exact Drawn0.refl _ | apply Drawn0.step)⟩
    ·rw [if_neg c3] at H
     have c3b0 : decide (x3_1 < (l0.length : Int)) = false := decide_eq_false c3
     clear c3
     (first | rw [c3b0] | (simp only [i64_w, i32_w]; rw [c3b0]) | skip)
     have H' := Aside0.mk H
     clear H
     go_wp2
     go_meet
     case rel => exact ⟨_, (false), aR, H', ⟨by have := HK1.out; first | omega | exact Nat.le_refl _⟩, by repeat (first | exact Drawn0.refl _ | apply Drawn0.step)⟩
   case rest =>
    clear HC2
    try clear p2
    try clear c3
    try clear c3b0
    obtain ⟨kq, x11_1, rfl, HA, HJ1, ⟨mc1, rfl⟩⟩ := hcut
    cases kq with
    | zero => exact absurd HA.out (by simp [spec_LayoutValid.j1])
    | succ kj1 =>
     have H := HA.out
     clear HA
     simp only [spec_LayoutValid.j1] at H
     by_cases c4 : x11_1 = true
     ·subst c4
      have H1 : (if 0 ≤ x3_1 then (if x3_1 < (l0.length : Int) then (if ((rd_T59 l0 x3_1).f0) < 0 then (some false) else (if ((rd_T59 l0 x3_1).f0) > 400 then (some false) else (if x3_1 = 0 then (if ((rd_T59 l0 x3_1).f0) = 0 then ((spec_l2Text.f kj1 ((rd_T59 l0 x3_1).f1)).bind fun t106 => (if t106 = true then (spec_LayoutValid.l0 kj1 l0 (wrap64 (x3_1 + 1))) else (some false))) else (some false)) else ((spec_l2Text.f kj1 ((rd_T59 l0 x3_1).f1)).bind fun t108 => (if t108 = true then (spec_LayoutValid.l0 kj1 l0 (wrap64 (x3_1 + 1))) else (some false)))))) else (none)) else (none)) = some r := by rw [if_pos rfl] at H; exact H
      clear H
      have H := H1
      clear H1
      by_cases c5 : 0 ≤ x3_1
      ·rw [if_pos c5] at H
       have c5b0 : decide (0 ≤ x3_1) = true := decide_eq_true c5
       clear c5
       by_cases c6 : x3_1 < (l0.length : Int)
       ·rw [if_pos c6] at H
        have c6b0 : decide (x3_1 < (l0.length : Int)) = true := decide_eq_true c6
        clear c6
        by_cases c7 : ((rd_T59 l0 x3_1).f0) < 0
        ·rw [if_pos c7] at H
         have c7b0 : decide (((rd_T59 l0 x3_1).f0) < 0) = true := decide_eq_true c7
         clear c7
         obtain rfl := Option.some.inj H
         have p102 : 0 ≤ (x3_1 : Int) := of_decide_eq_true aQ
         have q102 : x3_1 < (l0.length : Int) := of_decide_eq_true aQ
         obtain ⟨ad102, e102, hx102_0, hx102_1⟩ := at_T59 HR0.out x3_1 p102 q102
         cases e102
         replace p102 := eq_true p102
         replace q102 := eq_true q102
         go_wp2
         go_ret
         exact ⟨by first | rfl | (simp; done) | (simp [*]; done), by repeat (first | exact Drawn0.refl _ | apply Drawn0.step)⟩
        ·rw [if_neg c7] at H
         have c7b0 : decide (((rd_T59 l0 x3_1).f0) < 0) = false := decide_eq_false c7
         clear c7
         by_cases c8 : ((rd_T59 l0 x3_1).f0) > 400
         ·rw [if_pos c8] at H
          have c8b0 : decide (400 < ((rd_T59 l0 x3_1).f0)) = true := decide_eq_true c8
          clear c8
          obtain rfl := Option.some.inj H
          have p102 : 0 ≤ (x3_1 : Int) := of_decide_eq_true aQ
          have q102 : x3_1 < (l0.length : Int) := of_decide_eq_true aQ
          obtain ⟨ad102, e102, hx102_0, hx102_1⟩ := at_T59 HR0.out x3_1 p102 q102
          cases e102
          replace p102 := eq_true p102
          replace q102 := eq_true q102
          have p103 : 0 ≤ (x3_1 : Int) := of_decide_eq_true aQ
          have q103 : x3_1 < (l0.length : Int) := of_decide_eq_true aQ
          obtain ⟨ad103, e103, hx103_0, hx103_1⟩ := at_T59 HR0.out x3_1 p103 q103
          obtain rfl : ad102 = ad103 := (by injection e103)
          replace p103 := eq_true p103
          replace q103 := eq_true q103
          go_wp2
          go_ret
          exact ⟨by first | rfl | (simp; done) | (simp [*]; done), by repeat (first | exact Drawn0.refl _ | apply Drawn0.step)⟩
         ·rw [if_neg c8] at H
          have c8b0 : decide (400 < ((rd_T59 l0 x3_1).f0)) = false := decide_eq_false c8
          clear c8
          by_cases c9 : x3_1 = 0
          ·rw [if_pos c9] at H
           have c9b0 : (x3_1 == 0) = true := beq_iff_eq.mpr c9
           have c9b1 : (x3_1 != 0) = false := bne_eq_false_iff_eq.mpr c9
           clear c9
           by_cases c10 : ((rd_T59 l0 x3_1).f0) = 0
           ·rw [if_pos c10] at H
            have c10b0 : (((rd_T59 l0 x3_1).f0) == 0) = true := beq_iff_eq.mpr c10
            have c10b1 : (((rd_T59 l0 x3_1).f0) != 0) = false := bne_eq_false_iff_eq.mpr c10
            clear c10
            replace H := Option.bind_eq_some_iff.mp H
            obtain ⟨t106, A110, H⟩ := H
            replace H : (if t106 = true then (spec_LayoutValid.l0 kj1 l0 (wrap64 (x3_1 + 1))) else (some false)) = some r := H
            have A11 := Aside0.mk A110
            clear A110
            by_cases c12 : t106 = true
            ·subst c12
             have H1 : (spec_LayoutValid.l0 kj1 l0 (wrap64 (x3_1 + 1))) = some r := by rw [if_pos rfl] at H; exact H
             clear H
             have H := H1
             clear H1
             have H' := Aside0.mk H
             clear H
             have p102 : 0 ≤ (x3_1 : Int) := of_decide_eq_true aQ
             have q102 : x3_1 < (l0.length : Int) := of_decide_eq_true aQ
             obtain ⟨ad102, e102, hx102_0, hx102_1⟩ := at_T59 HR0.out x3_1 p102 q102
             cases e102
             replace p102 := eq_true p102
             replace q102 := eq_true q102
             have p103 : 0 ≤ (x3_1 : Int) := of_decide_eq_true aQ
             have q103 : x3_1 < (l0.length : Int) := of_decide_eq_true aQ
             obtain ⟨ad103, e103, hx103_0, hx103_1⟩ := at_T59 HR0.out x3_1 p103 q103
             obtain rfl : ad102 = ad103 := (by injection e103)
             replace p103 := eq_true p103
             replace q103 := eq_true q103
             have p104 : 0 ≤ (x3_1 : Int) := of_decide_eq_true aQ
             have q104 : x3_1 < (l0.length : Int) := of_decide_eq_true aQ
             obtain ⟨ad104, e104, hx104_0, hx104_1⟩ := at_T59 HR0.out x3_1 p104 q104
             obtain rfl : ad102 = ad104 := (by injection e104)
             replace p104 := eq_true p104
             replace q104 := eq_true q104
             have p105 : 0 ≤ (x3_1 : Int) := of_decide_eq_true aQ
             have q105 : x3_1 < (l0.length : Int) := of_decide_eq_true aQ
             obtain ⟨ad105, e105, hx105_0, hx105_1⟩ := at_T59 HR0.out x3_1 p105 q105
             obtain rfl : ad102 = ad105 := (by injection e105)
             replace p105 := eq_true p105
             replace q105 := eq_true q105
             go_wp2_with (first | (go_at_call 76; (with_reducible refine (spec_l2Text.calls kj1 ((rd_T59 l0 x3_1).f1) true _ A11.out).mono ?_); rintro e w' ⟨rfl, ⟨nd, rfl⟩⟩))
             go_roundg kj1
             case measure => have := HK1.out; have := HJ1.out; omega
             case rel => exact ⟨(wrap64 (x3_1 + 1)), aR, H', ⟨by have := HK1.out; have := HJ1.out; omega⟩, by repeat (first | exact Drawn0.refl _ | apply Drawn0.step)⟩
            ·replace c12 := Bool.eq_false_iff.mpr c12
             subst c12
             have H1 : (some false) = some r := by rw [if_neg (show ¬ (false = true) by decide)] at H; exact H
             clear H
             have H := H1
             clear H1
             obtain rfl := Option.some.inj H
             have p102 : 0 ≤ (x3_1 : Int) := of_decide_eq_true aQ
             have q102 : x3_1 < (l0.length : Int) := of_decide_eq_true aQ
             obtain ⟨ad102, e102, hx102_0, hx102_1⟩ := at_T59 HR0.out x3_1 p102 q102
             cases e102
             replace p102 := eq_true p102
             replace q102 := eq_true q102
             have p103 : 0 ≤ (x3_1 : Int) := of_decide_eq_true aQ
             have q103 : x3_1 < (l0.length : Int) := of_decide_eq_true aQ
             obtain ⟨ad103, e103, hx103_0, hx103_1⟩ := at_T59 HR0.out x3_1 p103 q103
             obtain rfl : ad102 = ad103 := (by injection e103)
             replace p103 := eq_true p103
             replace q103 := eq_true q103
             have p104 : 0 ≤ (x3_1 : Int) := of_decide_eq_true aQ
             have q104 : x3_1 < (l0.length : Int) := of_decide_eq_true aQ
             obtain ⟨ad104, e104, hx104_0, hx104_1⟩ := at_T59 HR0.out x3_1 p104 q104
             obtain rfl : ad102 = ad104 := (by injection e104)
             replace p104 := eq_true p104
             replace q104 := eq_true q104
             have p105 : 0 ≤ (x3_1 : Int) := of_decide_eq_true aQ
             have q105 : x3_1 < (l0.length : Int) := of_decide_eq_true aQ
             obtain ⟨ad105, e105, hx105_0, hx105_1⟩ := at_T59 HR0.out x3_1 p105 q105
             obtain rfl : ad102 = ad105 := (by injection e105)
             replace p105 := eq_true p105
             replace q105 := eq_true q105
             go_wp2_with (first | (go_at_call 76; (with_reducible refine (spec_l2Text.calls kj1 ((rd_T59 l0 x3_1).f1) false _ A11.out).mono ?_); rintro e w' ⟨rfl, ⟨nd, rfl⟩⟩))
             go_ret
             exact ⟨by first | rfl | (simp; done) | (simp [*]; done), by repeat (first | exact Drawn0.refl _ | apply Drawn0.step)⟩
           ·rw [if_neg c10] at H
            have c10b0 : (((rd_T59 l0 x3_1).f0) == 0) = false := beq_eq_false_iff_ne.mpr c10
            have c10b1 : (((rd_T59 l0 x3_1).f0) != 0) = true := bne_iff_ne.mpr c10
            obtain rfl := Option.some.inj H
            have p102 : 0 ≤ (x3_1 : Int) := of_decide_eq_true aQ
            have q102 : x3_1 < (l0.length : Int) := of_decide_eq_true aQ
            obtain ⟨ad102, e102, hx102_0, hx102_1⟩ := at_T59 HR0.out x3_1 p102 q102
            cases e102
            replace p102 := eq_true p102
            replace q102 := eq_true q102
            have p103 : 0 ≤ (x3_1 : Int) := of_decide_eq_true aQ
            have q103 : x3_1 < (l0.length : Int) := of_decide_eq_true aQ
            obtain ⟨ad103, e103, hx103_0, hx103_1⟩ := at_T59 HR0.out x3_1 p103 q103
            obtain rfl : ad102 = ad103 := (by injection e103)
            replace p103 := eq_true p103
            replace q103 := eq_true q103
            have p104 : 0 ≤ (x3_1 : Int) := of_decide_eq_true aQ
            have q104 : x3_1 < (l0.length : Int) := of_decide_eq_true aQ
            obtain ⟨ad104, e104, hx104_0, hx104_1⟩ := at_T59 HR0.out x3_1 p104 q104
            obtain rfl : ad102 = ad104 := (by injection e104)
            replace p104 := eq_true p104
            replace q104 := eq_true q104
            go_wp2
            go_ret
            exact ⟨by first | rfl | (simp; done) | (simp [*]; done), by repeat (first | exact Drawn0.refl _ | apply Drawn0.step)⟩
          ·rw [if_neg c9] at H
           have c9b0 : (x3_1 == 0) = false := beq_eq_false_iff_ne.mpr c9
           have c9b1 : (x3_1 != 0) = true := bne_iff_ne.mpr c9
           replace H := Option.bind_eq_some_iff.mp H
           obtain ⟨t108, A130, H⟩ := H
           replace H : (if t108 = true then (spec_LayoutValid.l0 kj1 l0 (wrap64 (x3_1 + 1))) else (some false)) = some r := H
           have A13 := Aside0.mk A130
           clear A130
           by_cases c14 : t108 = true
           ·subst c14
            have H1 : (spec_LayoutValid.l0 kj1 l0 (wrap64 (x3_1 + 1))) = some r := by rw [if_pos rfl] at H; exact H
            clear H
            have H := H1
            clear H1
            have H' := Aside0.mk H
            clear H
            have p102 : 0 ≤ (x3_1 : Int) := of_decide_eq_true aQ
            have q102 : x3_1 < (l0.length : Int) := of_decide_eq_true aQ
            obtain ⟨ad102, e102, hx102_0, hx102_1⟩ := at_T59 HR0.out x3_1 p102 q102
            cases e102
            replace p102 := eq_true p102
            replace q102 := eq_true q102
            have p103 : 0 ≤ (x3_1 : Int) := of_decide_eq_true aQ
            have q103 : x3_1 < (l0.length : Int) := of_decide_eq_true aQ
            obtain ⟨ad103, e103, hx103_0, hx103_1⟩ := at_T59 HR0.out x3_1 p103 q103
            obtain rfl : ad102 = ad103 := (by injection e103)
            replace p103 := eq_true p103
            replace q103 := eq_true q103
            have p107 : 0 ≤ (x3_1 : Int) := of_decide_eq_true aQ
            have q107 : x3_1 < (l0.length : Int) := of_decide_eq_true aQ
            obtain ⟨ad107, e107, hx107_0, hx107_1⟩ := at_T59 HR0.out x3_1 p107 q107
            obtain rfl : ad102 = ad107 := (by injection e107)
            replace p107 := eq_true p107
            replace q107 := eq_true q107
            go_wp2_with (first | (go_at_call 76; (with_reducible refine (spec_l2Text.calls kj1 ((rd_T59 l0 x3_1).f1) true _ A13.out).mono ?_); rintro e w' ⟨rfl, ⟨nd, rfl⟩⟩))
            go_roundg kj1
            case measure => have := HK1.out; have := HJ1.out; omega
            case rel => exact ⟨(wrap64 (x3_1 + 1)), aR, H', ⟨by have := HK1.out; have := HJ1.out; omega⟩, by repeat (first | exact Drawn0.refl _ | apply Drawn0.step)⟩
           ·replace c14 := Bool.eq_false_iff.mpr c14
            subst c14
            have H1 : (some false) = some r := by rw [if_neg (show ¬ (false = true) by decide)] at H; exact H
            clear H
            have H := H1
            clear H1
            obtain rfl := Option.some.inj H
            have p102 : 0 ≤ (x3_1 : Int) := of_decide_eq_true aQ
            have q102 : x3_1 < (l0.length : Int) := of_decide_eq_true aQ
            obtain ⟨ad102, e102, hx102_0, hx102_1⟩ := at_T59 HR0.out x3_1 p102 q102
            cases e102
            replace p102 := eq_true p102
            replace q102 := eq_true q102
            have p103 : 0 ≤ (x3_1 : Int) := of_decide_eq_true aQ
            have q103 : x3_1 < (l0.length : Int) := of_decide_eq_true aQ
            obtain ⟨ad103, e103, hx103_0, hx103_1⟩ := at_T59 HR0.out x3_1 p103 q103
            obtain rfl : ad102 = ad103 := (by injection e103)
            replace p103 := eq_true p103
            replace q103 := eq_true q103
            have p107 : 0 ≤ (x3_1 : Int) := of_decide_eq_true aQ
            have q107 : x3_1 < (l0.length : Int) := of_decide_eq_true aQ
            obtain ⟨ad107, e107, hx107_0, hx107_1⟩ := at_T59 HR0.out x3_1 p107 q107
            obtain rfl : ad102 = ad107 := (by injection e107)
            replace p107 := eq_true p107
            replace q107 := eq_true q107
            go_wp2_with (first | (go_at_call 76; (with_reducible refine (spec_l2Text.calls kj1 ((rd_T59 l0 x3_1).f1) false _ A13.out).mono ?_); rintro e w' ⟨rfl, ⟨nd, rfl⟩⟩))
            go_ret
            exact ⟨by first | rfl | (simp; done) | (simp [*]; done), by repeat (first | exact Drawn0.refl _ | apply Drawn0.step)⟩
       ·rw [if_neg c6] at H
        exact absurd H (by simp)
      ·rw [if_neg c5] at H
       exact absurd H (by simp)
     ·replace c4 := Bool.eq_false_iff.mpr c4
      subst c4
      have H1 : (if (l0.length : Int) > 0 then (some (decide ((l0.length : Int) ≤ 200))) else (some false)) = some r := by rw [if_neg (show ¬ (false = true) by decide)] at H; exact H
      clear H
      have H := H1
      clear H1
      by_cases c15 : (l0.length : Int) > 0
      ·rw [if_pos c15] at H
       have c15b0 : decide (0 < (l0.length : Int)) = true := decide_eq_true c15
       have c15b1 : decide (0 < l0.length) = true := decide_eq_true (by omega)
       clear c15
       obtain rfl := Option.some.inj H
       go_wp2
       go_ret
       exact ⟨by first | rfl | (simp; done) | (simp [*]; done), by repeat (first | exact Drawn0.refl _ | apply Drawn0.step)⟩
      ·rw [if_neg c15] at H
       have c15b0 : decide (0 < (l0.length : Int)) = false := decide_eq_false c15
       have c15b1 : decide (0 < l0.length) = false := decide_eq_false (by omega)
       clear c15
       obtain rfl := Option.some.inj H
       go_wp2
       go_ret
       exact ⟨by first | rfl | (simp; done) | (simp [*]; done), by repeat (first | exact Drawn0.refl _ | apply Drawn0.step)⟩

/-! ### spec_l2Spaces: function 55 -/
def spec_l2Spaces.l0 : Nat → Int → ByteArray → Int → Option (ByteArray)
 | 0, _, _, _ => none
 | k + 1, x0, x3, x4 => if x4 < x0 then (if x3.size + 1 ≤ 9223372036854775807 then (spec_l2Spaces.l0 k x0 (x3 ++ (⟨#[32]⟩ : ByteArray)) (wrap64 (x4 + 1))) else (none)) else (some x3)
def spec_l2Spaces.f (k : Nat) (a0 : Int) : Option (ByteArray) := spec_l2Spaces.l0 k a0 (⟨#[]⟩ : ByteArray) 0
set_option maxHeartbeats 8000000 in
set_option maxRecDepth 100000 in
theorem spec_l2Spaces.calls (k : Nat) (a0 : Int) (r : ByteArray) (w : World) (h : spec_l2Spaces.f k a0 = some r) :
  Calls Try.prog 55 #[.int .i64 a0] w fun e w' => e = .returned (.string r) ∧ Drawn0 w w' := by
 have H : (spec_l2Spaces.l0 k a0 (⟨#[]⟩ : ByteArray) 0) = some r := h
 clear h
 have H' := Aside0.mk H
 clear H
 go_enter Try.func55, Try.ntmps55
 go_wp2
 go_loopg [3, 4] k (fun kq v3 v4 w' => ∃ (x3_1 : ByteArray) (x4_1 : Int), v3 = .string x3_1 ∧ v4 = .int .i64 x4_1 ∧ Aside0 (spec_l2Spaces.l0 kq a0 x3_1 x4_1 = some r) ∧ Aside0 (kq ≤ k) ∧ Drawn0 w w')
 case atStart => exact ⟨((⟨#[]⟩ : ByteArray)), (0), aR, aR, H', ⟨Nat.le_refl _⟩, by repeat (first | exact Drawn0.refl _ | apply Drawn0.step)⟩
 case round =>
  clear H'
  obtain ⟨x3_1, x4_1, rfl, rfl, HA, HK1, ⟨m1, rfl⟩⟩ := hrel
  cases gk with
  | zero => exact absurd HA.out (by simp [spec_l2Spaces.l0])
  | succ k1 =>
   have H := HA.out
   clear HA
   simp only [spec_l2Spaces.l0] at H
   by_cases c2 : x4_1 < a0
   ·rw [if_pos c2] at H
    have c2b0 : decide (x4_1 < a0) = true := decide_eq_true c2
    clear c2
    by_cases c3 : x3_1.size + 1 ≤ 9223372036854775807
    ·rw [if_pos c3] at H
     have c3b0 := eq_true c3
     have c3b1 : decide (x3_1.size + 1 ≤ 9223372036854775807) = true := decide_eq_true c3
     try have c3b2 : (9223372036854775807 < x3_1.size + 1) = False := eq_false (Nat.not_lt.2 c3)
     have H' := Aside0.mk H
     clear H
     go_wp2
     go_roundg k1
     case measure => have := HK1.out; omega
     case rel => exact ⟨(x3_1 ++ (⟨#[32]⟩ : ByteArray)), (wrap64 (x4_1 + 1)), aR, aR, H', ⟨by have := HK1.out; omega⟩, by repeat (first | exact Drawn0.refl _ | apply Drawn0.step)⟩
    ·rw [if_neg c3] at H
     exact absurd H (by simp)
   ·rw [if_neg c2] at H
    have c2b0 : decide (x4_1 < a0) = false := decide_eq_false c2
    clear c2
    obtain rfl := Option.some.inj H
    go_wp2
    go_ret
    exact ⟨by first | rfl | (simp; done) | (simp [*]; done), by repeat (first | exact Drawn0.refl _ | apply Drawn0.step)⟩

/-! ### spec_l2Line: function 54 -/
def spec_l2Line.f (k : Nat) (a0_0 : Int) (a0_1 : ByteArray) : Option (ByteArray) := if a0_1.toList = ([] : List UInt8) then (some (⟨#[]⟩ : ByteArray)) else ((spec_l2Spaces.f k a0_0).bind fun t110 => (if t110.size + a0_1.size ≤ 9223372036854775807 then (some (t110 ++ a0_1)) else (none)))
set_option maxHeartbeats 8000000 in
set_option maxRecDepth 100000 in
theorem spec_l2Line.calls (k : Nat) (a0_0 : Int) (a0_1 : ByteArray) (r : ByteArray) (w : World) (h : spec_l2Line.f k a0_0 a0_1 = some r) :
  Calls Try.prog 54 #[.agg #[.int .i64 a0_0, .string a0_1]] w fun e w' => e = .returned (.string r) ∧ Below w.heap.size w w' := by
 have hu59 := Try.underlying59
 have HB := Aside0.mk (Below.refl w.heap.size w)
 have H : (if a0_1.toList = ([] : List UInt8) then (some (⟨#[]⟩ : ByteArray)) else ((spec_l2Spaces.f k a0_0).bind fun t110 => (if t110.size + a0_1.size ≤ 9223372036854775807 then (some (t110 ++ a0_1)) else (none)))) = some r := h
 clear h
 by_cases c2 : a0_1.toList = ([] : List UInt8)
 ·rw [if_pos c2] at H
  have c2b0 : (a0_1.toList == ([] : List UInt8)) = true := beq_iff_eq.mpr c2
  have c2b1 : (a0_1.toList != ([] : List UInt8)) = false := bne_eq_false_iff_eq.mpr c2
  clear c2
  obtain rfl := Option.some.inj H
  go_enter Try.func54, Try.ntmps54
  go_wp2_with (first | ((with_reducible refine gate_dst (N := 1) rfl ?_); refine box_event ?hg (N := 1) ?hd (cs := #[.int .i64 a0_0, .string a0_1]) (t := 59) ?hr ?_; (case hd => rfl); (case hg => rfl); (case hr => first | (go_simp; done) | (go_simp; rfl)); intro gb109 hg w3 hbox hb; have n0_ := Aside0.mk (below_step aB hb); have n1_ := Aside0.mk (hbox); have n2_ := Aside0.mk ((by rw [hg]; exact (below_size aB) : w.heap.size ≤ gb109)); have n3_ := Aside0.mk ((by rw [hg]; exact (below_size aB) : w.heap.size ≤ gb109)); clear HB; have HB := n0_; have BK109 := n1_; have GW109 := n2_; have GE109 := n3_; clear n0_ n1_ n2_ n3_; clear hb hbox hg; have hcz4_0 : w3.cell? ⟨gb109, 0, none⟩ = some (.int .i64 a0_0) := (blk_cell BK109.out 0).trans rfl; have hcz4_1 : w3.cell? ⟨gb109, 1, none⟩ = some (.string a0_1) := (blk_cell BK109.out 1).trans rfl; have hfz4_0 := blk_frozen BK109.out 0; have hfz4_1 := blk_frozen BK109.out 1))
  repeat (go_quiet (first | ((with_reducible refine gate_dst (N := 1) rfl ?_); refine box_event ?hg (N := 1) ?hd (cs := #[.int .i64 a0_0, .string a0_1]) (t := 59) ?hr ?_; (case hd => rfl); (case hg => rfl); (case hr => first | (go_simp; done) | (go_simp; rfl)); intro gb109 hg w3 hbox hb; have n0_ := Aside0.mk (below_step aB hb); have n1_ := Aside0.mk (hbox); have n2_ := Aside0.mk ((by rw [hg]; exact (below_size aB) : w.heap.size ≤ gb109)); have n3_ := Aside0.mk ((by rw [hg]; exact (below_size aB) : w.heap.size ≤ gb109)); clear HB; have HB := n0_; have BK109 := n1_; have GW109 := n2_; have GE109 := n3_; clear n0_ n1_ n2_ n3_; clear hb hbox hg; have hcz4_0 : w3.cell? ⟨gb109, 0, none⟩ = some (.int .i64 a0_0) := (blk_cell BK109.out 0).trans rfl; have hcz4_1 : w3.cell? ⟨gb109, 1, none⟩ = some (.string a0_1) := (blk_cell BK109.out 1).trans rfl; have hfz4_0 := blk_frozen BK109.out 0; have hfz4_1 := blk_frozen BK109.out 1)); try go_wp2_with (first | ((with_reducible refine gate_dst (N := 1) rfl ?_); refine box_event ?hg (N := 1) ?hd (cs := #[.int .i64 a0_0, .string a0_1]) (t := 59) ?hr ?_; (case hd => rfl); (case hg => rfl); (case hr => first | (go_simp; done) | (go_simp; rfl)); intro gb109 hg w3 hbox hb; have n0_ := Aside0.mk (below_step aB hb); have n1_ := Aside0.mk (hbox); have n2_ := Aside0.mk ((by rw [hg]; exact (below_size aB) : w.heap.size ≤ gb109)); have n3_ := Aside0.mk ((by rw [hg]; exact (below_size aB) : w.heap.size ≤ gb109)); clear HB; have HB := n0_; have BK109 := n1_; have GW109 := n2_; have GE109 := n3_; clear n0_ n1_ n2_ n3_; clear hb hbox hg; have hcz4_0 : w3.cell? ⟨gb109, 0, none⟩ = some (.int .i64 a0_0) := (blk_cell BK109.out 0).trans rfl; have hcz4_1 : w3.cell? ⟨gb109, 1, none⟩ = some (.string a0_1) := (blk_cell BK109.out 1).trans rfl; have hfz4_0 := blk_frozen BK109.out 0; have hfz4_1 := blk_frozen BK109.out 1)))
  go_ret
  exact ⟨by first | rfl | (simp [errW_none, errW_some] <;> rfl) | (simp [*, errW_none, errW_some] <;> rfl), by repeat (first | (with_reducible first | exact HB.out | apply below_alloc | apply pw_below_drewN | apply below_drew1 | refine below_set ?_ GE109.out) | exact HB.out)⟩
 ·rw [if_neg c2] at H
  have c2b0 : (a0_1.toList == ([] : List UInt8)) = false := beq_eq_false_iff_ne.mpr c2
  have c2b1 : (a0_1.toList != ([] : List UInt8)) = true := bne_iff_ne.mpr c2
  replace H := Option.bind_eq_some_iff.mp H
  obtain ⟨t110, A50, H⟩ := H
  replace H : (if t110.size + a0_1.size ≤ 9223372036854775807 then (some (t110 ++ a0_1)) else (none)) = some r := H
  have A5 := Aside0.mk A50
  clear A50
  by_cases c6 : t110.size + a0_1.size ≤ 9223372036854775807
  ·rw [if_pos c6] at H
   have c6b0 := eq_true c6
   have c6b1 : decide (t110.size + a0_1.size ≤ 9223372036854775807) = true := decide_eq_true c6
   try have c6b2 : (9223372036854775807 < t110.size + a0_1.size) = False := eq_false (Nat.not_lt.2 c6)
   obtain rfl := Option.some.inj H
   go_enter Try.func54, Try.ntmps54
   go_wp2_with (first | ((with_reducible refine gate_dst (N := 1) rfl ?_); refine box_event ?hg (N := 1) ?hd (cs := #[.int .i64 a0_0, .string a0_1]) (t := 59) ?hr ?_; (case hd => rfl); (case hg => rfl); (case hr => first | (go_simp; done) | (go_simp; rfl)); intro gb109 hg w7 hbox hb; have n0_ := Aside0.mk (below_step aB hb); have n1_ := Aside0.mk (hbox); have n2_ := Aside0.mk ((by rw [hg]; exact (below_size aB) : w.heap.size ≤ gb109)); have n3_ := Aside0.mk ((by rw [hg]; exact (below_size aB) : w.heap.size ≤ gb109)); clear HB; have HB := n0_; have BK109 := n1_; have GW109 := n2_; have GE109 := n3_; clear n0_ n1_ n2_ n3_; clear hb hbox hg; have hcz8_0 : w7.cell? ⟨gb109, 0, none⟩ = some (.int .i64 a0_0) := (blk_cell BK109.out 0).trans rfl; have hcz8_1 : w7.cell? ⟨gb109, 1, none⟩ = some (.string a0_1) := (blk_cell BK109.out 1).trans rfl; have hfz8_0 := blk_frozen BK109.out 0; have hfz8_1 := blk_frozen BK109.out 1) | (go_at_call 55; (with_reducible refine (spec_l2Spaces.calls k a0_0 t110 _ A5.out).mono ?_); rintro e w' ⟨rfl, ⟨nd, rfl⟩⟩; (try first | exact ⟨rfl, _, World.drewN_drewN _ _ _⟩ | exact ⟨rfl, _, Eq.trans (World.drewN_drewN _ _ _) (congrArg (World.drewN _) (Nat.add_assoc _ _ _))⟩)))
   repeat (go_quiet (first | ((with_reducible refine gate_dst (N := 1) rfl ?_); refine box_event ?hg (N := 1) ?hd (cs := #[.int .i64 a0_0, .string a0_1]) (t := 59) ?hr ?_; (case hd => rfl); (case hg => rfl); (case hr => first | (go_simp; done) | (go_simp; rfl)); intro gb109 hg w7 hbox hb; have n0_ := Aside0.mk (below_step aB hb); have n1_ := Aside0.mk (hbox); have n2_ := Aside0.mk ((by rw [hg]; exact (below_size aB) : w.heap.size ≤ gb109)); have n3_ := Aside0.mk ((by rw [hg]; exact (below_size aB) : w.heap.size ≤ gb109)); clear HB; have HB := n0_; have BK109 := n1_; have GW109 := n2_; have GE109 := n3_; clear n0_ n1_ n2_ n3_; clear hb hbox hg; have hcz8_0 : w7.cell? ⟨gb109, 0, none⟩ = some (.int .i64 a0_0) := (blk_cell BK109.out 0).trans rfl; have hcz8_1 : w7.cell? ⟨gb109, 1, none⟩ = some (.string a0_1) := (blk_cell BK109.out 1).trans rfl; have hfz8_0 := blk_frozen BK109.out 0; have hfz8_1 := blk_frozen BK109.out 1) | (go_at_call 55; (with_reducible refine (spec_l2Spaces.calls k a0_0 t110 _ A5.out).mono ?_); rintro e w' ⟨rfl, ⟨nd, rfl⟩⟩; (try first | exact ⟨rfl, _, World.drewN_drewN _ _ _⟩ | exact ⟨rfl, _, Eq.trans (World.drewN_drewN _ _ _) (congrArg (World.drewN _) (Nat.add_assoc _ _ _))⟩))); try go_wp2_with (first | ((with_reducible refine gate_dst (N := 1) rfl ?_); refine box_event ?hg (N := 1) ?hd (cs := #[.int .i64 a0_0, .string a0_1]) (t := 59) ?hr ?_; (case hd => rfl); (case hg => rfl); (case hr => first | (go_simp; done) | (go_simp; rfl)); intro gb109 hg w7 hbox hb; have n0_ := Aside0.mk (below_step aB hb); have n1_ := Aside0.mk (hbox); have n2_ := Aside0.mk ((by rw [hg]; exact (below_size aB) : w.heap.size ≤ gb109)); have n3_ := Aside0.mk ((by rw [hg]; exact (below_size aB) : w.heap.size ≤ gb109)); clear HB; have HB := n0_; have BK109 := n1_; have GW109 := n2_; have GE109 := n3_; clear n0_ n1_ n2_ n3_; clear hb hbox hg; have hcz8_0 : w7.cell? ⟨gb109, 0, none⟩ = some (.int .i64 a0_0) := (blk_cell BK109.out 0).trans rfl; have hcz8_1 : w7.cell? ⟨gb109, 1, none⟩ = some (.string a0_1) := (blk_cell BK109.out 1).trans rfl; have hfz8_0 := blk_frozen BK109.out 0; have hfz8_1 := blk_frozen BK109.out 1) | (go_at_call 55; (with_reducible refine (spec_l2Spaces.calls k a0_0 t110 _ A5.out).mono ?_); rintro e w' ⟨rfl, ⟨nd, rfl⟩⟩; (try first | exact ⟨rfl, _, World.drewN_drewN _ _ _⟩ | exact ⟨rfl, _, Eq.trans (World.drewN_drewN _ _ _) (congrArg (World.drewN _) (Nat.add_assoc _ _ _))⟩))))
   go_ret
   exact ⟨by first | rfl | (simp [errW_none, errW_some] <;> rfl) | (simp [*, errW_none, errW_some] <;> rfl), by repeat (first | (with_reducible first | exact HB.out | apply below_alloc | apply pw_below_drewN | apply below_drew1 | refine below_set ?_ GE109.out) | exact HB.out)⟩
  ·rw [if_neg c6] at H
   exact absurd H (by simp)

/-! ### spec_LayoutWidth: function 53 -/
mutual
def spec_LayoutWidth.l0 : Nat → List (S59) → Int → Int → Option (Int)
 | 0, _, _, _ => none
 | k + 1, x0, x3, x4 => if x4 < (x0.length : Int) then ((spec_LayoutValid.f k x0).bind fun t111 => (spec_LayoutWidth.j1 k x0 x3 x4 t111)) else (spec_LayoutWidth.j1 k x0 x3 x4 false)
def spec_LayoutWidth.j1 : Nat → List (S59) → Int → Int → Bool → Option (Int)
 | 0, _, _, _, _ => none
 | k + 1, x0, x3, x4, x12 => if x12 = true then (if 0 ≤ x4 then (if x4 < (x0.length : Int) then ((spec_l2Line.f k ((rd_T59 x0 x4).f0) ((rd_T59 x0 x4).f1)).bind fun t113 => (if (t113.size : Int) > x3 then ((spec_l2Line.f k ((rd_T59 x0 x4).f0) ((rd_T59 x0 x4).f1)).bind fun t115 => (spec_LayoutWidth.l0 k x0 (t115.size : Int) (wrap64 (x4 + 1)))) else (spec_LayoutWidth.l0 k x0 x3 (wrap64 (x4 + 1))))) else (none)) else (none)) else (some x3)
end
def spec_LayoutWidth.f (k : Nat) (l0 : List (S59)) : Option (Int) := spec_LayoutWidth.l0 k l0 0 0
set_option maxHeartbeats 8000000 in
set_option maxRecDepth 100000 in
theorem spec_LayoutWidth.calls (k : Nat) (A0 : Option Addr) (c0 : Nat) (l0 : List (S59)) (r : Int) (w : World) (hr0 : Kd.C k59 w A0 l0.length l0) (hc0 : l0.length ≤ c0) (h : spec_LayoutWidth.f k l0 = some r) :
  Calls Try.prog 53 #[.slice A0 l0.length c0] w fun e w' => e = .returned (.int .i64 r) ∧ Below w.heap.size w w' := by
 have hu59 := Try.underlying59
 have HR0 := Aside0.mk hr0
 have HC0 := Aside0.mk hc0
 clear hr0 hc0
 have HB := Aside0.mk (Below.refl w.heap.size w)
 have H : (spec_LayoutWidth.l0 k l0 0 0) = some r := h
 clear h
 have H' := Aside0.mk H
 clear H
 go_enter Try.func53, Try.ntmps53
 go_wp2
 go_loopg [3, 4] k (fun kq v3 v4 w' => ∃ (x3_1 : Int) (x4_1 : Int), v3 = .int .i64 x3_1 ∧ v4 = .int .i64 x4_1 ∧ Aside0 (spec_LayoutWidth.l0 kq l0 x3_1 x4_1 = some r) ∧ Aside0 (kq ≤ k) ∧ Aside0 (Below w.heap.size w w'))
 case atStart => exact ⟨(0), (0), aR, aR, H', ⟨Nat.le_refl _⟩, ⟨by repeat (first|(with_reducible first|exact HB.out|apply below_alloc|apply pw_below_drewN|apply below_drew1)|exact HB.out)⟩⟩
 case round =>
  clear H'
  obtain ⟨x3_1, x4_1, rfl, rfl, HA, HK1, HB⟩ := hrel
  cases gk with
  | zero => exact absurd HA.out (by simp [spec_LayoutWidth.l0])
  | succ k1 =>
   have H := HA.out
   clear HA
   simp only [spec_LayoutWidth.l0] at H
   have HC2 := Aside0.mk H
   clear H
   go_upto_region 3 with (fail)
   go_cut [12] (fun v12 wc => ∃ (kq : Nat) (x12_1 : Bool), v12 = .bool x12_1 ∧ Aside0 (spec_LayoutWidth.j1 kq l0 x3_1 x4_1 x12_1 = some r) ∧ Aside0 (kq ≤ k1) ∧ Aside0 (Below w.heap.size w wc))
   case first =>
    have H := HC2.out
    clear HC2
    by_cases c3 : x4_1 < (l0.length : Int)
    ·rw [if_pos c3] at H
     have c3b0 : decide (x4_1 < (l0.length : Int)) = true := decide_eq_true c3
     clear c3
     (first | rw [c3b0] | (simp only [i64_w, i32_w]; rw [c3b0]) | skip)
     replace H := Option.bind_eq_some_iff.mp H
     obtain ⟨t111, A40, H⟩ := H
     replace H : (spec_LayoutWidth.j1 k1 l0 x3_1 x4_1 t111) = some r := H
     have A4 := Aside0.mk A40
     clear A40
     have H' := Aside0.mk H
     clear H
     go_wp2_with (first | (go_at_call 52; (with_reducible refine (spec_LayoutValid.calls k1 _ _ l0 t111 _ ?side1 ?side2 A4.out).mono ?_); (case side1 => repeat (first | exact (Kd.C_below HR0.out HB.out) | (with_reducible refine Kd.C_alloc ?_ _) | (with_reducible refine Kd.C_drewN ?_ _) | (with_reducible refine Kd.C_drew ?_))); (case side2 => exact HC0.out); rintro e w' ⟨rfl, ⟨nd, rfl⟩⟩))
     go_meet
     case rel => exact ⟨_, (t111), aR, H', ⟨by have := HK1.out; first | omega | exact Nat.le_refl _⟩, ⟨by repeat (first|(with_reducible first|exact HB.out|apply below_alloc|apply pw_below_drewN|apply below_drew1)|exact HB.out)⟩⟩
    ·rw [if_neg c3] at H
     have c3b0 : decide (x4_1 < (l0.length : Int)) = false := decide_eq_false c3
     clear c3
     (first | rw [c3b0] | (simp only [i64_w, i32_w]; rw [c3b0]) | skip)
     have H' := Aside0.mk H
     clear H
     go_wp2
     go_meet
     case rel => exact ⟨_, (false), aR, H', ⟨by have := HK1.out; first | omega | exact Nat.le_refl _⟩, ⟨by repeat (first|(with_reducible first|exact HB.out|apply below_alloc|apply pw_below_drewN|apply below_drew1)|exact HB.out)⟩⟩
   case rest =>
    clear HC2
    try clear p2
    try clear c3
    try clear c3b0
    obtain ⟨kq, x12_1, rfl, HA, HJ1, HB⟩ := hcut
    cases kq with
    | zero => exact absurd HA.out (by simp [spec_LayoutWidth.j1])
    | succ kj1 =>
     have H := HA.out
     clear HA
     simp only [spec_LayoutWidth.j1] at H
     by_cases c5 : x12_1 = true
     ·subst c5
      have H1 : (if 0 ≤ x4_1 then (if x4_1 < (l0.length : Int) then ((spec_l2Line.f kj1 ((rd_T59 l0 x4_1).f0) ((rd_T59 l0 x4_1).f1)).bind fun t113 => (if (t113.size : Int) > x3_1 then ((spec_l2Line.f kj1 ((rd_T59 l0 x4_1).f0) ((rd_T59 l0 x4_1).f1)).bind fun t115 => (spec_LayoutWidth.l0 kj1 l0 (t115.size : Int) (wrap64 (x4_1 + 1)))) else (spec_LayoutWidth.l0 kj1 l0 x3_1 (wrap64 (x4_1 + 1))))) else (none)) else (none)) = some r := by rw [if_pos rfl] at H; exact H
      clear H
      have H := H1
      clear H1
      by_cases c6 : 0 ≤ x4_1
      ·rw [if_pos c6] at H
       have c6b0 : decide (0 ≤ x4_1) = true := decide_eq_true c6
       clear c6
       by_cases c7 : x4_1 < (l0.length : Int)
       ·rw [if_pos c7] at H
        have c7b0 : decide (x4_1 < (l0.length : Int)) = true := decide_eq_true c7
        clear c7
        replace H := Option.bind_eq_some_iff.mp H
        obtain ⟨t113, A80, H⟩ := H
        replace H : (if (t113.size : Int) > x3_1 then ((spec_l2Line.f kj1 ((rd_T59 l0 x4_1).f0) ((rd_T59 l0 x4_1).f1)).bind fun t115 => (spec_LayoutWidth.l0 kj1 l0 (t115.size : Int) (wrap64 (x4_1 + 1)))) else (spec_LayoutWidth.l0 kj1 l0 x3_1 (wrap64 (x4_1 + 1)))) = some r := H
        have A8 := Aside0.mk A80
        clear A80
        by_cases c9 : (t113.size : Int) > x3_1
        ·rw [if_pos c9] at H
         have c9b0 : decide (x3_1 < (t113.size : Int)) = true := decide_eq_true c9
         clear c9
         replace H := Option.bind_eq_some_iff.mp H
         obtain ⟨t115, A100, H⟩ := H
         replace H : (spec_LayoutWidth.l0 kj1 l0 (t115.size : Int) (wrap64 (x4_1 + 1))) = some r := H
         have A10 := Aside0.mk A100
         clear A100
         have H' := Aside0.mk H
         clear H
         have p112 : 0 ≤ (x4_1 : Int) := of_decide_eq_true aQ
         have q112 : x4_1 < (l0.length : Int) := of_decide_eq_true aQ
         obtain ⟨ad112, e112, hx112_0, hx112_1⟩ := at_T59 HR0.out x4_1 p112 q112
         cases e112
         replace hx112_0 := (HB.out.cell (World.block_lt_of_cell? w _ hx112_0)).trans hx112_0
         replace hx112_1 := (HB.out.cell (World.block_lt_of_cell? w _ hx112_1)).trans hx112_1
         replace p112 := eq_true p112
         replace q112 := eq_true q112
         go_wp2_with (first | ((with_reducible refine gate_callee (f := 54) rfl ?_); refine goesL_ (some 19) rfl rfl Try.func54 aK rfl #[.agg #[.int .i64 ((rd_T59 l0 x4_1).f0), .string ((rd_T59 l0 x4_1).f1)]] rfl aL ?_; (with_reducible refine (spec_l2Line.calls kj1 ((rd_T59 l0 x4_1).f0) ((rd_T59 l0 x4_1).f1) t113 _ A8.out).mono ?_); rintro e w11 ⟨rfl, hb⟩; refine ⟨_, rfl, ?_⟩; have n0_ := Aside0.mk (below_step aB hb); clear HB; have HB := n0_; clear n0_; (try clear hb); (try clear hb2); (try clear hk); (try clear hi); have p114 : 0 ≤ (x4_1 : Int) := of_decide_eq_true aQ; have q114 : x4_1 < (l0.length : Int) := of_decide_eq_true aQ; obtain ⟨ad114, e114, hx114_0, hx114_1⟩ := at_T59 HR0.out x4_1 p114 q114; obtain rfl : ad112 = ad114 := (by injection e114); replace hx114_0 := (HB.out.cell (World.block_lt_of_cell? w _ hx114_0)).trans hx114_0; replace hx114_1 := (HB.out.cell (World.block_lt_of_cell? w _ hx114_1)).trans hx114_1; replace p114 := eq_true p114; replace q114 := eq_true q114) | ((with_reducible refine gate_callee (f := 54) rfl ?_); refine goesL_ (some 27) rfl rfl Try.func54 aK rfl #[.agg #[.int .i64 ((rd_T59 l0 x4_1).f0), .string ((rd_T59 l0 x4_1).f1)]] rfl aL ?_; (with_reducible refine (spec_l2Line.calls kj1 ((rd_T59 l0 x4_1).f0) ((rd_T59 l0 x4_1).f1) t115 _ A10.out).mono ?_); rintro e w12 ⟨rfl, hb⟩; refine ⟨_, rfl, ?_⟩; have n0_ := Aside0.mk (below_step aB hb); clear HB; have HB := n0_; clear n0_; (try clear hb); (try clear hb2); (try clear hk); (try clear hi)))
         go_roundg kj1
         case measure => have := HK1.out; have := HJ1.out; omega
         case rel => exact ⟨((t115.size : Int)), (wrap64 (x4_1 + 1)), aR, aR, H', ⟨by have := HK1.out; have := HJ1.out; omega⟩, ⟨by repeat (first|(with_reducible first|exact HB.out|apply below_alloc|apply pw_below_drewN|apply below_drew1)|exact HB.out)⟩⟩
        ·rw [if_neg c9] at H
         have c9b0 : decide (x3_1 < (t113.size : Int)) = false := decide_eq_false c9
         clear c9
         have H' := Aside0.mk H
         clear H
         have p112 : 0 ≤ (x4_1 : Int) := of_decide_eq_true aQ
         have q112 : x4_1 < (l0.length : Int) := of_decide_eq_true aQ
         obtain ⟨ad112, e112, hx112_0, hx112_1⟩ := at_T59 HR0.out x4_1 p112 q112
         cases e112
         replace hx112_0 := (HB.out.cell (World.block_lt_of_cell? w _ hx112_0)).trans hx112_0
         replace hx112_1 := (HB.out.cell (World.block_lt_of_cell? w _ hx112_1)).trans hx112_1
         replace p112 := eq_true p112
         replace q112 := eq_true q112
         go_wp2_with (first | ((with_reducible refine gate_callee (f := 54) rfl ?_); refine goesL_ (some 19) rfl rfl Try.func54 aK rfl #[.agg #[.int .i64 ((rd_T59 l0 x4_1).f0), .string ((rd_T59 l0 x4_1).f1)]] rfl aL ?_; (with_reducible refine (spec_l2Line.calls kj1 ((rd_T59 l0 x4_1).f0) ((rd_T59 l0 x4_1).f1) t113 _ A8.out).mono ?_); rintro e w13 ⟨rfl, hb⟩; refine ⟨_, rfl, ?_⟩; have n0_ := Aside0.mk (below_step aB hb); clear HB; have HB := n0_; clear n0_; (try clear hb); (try clear hb2); (try clear hk); (try clear hi)))
         go_roundg kj1
         case measure => have := HK1.out; have := HJ1.out; omega
         case rel => exact ⟨(x3_1), (wrap64 (x4_1 + 1)), aR, aR, H', ⟨by have := HK1.out; have := HJ1.out; omega⟩, ⟨by repeat (first|(with_reducible first|exact HB.out|apply below_alloc|apply pw_below_drewN|apply below_drew1)|exact HB.out)⟩⟩
       ·rw [if_neg c7] at H
        exact absurd H (by simp)
      ·rw [if_neg c6] at H
       exact absurd H (by simp)
     ·replace c5 := Bool.eq_false_iff.mpr c5
      subst c5
      have H1 : (some x3_1) = some r := by rw [if_neg (show ¬ (false = true) by decide)] at H; exact H
      clear H
      have H := H1
      clear H1
      obtain rfl := Option.some.inj H
      go_wp2
      go_ret
      exact ⟨by first | rfl | (simp [errW_none, errW_some] <;> rfl) | (simp [*, errW_none, errW_some] <;> rfl), by repeat (first|(with_reducible first|exact HB.out|apply below_alloc|apply pw_below_drewN|apply below_drew1)|exact HB.out)⟩

end Go.Proofs.Ytkcpimhohadjkaa.PPb
