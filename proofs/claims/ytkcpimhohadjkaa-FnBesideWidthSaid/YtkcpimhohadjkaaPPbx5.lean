-- Written by a program of this session (xprint). -- COMPACT
import Derived.Test.YtkcpimhohadjkaaPPbx0
import Derived.Test.YtkcpimhohadjkaaPPbx3
namespace Go.Proofs.Ytkcpimhohadjkaa.PPb
open Go.RowKit Go.Proofs.YtkcpimhohadjkaaW.PrintWords Go.Proofs.YtkcpimhohadjkaaW.PrintLast Go.Proofs.YtkcpimhohadjkaaW.PrintMore
attribute [local go_sem] max2_int min2_int max_two min_two max_three min_three max_four min_four   -- for this text's walks alone
set_option linter.unusedVariables false
set_option linter.unusedSimpArgs false

/-! ### impl_sameLines: function 64 -/
def impl_sameLines.l0 : Nat → List ByteArray → List ByteArray → Int → Int → Option (Bool)
 | 0, _, _, _, _ => none
 | k + 1, x0, x5, x6, x7 => if x7 < x6 then (if 0 ≤ x7 then (if x7 < (x5.length : Int) then (if 0 < (x0.length : Int) then (if ((rdOf ByteArray.empty x5 x7).size : Int) = ((rdOf ByteArray.empty x0 0).size : Int) then ((impl_rowBytes.f k (rdOf ByteArray.empty x5 x7)).bind fun t158 => (if t158 = true then (impl_sameLines.l0 k x0 x5 x6 (wrap64 (x7 + 1))) else (some false))) else (some false)) else (none)) else (none)) else (none)) else (if (x0.length : Int) ≥ 1 then (some (decide ((x0.length : Int) ≤ 100))) else (some false))
def impl_sameLines.f (k : Nat) (l0 : List ByteArray) : Option (Bool) := impl_sameLines.l0 k l0 l0 (l0.length : Int) 0
set_option maxHeartbeats 8000000 in
set_option maxRecDepth 100000 in
theorem impl_sameLines.calls (k : Nat) (A0 : Option Addr) (c0 : Nat) (l0 : List ByteArray) (r : Bool) (w : World) (hr0 : Kd.C Kd.string w A0 l0.length l0) (hc0 : l0.length ≤ c0) (h : impl_sameLines.f k l0 = some r) :
  Calls Try.prog 64 #[.slice A0 l0.length c0] w fun e w' => e = .returned (.bool r) ∧ Drawn0 w w' := by
 have HR0 := Aside0.mk hr0
 have HC0 := Aside0.mk hc0
 clear hr0 hc0
 have H : (impl_sameLines.l0 k l0 l0 (l0.length : Int) 0) = some r := h
 clear h
 have H' := Aside0.mk H
 clear H
 go_enter Try.func64, Try.ntmps64
 go_wp2
 go_loopg [7] k (fun kq v7 w' => ∃ (x7_1 : Int), v7 = .int .i64 x7_1 ∧ Aside0 (impl_sameLines.l0 kq l0 l0 (l0.length : Int) x7_1 = some r) ∧ Aside0 (kq ≤ k) ∧ Drawn0 w w')
 case atStart => exact ⟨(0), aR, H', ⟨Nat.le_refl _⟩, by repeat (first | exact Drawn0.refl _ | apply Drawn0.step)⟩
 case round =>
  clear H'
  obtain ⟨x7_1, rfl, HA, HK1, ⟨m1, rfl⟩⟩ := hrel
  cases gk with
  | zero => exact absurd HA.out (by simp [impl_sameLines.l0])
  | succ k1 =>
   have H := HA.out
   clear HA
   simp only [impl_sameLines.l0] at H
   by_cases c2 : x7_1 < (l0.length : Int)
   ·rw [if_pos c2] at H
    have c2b0 : decide (x7_1 < (l0.length : Int)) = true := decide_eq_true c2
    clear c2
    by_cases c3 : 0 ≤ x7_1
    ·rw [if_pos c3] at H
     have c3b0 : decide (0 ≤ x7_1) = true := decide_eq_true c3
     clear c3
     by_cases c4 : x7_1 < (l0.length : Int)
     ·rw [if_pos c4] at H
      have c4b0 : decide (x7_1 < (l0.length : Int)) = true := decide_eq_true c4
      clear c4
      by_cases c5 : 0 < (l0.length : Int)
      ·rw [if_pos c5] at H
       have c5b0 : decide (0 < (l0.length : Int)) = true := decide_eq_true c5
       have c5b1 : decide (0 < l0.length) = true := decide_eq_true (by omega)
       clear c5
       by_cases c6 : ((rdOf ByteArray.empty l0 x7_1).size : Int) = ((rdOf ByteArray.empty l0 0).size : Int)
       ·rw [if_pos c6] at H
        have c6b0 : (((rdOf ByteArray.empty l0 x7_1).size : Int) == ((rdOf ByteArray.empty l0 0).size : Int)) = true := beq_iff_eq.mpr c6
        have c6b1 : (((rdOf ByteArray.empty l0 x7_1).size : Int) != ((rdOf ByteArray.empty l0 0).size : Int)) = false := bne_eq_false_iff_eq.mpr c6
        have c6b2 : ((rdOf ByteArray.empty l0 x7_1).size == (rdOf ByteArray.empty l0 0).size) = true := by first | simpa using c6 | (simp at c6 ⊢; omega)
        clear c6
        replace H := Option.bind_eq_some_iff.mp H
        obtain ⟨t158, A70, H⟩ := H
        replace H : (if t158 = true then (impl_sameLines.l0 k1 l0 l0 (l0.length : Int) (wrap64 (x7_1 + 1))) else (some false)) = some r := H
        have A7 := Aside0.mk A70
        clear A70
        by_cases c8 : t158 = true
        ·subst c8
         have H1 : (impl_sameLines.l0 k1 l0 l0 (l0.length : Int) (wrap64 (x7_1 + 1))) = some r := by rw [if_pos rfl] at H; exact H
         clear H
         have H := H1
         clear H1
         have H' := Aside0.mk H
         clear H
         have p156 : 0 ≤ (x7_1 : Int) := of_decide_eq_true aQ
         have q156 : x7_1 < (l0.length : Int) := of_decide_eq_true aQ
         obtain ⟨ad156, e156, hx156_0⟩ := Kd.at_string HR0.out x7_1 p156 q156
         cases e156
         replace p156 := eq_true p156
         replace q156 := eq_true q156
         have p157 : 0 ≤ (0 : Int) := (by omega)
         have q157 : 0 < (l0.length : Int) := of_decide_eq_true aQ
         obtain ⟨ad157, e157, hx157_0⟩ := Kd.at_string HR0.out 0 p157 q157
         obtain rfl : ad156 = ad157 := (by injection e157)
         have qi157 : (0 < l0.length) = True := eq_true (by omega)
         (try rw [show ((0 : Int)).toNat = 0 from rfl] at hx157_0)
         (try rw [Addr.add_zero'] at hx157_0)
         replace p157 := eq_true p157
         replace q157 := eq_true q157
         go_wp2_with (first | (go_at_call 73; (with_reducible refine (impl_rowBytes.calls k1 (rdOf ByteArray.empty l0 x7_1) true _ A7.out).mono ?_); rintro e w' ⟨rfl, ⟨nd, rfl⟩⟩))
         go_roundg k1
         case measure => have := HK1.out; omega
         case rel => exact ⟨(wrap64 (x7_1 + 1)), aR, H', ⟨by have := HK1.out; omega⟩, by repeat (first | exact Drawn0.refl _ | apply Drawn0.step)⟩
        ·replace c8 := Bool.eq_false_iff.mpr c8
         subst c8
         have H1 : (some false) = some r := by rw [if_neg (show ¬ (false = true) by decide)] at H; exact H
         clear H
         have H := H1
         clear H1
         obtain rfl := Option.some.inj H
         have p156 : 0 ≤ (x7_1 : Int) := of_decide_eq_true aQ
         have q156 : x7_1 < (l0.length : Int) := of_decide_eq_true aQ
         obtain ⟨ad156, e156, hx156_0⟩ := Kd.at_string HR0.out x7_1 p156 q156
         cases e156
         replace p156 := eq_true p156
         replace q156 := eq_true q156
         have p157 : 0 ≤ (0 : Int) := (by omega)
         have q157 : 0 < (l0.length : Int) := of_decide_eq_true aQ
         obtain ⟨ad157, e157, hx157_0⟩ := Kd.at_string HR0.out 0 p157 q157
         obtain rfl : ad156 = ad157 := (by injection e157)
         have qi157 : (0 < l0.length) = True := eq_true (by omega)
         (try rw [show ((0 : Int)).toNat = 0 from rfl] at hx157_0)
         (try rw [Addr.add_zero'] at hx157_0)
         replace p157 := eq_true p157
         replace q157 := eq_true q157
         go_wp2_with (first | (go_at_call 73; (with_reducible refine (impl_rowBytes.calls k1 (rdOf ByteArray.empty l0 x7_1) false _ A7.out).mono ?_); rintro e w' ⟨rfl, ⟨nd, rfl⟩⟩))
         go_ret
         exact ⟨by first | rfl | (simp; done) | (simp [*]; done), by repeat (first | exact Drawn0.refl _ | apply Drawn0.step)⟩
       ·rw [if_neg c6] at H
        have c6b0 : (((rdOf ByteArray.empty l0 x7_1).size : Int) == ((rdOf ByteArray.empty l0 0).size : Int)) = false := beq_eq_false_iff_ne.mpr c6
        have c6b1 : (((rdOf ByteArray.empty l0 x7_1).size : Int) != ((rdOf ByteArray.empty l0 0).size : Int)) = true := bne_iff_ne.mpr c6
        have c6b2 : ((rdOf ByteArray.empty l0 x7_1).size == (rdOf ByteArray.empty l0 0).size) = false := by first | simpa using c6 | (simp at c6 ⊢; omega)
        obtain rfl := Option.some.inj H
        have p156 : 0 ≤ (x7_1 : Int) := of_decide_eq_true aQ
        have q156 : x7_1 < (l0.length : Int) := of_decide_eq_true aQ
        obtain ⟨ad156, e156, hx156_0⟩ := Kd.at_string HR0.out x7_1 p156 q156
        cases e156
        replace p156 := eq_true p156
        replace q156 := eq_true q156
        have p157 : 0 ≤ (0 : Int) := (by omega)
        have q157 : 0 < (l0.length : Int) := of_decide_eq_true aQ
        obtain ⟨ad157, e157, hx157_0⟩ := Kd.at_string HR0.out 0 p157 q157
        obtain rfl : ad156 = ad157 := (by injection e157)
        have qi157 : (0 < l0.length) = True := eq_true (by omega)
        (try rw [show ((0 : Int)).toNat = 0 from rfl] at hx157_0)
        (try rw [Addr.add_zero'] at hx157_0)
        replace p157 := eq_true p157
        replace q157 := eq_true q157
        go_wp2
        go_ret
        exact ⟨by first | rfl | (simp; done) | (simp [*]; done), by repeat (first | exact Drawn0.refl _ | apply Drawn0.step)⟩
      ·rw [if_neg c5] at H
       exact absurd H (by simp)
     ·rw [if_neg c4] at H
      exact absurd H (by simp)
    ·rw [if_neg c3] at H
     exact absurd H (by simp)
   ·rw [if_neg c2] at H
    have c2b0 : decide (x7_1 < (l0.length : Int)) = false := decide_eq_false c2
    clear c2
    by_cases c9 : (l0.length : Int) ≥ 1
    ·rw [if_pos c9] at H
     have c9b0 : decide (1 ≤ (l0.length : Int)) = true := decide_eq_true c9
     have c9b1 : decide (1 ≤ l0.length) = true := decide_eq_true (by omega)
     clear c9
     obtain rfl := Option.some.inj H
     go_wp2
     go_ret
     exact ⟨by first | rfl | (simp; done) | (simp [*]; done), by repeat (first | exact Drawn0.refl _ | apply Drawn0.step)⟩
    ·rw [if_neg c9] at H
     have c9b0 : decide (1 ≤ (l0.length : Int)) = false := decide_eq_false c9
     have c9b1 : decide (1 ≤ l0.length) = false := decide_eq_false (by omega)
     clear c9
     obtain rfl := Option.some.inj H
     go_wp2
     go_ret
     exact ⟨by first | rfl | (simp; done) | (simp [*]; done), by repeat (first | exact Drawn0.refl _ | apply Drawn0.step)⟩

end Go.Proofs.Ytkcpimhohadjkaa.PPb
