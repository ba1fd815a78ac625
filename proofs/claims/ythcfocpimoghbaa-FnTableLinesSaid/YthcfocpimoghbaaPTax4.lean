-- Written by a program of this session (xprint). -- COMPACT
import Derived.Test.YthcfocpimoghbaaPTax0
import Derived.Test.YthcfocpimoghbaaPTax3
namespace Go.Proofs.Ythcfocpimoghbaa.PTa
open Go.RowKit Go.Proofs.YthcfocpimoghbaaW.PrintWords Go.Proofs.YthcfocpimoghbaaW.PrintLast Go.Proofs.YthcfocpimoghbaaW.PrintMore
attribute [local go_sem] max2_int min2_int max_two min_two max_three min_three max_four min_four   -- for this text's walks alone
set_option linter.unusedVariables false
set_option linter.unusedSimpArgs false

/-! ### impl_tableOk: function 68 -/
mutual
def impl_tableOk.j0 : Nat → List (List ByteArray) → Bool → Option (Bool)
 | 0, _, _ => none
 | k + 1, x0, x14 => if x14 = true then (some false) else (impl_tableOk.l0 k x0 x0 (x0.length : Int) 0)
def impl_tableOk.l0 : Nat → List (List ByteArray) → List (List ByteArray) → Int → Int → Option (Bool)
 | 0, _, _, _, _ => none
 | k + 1, x0, x15, x16, x17 => if x17 < x16 then (if 0 ≤ x17 then (if x17 < (x15.length : Int) then (if ((rd_L3 x15 x17).length : Int) < 1 then (impl_tableOk.j2 k x0 (rd_L3 x15 x17) x15 x16 x17 true) else (if ((rd_L3 x15 x17).length : Int) > 20 then (impl_tableOk.j2 k x0 (rd_L3 x15 x17) x15 x16 x17 true) else (if 0 < (x0.length : Int) then (impl_tableOk.j2 k x0 (rd_L3 x15 x17) x15 x16 x17 (((rd_L3 x15 x17).length : Int) != ((rd_L3 x0 0).length : Int))) else (none)))) else (none)) else (none)) else (some true)
def impl_tableOk.j2 : Nat → List (List ByteArray) → List ByteArray → List (List ByteArray) → Int → Int → Bool → Option (Bool)
 | 0, _, _, _, _, _, _ => none
 | k + 1, x0, x4, x15, x16, x17, x37 => if x37 = true then (some false) else (impl_tableOk.l1 k x0 x15 x16 x17 x4 (x4.length : Int) 0)
def impl_tableOk.l1 : Nat → List (List ByteArray) → List (List ByteArray) → Int → Int → List ByteArray → Int → Int → Option (Bool)
 | 0, _, _, _, _, _, _, _ => none
 | k + 1, x0, x15, x16, x17, x38, x39, x40 => if x40 < x39 then (if 0 ≤ x40 then (if x40 < (x38.length : Int) then (if (rdOf ByteArray.empty x38 x40).toList = ([] : List UInt8) then (impl_tableOk.l1 k x0 x15 x16 x17 x38 x39 (wrap64 (x40 + 1))) else ((impl_TextValid.f k (rdOf ByteArray.empty x38 x40)).bind fun t177 => (if t177 = true then (impl_tableOk.l1 k x0 x15 x16 x17 x38 x39 (wrap64 (x40 + 1))) else (some false)))) else (none)) else (none)) else (impl_tableOk.l0 k x0 x15 x16 (wrap64 (x17 + 1)))
end
def impl_tableOk.f (k : Nat) (l0 : List (List ByteArray)) : Option (Bool) := if (l0.length : Int) < 1 then (impl_tableOk.j0 k l0 true) else (impl_tableOk.j0 k l0 (decide ((l0.length : Int) > 20)))
theorem impl_tableOk.mono_l : ∀ k, (∀ y0 y1, LeO (impl_tableOk.j0 k y0 y1) (impl_tableOk.j0 (k + 1) y0 y1)) ∧ (∀ y0 y1 y2 y3, LeO (impl_tableOk.l0 k y0 y1 y2 y3) (impl_tableOk.l0 (k + 1) y0 y1 y2 y3)) ∧ (∀ y0 y1 y2 y3 y4 y5, LeO (impl_tableOk.j2 k y0 y1 y2 y3 y4 y5) (impl_tableOk.j2 (k + 1) y0 y1 y2 y3 y4 y5)) ∧ (∀ y0 y1 y2 y3 y4 y5 y6, LeO (impl_tableOk.l1 k y0 y1 y2 y3 y4 y5 y6) (impl_tableOk.l1 (k + 1) y0 y1 y2 y3 y4 y5 y6))
 | 0 => ⟨fun _ _ r h => by simp [impl_tableOk.j0] at h, fun _ _ _ _ r h => by simp [impl_tableOk.l0] at h, fun _ _ _ _ _ _ r h => by simp [impl_tableOk.j2] at h, fun _ _ _ _ _ _ _ r h => by simp [impl_tableOk.l1] at h⟩
 | k + 1 => by
  obtain ⟨ih0, ih1, ih2, ih3⟩ := impl_tableOk.mono_l k
  refine ⟨?_, ?_, ?_, ?_⟩
  ·intro y0 y1
   unfold impl_tableOk.j0
   repeat' first
   | (with_reducible exact ih0 _ _)
   | (with_reducible exact ih1 _ _ _ _)
   | (with_reducible exact ih2 _ _ _ _ _ _)
   | (with_reducible exact ih3 _ _ _ _ _ _ _)
   | (with_reducible exact impl_TextValid.mono _ _)
   | (with_reducible exact LeO.refl _)
   | (with_reducible exact LeO.none _)
   | (with_reducible refine LeO.ite ?_ ?_)
   | (with_reducible refine LeO.bind ?_ (fun _ => ?_))
   | exact ih0 _ _
   | exact ih1 _ _ _ _
   | exact ih2 _ _ _ _ _ _
   | exact ih3 _ _ _ _ _ _ _
   | exact impl_TextValid.mono _ _
   | exact LeO.none _
   | refine LeO.ite ?_ ?_
   | refine LeO.bind ?_ (fun _ => ?_)
  ·intro y0 y1 y2 y3
   unfold impl_tableOk.l0
   repeat' first
   | (with_reducible exact ih0 _ _)
   | (with_reducible exact ih1 _ _ _ _)
   | (with_reducible exact ih2 _ _ _ _ _ _)
   | (with_reducible exact ih3 _ _ _ _ _ _ _)
   | (with_reducible exact impl_TextValid.mono _ _)
   | (with_reducible exact LeO.refl _)
   | (with_reducible exact LeO.none _)
   | (with_reducible refine LeO.ite ?_ ?_)
   | (with_reducible refine LeO.bind ?_ (fun _ => ?_))
   | exact ih0 _ _
   | exact ih1 _ _ _ _
   | exact ih2 _ _ _ _ _ _
   | exact ih3 _ _ _ _ _ _ _
   | exact impl_TextValid.mono _ _
   | exact LeO.none _
   | refine LeO.ite ?_ ?_
   | refine LeO.bind ?_ (fun _ => ?_)
  ·intro y0 y1 y2 y3 y4 y5
   unfold impl_tableOk.j2
   repeat' first
   | (with_reducible exact ih0 _ _)
   | (with_reducible exact ih1 _ _ _ _)
   | (with_reducible exact ih2 _ _ _ _ _ _)
   | (with_reducible exact ih3 _ _ _ _ _ _ _)
   | (with_reducible exact impl_TextValid.mono _ _)
   | (with_reducible exact LeO.refl _)
   | (with_reducible exact LeO.none _)
   | (with_reducible refine LeO.ite ?_ ?_)
   | (with_reducible refine LeO.bind ?_ (fun _ => ?_))
   | exact ih0 _ _
   | exact ih1 _ _ _ _
   | exact ih2 _ _ _ _ _ _
   | exact ih3 _ _ _ _ _ _ _
   | exact impl_TextValid.mono _ _
   | exact LeO.none _
   | refine LeO.ite ?_ ?_
   | refine LeO.bind ?_ (fun _ => ?_)
  ·intro y0 y1 y2 y3 y4 y5 y6
   unfold impl_tableOk.l1
   repeat' first
   | (with_reducible exact ih0 _ _)
   | (with_reducible exact ih1 _ _ _ _)
   | (with_reducible exact ih2 _ _ _ _ _ _)
   | (with_reducible exact ih3 _ _ _ _ _ _ _)
   | (with_reducible exact impl_TextValid.mono _ _)
   | (with_reducible exact LeO.refl _)
   | (with_reducible exact LeO.none _)
   | (with_reducible refine LeO.ite ?_ ?_)
   | (with_reducible refine LeO.bind ?_ (fun _ => ?_))
   | exact ih0 _ _
   | exact ih1 _ _ _ _
   | exact ih2 _ _ _ _ _ _
   | exact ih3 _ _ _ _ _ _ _
   | exact impl_TextValid.mono _ _
   | exact LeO.none _
   | refine LeO.ite ?_ ?_
   | refine LeO.bind ?_ (fun _ => ?_)
theorem impl_tableOk.mono : ∀ a0 k, LeO (impl_tableOk.f k a0) (impl_tableOk.f (k + 1) a0) := by
 intro a0 k
 obtain ⟨ih0, ih1, ih2, ih3⟩ := impl_tableOk.mono_l k
 unfold impl_tableOk.f
 repeat' first
   | (with_reducible exact ih0 _ _)
   | (with_reducible exact ih1 _ _ _ _)
   | (with_reducible exact ih2 _ _ _ _ _ _)
   | (with_reducible exact ih3 _ _ _ _ _ _ _)
   | (with_reducible exact impl_TextValid.mono _ _)
   | (with_reducible exact LeO.refl _)
   | (with_reducible exact LeO.none _)
   | (with_reducible refine LeO.ite ?_ ?_)
   | (with_reducible refine LeO.bind ?_ (fun _ => ?_))
   | exact ih0 _ _
   | exact ih1 _ _ _ _
   | exact ih2 _ _ _ _ _ _
   | exact ih3 _ _ _ _ _ _ _
   | exact impl_TextValid.mono _ _
   | exact LeO.none _
   | refine LeO.ite ?_ ?_
   | refine LeO.bind ?_ (fun _ => ?_)
set_option maxHeartbeats 8000000 in
set_option maxRecDepth 100000 in
theorem impl_tableOk.calls (k : Nat) (A0 : Option Addr) (c0 : Nat) (l0 : List (List ByteArray)) (r : Bool) (w : World) (hr0 : Kd.C (Kd.slice 9 Kd.string) w A0 l0.length l0) (hc0 : l0.length ≤ c0) (h : impl_tableOk.f k l0 = some r) :
  Calls Try.prog 68 #[.slice A0 l0.length c0] w fun e w' => e = .returned (.bool r) ∧ Drawn0 w w' := by
 have HR0 := Aside0.mk hr0
 have HC0 := Aside0.mk hc0
 clear hr0 hc0
 have H : (if (l0.length : Int) < 1 then (impl_tableOk.j0 k l0 true) else (impl_tableOk.j0 k l0 (decide ((l0.length : Int) > 20)))) = some r := h
 clear h
 have HC2 := Aside0.mk H
 clear H
 go_enter Try.func68, Try.ntmps68
 go_upto_region 1 with (fail)
 go_cut [14] (fun v14 wc => ∃ (kq : Nat) (x14_1 : Bool), v14 = .bool x14_1 ∧ Aside0 (impl_tableOk.j0 kq l0 x14_1 = some r) ∧ Aside0 (kq ≤ k) ∧ Drawn0 w wc)
 case first =>
  have H := HC2.out
  clear HC2
  by_cases c3 : (l0.length : Int) < 1
  ·rw [if_pos c3] at H
   have c3b0 : decide ((l0.length : Int) < 1) = true := decide_eq_true c3
   have c3b1 : decide (l0.length < 1) = true := decide_eq_true (by omega)
   clear c3
   (first | rw [c3b0] | (simp only [i64_w, i32_w]; rw [c3b0]) | skip)
   have H' := Aside0.mk H
   clear H
   go_wp2
   go_meet
   case rel => exact ⟨_, (true), (by first|rfl|(simp;done)|(simp[*];done)), H', ⟨by first | omega | exact Nat.le_refl _⟩, by repeat (first | exact Drawn0.refl _ | apply Drawn0.step)⟩
  ·rw [if_neg c3] at H
   have c3b0 : decide ((l0.length : Int) < 1) = false := decide_eq_false c3
   have c3b1 : decide (l0.length < 1) = false := decide_eq_false (by omega)
   clear c3
   (first | rw [c3b0] | (simp only [i64_w, i32_w]; rw [c3b0]) | skip)
   have H' := Aside0.mk H
   clear H
   go_wp2
   go_meet
   case rel => exact ⟨_, (decide ((l0.length : Int) > 20)), (by first|rfl|(simp;done)|(simp[*];done)), H', ⟨by first | omega | exact Nat.le_refl _⟩, by repeat (first | exact Drawn0.refl _ | apply Drawn0.step)⟩
 case rest =>
  clear HC2
  try clear p2
  try clear c3
  try clear c3b0
  try clear c3b1
  obtain ⟨kq, x14_1, rfl, HA, HJ1, ⟨mc1, rfl⟩⟩ := hcut
  cases kq with
  | zero => exact absurd HA.out (by simp [impl_tableOk.j0])
  | succ kj1 =>
   have H := HA.out
   clear HA
   simp only [impl_tableOk.j0] at H
   by_cases c4 : x14_1 = true
   ·subst c4
    have H1 : (some false) = some r := by rw [if_pos rfl] at H; exact H
    clear H
    have H := H1
    clear H1
    obtain rfl := Option.some.inj H
    go_wp2
    go_ret
    exact ⟨by first | rfl | (simp; done) | (simp [*]; done), by repeat (first | exact Drawn0.refl _ | apply Drawn0.step)⟩
   ·replace c4 := Bool.eq_false_iff.mpr c4
    subst c4
    have H1 : (impl_tableOk.l0 kj1 l0 l0 (l0.length : Int) 0) = some r := by rw [if_neg (show ¬ (false = true) by decide)] at H; exact H
    clear H
    have H := H1
    clear H1
    have H' := Aside0.mk H
    clear H
    go_wp2
    go_loopg [17] kj1 (fun kq v17 w' => ∃ (x17_2 : Int), v17 = .int .i64 x17_2 ∧ Aside0 (impl_tableOk.l0 kq l0 l0 (l0.length : Int) x17_2 = some r) ∧ Aside0 (kq ≤ kj1) ∧ Drawn0 w w')
    case atStart => exact ⟨(0), (by first|rfl|(simp;done)|(simp[*];done)), H', ⟨Nat.le_refl _⟩, by repeat (first | exact Drawn0.refl _ | apply Drawn0.step)⟩
    case round =>
     clear H'
     try clear c1
     try clear p2
     try clear c3
     try clear c3b0
     try clear c3b1
     try clear c4
     try clear p2
     obtain ⟨x17_2, rfl, HA, HK2, ⟨m2, rfl⟩⟩ := hrel
     cases gk with
     | zero => exact absurd HA.out (by simp [impl_tableOk.l0])
     | succ k2 =>
      have H := HA.out
      clear HA
      simp only [impl_tableOk.l0] at H
      by_cases c5 : x17_2 < (l0.length : Int)
      ·rw [if_pos c5] at H
       have c5b0 : decide (x17_2 < (l0.length : Int)) = true := decide_eq_true c5
       clear c5
       by_cases c6 : 0 ≤ x17_2
       ·rw [if_pos c6] at H
        have c6b0 : decide (0 ≤ x17_2) = true := decide_eq_true c6
        clear c6
        by_cases c7 : x17_2 < (l0.length : Int)
        ·rw [if_pos c7] at H
         have c7b0 : decide (x17_2 < (l0.length : Int)) = true := decide_eq_true c7
         clear c7
         have HC8 := Aside0.mk H
         clear H
         have p174 : 0 ≤ (x17_2 : Int) := of_decide_eq_true (by first|(with_reducible assumption)|assumption)
         have q174 : x17_2 < (l0.length : Int) := of_decide_eq_true (by first|(with_reducible assumption)|assumption)
         obtain ⟨ad174, A174_0, c174_0, e174, hx174_0, hl174_0, hi174_0⟩ := at_L3 HR0.out x17_2 p174 q174
         cases e174
         have HR174_0 := Aside0.mk hi174_0
         have HC174_0 := Aside0.mk hl174_0
         clear hi174_0 hl174_0
         replace p174 := eq_true p174
         replace q174 := eq_true q174
         go_upto_region 6 with (fail)
         go_cut [37] (fun v37 wc => ∃ (kq : Nat) (x37_7 : Bool), v37 = .bool x37_7 ∧ Aside0 (impl_tableOk.j2 kq l0 (rd_L3 l0 x17_2) l0 (l0.length : Int) x17_2 x37_7 = some r) ∧ Aside0 (kq ≤ k2) ∧ Drawn0 w wc)
         case first =>
          have H := HC8.out
          clear HC8
          by_cases c9 : ((rd_L3 l0 x17_2).length : Int) < 1
          ·rw [if_pos c9] at H
           have c9b0 : decide (((rd_L3 l0 x17_2).length : Int) < 1) = true := decide_eq_true c9
           have c9b1 : decide ((rd_L3 l0 x17_2).length < 1) = true := decide_eq_true (by omega)
           clear c9
           (first | rw [c9b0] | (simp only [i64_w, i32_w]; rw [c9b0]) | skip)
           have H' := Aside0.mk H
           clear H
           go_wp2
           go_meet
           case rel => exact ⟨_, (true), (by first|rfl|(simp;done)|(simp[*];done)), H', ⟨by have := HJ1.out; have := HK2.out; first | omega | exact Nat.le_refl _⟩, by repeat (first | exact Drawn0.refl _ | apply Drawn0.step)⟩
          ·rw [if_neg c9] at H
           have c9b0 : decide (((rd_L3 l0 x17_2).length : Int) < 1) = false := decide_eq_false c9
           have c9b1 : decide ((rd_L3 l0 x17_2).length < 1) = false := decide_eq_false (by omega)
           clear c9
           (first | rw [c9b0] | (simp only [i64_w, i32_w]; rw [c9b0]) | skip)
           by_cases c10 : ((rd_L3 l0 x17_2).length : Int) > 20
           ·rw [if_pos c10] at H
            have c10b0 : decide (20 < ((rd_L3 l0 x17_2).length : Int)) = true := decide_eq_true c10
            have c10b1 : decide (20 < (rd_L3 l0 x17_2).length) = true := decide_eq_true (by omega)
            clear c10
            have H' := Aside0.mk H
            clear H
            go_wp2
            go_meet
            case rel => exact ⟨_, (true), (by first|rfl|(simp;done)|(simp[*];done)), H', ⟨by have := HJ1.out; have := HK2.out; first | omega | exact Nat.le_refl _⟩, by repeat (first | exact Drawn0.refl _ | apply Drawn0.step)⟩
           ·rw [if_neg c10] at H
            have c10b0 : decide (20 < ((rd_L3 l0 x17_2).length : Int)) = false := decide_eq_false c10
            have c10b1 : decide (20 < (rd_L3 l0 x17_2).length) = false := decide_eq_false (by omega)
            clear c10
            by_cases c11 : 0 < (l0.length : Int)
            ·rw [if_pos c11] at H
             have c11b0 : decide (0 < (l0.length : Int)) = true := decide_eq_true c11
             have c11b1 : decide (0 < l0.length) = true := decide_eq_true (by omega)
             clear c11
             have H' := Aside0.mk H
             clear H
             have p175 : 0 ≤ (0 : Int) := (by omega)
             have q175 : 0 < (l0.length : Int) := of_decide_eq_true (by first|(with_reducible assumption)|assumption)
             obtain ⟨ad175, A175_0, c175_0, e175, hx175_0, hl175_0, hi175_0⟩ := at_L3 HR0.out 0 p175 q175
             obtain rfl : ad174 = ad175 := (by injection e175)
             have qi175 : (0 < l0.length) = True := eq_true (by omega)
             (try rw [show ((0 : Int)).toNat = 0 from rfl] at hx175_0)
             (try rw [Addr.add_zero'] at hx175_0)
             have HR175_0 := Aside0.mk hi175_0
             have HC175_0 := Aside0.mk hl175_0
             clear hi175_0 hl175_0
             replace p175 := eq_true p175
             replace q175 := eq_true q175
             go_wp2
             go_meet
             case rel => exact ⟨_, ((((rd_L3 l0 x17_2).length : Int) != ((rd_L3 l0 0).length : Int))), (by first|rfl|(simp;done)|(simp[*];done)), H', ⟨by have := HJ1.out; have := HK2.out; first | omega | exact Nat.le_refl _⟩, by repeat (first | exact Drawn0.refl _ | apply Drawn0.step)⟩
            ·rw [if_neg c11] at H
             exact absurd H (by simp)
         case rest =>
          clear HC8
          try clear c1
          try clear p1
          try clear q1
          try clear hx1
          try clear qi1
          try clear p2
          try clear c3
          try clear c3b0
          try clear c3b1
          try clear c4
          try clear c5
          try clear c5b0
          try clear c6
          try clear c6b0
          try clear c7
          try clear c7b0
          try clear c9
          try clear c9b0
          try clear c9b1
          try clear c10
          try clear c10b0
          try clear c10b1
          try clear c11
          try clear c11b0
          try clear c11b1
          try clear hx174_0
          try clear hx175_0
          try clear p174
          try clear p175
          try clear p2
          try clear q174
          try clear q175
          obtain ⟨kq, x37_7, rfl, HA, HJ7, ⟨mc7, rfl⟩⟩ := hcut
          cases kq with
          | zero => exact absurd HA.out (by simp [impl_tableOk.j2])
          | succ kj7 =>
           have H := HA.out
           clear HA
           simp only [impl_tableOk.j2] at H
           by_cases c12 : x37_7 = true
           ·subst c12
            have H1 : (some false) = some r := by rw [if_pos rfl] at H; exact H
            clear H
            have H := H1
            clear H1
            obtain rfl := Option.some.inj H
            go_wp2
            go_ret
            exact ⟨by first | rfl | (simp; done) | (simp [*]; done), by repeat (first | exact Drawn0.refl _ | apply Drawn0.step)⟩
           ·replace c12 := Bool.eq_false_iff.mpr c12
            subst c12
            have H1 : (impl_tableOk.l1 kj7 l0 l0 (l0.length : Int) x17_2 (rd_L3 l0 x17_2) ((rd_L3 l0 x17_2).length : Int) 0) = some r := by rw [if_neg (show ¬ (false = true) by decide)] at H; exact H
            clear H
            have H := H1
            clear H1
            have H' := Aside0.mk H
            clear H
            go_wp2
            go_loopg [40] kj7 (fun kq v40 w' => ∃ (x40_4 : Int), v40 = .int .i64 x40_4 ∧ Aside0 (impl_tableOk.l1 kq l0 l0 (l0.length : Int) x17_2 (rd_L3 l0 x17_2) ((rd_L3 l0 x17_2).length : Int) x40_4 = some r) ∧ Aside0 (kq ≤ kj7) ∧ Drawn0 w w')
            case atStart => exact ⟨(0), (by first|rfl|(simp;done)|(simp[*];done)), H', ⟨Nat.le_refl _⟩, by repeat (first | exact Drawn0.refl _ | apply Drawn0.step)⟩
            case round =>
             clear H'
             try clear c1
             try clear p1
             try clear q1
             try clear hx1
             try clear qi1
             try clear p2
             try clear c3
             try clear c3b0
             try clear c3b1
             try clear c4
             try clear c5
             try clear c5b0
             try clear c6
             try clear c6b0
             try clear c7
             try clear c7b0
             try clear c9
             try clear c9b0
             try clear c9b1
             try clear c10
             try clear c10b0
             try clear c10b1
             try clear c11
             try clear c11b0
             try clear c11b1
             try clear c12
             try clear hx174_0
             try clear hx175_0
             try clear p1
             try clear p174
             try clear p175
             try clear p2
             try clear q1
             try clear q174
             try clear q175
             obtain ⟨x40_4, rfl, HA, HK4, ⟨m4, rfl⟩⟩ := hrel
             cases gk with
             | zero => exact absurd HA.out (by simp [impl_tableOk.l1])
             | succ k4 =>
              have H := HA.out
              clear HA
              simp only [impl_tableOk.l1] at H
              by_cases c13 : x40_4 < ((rd_L3 l0 x17_2).length : Int)
              ·rw [if_pos c13] at H
               have c13b0 : decide (x40_4 < ((rd_L3 l0 x17_2).length : Int)) = true := decide_eq_true c13
               clear c13
               by_cases c14 : 0 ≤ x40_4
               ·rw [if_pos c14] at H
                have c14b0 : decide (0 ≤ x40_4) = true := decide_eq_true c14
                clear c14
                by_cases c15 : x40_4 < ((rd_L3 l0 x17_2).length : Int)
                ·rw [if_pos c15] at H
                 have c15b0 : decide (x40_4 < ((rd_L3 l0 x17_2).length : Int)) = true := decide_eq_true c15
                 clear c15
                 by_cases c16 : (rdOf ByteArray.empty (rd_L3 l0 x17_2) x40_4).toList = ([] : List UInt8)
                 ·rw [if_pos c16] at H
                  have c16b0 : ((rdOf ByteArray.empty (rd_L3 l0 x17_2) x40_4).toList == ([] : List UInt8)) = true := beq_iff_eq.mpr c16
                  have c16b1 : ((rdOf ByteArray.empty (rd_L3 l0 x17_2) x40_4).toList != ([] : List UInt8)) = false := bne_eq_false_iff_eq.mpr c16
                  clear c16
                  have H' := Aside0.mk H
                  clear H
                  have p176 : 0 ≤ (x40_4 : Int) := of_decide_eq_true (by first|(with_reducible assumption)|assumption)
                  have q176 : x40_4 < ((rd_L3 l0 x17_2).length : Int) := of_decide_eq_true (by first|(with_reducible assumption)|assumption)
                  obtain ⟨ad176, e176, hx176_0⟩ := Kd.at_string HR174_0.out x40_4 p176 q176
                  cases e176
                  replace p176 := eq_true p176
                  replace q176 := eq_true q176
                  go_wp2
                  go_roundg k4
                  case measure => have := HJ1.out; have := HK2.out; have := HJ7.out; have := HK4.out; omega
                  case rel => exact ⟨(wrap64 (x40_4 + 1)), (by first|rfl|(simp;done)|(simp[*];done)), H', ⟨by have := HJ1.out; have := HK2.out; have := HJ7.out; have := HK4.out; omega⟩, by repeat (first | exact Drawn0.refl _ | apply Drawn0.step)⟩
                 ·rw [if_neg c16] at H
                  have c16b0 : ((rdOf ByteArray.empty (rd_L3 l0 x17_2) x40_4).toList == ([] : List UInt8)) = false := beq_eq_false_iff_ne.mpr c16
                  have c16b1 : ((rdOf ByteArray.empty (rd_L3 l0 x17_2) x40_4).toList != ([] : List UInt8)) = true := bne_iff_ne.mpr c16
                  replace H := Option.bind_eq_some_iff.mp H
                  obtain ⟨t177, A170, H⟩ := H
                  replace H : (if t177 = true then (impl_tableOk.l1 k4 l0 l0 (l0.length : Int) x17_2 (rd_L3 l0 x17_2) ((rd_L3 l0 x17_2).length : Int) (wrap64 (x40_4 + 1))) else (some false)) = some r := H
                  have A17 := Aside0.mk A170
                  clear A170
                  by_cases c18 : t177 = true
                  ·subst c18
                   have H1 : (impl_tableOk.l1 k4 l0 l0 (l0.length : Int) x17_2 (rd_L3 l0 x17_2) ((rd_L3 l0 x17_2).length : Int) (wrap64 (x40_4 + 1))) = some r := by rw [if_pos rfl] at H; exact H
                   clear H
                   have H := H1
                   clear H1
                   have H' := Aside0.mk H
                   clear H
                   have p176 : 0 ≤ (x40_4 : Int) := of_decide_eq_true (by first|(with_reducible assumption)|assumption)
                   have q176 : x40_4 < ((rd_L3 l0 x17_2).length : Int) := of_decide_eq_true (by first|(with_reducible assumption)|assumption)
                   obtain ⟨ad176, e176, hx176_0⟩ := Kd.at_string HR174_0.out x40_4 p176 q176
                   cases e176
                   replace p176 := eq_true p176
                   replace q176 := eq_true q176
                   go_wp2_with (first | (go_at_call 83; (with_reducible refine (impl_TextValid.calls k4 (rdOf ByteArray.empty (rd_L3 l0 x17_2) x40_4) true _ A17.out).mono ?_); rintro e w' ⟨rfl, ⟨nd, rfl⟩⟩))
                   go_roundg k4
                   case measure => have := HJ1.out; have := HK2.out; have := HJ7.out; have := HK4.out; omega
                   case rel => exact ⟨(wrap64 (x40_4 + 1)), (by first|rfl|(simp;done)|(simp[*];done)), H', ⟨by have := HJ1.out; have := HK2.out; have := HJ7.out; have := HK4.out; omega⟩, by repeat (first | exact Drawn0.refl _ | apply Drawn0.step)⟩
                  ·replace c18 := Bool.eq_false_iff.mpr c18
                   subst c18
                   have H1 : (some false) = some r := by rw [if_neg (show ¬ (false = true) by decide)] at H; exact H
                   clear H
                   have H := H1
                   clear H1
                   obtain rfl := Option.some.inj H
                   have p176 : 0 ≤ (x40_4 : Int) := of_decide_eq_true (by first|(with_reducible assumption)|assumption)
                   have q176 : x40_4 < ((rd_L3 l0 x17_2).length : Int) := of_decide_eq_true (by first|(with_reducible assumption)|assumption)
                   obtain ⟨ad176, e176, hx176_0⟩ := Kd.at_string HR174_0.out x40_4 p176 q176
                   cases e176
                   replace p176 := eq_true p176
                   replace q176 := eq_true q176
                   go_wp2_with (first | (go_at_call 83; (with_reducible refine (impl_TextValid.calls k4 (rdOf ByteArray.empty (rd_L3 l0 x17_2) x40_4) false _ A17.out).mono ?_); rintro e w' ⟨rfl, ⟨nd, rfl⟩⟩))
                   go_ret
                   exact ⟨by first | rfl | (simp; done) | (simp [*]; done), by repeat (first | exact Drawn0.refl _ | apply Drawn0.step)⟩
                ·rw [if_neg c15] at H
                 exact absurd H (by simp)
               ·rw [if_neg c14] at H
                exact absurd H (by simp)
              ·rw [if_neg c13] at H
               have c13b0 : decide (x40_4 < ((rd_L3 l0 x17_2).length : Int)) = false := decide_eq_false c13
               clear c13
               have H' := Aside0.mk H
               clear H
               go_wp2
               go_roundg k4
               case measure => have := HJ1.out; have := HK2.out; have := HJ7.out; have := HK4.out; omega
               case rel => exact ⟨(wrap64 (x17_2 + 1)), (by first|rfl|(simp;done)|(simp[*];done)), H', ⟨by have := HJ1.out; have := HK2.out; have := HJ7.out; have := HK4.out; omega⟩, by repeat (first | exact Drawn0.refl _ | apply Drawn0.step)⟩
        ·rw [if_neg c7] at H
         exact absurd H (by simp)
       ·rw [if_neg c6] at H
        exact absurd H (by simp)
      ·rw [if_neg c5] at H
       have c5b0 : decide (x17_2 < (l0.length : Int)) = false := decide_eq_false c5
       clear c5
       obtain rfl := Option.some.inj H
       go_wp2
       go_ret
       exact ⟨by first | rfl | (simp; done) | (simp [*]; done), by repeat (first | exact Drawn0.refl _ | apply Drawn0.step)⟩

/-! ### impl_ColumnWidths: function 41 -/
mutual
def impl_ColumnWidths.l0 : Nat → List Int → List (List ByteArray) → Int → Int → Option (List Int × Bool)
 | 0, _, _, _, _ => none
 | k + 1, x4, x17, x18, x19 => if x19 < x18 then (if 0 ≤ x19 then (if x19 < (x17.length : Int) then (impl_ColumnWidths.l1 k x4 x17 x18 x19 (rd_L3 x17 x19) ((rd_L3 x17 x19).length : Int) 0) else (none)) else (none)) else (some (x4, true))
def impl_ColumnWidths.l1 : Nat → List Int → List (List ByteArray) → Int → Int → List ByteArray → Int → Int → Option (List Int × Bool)
 | 0, _, _, _, _, _, _, _ => none
 | k + 1, x4, x17, x18, x19, x23, x24, x25 => if x25 < x24 then (if 0 ≤ x25 then (if x25 < (x23.length : Int) then (if x25 < (x4.length : Int) then (impl_ColumnWidths.l1 k (x4.set (x25 : Int).toNat (mx (rd x4 x25) ((rdOf ByteArray.empty x23 x25).size : Int))) x17 x18 x19 x23 x24 (wrap64 (x25 + 1))) else (none)) else (none)) else (none)) else (impl_ColumnWidths.l0 k x4 x17 x18 (wrap64 (x19 + 1)))
end
def impl_ColumnWidths.f (k : Nat) (l0 : List (List ByteArray)) : Option (List Int × Bool) := (impl_tableOk.f k l0).bind fun t178 => (if t178 = true then (if 0 < (l0.length : Int) then (if 0 ≤ ((rd_L3 l0 0).length : Int) then (if (((rd_L3 l0 0).length : Int) : Int).toNat ≤ 35184372088832 then (impl_ColumnWidths.l0 k (List.replicate (((rd_L3 l0 0).length : Int) : Int).toNat 0) l0 (l0.length : Int) 0) else (none)) else (none)) else (none)) else (some (([] : List Int), false)))
theorem impl_ColumnWidths.mono_l : ∀ k, (∀ y0 y1 y2 y3, LeO (impl_ColumnWidths.l0 k y0 y1 y2 y3) (impl_ColumnWidths.l0 (k + 1) y0 y1 y2 y3)) ∧ (∀ y0 y1 y2 y3 y4 y5 y6, LeO (impl_ColumnWidths.l1 k y0 y1 y2 y3 y4 y5 y6) (impl_ColumnWidths.l1 (k + 1) y0 y1 y2 y3 y4 y5 y6))
 | 0 => ⟨fun _ _ _ _ r h => by simp [impl_ColumnWidths.l0] at h, fun _ _ _ _ _ _ _ r h => by simp [impl_ColumnWidths.l1] at h⟩
 | k + 1 => by
  obtain ⟨ih0, ih1⟩ := impl_ColumnWidths.mono_l k
  refine ⟨?_, ?_⟩
  ·intro y0 y1 y2 y3
   unfold impl_ColumnWidths.l0
   repeat' first
   | (with_reducible exact ih0 _ _ _ _)
   | (with_reducible exact ih1 _ _ _ _ _ _ _)
   | (with_reducible exact impl_tableOk.mono _ _)
   | (with_reducible exact LeO.refl _)
   | (with_reducible exact LeO.none _)
   | (with_reducible refine LeO.ite ?_ ?_)
   | (with_reducible refine LeO.bind ?_ (fun _ => ?_))
   | exact ih0 _ _ _ _
   | exact ih1 _ _ _ _ _ _ _
   | exact impl_tableOk.mono _ _
   | exact LeO.none _
   | refine LeO.ite ?_ ?_
   | refine LeO.bind ?_ (fun _ => ?_)
  ·intro y0 y1 y2 y3 y4 y5 y6
   unfold impl_ColumnWidths.l1
   repeat' first
   | (with_reducible exact ih0 _ _ _ _)
   | (with_reducible exact ih1 _ _ _ _ _ _ _)
   | (with_reducible exact impl_tableOk.mono _ _)
   | (with_reducible exact LeO.refl _)
   | (with_reducible exact LeO.none _)
   | (with_reducible refine LeO.ite ?_ ?_)
   | (with_reducible refine LeO.bind ?_ (fun _ => ?_))
   | exact ih0 _ _ _ _
   | exact ih1 _ _ _ _ _ _ _
   | exact impl_tableOk.mono _ _
   | exact LeO.none _
   | refine LeO.ite ?_ ?_
   | refine LeO.bind ?_ (fun _ => ?_)
theorem impl_ColumnWidths.mono : ∀ a0 k, LeO (impl_ColumnWidths.f k a0) (impl_ColumnWidths.f (k + 1) a0) := by
 intro a0 k
 obtain ⟨ih0, ih1⟩ := impl_ColumnWidths.mono_l k
 unfold impl_ColumnWidths.f
 repeat' first
   | (with_reducible exact ih0 _ _ _ _)
   | (with_reducible exact ih1 _ _ _ _ _ _ _)
   | (with_reducible exact impl_tableOk.mono _ _)
   | (with_reducible exact LeO.refl _)
   | (with_reducible exact LeO.none _)
   | (with_reducible refine LeO.ite ?_ ?_)
   | (with_reducible refine LeO.bind ?_ (fun _ => ?_))
   | exact ih0 _ _ _ _
   | exact ih1 _ _ _ _ _ _ _
   | exact impl_tableOk.mono _ _
   | exact LeO.none _
   | refine LeO.ite ?_ ?_
   | refine LeO.bind ?_ (fun _ => ?_)
set_option maxHeartbeats 8000000 in
set_option maxRecDepth 100000 in
theorem impl_ColumnWidths.calls (k : Nat) (A0 : Option Addr) (c0 : Nat) (l0 : List (List ByteArray)) (r1 : List Int) (r2 : Bool) (w : World) (hr0 : Kd.C (Kd.slice 9 Kd.string) w A0 l0.length l0) (hc0 : l0.length ≤ c0) (h : impl_ColumnWidths.f k l0 = some (r1, r2)) :
  Calls Try.prog 41 #[.slice A0 l0.length c0] w fun e w' => ∃ v0_ : Value, e = .returned (.tuple #[v0_, .bool r2]) ∧ Kd.R (Kd.int .i64) 3 w' w.heap.size (fun _ => True) v0_ r1 ∧ Below w.heap.size w w' := by
 have HR0 := Aside0.mk hr0
 have HC0 := Aside0.mk hc0
 clear hr0 hc0
 have HB := Aside0.mk (Below.refl w.heap.size w)
 have H : ((impl_tableOk.f k l0).bind fun t178 => (if t178 = true then (if 0 < (l0.length : Int) then (if 0 ≤ ((rd_L3 l0 0).length : Int) then (if (((rd_L3 l0 0).length : Int) : Int).toNat ≤ 35184372088832 then (impl_ColumnWidths.l0 k (List.replicate (((rd_L3 l0 0).length : Int) : Int).toNat 0) l0 (l0.length : Int) 0) else (none)) else (none)) else (none)) else (some (([] : List Int), false)))) = some (r1, r2) := h
 clear h
 replace H := Option.bind_eq_some_iff.mp H
 obtain ⟨t178, A20, H⟩ := H
 replace H : (if t178 = true then (if 0 < (l0.length : Int) then (if 0 ≤ ((rd_L3 l0 0).length : Int) then (if (((rd_L3 l0 0).length : Int) : Int).toNat ≤ 35184372088832 then (impl_ColumnWidths.l0 k (List.replicate (((rd_L3 l0 0).length : Int) : Int).toNat 0) l0 (l0.length : Int) 0) else (none)) else (none)) else (none)) else (some (([] : List Int), false))) = some (r1, r2) := H
 have A2 := Aside0.mk A20
 clear A20
 by_cases c3 : t178 = true
 ·subst c3
  have H1 : (if 0 < (l0.length : Int) then (if 0 ≤ ((rd_L3 l0 0).length : Int) then (if (((rd_L3 l0 0).length : Int) : Int).toNat ≤ 35184372088832 then (impl_ColumnWidths.l0 k (List.replicate (((rd_L3 l0 0).length : Int) : Int).toNat 0) l0 (l0.length : Int) 0) else (none)) else (none)) else (none)) = some (r1, r2) := by rw [if_pos rfl] at H; exact H
  clear H
  have H := H1
  clear H1
  by_cases c4 : 0 < (l0.length : Int)
  ·rw [if_pos c4] at H
   have c4b0 : decide (0 < (l0.length : Int)) = true := decide_eq_true c4
   have c4b1 : decide (0 < l0.length) = true := decide_eq_true (by omega)
   clear c4
   by_cases c5 : 0 ≤ ((rd_L3 l0 0).length : Int)
   ·rw [if_pos c5] at H
    have c5b0 := eq_true c5
    have c5b1 : decide (0 ≤ ((rd_L3 l0 0).length : Int)) = true := decide_eq_true c5
    clear c5
    by_cases c6 : (((rd_L3 l0 0).length : Int) : Int).toNat ≤ 35184372088832
    ·rw [if_pos c6] at H
     have c6b0 := eq_true c6
     have c6b1 : decide ((((rd_L3 l0 0).length : Int) : Int).toNat ≤ 35184372088832) = true := decide_eq_true c6
     clear c6
     obtain ⟨y180, hy180⟩ : ∃ y_ : List Int, y_ = (List.replicate (((rd_L3 l0 0).length : Int) : Int).toNat 0) := ⟨_, rfl⟩
     replace H : (impl_ColumnWidths.l0 k y180 l0 (l0.length : Int) 0) = some (r1, r2) := by first | (rw [hy180]; with_reducible exact H) | (have H2_ := (Option.bind_some _ _).symm.trans H; rw [hy180]; with_reducible exact H2_) | (have H2_ := (Option.bind_some _ _).symm.trans H; with_reducible exact H2_) | with_reducible exact H | (rw [hy180]; exact H) | exact H
     have Ny180 := Aside0.mk hy180
     clear hy180
     have H' := Aside0.mk H
     clear H
     go_enter Try.func41, Try.ntmps41
     go_wp2_with (first | ((with_reducible refine gate_callee (f := 68) rfl ?_); refine goesL_ (some 10) rfl rfl Try.func68 (by kernel_rfl) rfl #[.slice A0 l0.length c0] rfl (by (try simp only [List.map_toArray, List.map_cons, List.map_nil]); first | done | rfl | (simp only [List.length_drop, List.length_take]; rfl)) ?_; (with_reducible refine (impl_tableOk.calls k _ _ l0 true _ ?side1 ?side2 A2.out).mono ?_); (case side1 => repeat (first | exact HR0.out | (with_reducible refine Kd.C_alloc ?_ _) | (with_reducible refine Kd.C_drewN ?_ _) | (with_reducible refine Kd.C_drew ?_))); (case side2 => exact HC0.out); rintro e w' ⟨rfl, ⟨nd, rfl⟩⟩; refine ⟨_, rfl, ?_⟩; have p179 : 0 ≤ (0 : Int) := (by omega); have q179 : 0 < (l0.length : Int) := of_decide_eq_true (by first|(with_reducible assumption)|assumption); obtain ⟨ad179, A179_0, c179_0, e179, hx179_0, hl179_0, hi179_0⟩ := at_L3 HR0.out 0 p179 q179; cases e179; have qi179 : (0 < l0.length) = True := eq_true (by omega); (try rw [show ((0 : Int)).toNat = 0 from rfl] at hx179_0); (try rw [Addr.add_zero'] at hx179_0); have HR179_0 := Aside0.mk hi179_0; have HC179_0 := Aside0.mk hl179_0; clear hi179_0 hl179_0; replace p179 := eq_true p179; replace q179 := eq_true q179) | ((with_reducible refine gate_dst (N := 16) rfl ?_); refine Kd.R_make (Kd.int .i64) _ 3 rfl (N := 16) rfl 57 _ _ rfl ((rd_L3 l0 0).length : Int) rfl rfl Try.underlying57 (.int .i64 0) 8 info3 rfl (by decide) (by omega) 0 (ok := fun _ => True) (okp := fun _ => True) rfl (fun _ hk => hk) trivial (of_decide_eq_true (by first|(with_reducible assumption)|assumption)) (Nat.le_trans (Nat.mul_le_mul_right _ (of_decide_eq_true (by first|(with_reducible assumption)|assumption) : ((rd_L3 l0 0).length : Int).toNat ≤ 35184372088832)) (by omega)) (Below.refl _ _) (Nat.le_refl _) ?_; intro v181 w7 ho8 hb hg_ hnew_; clear hg_ hnew_; (first | rw [← Ny180.out] at ho8 | (simp only [Int.reduceToNat] at ho8; rw [← Ny180.out] at ho8)); have n0_ := Aside0.mk (Kd.R_lower ho8 (below_size (by repeat (first|(with_reducible first|exact HB.out|apply below_alloc|apply pw_below_drewN|apply below_drew1)|exact HB.out)))); have n1_ := Aside0.mk (below_step (by repeat (first|(with_reducible first|exact HB.out|apply below_alloc|apply pw_below_drewN|apply below_drew1)|exact HB.out)) hb); clear HB; have HO182 := n0_; have HB := n1_; clear n0_ n1_; clear hb ho8))
     go_loopg [19] k (fun kq v19 w' => ∃ (x4_1 : List Int) (x19_1 : Int), v19 = .int .i64 x19_1 ∧ Aside0 (impl_ColumnWidths.l0 kq x4_1 l0 (l0.length : Int) x19_1 = some (r1, r2)) ∧ Aside0 (kq ≤ k) ∧ Aside0 (Kd.R (Kd.int .i64) 3 w' w.heap.size (fun _ => True) v181 x4_1) ∧ Aside0 (Below w.heap.size w w'))
     case atStart => exact ⟨(y180), (0), (by first|rfl|(simp;done)|(simp[*];done)), H', ⟨Nat.le_refl _⟩, ⟨by (with_reducible repeat (first|apply Kd.R_alloc|apply Kd.R_drewN|apply Kd.R_drew)); exact HO182.out⟩, ⟨by repeat (first|(with_reducible first|exact HB.out|apply below_alloc|apply pw_below_drewN|apply below_drew1)|exact HB.out)⟩⟩
     case round =>
      clear H'
      try clear c1
      try clear p1
      try clear q1
      try clear hx1
      try clear qi1
      try clear p2
      try clear c3
      try clear c4
      try clear c4b0
      try clear c4b1
      try clear c5
      try clear c5b0
      try clear c5b1
      try clear c6
      try clear c6b0
      try clear c6b1
      try clear hx179_0
      try clear p179
      try clear q179
      obtain ⟨x4_1, x19_1, rfl, HA, HK1, HO_4, HB⟩ := hrel
      cases gk with
      | zero => exact absurd HA.out (by simp [impl_ColumnWidths.l0])
      | succ k1 =>
       have H := HA.out
       clear HA
       simp only [impl_ColumnWidths.l0] at H
       by_cases c9 : x19_1 < (l0.length : Int)
       ·rw [if_pos c9] at H
        have c9b0 : decide (x19_1 < (l0.length : Int)) = true := decide_eq_true c9
        clear c9
        by_cases c10 : 0 ≤ x19_1
        ·rw [if_pos c10] at H
         have c10b0 : decide (0 ≤ x19_1) = true := decide_eq_true c10
         clear c10
         by_cases c11 : x19_1 < (l0.length : Int)
         ·rw [if_pos c11] at H
          have c11b0 : decide (x19_1 < (l0.length : Int)) = true := decide_eq_true c11
          clear c11
          have H' := Aside0.mk H
          clear H
          have p183 : 0 ≤ (x19_1 : Int) := of_decide_eq_true (by first|(with_reducible assumption)|assumption)
          have q183 : x19_1 < (l0.length : Int) := of_decide_eq_true (by first|(with_reducible assumption)|assumption)
          obtain ⟨ad183, A183_0, c183_0, e183, hx183_0, hl183_0, hi183_0⟩ := at_L3 HR0.out x19_1 p183 q183
          obtain rfl : ad179 = ad183 := (by injection e183)
          replace hx183_0 := (HB.out.cell (World.block_lt_of_cell? w _ hx183_0)).trans hx183_0
          have HR183_0 := Aside0.mk hi183_0
          have HC183_0 := Aside0.mk hl183_0
          clear hi183_0 hl183_0
          replace p183 := eq_true p183
          replace q183 := eq_true q183
          go_wp2
          go_loopg [25] k1 (fun kq v25 w' => ∃ (x4_2 : List Int) (x25_2 : Int), v25 = .int .i64 x25_2 ∧ Aside0 (impl_ColumnWidths.l1 kq x4_2 l0 (l0.length : Int) x19_1 (rd_L3 l0 x19_1) ((rd_L3 l0 x19_1).length : Int) x25_2 = some (r1, r2)) ∧ Aside0 (kq ≤ k1) ∧ Aside0 (Kd.R (Kd.int .i64) 3 w' w.heap.size (fun _ => True) v181 x4_2) ∧ Aside0 (Below w.heap.size w w'))
          case atStart => exact ⟨(x4_1), (0), (by first|rfl|(simp;done)|(simp[*];done)), H', ⟨Nat.le_refl _⟩, ⟨by (with_reducible repeat (first|apply Kd.R_alloc|apply Kd.R_drewN|apply Kd.R_drew)); exact HO_4.out⟩, ⟨by repeat (first|(with_reducible first|exact HB.out|apply below_alloc|apply pw_below_drewN|apply below_drew1)|exact HB.out)⟩⟩
          case round =>
           clear H'
           try clear c1
           try clear p1
           try clear q1
           try clear hx1
           try clear qi1
           try clear p2
           try clear c3
           try clear c4
           try clear c4b0
           try clear c4b1
           try clear c5
           try clear c5b0
           try clear c5b1
           try clear c6
           try clear c6b0
           try clear c6b1
           try clear c9
           try clear c9b0
           try clear c10
           try clear c10b0
           try clear c11
           try clear c11b0
           try clear hx179_0
           try clear hx183_0
           try clear p1
           try clear p179
           try clear p183
           try clear p2
           try clear q1
           try clear q179
           try clear q183
           obtain ⟨x4_2, x25_2, rfl, HA, HK2, HO_4, HB⟩ := hrel
           cases gk with
           | zero => exact absurd HA.out (by simp [impl_ColumnWidths.l1])
           | succ k2 =>
            have H := HA.out
            clear HA
            simp only [impl_ColumnWidths.l1] at H
            by_cases c12 : x25_2 < ((rd_L3 l0 x19_1).length : Int)
            ·rw [if_pos c12] at H
             have c12b0 : decide (x25_2 < ((rd_L3 l0 x19_1).length : Int)) = true := decide_eq_true c12
             clear c12
             by_cases c13 : 0 ≤ x25_2
             ·rw [if_pos c13] at H
              have c13b0 : decide (0 ≤ x25_2) = true := decide_eq_true c13
              clear c13
              by_cases c14 : x25_2 < ((rd_L3 l0 x19_1).length : Int)
              ·rw [if_pos c14] at H
               have c14b0 : decide (x25_2 < ((rd_L3 l0 x19_1).length : Int)) = true := decide_eq_true c14
               clear c14
               by_cases c15 : x25_2 < (x4_2.length : Int)
               ·rw [if_pos c15] at H
                have c15b0 : decide (x25_2 < (x4_2.length : Int)) = true := decide_eq_true c15
                clear c15
                obtain ⟨ji16, hji16⟩ : ∃ j_ : Int, (mx (rd x4_2 x25_2) ((rdOf ByteArray.empty (rd_L3 l0 x19_1) x25_2).size : Int)) = j_ := ⟨_, rfl⟩
                replace H : (impl_ColumnWidths.l1 k2 (x4_2.set (x25_2 : Int).toNat (ji16)) l0 (l0.length : Int) x19_1 (rd_L3 l0 x19_1) ((rd_L3 l0 x19_1).length : Int) (wrap64 (x25_2 + 1))) = some (r1, r2) := by first | (rw [hji16] at H; exact H) | (simp only [hji16] at H ⊢; exact H)
                have hji16_ : (if (rd x4_2 x25_2) < ((rdOf ByteArray.empty (rd_L3 l0 x19_1) x25_2).size : Int) then ((rdOf ByteArray.empty (rd_L3 l0 x19_1) x25_2).size : Int) else (rd x4_2 x25_2)) = ji16 := hji16
                obtain ⟨y186, hy186⟩ : ∃ y_ : List Int, y_ = (x4_2.set (x25_2 : Int).toNat (ji16)) := ⟨_, rfl⟩
                replace H : (impl_ColumnWidths.l1 k2 y186 l0 (l0.length : Int) x19_1 (rd_L3 l0 x19_1) ((rd_L3 l0 x19_1).length : Int) (wrap64 (x25_2 + 1))) = some (r1, r2) := by first | (rw [hy186]; with_reducible exact H) | (have H2_ := (Option.bind_some _ _).symm.trans H; rw [hy186]; with_reducible exact H2_) | (have H2_ := (Option.bind_some _ _).symm.trans H; with_reducible exact H2_) | with_reducible exact H | (rw [hy186]; exact H) | exact H
                have Ny186 := Aside0.mk hy186
                clear hy186
                have H' := Aside0.mk H
                clear H
                have p184 : 0 ≤ (x25_2 : Int) := of_decide_eq_true (by first|(with_reducible assumption)|assumption)
                have q184 : x25_2 < ((rd_L3 l0 x19_1).length : Int) := of_decide_eq_true (by first|(with_reducible assumption)|assumption)
                obtain ⟨ad184, e184, hx184_0⟩ := Kd.at_string HR183_0.out x25_2 p184 q184
                cases e184
                replace hx184_0 := (HB.out.cell (World.block_lt_of_cell? w _ hx184_0)).trans hx184_0
                replace p184 := eq_true p184
                replace q184 := eq_true q184
                obtain ⟨Ao18, co18, eo18⟩ := Kd.R_slice HO_4.out
                subst eo18
                have p185 : 0 ≤ (x25_2 : Int) := of_decide_eq_true (by first|(with_reducible assumption)|assumption)
                have q185 : x25_2 < (x4_2.length : Int) := of_decide_eq_true (by first|(with_reducible assumption)|assumption)
                obtain ⟨ad185, e185, hx185_0⟩ := Kd.at_int (Kd.R_reads' HO_4.out).2.2 x25_2 p185 q185
                cases e185
                replace p185 := eq_true p185
                replace q185 := eq_true q185
                have p17 : 0 ≤ (x25_2 : Int) := of_decide_eq_true (by first|(with_reducible assumption)|assumption)
                have q17 : (x25_2 : Int) < ((x4_2.length : Int) : Int) := of_decide_eq_true (by first|(with_reducible assumption)|assumption)
                obtain ⟨go17, co17, eo17, gb17, gl17, cl17, HG17⟩ := Kd.R_form HO_4.out (by omega)
                (first | cases eo17 | (injection eo17 with ea_ en_ ec_; (first | subst ea_ | (injection ea_ with ea_; subst ea_)); subst ec_; clear en_))
                have GB17 := Aside0.mk gb17
                have GG17 := Aside0.mk HG17
                clear gb17 gl17 HG17
                (first | simp only [add_plain] at hx185_0 | skip)
                obtain ⟨hx17_0, hf17_0⟩ := Kd.R_celln 0 HO_4.out (x25_2 : Int) p17 q17
                replace p17 := eq_true p17
                replace q17 := eq_true q17
                have HP19 := Kd.R_putg HO_4.out (x25_2 : Int) ji16
                go_wp2_with (first | ((with_reducible refine gate_store (t := 3) (p := 39) rfl ?_); refine store_event (t := 3) (p := 39) (v := ?vo_w20) (w1 := (wr.setCell ⟨go17, (x25_2 : Int).toNat, none⟩ (.int .i64 ji16))) ?hg ?ho ?hn ?hr ?_; (case ho => rfl); (case hg => rfl); (case hn => rfl); (case hr => first | (go_simp; done) | (go_simp; rfl)); intro w20 hw; have hg : wr.grownBy w20 (some go17) := (by rw [hw]; exact HP19.2); have hp_ : Kd.R (Kd.int .i64) 3 w20 w.heap.size (fun _ => True) (.slice (some ⟨go17, 0, none⟩) x4_2.length co18) y186 := (by rw [hw, Ny186.out]; exact HP19.1); clear HP19; have n0_ := Aside0.mk (hp_); have n1_ := Aside0.mk ((by rw [hw]; exact below_set (HB.out) GB17.out : Below w.heap.size w w20)); clear HO_4; clear HB; have HO_4 := n0_; have HB := n1_; clear n0_ n1_; clear hg hw hp_))
                go_roundg k2
                case measure => have := HK1.out; have := HK2.out; omega
                case rel => exact ⟨(y186), (wrap64 (x25_2 + 1)), (by first|rfl|(simp;done)|(simp[*];done)), H', ⟨by have := HK1.out; have := HK2.out; omega⟩, ⟨by (with_reducible repeat (first|apply Kd.R_alloc|apply Kd.R_drewN|apply Kd.R_drew)); exact HO_4.out⟩, ⟨by repeat (first|(with_reducible first|exact HB.out|apply below_alloc|apply pw_below_drewN|apply below_drew1)|exact HB.out)⟩⟩
               ·rw [if_neg c15] at H
                exact absurd H (by simp)
              ·rw [if_neg c14] at H
               exact absurd H (by simp)
             ·rw [if_neg c13] at H
              exact absurd H (by simp)
            ·rw [if_neg c12] at H
             have c12b0 : decide (x25_2 < ((rd_L3 l0 x19_1).length : Int)) = false := decide_eq_false c12
             clear c12
             have H' := Aside0.mk H
             clear H
             go_wp2
             go_roundg k2
             case measure => have := HK1.out; have := HK2.out; omega
             case rel => exact ⟨(x4_2), (wrap64 (x19_1 + 1)), (by first|rfl|(simp;done)|(simp[*];done)), H', ⟨by have := HK1.out; have := HK2.out; omega⟩, ⟨by (with_reducible repeat (first|apply Kd.R_alloc|apply Kd.R_drewN|apply Kd.R_drew)); exact HO_4.out⟩, ⟨by repeat (first|(with_reducible first|exact HB.out|apply below_alloc|apply pw_below_drewN|apply below_drew1)|exact HB.out)⟩⟩
         ·rw [if_neg c11] at H
          exact absurd H (by simp)
        ·rw [if_neg c10] at H
         exact absurd H (by simp)
       ·rw [if_neg c9] at H
        have c9b0 : decide (x19_1 < (l0.length : Int)) = false := decide_eq_false c9
        clear c9
        simp only [Option.some.injEq, Prod.mk.injEq] at H
        obtain ⟨rfl, rfl⟩ := H
        go_wp2
        go_ret2
        exact ⟨_, by first | rfl | (simp [errW_none, errW_some] <;> rfl) | (simp [*, errW_none, errW_some] <;> rfl), by (with_reducible repeat (first|apply Kd.R_alloc|apply Kd.R_drewN|apply Kd.R_drew)); exact HO_4.out, by repeat (first|(with_reducible first|exact HB.out|apply below_alloc|apply pw_below_drewN|apply below_drew1)|exact HB.out)⟩
    ·rw [if_neg c6] at H
     exact absurd H (by simp)
   ·rw [if_neg c5] at H
    exact absurd H (by simp)
  ·rw [if_neg c4] at H
   exact absurd H (by simp)
 ·replace c3 := Bool.eq_false_iff.mpr c3
  subst c3
  have H1 : (some (([] : List Int), false)) = some (r1, r2) := by rw [if_neg (show ¬ (false = true) by decide)] at H; exact H
  clear H
  have H := H1
  clear H1
  simp only [Option.some.injEq, Prod.mk.injEq] at H
  obtain ⟨rfl, rfl⟩ := H
  go_enter Try.func41, Try.ntmps41
  go_wp2_with (first | ((with_reducible refine gate_callee (f := 68) rfl ?_); refine goesL_ (some 10) rfl rfl Try.func68 (by kernel_rfl) rfl #[.slice A0 l0.length c0] rfl (by (try simp only [List.map_toArray, List.map_cons, List.map_nil]); first | done | rfl | (simp only [List.length_drop, List.length_take]; rfl)) ?_; (with_reducible refine (impl_tableOk.calls k _ _ l0 false _ ?side1 ?side2 A2.out).mono ?_); (case side1 => repeat (first | exact HR0.out | (with_reducible refine Kd.C_alloc ?_ _) | (with_reducible refine Kd.C_drewN ?_ _) | (with_reducible refine Kd.C_drew ?_))); (case side2 => exact HC0.out); rintro e w' ⟨rfl, ⟨nd, rfl⟩⟩; refine ⟨_, rfl, ?_⟩))
  go_ret2
  exact ⟨_, by first | rfl | (simp [errW_none, errW_some] <;> rfl) | (simp [*, errW_none, errW_some] <;> rfl), by first | exact Kd.R_nil _ _ _ _ _ | exact Kd.N_nil _ _ _ _ _ | exact Kd.V_nil _ _ _ _ _ | exact Kd.Q_nil _ _ _ _ _ | exact Kd.S_nil _ _ _ _ _, by repeat (first|(with_reducible first|exact HB.out|apply below_alloc|apply pw_below_drewN|apply below_drew1)|exact HB.out)⟩

/-! ### strings_Join: function 52 -/
def strings_Join.f (l0 : List ByteArray) (a1 : ByteArray) : Option ByteArray := if l0.length ≤ 140737488355328 ∧ (Lib.join (l0.map (·.data.toList)) a1.data.toList).length ≤ 140737488355328 then some ⟨(Lib.join (l0.map (·.data.toList)) a1.data.toList).toArray⟩ else none
theorem strings_Join.calls (A0 : Option Addr) (c0 : Nat) (l0 : List ByteArray) (a1 : ByteArray) (r : ByteArray) (w : World) (hr0 : Kd.C Kd.string w A0 l0.length l0) (hc0 : l0.length ≤ c0) (h : strings_Join.f l0 a1 = some r) :
  Calls Try.prog 52 #[.slice A0 l0.length c0, .string a1] w fun e w' => e = .returned (.string r) ∧ Below w.heap.size w w' := by
 unfold strings_Join.f at h
 by_cases hc : l0.length ≤ 140737488355328 ∧ (Lib.join (l0.map (·.data.toList)) a1.data.toList).length ≤ 140737488355328
 ·rw [if_pos hc] at h
  obtain rfl := Option.some.inj h
  cases hl : l0 with
  | nil => exact (Any.strings_Join_none Try.lays156 Try.Builder_Extra_156 A0 c0 a1 w).mono fun e w' ⟨he, hw⟩ => ⟨he, hw ▸ Below.refl _ _⟩
  | cons x0 xs0 =>
   rw [← hl]
   have hpos : 0 < l0.length := by rw [hl]; simp
   obtain ⟨ad, e, hx⟩ := Kd.at_string hr0 0 (by omega) (by omega)
   have hsp : ad = ⟨ad.block, ad.off, none⟩ := by
    rw [show (0 : Int).toNat = 0 from rfl, Addr.add_zero'] at hx
    obtain ⟨b, o, s⟩ := ad
    unfold World.cell? at hx
    cases s with
    | none => rfl
    | some q => split at hx <;> simp at hx
   subst e
   rw [hsp]
   refine Any.strings_Join Try.lays156 Try.Builder_Extra_156 ad.block ad.off c0 l0 a1 w ?_ (World.block_lt_of_cell? w _ hx) hc.1 hc0 hc.2
   intro j x hj
   have hjl := (List.getElem?_eq_some_iff.1 hj).1
   obtain ⟨ad', e', hx'⟩ := Kd.at_string hr0 (j : Int) (by omega) (by omega)
   obtain rfl := Option.some.inj e'
   rw [Int.toNat_natCast, hsp, Addr.add_lit] at hx'
   rw [hx']
   unfold rdOf
   rw [Int.toNat_natCast, List.getD_eq_getElem?_getD, hj]; rfl
 ·rw [if_neg hc] at h
  cases h

/-! ### strings_Repeat: function 61 -/
def strings_Repeat.f (a0 : ByteArray) (a1 : Int) : Option ByteArray := if 0 ≤ a1 ∧ a1 ≤ 9223372036854775807 ∧ a0.size * a1.toNat ≤ 140737488355328 then some ⟨(Lib.repeatL a0.data.toList a1.toNat).toArray⟩ else none
theorem strings_Repeat.calls (a0 : ByteArray) (a1 : Int) (r : ByteArray) (w : World) (h : strings_Repeat.f a0 a1 = some r) :
  Calls Try.prog 61 #[.string a0, .int .i64 a1] w fun e w' => e = .returned (.string r) ∧ Below w.heap.size w w' := by
 unfold strings_Repeat.f at h
 by_cases hc : 0 ≤ a1 ∧ a1 ≤ 9223372036854775807 ∧ a0.size * a1.toNat ≤ 140737488355328
 ·rw [if_pos hc] at h
  obtain rfl := Option.some.inj h
  obtain ⟨m, rfl⟩ := Int.eq_ofNat_of_zero_le hc.1
  exact Any.strings_Repeat Try.lays105 Try.Builder_Extra_105 a0 m w (by omega) hc.2.2
 ·rw [if_neg hc] at h
  cases h

/-! ### impl_padded: function 60 -/
def impl_padded.f (a0 : ByteArray) (a1 : Int) : Option (ByteArray) := (strings_Repeat.f (⟨#[32]⟩ : ByteArray) (mx 0 (wrap64 (a1 - (a0.size : Int))))).bind fun t187 => (if a0.size + t187.size ≤ 9223372036854775807 then (some (a0 ++ t187)) else (none))
set_option maxHeartbeats 8000000 in
set_option maxRecDepth 100000 in
theorem impl_padded.calls (a0 : ByteArray) (a1 : Int) (r : ByteArray) (w : World) (h : impl_padded.f a0 a1 = some r) :
  Calls Try.prog 60 #[.string a0, .int .i64 a1] w fun e w' => e = .returned (.string r) ∧ Below w.heap.size w w' := by
 have HB := Aside0.mk (Below.refl w.heap.size w)
 have H : ((strings_Repeat.f (⟨#[32]⟩ : ByteArray) (mx 0 (wrap64 (a1 - (a0.size : Int))))).bind fun t187 => (if a0.size + t187.size ≤ 9223372036854775807 then (some (a0 ++ t187)) else (none))) = some r := h
 clear h
 obtain ⟨ji3, hji3⟩ : ∃ j_ : Int, (mx 0 (wrap64 (a1 - (a0.size : Int)))) = j_ := ⟨_, rfl⟩
 replace H : ((strings_Repeat.f (⟨#[32]⟩ : ByteArray) (ji3)).bind fun t187 => (if a0.size + t187.size ≤ 9223372036854775807 then (some (a0 ++ t187)) else (none))) = some r := by first | (rw [hji3] at H; exact H) | (simp only [hji3] at H ⊢; exact H)
 (try (have hji3l : 0 ≤ ji3 := by (rw [← hji3]; unfold mx; (repeat' split) <;> omega)))
 (try (have hji3m : 0 ≤ ji3 := by omega))
 have hji3_ : (if 0 < (wrap64 (a1 - (a0.size : Int))) then (wrap64 (a1 - (a0.size : Int))) else 0) = ji3 := hji3
 replace H := Option.bind_eq_some_iff.mp H
 obtain ⟨t187, A40, H⟩ := H
 replace H : (if a0.size + t187.size ≤ 9223372036854775807 then (some (a0 ++ t187)) else (none)) = some r := H
 have A4 := Aside0.mk A40
 clear A40
 by_cases c5 : a0.size + t187.size ≤ 9223372036854775807
 ·rw [if_pos c5] at H
  have c5b0 := eq_true c5
  have c5b1 : decide (a0.size + t187.size ≤ 9223372036854775807) = true := decide_eq_true c5
  try have c5b2 : (9223372036854775807 < a0.size + t187.size) = False := eq_false (Nat.not_lt.2 c5)
  obtain rfl := Option.some.inj H
  go_enter Try.func60, Try.ntmps60
  go_wp2_with (first | ((with_reducible refine gate_callee (f := 61) rfl ?_); refine goesL_ (some 11) rfl rfl Try.func61 (by kernel_rfl) rfl #[.string (⟨#[32]⟩ : ByteArray), .int .i64 ji3] rfl (by (try simp only [List.map_toArray, List.map_cons, List.map_nil]); first | done | (simp only [hji3]; rfl) | rfl | (simp only [List.length_drop, List.length_take]; rfl)) ?_; (with_reducible refine (strings_Repeat.calls (⟨#[32]⟩ : ByteArray) ji3 t187 _ A4.out).mono ?_); rintro e w6 ⟨rfl, hb⟩; refine ⟨_, rfl, ?_⟩; have n0_ := Aside0.mk (below_step (by repeat (first|(with_reducible first|exact HB.out|apply below_alloc|apply pw_below_drewN|apply below_drew1)|exact HB.out)) hb); clear HB; have HB := n0_; clear n0_; (try clear hb); (try clear hb2); (try clear hk); (try clear hi)))
  go_ret
  exact ⟨by first | rfl | (simp [errW_none, errW_some] <;> rfl) | (simp only [← hji3]; first | rfl | (simp [errW_none, errW_some] <;> rfl)) | (simp [*, errW_none, errW_some] <;> rfl), by repeat (first|(with_reducible first|exact HB.out|apply below_alloc|apply pw_below_drewN|apply below_drew1)|exact HB.out)⟩
 ·rw [if_neg c5] at H
  exact absurd H (by simp)

end Go.Proofs.Ythcfocpimoghbaa.PTa
