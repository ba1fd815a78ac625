-- Written by a program of this session (xprint). -- COMPACT
import Derived.Test.YtcbjlaphoajngaaPFwx0
import Derived.Test.YtcbjlaphoajngaaPFwx3
namespace Go.Proofs.Ytcbjlaphoajngaa.PFw
open Go.RowKit Go.Proofs.YtcbjlaphoajngaaW.PrintWords Go.Proofs.YtcbjlaphoajngaaW.PrintLast Go.Proofs.YtcbjlaphoajngaaW.PrintMore
attribute [local go_sem] max2_int min2_int max_two min_two max_three min_three max_four min_four   -- for this text's walks alone
set_option linter.unusedVariables false
set_option linter.unusedSimpArgs false

/-! ### impl_tableOk: function 54 -/
mutual
def impl_tableOk.j0 : Nat → List (List ByteArray) → Bool → Option (Bool)
 | 0, _, _ => none
 | k + 1, x0, x14 => if x14 = true then (some false) else (impl_tableOk.l0 k x0 x0 (x0.length : Int) 0)
def impl_tableOk.l0 : Nat → List (List ByteArray) → List (List ByteArray) → Int → Int → Option (Bool)
 | 0, _, _, _, _ => none
 | k + 1, x0, x15, x16, x17 => if x17 < x16 then (if 0 ≤ x17 then (if x17 < (x15.length : Int) then (if ((rd_L3 x15 x17).length : Int) < 1 then (impl_tableOk.j2 k x0 (rd_L3 x15 x17) x15 x16 x17 true) else (if ((rd_L3 x15 x17).length : Int) > 20 then (impl_tableOk.j2 k x0 (rd_L3 x15 x17) x15 x16 x17 true) else (if 0 < (x0.length : Int) then (impl_tableOk.j2 k x0 (rd_L3 x15 x17) x15 x16 x17 (((rd_L3 x15 x17).length : Int) != ((rd_L3 x0 0).length : Int))) else (none)))) else (none)) else (none)) else (some true)
def impl_tableOk.j2 : Nat → List (List ByteArray) → List ByteArray → List (List ByteArray) → Int → Int → Bool → Option (Bool)
 | 0, _, _, _, _, _, _ => none
 | k + 1, x0, x4, x15, x16, x17, x37 => if x37 = true then (some false) else (impl_tableOk.l1 k x0 x15 x16 x17 x4 (x4.length : Int) 0)
def impl_tableOk.l1 : Nat → List (List ByteArray) → List (List ByteArray) → Int → Int → List ByteArray → Int → Int → Option (Bool)
 | 0, _, _, _, _, _, _, _ => none
 | k + 1, x0, x15, x16, x17, x38, x39, x40 => if x40 < x39 then (if 0 ≤ x40 then (if x40 < (x38.length : Int) then (if (rdOf ByteArray.empty x38 x40).toList = ([] : List UInt8) then (impl_tableOk.l1 k x0 x15 x16 x17 x38 x39 (wrap64 (x40 + 1))) else ((impl_TextValid.f k (rdOf ByteArray.empty x38 x40)).bind fun t172 => (if t172 = true then (impl_tableOk.l1 k x0 x15 x16 x17 x38 x39 (wrap64 (x40 + 1))) else (some false)))) else (none)) else (none)) else (impl_tableOk.l0 k x0 x15 x16 (wrap64 (x17 + 1)))
end
def impl_tableOk.f (k : Nat) (l0 : List (List ByteArray)) : Option (Bool) := if (l0.length : Int) < 1 then (impl_tableOk.j0 k l0 true) else (impl_tableOk.j0 k l0 (decide ((l0.length : Int) > 20)))
theorem impl_tableOk.mono_l : ∀ k, (∀ y0 y1, LeO (impl_tableOk.j0 k y0 y1) (impl_tableOk.j0 (k + 1) y0 y1)) ∧ (∀ y0 y1 y2 y3, LeO (impl_tableOk.l0 k y0 y1 y2 y3) (impl_tableOk.l0 (k + 1) y0 y1 y2 y3)) ∧ (∀ y0 y1 y2 y3 y4 y5, LeO (impl_tableOk.j2 k y0 y1 y2 y3 y4 y5) (impl_tableOk.j2 (k + 1) y0 y1 y2 y3 y4 y5)) ∧ (∀ y0 y1 y2 y3 y4 y5 y6, LeO (impl_tableOk.l1 k y0 y1 y2 y3 y4 y5 y6) (impl_tableOk.l1 (k + 1) y0 y1 y2 y3 y4 y5 y6))
 | 0 => ⟨fun _ _ r h => by simp [impl_tableOk.j0] at h, fun _ _ _ _ r h => by simp [impl_tableOk.l0] at h, fun _ _ _ _ _ _ r h => by simp [impl_tableOk.j2] at h, fun _ _ _ _ _ _ _ r h => by simp [impl_tableOk.l1] at h⟩
 | k + 1 => by
  obtain ⟨ih0, ih1, ih2, ih3⟩ := impl_tableOk.mono_l k
  refine ⟨?_, ?_, ?_, ?_⟩
  ·intro y0 y1
   unfold impl_tableOk.j0
   repeat' first
   | (with_reducible exact ih0 _ _)
   | (with_reducible exact ih1 _ _ _ _)
   | (with_reducible exact ih2 _ _ _ _ _ _)
   | (with_reducible exact ih3 _ _ _ _ _ _ _)
   | (with_reducible exact impl_TextValid.mono _ _)
   | (with_reducible exact LeO.refl _)
   | (with_reducible exact LeO.none _)
   | (with_reducible refine LeO.ite ?_ ?_)
   | (with_reducible refine LeO.bind ?_ (fun _ => ?_))
   | exact ih0 _ _
   | exact ih1 _ _ _ _
   | exact ih2 _ _ _ _ _ _
   | exact ih3 _ _ _ _ _ _ _
   | exact impl_TextValid.mono _ _
   | exact LeO.none _
   | refine LeO.ite ?_ ?_
   | refine LeO.bind ?_ (fun _ => ?_)
  ·intro y0 y1 y2 y3
   unfold impl_tableOk.l0
   repeat' first
   | (with_reducible exact ih0 _ _)
   | (with_reducible exact ih1 _ _ _ _)
   | (with_reducible exact ih2 _ _ _ _ _ _)
   | (with_reducible exact ih3 _ _ _ _ _ _ _)
   | (with_reducible exact impl_TextValid.mono _ _)
   | (with_reducible exact LeO.refl _)
   | (with_reducible exact LeO.none _)
   | (with_reducible refine LeO.ite ?_ ?_)
   | (with_reducible refine LeO.bind ?_ (fun _ => ?_))
   | exact ih0 _ _
   | exact ih1 _ _ _ _
   | exact ih2 _ _ _ _ _ _
   | exact ih3 _ _ _ _ _ _ _
   | exact impl_TextValid.mono _ _
   | exact LeO.none _
   | refine LeO.ite ?_ ?_
   | refine LeO.bind ?_ (fun _ => ?_)
  ·intro y0 y1 y2 y3 y4 y5
   unfold impl_tableOk.j2
   repeat' first
   | (with_reducible exact ih0 _ _)
   | (with_reducible exact ih1 _ _ _ _)
   | (with_reducible exact ih2 _ _ _ _ _ _)
   | (with_reducible exact ih3 _ _ _ _ _ _ _)
   | (with_reducible exact impl_TextValid.mono _ _)
   | (with_reducible exact LeO.refl _)
   | (with_reducible exact LeO.none _)
   | (with_reducible refine LeO.ite ?_ ?_)
   | (with_reducible refine LeO.bind ?_ (fun _ => ?_))
   | exact ih0 _ _
   | exact ih1 _ _ _ _
   | exact ih2 _ _ _ _ _ _
   | exact ih3 _ _ _ _ _ _ _
   | exact impl_TextValid.mono _ _
   | exact LeO.none _
   | refine LeO.ite ?_ ?_
   | refine LeO.bind ?_ (fun _ => ?_)
  ·intro y0 y1 y2 y3 y4 y5 y6
   unfold impl_tableOk.l1
   repeat' first
   | (with_reducible exact ih0 _ _)
   | (with_reducible exact ih1 _ _ _ _)
   | (with_reducible exact ih2 _ _ _ _ _ _)
   | (with_reducible exact ih3 _ _ _ _ _ _ _)
   | (with_reducible exact impl_TextValid.mono _ _)
   | (with_reducible exact LeO.refl _)
   | (with_reducible exact LeO.none _)
   | (with_reducible refine LeO.ite ?_ ?_)
   | (with_reducible refine LeO.bind ?_ (fun _ => ?_))
   | exact ih0 _ _
   | exact ih1 _ _ _ _
   | exact ih2 _ _ _ _ _ _
   | exact ih3 _ _ _ _ _ _ _
   | exact impl_TextValid.mono _ _
   | exact LeO.none _
   | refine LeO.ite ?_ ?_
   | refine LeO.bind ?_ (fun _ => ?_)
theorem impl_tableOk.mono : ∀ a0 k, LeO (impl_tableOk.f k a0) (impl_tableOk.f (k + 1) a0) := by
 intro a0 k
 obtain ⟨ih0, ih1, ih2, ih3⟩ := impl_tableOk.mono_l k
 unfold impl_tableOk.f
 repeat' first
   | (with_reducible exact ih0 _ _)
   | (with_reducible exact ih1 _ _ _ _)
   | (with_reducible exact ih2 _ _ _ _ _ _)
   | (with_reducible exact ih3 _ _ _ _ _ _ _)
   | (with_reducible exact impl_TextValid.mono _ _)
   | (with_reducible exact LeO.refl _)
   | (with_reducible exact LeO.none _)
   | (with_reducible refine LeO.ite ?_ ?_)
   | (with_reducible refine LeO.bind ?_ (fun _ => ?_))
   | exact ih0 _ _
   | exact ih1 _ _ _ _
   | exact ih2 _ _ _ _ _ _
   | exact ih3 _ _ _ _ _ _ _
   | exact impl_TextValid.mono _ _
   | exact LeO.none _
   | refine LeO.ite ?_ ?_
   | refine LeO.bind ?_ (fun _ => ?_)
set_option maxHeartbeats 8000000 in
set_option maxRecDepth 100000 in
theorem impl_tableOk.calls (k : Nat) (A0 : Option Addr) (c0 : Nat) (l0 : List (List ByteArray)) (r : Bool) (w : World) (hr0 : Kd.C (Kd.slice 9 Kd.string) w A0 l0.length l0) (hc0 : l0.length ≤ c0) (h : impl_tableOk.f k l0 = some r) :
  Calls Try.prog 54 #[.slice A0 l0.length c0] w fun e w' => e = .returned (.bool r) ∧ Drawn0 w w' := by
 have HR0 := Aside0.mk hr0
 have HC0 := Aside0.mk hc0
 clear hr0 hc0
 have H : (if (l0.length : Int) < 1 then (impl_tableOk.j0 k l0 true) else (impl_tableOk.j0 k l0 (decide ((l0.length : Int) > 20)))) = some r := h
 clear h
 have HC2 := Aside0.mk H
 clear H
 go_enter Try.func54, Try.ntmps54
 go_upto_region 1 with (fail)
 go_cut [14] (fun v14 wc => ∃ (kq : Nat) (x14_1 : Bool), v14 = .bool x14_1 ∧ Aside0 (impl_tableOk.j0 kq l0 x14_1 = some r) ∧ Aside0 (kq ≤ k) ∧ Drawn0 w wc)
 case first =>
  have H := HC2.out
  clear HC2
  by_cases c3 : (l0.length : Int) < 1
  ·rw [if_pos c3] at H
   have c3b0 : decide ((l0.length : Int) < 1) = true := decide_eq_true c3
   have c3b1 : decide (l0.length < 1) = true := decide_eq_true (by omega)
   clear c3
   (first | rw [c3b0] | (simp only [i64_w, i32_w]; rw [c3b0]) | skip)
   have H' := Aside0.mk H
   clear H
   go_wp2
   go_meet
   case rel => exact ⟨_, (true), (by first|rfl|(simp;done)|(simp[*];done)), H', ⟨by first | omega | exact Nat.le_refl _⟩, by repeat (first | exact Drawn0.refl _ | apply Drawn0.step)⟩
  ·rw [if_neg c3] at H
   have c3b0 : decide ((l0.length : Int) < 1) = false := decide_eq_false c3
   have c3b1 : decide (l0.length < 1) = false := decide_eq_false (by omega)
   clear c3
   (first | rw [c3b0] | (simp only [i64_w, i32_w]; rw [c3b0]) | skip)
   have H' := Aside0.mk H
   clear H
   go_wp2
   go_meet
   case rel => exact ⟨_, (decide ((l0.length : Int) > 20)), (by first|rfl|(simp;done)|(simp[*];done)), H', ⟨by first | omega | exact Nat.le_refl _⟩, by repeat (first | exact Drawn0.refl _ | apply Drawn0.step)⟩
 case rest =>
  clear HC2
  try clear p2
  try clear c3
  try clear c3b0
  try clear c3b1
  obtain ⟨kq, x14_1, rfl, HA, HJ1, ⟨mc1, rfl⟩⟩ := hcut
  cases kq with
  | zero => exact absurd HA.out (by simp [impl_tableOk.j0])
  | succ kj1 =>
   have H := HA.out
   clear HA
   simp only [impl_tableOk.j0] at H
   by_cases c4 : x14_1 = true
   ·subst c4
    have H1 : (some false) = some r := by rw [if_pos rfl] at H; exact H
    clear H
    have H := H1
    clear H1
    obtain rfl := Option.some.inj H
    go_wp2
    go_ret
    exact ⟨by first | rfl | (simp; done) | (simp [*]; done), by repeat (first | exact Drawn0.refl _ | apply Drawn0.step)⟩
   ·replace c4 := Bool.eq_false_iff.mpr c4
    subst c4
    have H1 : (impl_tableOk.l0 kj1 l0 l0 (l0.length : Int) 0) = some r := by rw [if_neg (show ¬ (false = true) by decide)] at H; exact H
    clear H
    have H := H1
    clear H1
    have H' := Aside0.mk H
    clear H
    go_wp2
    go_loopg [17] kj1 (fun kq v17 w' => ∃ (x17_2 : Int), v17 = .int .i64 x17_2 ∧ Aside0 (impl_tableOk.l0 kq l0 l0 (l0.length : Int) x17_2 = some r) ∧ Aside0 (kq ≤ kj1) ∧ Drawn0 w w')
    case atStart => exact ⟨(0), (by first|rfl|(simp;done)|(simp[*];done)), H', ⟨Nat.le_refl _⟩, by repeat (first | exact Drawn0.refl _ | apply Drawn0.step)⟩
    case round =>
     clear H'
     try clear c1
     try clear p2
     try clear c3
     try clear c3b0
     try clear c3b1
     try clear c4
     try clear p2
     obtain ⟨x17_2, rfl, HA, HK2, ⟨m2, rfl⟩⟩ := hrel
     cases gk with
     | zero => exact absurd HA.out (by simp [impl_tableOk.l0])
     | succ k2 =>
      have H := HA.out
      clear HA
      simp only [impl_tableOk.l0] at H
      by_cases c5 : x17_2 < (l0.length : Int)
      ·rw [if_pos c5] at H
       have c5b0 : decide (x17_2 < (l0.length : Int)) = true := decide_eq_true c5
       clear c5
       by_cases c6 : 0 ≤ x17_2
       ·rw [if_pos c6] at H
        have c6b0 : decide (0 ≤ x17_2) = true := decide_eq_true c6
        clear c6
        by_cases c7 : x17_2 < (l0.length : Int)
        ·rw [if_pos c7] at H
         have c7b0 : decide (x17_2 < (l0.length : Int)) = true := decide_eq_true c7
         clear c7
         have HC8 := Aside0.mk H
         clear H
         have p169 : 0 ≤ (x17_2 : Int) := of_decide_eq_true (by first|(with_reducible assumption)|assumption)
         have q169 : x17_2 < (l0.length : Int) := of_decide_eq_true (by first|(with_reducible assumption)|assumption)
         obtain ⟨ad169, A169_0, c169_0, e169, hx169_0, hl169_0, hi169_0⟩ := at_L3 HR0.out x17_2 p169 q169
         cases e169
         have HR169_0 := Aside0.mk hi169_0
         have HC169_0 := Aside0.mk hl169_0
         clear hi169_0 hl169_0
         replace p169 := eq_true p169
         replace q169 := eq_true q169
         go_upto_region 6 with (fail)
         go_cut [37] (fun v37 wc => ∃ (kq : Nat) (x37_7 : Bool), v37 = .bool x37_7 ∧ Aside0 (impl_tableOk.j2 kq l0 (rd_L3 l0 x17_2) l0 (l0.length : Int) x17_2 x37_7 = some r) ∧ Aside0 (kq ≤ k2) ∧ Drawn0 w wc)
         case first =>
          have H := HC8.out
          clear HC8
          by_cases c9 : ((rd_L3 l0 x17_2).length : Int) < 1
          ·rw [if_pos c9] at H
           have c9b0 : decide (((rd_L3 l0 x17_2).length : Int) < 1) = true := decide_eq_true c9
           have c9b1 : decide ((rd_L3 l0 x17_2).length < 1) = true := decide_eq_true (by omega)
           clear c9
           (first | rw [c9b0] | (simp only [i64_w, i32_w]; rw [c9b0]) | skip)
           have H' := Aside0.mk H
           clear H
           go_wp2
           go_meet
           case rel => exact ⟨_, (true), (by first|rfl|(simp;done)|(simp[*];done)), H', ⟨by have := HJ1.out; have := HK2.out; first | omega | exact Nat.le_refl _⟩, by repeat (first | exact Drawn0.refl _ | apply Drawn0.step)⟩
          ·rw [if_neg c9] at H
           have c9b0 : decide (((rd_L3 l0 x17_2).length : Int) < 1) = false := decide_eq_false c9
           have c9b1 : decide ((rd_L3 l0 x17_2).length < 1) = false := decide_eq_false (by omega)
           clear c9
           (first | rw [c9b0] | (simp only [i64_w, i32_w]; rw [c9b0]) | skip)
           by_cases c10 : ((rd_L3 l0 x17_2).length : Int) > 20
           ·rw [if_pos c10] at H
            have c10b0 : decide (20 < ((rd_L3 l0 x17_2).length : Int)) = true := decide_eq_true c10
            have c10b1 : decide (20 < (rd_L3 l0 x17_2).length) = true := decide_eq_true (by omega)
            clear c10
            have H' := Aside0.mk H
            clear H
            go_wp2
            go_meet
            case rel => exact ⟨_, (true), (by first|rfl|(simp;done)|(simp[*];done)), H', ⟨by have := HJ1.out; have := HK2.out; first | omega | exact Nat.le_refl _⟩, by repeat (first | exact Drawn0.refl _ | apply Drawn0.step)⟩
           ·rw [if_neg c10] at H
            have c10b0 : decide (20 < ((rd_L3 l0 x17_2).length : Int)) = false := decide_eq_false c10
            have c10b1 : decide (20 < (rd_L3 l0 x17_2).length) = false := decide_eq_false (by omega)
            clear c10
            by_cases c11 : 0 < (l0.length : Int)
            ·rw [if_pos c11] at H
             have c11b0 : decide (0 < (l0.length : Int)) = true := decide_eq_true c11
             have c11b1 : decide (0 < l0.length) = true := decide_eq_true (by omega)
             clear c11
             have H' := Aside0.mk H
             clear H
             have p170 : 0 ≤ (0 : Int) := (by omega)
             have q170 : 0 < (l0.length : Int) := of_decide_eq_true (by first|(with_reducible assumption)|assumption)
             obtain ⟨ad170, A170_0, c170_0, e170, hx170_0, hl170_0, hi170_0⟩ := at_L3 HR0.out 0 p170 q170
             obtain rfl : ad169 = ad170 := (by injection e170)
             have qi170 : (0 < l0.length) = True := eq_true (by omega)
             (try rw [show ((0 : Int)).toNat = 0 from rfl] at hx170_0)
             (try rw [Addr.add_zero'] at hx170_0)
             have HR170_0 := Aside0.mk hi170_0
             have HC170_0 := Aside0.mk hl170_0
             clear hi170_0 hl170_0
             replace p170 := eq_true p170
             replace q170 := eq_true q170
             go_wp2
             go_meet
             case rel => exact ⟨_, ((((rd_L3 l0 x17_2).length : Int) != ((rd_L3 l0 0).length : Int))), (by first|rfl|(simp;done)|(simp[*];done)), H', ⟨by have := HJ1.out; have := HK2.out; first | omega | exact Nat.le_refl _⟩, by repeat (first | exact Drawn0.refl _ | apply Drawn0.step)⟩
            ·rw [if_neg c11] at H
             exact absurd H (by simp)
         case rest =>
          clear HC8
          try clear c1
          try clear p1
          try clear q1
          try clear hx1
          try clear qi1
          try clear p2
          try clear c3
          try clear c3b0
          try clear c3b1
          try clear c4
          try clear c5
          try clear c5b0
          try clear c6
          try clear c6b0
          try clear c7
          try clear c7b0
          try clear c9
          try clear c9b0
          try clear c9b1
          try clear c10
          try clear c10b0
          try clear c10b1
          try clear c11
          try clear c11b0
          try clear c11b1
          try clear hx169_0
          try clear hx170_0
          try clear p169
          try clear p170
          try clear p2
          try clear q169
          try clear q170
          obtain ⟨kq, x37_7, rfl, HA, HJ7, ⟨mc7, rfl⟩⟩ := hcut
          cases kq with
          | zero => exact absurd HA.out (by simp [impl_tableOk.j2])
          | succ kj7 =>
           have H := HA.out
           clear HA
           simp only [impl_tableOk.j2] at H
           by_cases c12 : x37_7 = true
           ·subst c12
            have H1 : (some false) = some r := by rw [if_pos rfl] at H; exact H
            clear H
            have H := H1
            clear H1
            obtain rfl := Option.some.inj H
            go_wp2
            go_ret
            exact ⟨by first | rfl | (simp; done) | (simp [*]; done), by repeat (first | exact Drawn0.refl _ | apply Drawn0.step)⟩
           ·replace c12 := Bool.eq_false_iff.mpr c12
            subst c12
            have H1 : (impl_tableOk.l1 kj7 l0 l0 (l0.length : Int) x17_2 (rd_L3 l0 x17_2) ((rd_L3 l0 x17_2).length : Int) 0) = some r := by rw [if_neg (show ¬ (false = true) by decide)] at H; exact H
            clear H
            have H := H1
            clear H1
            have H' := Aside0.mk H
            clear H
            go_wp2
            go_loopg [40] kj7 (fun kq v40 w' => ∃ (x40_4 : Int), v40 = .int .i64 x40_4 ∧ Aside0 (impl_tableOk.l1 kq l0 l0 (l0.length : Int) x17_2 (rd_L3 l0 x17_2) ((rd_L3 l0 x17_2).length : Int) x40_4 = some r) ∧ Aside0 (kq ≤ kj7) ∧ Drawn0 w w')
            case atStart => exact ⟨(0), (by first|rfl|(simp;done)|(simp[*];done)), H', ⟨Nat.le_refl _⟩, by repeat (first | exact Drawn0.refl _ | apply Drawn0.step)⟩
            case round =>
             clear H'
             try clear c1
             try clear p1
             try clear q1
             try clear hx1
             try clear qi1
             try clear p2
             try clear c3
             try clear c3b0
             try clear c3b1
             try clear c4
             try clear c5
             try clear c5b0
             try clear c6
             try clear c6b0
             try clear c7
             try clear c7b0
             try clear c9
             try clear c9b0
             try clear c9b1
             try clear c10
             try clear c10b0
             try clear c10b1
             try clear c11
             try clear c11b0
             try clear c11b1
             try clear c12
             try clear hx169_0
             try clear hx170_0
             try clear p1
             try clear p169
             try clear p170
             try clear p2
             try clear q1
             try clear q169
             try clear q170
             obtain ⟨x40_4, rfl, HA, HK4, ⟨m4, rfl⟩⟩ := hrel
             cases gk with
             | zero => exact absurd HA.out (by simp [impl_tableOk.l1])
             | succ k4 =>
              have H := HA.out
              clear HA
              simp only [impl_tableOk.l1] at H
              by_cases c13 : x40_4 < ((rd_L3 l0 x17_2).length : Int)
              ·rw [if_pos c13] at H
               have c13b0 : decide (x40_4 < ((rd_L3 l0 x17_2).length : Int)) = true := decide_eq_true c13
               clear c13
               by_cases c14 : 0 ≤ x40_4
               ·rw [if_pos c14] at H
                have c14b0 : decide (0 ≤ x40_4) = true := decide_eq_true c14
                clear c14
                by_cases c15 : x40_4 < ((rd_L3 l0 x17_2).length : Int)
                ·rw [if_pos c15] at H
                 have c15b0 : decide (x40_4 < ((rd_L3 l0 x17_2).length : Int)) = true := decide_eq_true c15
                 clear c15
                 by_cases c16 : (rdOf ByteArray.empty (rd_L3 l0 x17_2) x40_4).toList = ([] : List UInt8)
                 ·rw [if_pos c16] at H
                  have c16b0 : ((rdOf ByteArray.empty (rd_L3 l0 x17_2) x40_4).toList == ([] : List UInt8)) = true := beq_iff_eq.mpr c16
                  have c16b1 : ((rdOf ByteArray.empty (rd_L3 l0 x17_2) x40_4).toList != ([] : List UInt8)) = false := bne_eq_false_iff_eq.mpr c16
                  clear c16
                  have H' := Aside0.mk H
                  clear H
                  have p171 : 0 ≤ (x40_4 : Int) := of_decide_eq_true (by first|(with_reducible assumption)|assumption)
                  have q171 : x40_4 < ((rd_L3 l0 x17_2).length : Int) := of_decide_eq_true (by first|(with_reducible assumption)|assumption)
                  obtain ⟨ad171, e171, hx171_0⟩ := Kd.at_string HR169_0.out x40_4 p171 q171
                  cases e171
                  replace p171 := eq_true p171
                  replace q171 := eq_true q171
                  go_wp2
                  go_roundg k4
                  case measure => have := HJ1.out; have := HK2.out; have := HJ7.out; have := HK4.out; omega
                  case rel => exact ⟨(wrap64 (x40_4 + 1)), (by first|rfl|(simp;done)|(simp[*];done)), H', ⟨by have := HJ1.out; have := HK2.out; have := HJ7.out; have := HK4.out; omega⟩, by repeat (first | exact Drawn0.refl _ | apply Drawn0.step)⟩
                 ·rw [if_neg c16] at H
                  have c16b0 : ((rdOf ByteArray.empty (rd_L3 l0 x17_2) x40_4).toList == ([] : List UInt8)) = false := beq_eq_false_iff_ne.mpr c16
                  have c16b1 : ((rdOf ByteArray.empty (rd_L3 l0 x17_2) x40_4).toList != ([] : List UInt8)) = true := bne_iff_ne.mpr c16
                  replace H := Option.bind_eq_some_iff.mp H
                  obtain ⟨t172, A170, H⟩ := H
                  replace H : (if t172 = true then (impl_tableOk.l1 k4 l0 l0 (l0.length : Int) x17_2 (rd_L3 l0 x17_2) ((rd_L3 l0 x17_2).length : Int) (wrap64 (x40_4 + 1))) else (some false)) = some r := H
                  have A17 := Aside0.mk A170
                  clear A170
                  by_cases c18 : t172 = true
                  ·subst c18
                   have H1 : (impl_tableOk.l1 k4 l0 l0 (l0.length : Int) x17_2 (rd_L3 l0 x17_2) ((rd_L3 l0 x17_2).length : Int) (wrap64 (x40_4 + 1))) = some r := by rw [if_pos rfl] at H; exact H
                   clear H
                   have H := H1
                   clear H1
                   have H' := Aside0.mk H
                   clear H
                   have p171 : 0 ≤ (x40_4 : Int) := of_decide_eq_true (by first|(with_reducible assumption)|assumption)
                   have q171 : x40_4 < ((rd_L3 l0 x17_2).length : Int) := of_decide_eq_true (by first|(with_reducible assumption)|assumption)
                   obtain ⟨ad171, e171, hx171_0⟩ := Kd.at_string HR169_0.out x40_4 p171 q171
                   cases e171
                   replace p171 := eq_true p171
                   replace q171 := eq_true q171
                   go_wp2_with (first | (go_at_call 46; (with_reducible refine (impl_TextValid.calls k4 (rdOf ByteArray.empty (rd_L3 l0 x17_2) x40_4) true _ A17.out).mono ?_); rintro e w' ⟨rfl, ⟨nd, rfl⟩⟩))
                   go_roundg k4
                   case measure => have := HJ1.out; have := HK2.out; have := HJ7.out; have := HK4.out; omega
                   case rel => exact ⟨(wrap64 (x40_4 + 1)), (by first|rfl|(simp;done)|(simp[*];done)), H', ⟨by have := HJ1.out; have := HK2.out; have := HJ7.out; have := HK4.out; omega⟩, by repeat (first | exact Drawn0.refl _ | apply Drawn0.step)⟩
                  ·replace c18 := Bool.eq_false_iff.mpr c18
                   subst c18
                   have H1 : (some false) = some r := by rw [if_neg (show ¬ (false = true) by decide)] at H; exact H
                   clear H
                   have H := H1
                   clear H1
                   obtain rfl := Option.some.inj H
                   have p171 : 0 ≤ (x40_4 : Int) := of_decide_eq_true (by first|(with_reducible assumption)|assumption)
                   have q171 : x40_4 < ((rd_L3 l0 x17_2).length : Int) := of_decide_eq_true (by first|(with_reducible assumption)|assumption)
                   obtain ⟨ad171, e171, hx171_0⟩ := Kd.at_string HR169_0.out x40_4 p171 q171
                   cases e171
                   replace p171 := eq_true p171
                   replace q171 := eq_true q171
                   go_wp2_with (first | (go_at_call 46; (with_reducible refine (impl_TextValid.calls k4 (rdOf ByteArray.empty (rd_L3 l0 x17_2) x40_4) false _ A17.out).mono ?_); rintro e w' ⟨rfl, ⟨nd, rfl⟩⟩))
                   go_ret
                   exact ⟨by first | rfl | (simp; done) | (simp [*]; done), by repeat (first | exact Drawn0.refl _ | apply Drawn0.step)⟩
                ·rw [if_neg c15] at H
                 exact absurd H (by simp)
               ·rw [if_neg c14] at H
                exact absurd H (by simp)
              ·rw [if_neg c13] at H
               have c13b0 : decide (x40_4 < ((rd_L3 l0 x17_2).length : Int)) = false := decide_eq_false c13
               clear c13
               have H' := Aside0.mk H
               clear H
               go_wp2
               go_roundg k4
               case measure => have := HJ1.out; have := HK2.out; have := HJ7.out; have := HK4.out; omega
               case rel => exact ⟨(wrap64 (x17_2 + 1)), (by first|rfl|(simp;done)|(simp[*];done)), H', ⟨by have := HJ1.out; have := HK2.out; have := HJ7.out; have := HK4.out; omega⟩, by repeat (first | exact Drawn0.refl _ | apply Drawn0.step)⟩
        ·rw [if_neg c7] at H
         exact absurd H (by simp)
       ·rw [if_neg c6] at H
        exact absurd H (by simp)
      ·rw [if_neg c5] at H
       have c5b0 : decide (x17_2 < (l0.length : Int)) = false := decide_eq_false c5
       clear c5
       obtain rfl := Option.some.inj H
       go_wp2
       go_ret
       exact ⟨by first | rfl | (simp; done) | (simp [*]; done), by repeat (first | exact Drawn0.refl _ | apply Drawn0.step)⟩

/-! ### impl_FlipCells: function 34 -/
mutual
def impl_FlipCells.l0 : Nat → List (List ByteArray) → List (List ByteArray) → Int → Int → Option ((List (List ByteArray)) × Bool)
 | 0, _, _, _, _ => none
 | k + 1, x4, x17, x18, x19 => if x19 < x18 then (if 0 ≤ x19 then (if x19 < (x17.length : Int) then (impl_FlipCells.l1 k x4 x17 x18 x19 (rd_L3 x17 x19) ((rd_L3 x17 x19).length : Int) 0) else (none)) else (none)) else (some (x4, true))
def impl_FlipCells.l1 : Nat → List (List ByteArray) → List (List ByteArray) → Int → Int → List ByteArray → Int → Int → Option ((List (List ByteArray)) × Bool)
 | 0, _, _, _, _, _, _, _ => none
 | k + 1, x4, x17, x18, x19, x23, x24, x25 => if x25 < x24 then (if 0 ≤ x25 then (if x25 < (x23.length : Int) then (if x25 < (x4.length : Int) then (if (rd_L3 x4 x25).length < 8796093022208 then (impl_FlipCells.l1 k (x4.set (x25 : Int).toNat ((rd_L3 x4 x25) ++ [rdOf ByteArray.empty x23 x25])) x17 x18 x19 x23 x24 (wrap64 (x25 + 1))) else (none)) else (none)) else (none)) else (none)) else (impl_FlipCells.l0 k x4 x17 x18 (wrap64 (x19 + 1)))
end
def impl_FlipCells.f (k : Nat) (l0 : List (List ByteArray)) : Option ((List (List ByteArray)) × Bool) := (impl_tableOk.f k l0).bind fun t173 => (if t173 = true then (if 0 < (l0.length : Int) then (if 0 ≤ ((rd_L3 l0 0).length : Int) then (if (((rd_L3 l0 0).length : Int) : Int).toNat ≤ 11728124029610 then (impl_FlipCells.l0 k (List.replicate (((rd_L3 l0 0).length : Int) : Int).toNat []) l0 (l0.length : Int) 0) else (none)) else (none)) else (none)) else (some (([] : List (List ByteArray)), false)))
theorem impl_FlipCells.mono_l : ∀ k, (∀ y0 y1 y2 y3, LeO (impl_FlipCells.l0 k y0 y1 y2 y3) (impl_FlipCells.l0 (k + 1) y0 y1 y2 y3)) ∧ (∀ y0 y1 y2 y3 y4 y5 y6, LeO (impl_FlipCells.l1 k y0 y1 y2 y3 y4 y5 y6) (impl_FlipCells.l1 (k + 1) y0 y1 y2 y3 y4 y5 y6))
 | 0 => ⟨fun _ _ _ _ r h => by simp [impl_FlipCells.l0] at h, fun _ _ _ _ _ _ _ r h => by simp [impl_FlipCells.l1] at h⟩
 | k + 1 => by
  obtain ⟨ih0, ih1⟩ := impl_FlipCells.mono_l k
  refine ⟨?_, ?_⟩
  ·intro y0 y1 y2 y3
   unfold impl_FlipCells.l0
   repeat' first
   | (with_reducible exact ih0 _ _ _ _)
   | (with_reducible exact ih1 _ _ _ _ _ _ _)
   | (with_reducible exact impl_tableOk.mono _ _)
   | (with_reducible exact LeO.refl _)
   | (with_reducible exact LeO.none _)
   | (with_reducible refine LeO.ite ?_ ?_)
   | (with_reducible refine LeO.bind ?_ (fun _ => ?_))
   | exact ih0 _ _ _ _
   | exact ih1 _ _ _ _ _ _ _
   | exact impl_tableOk.mono _ _
   | exact LeO.none _
   | refine LeO.ite ?_ ?_
   | refine LeO.bind ?_ (fun _ => ?_)
  ·intro y0 y1 y2 y3 y4 y5 y6
   unfold impl_FlipCells.l1
   repeat' first
   | (with_reducible exact ih0 _ _ _ _)
   | (with_reducible exact ih1 _ _ _ _ _ _ _)
   | (with_reducible exact impl_tableOk.mono _ _)
   | (with_reducible exact LeO.refl _)
   | (with_reducible exact LeO.none _)
   | (with_reducible refine LeO.ite ?_ ?_)
   | (with_reducible refine LeO.bind ?_ (fun _ => ?_))
   | exact ih0 _ _ _ _
   | exact ih1 _ _ _ _ _ _ _
   | exact impl_tableOk.mono _ _
   | exact LeO.none _
   | refine LeO.ite ?_ ?_
   | refine LeO.bind ?_ (fun _ => ?_)
theorem impl_FlipCells.mono : ∀ a0 k, LeO (impl_FlipCells.f k a0) (impl_FlipCells.f (k + 1) a0) := by
 intro a0 k
 obtain ⟨ih0, ih1⟩ := impl_FlipCells.mono_l k
 unfold impl_FlipCells.f
 repeat' first
   | (with_reducible exact ih0 _ _ _ _)
   | (with_reducible exact ih1 _ _ _ _ _ _ _)
   | (with_reducible exact impl_tableOk.mono _ _)
   | (with_reducible exact LeO.refl _)
   | (with_reducible exact LeO.none _)
   | (with_reducible refine LeO.ite ?_ ?_)
   | (with_reducible refine LeO.bind ?_ (fun _ => ?_))
   | exact ih0 _ _ _ _
   | exact ih1 _ _ _ _ _ _ _
   | exact impl_tableOk.mono _ _
   | exact LeO.none _
   | refine LeO.ite ?_ ?_
   | refine LeO.bind ?_ (fun _ => ?_)
set_option maxHeartbeats 8000000 in
set_option maxRecDepth 100000 in
theorem impl_FlipCells.calls (k : Nat) (A0 : Option Addr) (c0 : Nat) (l0 : List (List ByteArray)) (r1 : List (List ByteArray)) (r2 : Bool) (w : World) (hr0 : Kd.C (Kd.slice 9 Kd.string) w A0 l0.length l0) (hc0 : l0.length ≤ c0) (h : impl_FlipCells.f k l0 = some (r1, r2)) :
  Calls Try.prog 34 #[.slice A0 l0.length c0] w fun e w' => ∃ v0_ : Value, e = .returned (.tuple #[v0_, .bool r2]) ∧ Kd.S (Kd.slice 9 Kd.string) 22 w' w.heap.size (fun _ => True) v0_ r1 ∧ Below w.heap.size w w' := by
 have HR0 := Aside0.mk hr0
 have HC0 := Aside0.mk hc0
 clear hr0 hc0
 have HB := Aside0.mk (Below.refl w.heap.size w)
 have H : ((impl_tableOk.f k l0).bind fun t173 => (if t173 = true then (if 0 < (l0.length : Int) then (if 0 ≤ ((rd_L3 l0 0).length : Int) then (if (((rd_L3 l0 0).length : Int) : Int).toNat ≤ 11728124029610 then (impl_FlipCells.l0 k (List.replicate (((rd_L3 l0 0).length : Int) : Int).toNat []) l0 (l0.length : Int) 0) else (none)) else (none)) else (none)) else (some (([] : List (List ByteArray)), false)))) = some (r1, r2) := h
 clear h
 replace H := Option.bind_eq_some_iff.mp H
 obtain ⟨t173, A20, H⟩ := H
 replace H : (if t173 = true then (if 0 < (l0.length : Int) then (if 0 ≤ ((rd_L3 l0 0).length : Int) then (if (((rd_L3 l0 0).length : Int) : Int).toNat ≤ 11728124029610 then (impl_FlipCells.l0 k (List.replicate (((rd_L3 l0 0).length : Int) : Int).toNat []) l0 (l0.length : Int) 0) else (none)) else (none)) else (none)) else (some (([] : List (List ByteArray)), false))) = some (r1, r2) := H
 have A2 := Aside0.mk A20
 clear A20
 by_cases c3 : t173 = true
 ·subst c3
  have H1 : (if 0 < (l0.length : Int) then (if 0 ≤ ((rd_L3 l0 0).length : Int) then (if (((rd_L3 l0 0).length : Int) : Int).toNat ≤ 11728124029610 then (impl_FlipCells.l0 k (List.replicate (((rd_L3 l0 0).length : Int) : Int).toNat []) l0 (l0.length : Int) 0) else (none)) else (none)) else (none)) = some (r1, r2) := by rw [if_pos rfl] at H; exact H
  clear H
  have H := H1
  clear H1
  by_cases c4 : 0 < (l0.length : Int)
  ·rw [if_pos c4] at H
   have c4b0 : decide (0 < (l0.length : Int)) = true := decide_eq_true c4
   have c4b1 : decide (0 < l0.length) = true := decide_eq_true (by omega)
   clear c4
   by_cases c5 : 0 ≤ ((rd_L3 l0 0).length : Int)
   ·rw [if_pos c5] at H
    have c5b0 := eq_true c5
    have c5b1 : decide (0 ≤ ((rd_L3 l0 0).length : Int)) = true := decide_eq_true c5
    clear c5
    by_cases c6 : (((rd_L3 l0 0).length : Int) : Int).toNat ≤ 11728124029610
    ·rw [if_pos c6] at H
     have c6b0 := eq_true c6
     have c6b1 : decide ((((rd_L3 l0 0).length : Int) : Int).toNat ≤ 11728124029610) = true := decide_eq_true c6
     clear c6
     obtain ⟨y175, hy175⟩ : ∃ y_ : List (List ByteArray), y_ = (List.replicate (((rd_L3 l0 0).length : Int) : Int).toNat []) := ⟨_, rfl⟩
     replace H : (impl_FlipCells.l0 k y175 l0 (l0.length : Int) 0) = some (r1, r2) := by first | (rw [hy175]; with_reducible exact H) | (have H2_ := (Option.bind_some _ _).symm.trans H; rw [hy175]; with_reducible exact H2_) | (have H2_ := (Option.bind_some _ _).symm.trans H; with_reducible exact H2_) | with_reducible exact H | (rw [hy175]; exact H) | exact H
     have Ny175 := Aside0.mk hy175
     clear hy175
     have H' := Aside0.mk H
     clear H
     go_enter Try.func34, Try.ntmps34
     go_wp2_with (first | ((with_reducible refine gate_callee (f := 54) rfl ?_); refine goesL_ (some 10) rfl rfl Try.func54 (by kernel_rfl) rfl #[.slice A0 l0.length c0] rfl (by (try simp only [List.map_toArray, List.map_cons, List.map_nil]); first | done | rfl | (simp only [List.length_drop, List.length_take]; rfl)) ?_; (with_reducible refine (impl_tableOk.calls k _ _ l0 true _ ?side1 ?side2 A2.out).mono ?_); (case side1 => repeat (first | exact HR0.out | (with_reducible refine Kd.C_alloc ?_ _) | (with_reducible refine Kd.C_drewN ?_ _) | (with_reducible refine Kd.C_drew ?_))); (case side2 => exact HC0.out); rintro e w' ⟨rfl, ⟨nd, rfl⟩⟩; refine ⟨_, rfl, ?_⟩; have p174 : 0 ≤ (0 : Int) := (by omega); have q174 : 0 < (l0.length : Int) := of_decide_eq_true (by first|(with_reducible assumption)|assumption); obtain ⟨ad174, A174_0, c174_0, e174, hx174_0, hl174_0, hi174_0⟩ := at_L3 HR0.out 0 p174 q174; cases e174; have qi174 : (0 < l0.length) = True := eq_true (by omega); (try rw [show ((0 : Int)).toNat = 0 from rfl] at hx174_0); (try rw [Addr.add_zero'] at hx174_0); have HR174_0 := Aside0.mk hi174_0; have HC174_0 := Aside0.mk hl174_0; clear hi174_0 hl174_0; replace p174 := eq_true p174; replace q174 := eq_true q174) | ((with_reducible refine gate_dst (N := 16) rfl ?_); refine Kd.S_make (Kd.slice 9 Kd.string) _ 22 rfl (N := 16) rfl 43 _ _ rfl ((rd_L3 l0 0).length : Int) rfl rfl Try.underlying43 (.slice none 0 0) 24 info22 rfl (by decide) (by omega) [] (ok := fun _ => True) (okp := fun _ => True) ⟨_, rfl, Kd.R_nil _ _ _ _ _⟩ (fun _ hk => hk) trivial (of_decide_eq_true (by first|(with_reducible assumption)|assumption)) (Nat.le_trans (Nat.mul_le_mul_right _ (of_decide_eq_true (by first|(with_reducible assumption)|assumption) : ((rd_L3 l0 0).length : Int).toNat ≤ 11728124029610)) (by omega)) (Below.refl _ _) (Nat.le_refl _) ?_; intro v176 w7 ho8 hb hg_ hnew_; clear hg_ hnew_; (first | rw [← Ny175.out] at ho8 | (simp only [Int.reduceToNat] at ho8; rw [← Ny175.out] at ho8)); have n0_ := Aside0.mk (Kd.S_lower ho8 (below_size (by repeat (first|(with_reducible first|exact HB.out|apply below_alloc|apply pw_below_drewN|apply below_drew1)|exact HB.out)))); have n1_ := Aside0.mk (below_step (by repeat (first|(with_reducible first|exact HB.out|apply below_alloc|apply pw_below_drewN|apply below_drew1)|exact HB.out)) hb); clear HB; have HO177 := n0_; have HB := n1_; clear n0_ n1_; clear hb ho8))
     go_loopg [19] k (fun kq v19 w' => ∃ (x4_1 : List (List ByteArray)) (x19_1 : Int), v19 = .int .i64 x19_1 ∧ Aside0 (impl_FlipCells.l0 kq x4_1 l0 (l0.length : Int) x19_1 = some (r1, r2)) ∧ Aside0 (kq ≤ k) ∧ Aside0 (Kd.S (Kd.slice 9 Kd.string) 22 w' w.heap.size (fun _ => True) v176 x4_1) ∧ Aside0 (Below w.heap.size w w'))
     case atStart => exact ⟨(y175), (0), (by first|rfl|(simp;done)|(simp[*];done)), H', ⟨Nat.le_refl _⟩, ⟨by (with_reducible repeat (first | apply Kd.S_alloc | apply Kd.S_drewN | apply Kd.S_drew)); exact HO177.out⟩, ⟨by repeat (first|(with_reducible first|exact HB.out|apply below_alloc|apply pw_below_drewN|apply below_drew1)|exact HB.out)⟩⟩
     case round =>
      clear H'
      try clear c1
      try clear p1
      try clear q1
      try clear hx1
      try clear qi1
      try clear p2
      try clear c3
      try clear c4
      try clear c4b0
      try clear c4b1
      try clear c5
      try clear c5b0
      try clear c5b1
      try clear c6
      try clear c6b0
      try clear c6b1
      try clear hx174_0
      try clear p174
      try clear q174
      obtain ⟨x4_1, x19_1, rfl, HA, HK1, HO_4, HB⟩ := hrel
      cases gk with
      | zero => exact absurd HA.out (by simp [impl_FlipCells.l0])
      | succ k1 =>
       have H := HA.out
       clear HA
       simp only [impl_FlipCells.l0] at H
       by_cases c9 : x19_1 < (l0.length : Int)
       ·rw [if_pos c9] at H
        have c9b0 : decide (x19_1 < (l0.length : Int)) = true := decide_eq_true c9
        clear c9
        by_cases c10 : 0 ≤ x19_1
        ·rw [if_pos c10] at H
         have c10b0 : decide (0 ≤ x19_1) = true := decide_eq_true c10
         clear c10
         by_cases c11 : x19_1 < (l0.length : Int)
         ·rw [if_pos c11] at H
          have c11b0 : decide (x19_1 < (l0.length : Int)) = true := decide_eq_true c11
          clear c11
          have H' := Aside0.mk H
          clear H
          have p178 : 0 ≤ (x19_1 : Int) := of_decide_eq_true (by first|(with_reducible assumption)|assumption)
          have q178 : x19_1 < (l0.length : Int) := of_decide_eq_true (by first|(with_reducible assumption)|assumption)
          obtain ⟨ad178, A178_0, c178_0, e178, hx178_0, hl178_0, hi178_0⟩ := at_L3 HR0.out x19_1 p178 q178
          obtain rfl : ad174 = ad178 := (by injection e178)
          replace hx178_0 := (HB.out.cell (World.block_lt_of_cell? w _ hx178_0)).trans hx178_0
          have HR178_0 := Aside0.mk hi178_0
          have HC178_0 := Aside0.mk hl178_0
          clear hi178_0 hl178_0
          replace p178 := eq_true p178
          replace q178 := eq_true q178
          go_wp2
          go_loopg [25] k1 (fun kq v25 w' => ∃ (x4_2 : List (List ByteArray)) (x25_2 : Int), v25 = .int .i64 x25_2 ∧ Aside0 (impl_FlipCells.l1 kq x4_2 l0 (l0.length : Int) x19_1 (rd_L3 l0 x19_1) ((rd_L3 l0 x19_1).length : Int) x25_2 = some (r1, r2)) ∧ Aside0 (kq ≤ k1) ∧ Aside0 (Kd.S (Kd.slice 9 Kd.string) 22 w' w.heap.size (fun _ => True) v176 x4_2) ∧ Aside0 (Below w.heap.size w w'))
          case atStart => exact ⟨(x4_1), (0), (by first|rfl|(simp;done)|(simp[*];done)), H', ⟨Nat.le_refl _⟩, ⟨by (with_reducible repeat (first | apply Kd.S_alloc | apply Kd.S_drewN | apply Kd.S_drew)); exact HO_4.out⟩, ⟨by repeat (first|(with_reducible first|exact HB.out|apply below_alloc|apply pw_below_drewN|apply below_drew1)|exact HB.out)⟩⟩
          case round =>
           clear H'
           try clear c1
           try clear p1
           try clear q1
           try clear hx1
           try clear qi1
           try clear p2
           try clear c3
           try clear c4
           try clear c4b0
           try clear c4b1
           try clear c5
           try clear c5b0
           try clear c5b1
           try clear c6
           try clear c6b0
           try clear c6b1
           try clear c9
           try clear c9b0
           try clear c10
           try clear c10b0
           try clear c11
           try clear c11b0
           try clear hx174_0
           try clear hx178_0
           try clear p1
           try clear p174
           try clear p178
           try clear p2
           try clear q1
           try clear q174
           try clear q178
           obtain ⟨x4_2, x25_2, rfl, HA, HK2, HO_4, HB⟩ := hrel
           cases gk with
           | zero => exact absurd HA.out (by simp [impl_FlipCells.l1])
           | succ k2 =>
            have H := HA.out
            clear HA
            simp only [impl_FlipCells.l1] at H
            by_cases c12 : x25_2 < ((rd_L3 l0 x19_1).length : Int)
            ·rw [if_pos c12] at H
             have c12b0 : decide (x25_2 < ((rd_L3 l0 x19_1).length : Int)) = true := decide_eq_true c12
             clear c12
             by_cases c13 : 0 ≤ x25_2
             ·rw [if_pos c13] at H
              have c13b0 : decide (0 ≤ x25_2) = true := decide_eq_true c13
              clear c13
              by_cases c14 : x25_2 < ((rd_L3 l0 x19_1).length : Int)
              ·rw [if_pos c14] at H
               have c14b0 : decide (x25_2 < ((rd_L3 l0 x19_1).length : Int)) = true := decide_eq_true c14
               clear c14
               by_cases c15 : x25_2 < (x4_2.length : Int)
               ·rw [if_pos c15] at H
                have c15b0 : decide (x25_2 < (x4_2.length : Int)) = true := decide_eq_true c15
                clear c15
                by_cases c16 : (rd_L3 x4_2 x25_2).length < 8796093022208
                ·rw [if_pos c16] at H
                 have LMc16 := Aside0.mk c16
                 clear c16
                 obtain ⟨y181, hy181⟩ : ∃ y_ : List ByteArray, y_ = ((rd_L3 x4_2 x25_2) ++ [rdOf ByteArray.empty (rd_L3 l0 x19_1) x25_2]) := ⟨_, rfl⟩
                 replace H : (impl_FlipCells.l1 k2 (x4_2.set (x25_2 : Int).toNat y181) l0 (l0.length : Int) x19_1 (rd_L3 l0 x19_1) ((rd_L3 l0 x19_1).length : Int) (wrap64 (x25_2 + 1))) = some (r1, r2) := by first | (rw [hy181]; with_reducible exact H) | (have H2_ := (Option.bind_some _ _).symm.trans H; rw [hy181]; with_reducible exact H2_) | (have H2_ := (Option.bind_some _ _).symm.trans H; with_reducible exact H2_) | with_reducible exact H | (rw [hy181]; exact H) | exact H
                 have Ny181 := Aside0.mk hy181
                 clear hy181
                 obtain ⟨y184, hy184⟩ : ∃ y_ : List (List ByteArray), y_ = (x4_2.set (x25_2 : Int).toNat y181) := ⟨_, rfl⟩
                 replace H : (impl_FlipCells.l1 k2 y184 l0 (l0.length : Int) x19_1 (rd_L3 l0 x19_1) ((rd_L3 l0 x19_1).length : Int) (wrap64 (x25_2 + 1))) = some (r1, r2) := by first | (rw [hy184]; with_reducible exact H) | (have H2_ := (Option.bind_some _ _).symm.trans H; rw [hy184]; with_reducible exact H2_) | (have H2_ := (Option.bind_some _ _).symm.trans H; with_reducible exact H2_) | with_reducible exact H | (rw [hy184]; exact H) | exact H
                 have Ny184 := Aside0.mk hy184
                 clear hy184
                 have H' := Aside0.mk H
                 clear H
                 have p179 : 0 ≤ (x25_2 : Int) := of_decide_eq_true (by first|(with_reducible assumption)|assumption)
                 have q179 : x25_2 < ((rd_L3 l0 x19_1).length : Int) := of_decide_eq_true (by first|(with_reducible assumption)|assumption)
                 obtain ⟨ad179, e179, hx179_0⟩ := Kd.at_string HR178_0.out x25_2 p179 q179
                 cases e179
                 replace hx179_0 := (HB.out.cell (World.block_lt_of_cell? w _ hx179_0)).trans hx179_0
                 replace p179 := eq_true p179
                 replace q179 := eq_true q179
                 obtain ⟨Ao18, co18, eo18⟩ := Kd.S_slice HO_4.out
                 subst eo18
                 have p180 : 0 ≤ (x25_2 : Int) := of_decide_eq_true (by first|(with_reducible assumption)|assumption)
                 have q180 : x25_2 < (x4_2.length : Int) := of_decide_eq_true (by first|(with_reducible assumption)|assumption)
                 obtain ⟨ad180, A180_0, c180_0, e180, hx180_0, hl180_0, hi180_0⟩ := at_L3 (Kd.S_reads' HO_4.out).2.2 x25_2 p180 q180
                 cases e180
                 obtain ⟨ce180, hce180, hMe180, hcc180⟩ := Kd.S_get HO_4.out [] x25_2 p180 (by first | exact q180 | exact of_decide_eq_true (by first|(with_reducible assumption)|assumption) | (have e_ := (Kd.S_reads' HO_4.out).1; omega))
                 obtain ⟨ve180_0, rfl, ge180_0⟩ := hMe180
                 have hv180_0 := hcc180 0 _ rfl
                 rw [Nat.add_zero, show ((Kd.slice 9 Kd.string)).sz = 1 from rfl, Nat.mul_one] at hv180_0
                 replace hv180_0 := Option.some.inj (hv180_0.symm.trans hx180_0)
                 rw [hv180_0] at ge180_0
                 have HL180_0 := Aside0.mk (show Kd.R Kd.string 9 _ _ _ _ (rd_L3 x4_2 x25_2) from ge180_0)
                 clear hv180_0 ge180_0
                 have HX180_0 := Aside0.mk hx180_0
                 clear hcc180 hce180
                 have HR180_0 := Aside0.mk hi180_0
                 have HC180_0 := Aside0.mk hl180_0
                 clear hi180_0 hl180_0
                 replace p180 := eq_true p180
                 replace q180 := eq_true q180
                 obtain ⟨go19, co19, eo19, gb19, gl19, cl19, HG19⟩ := Kd.S_form HO_4.out (by have h_ : (x25_2 : Int) < ((x4_2.length : Int) : Int) := of_decide_eq_true (by first|(with_reducible assumption)|assumption); have h2_ : 0 ≤ (x25_2 : Int) := (of_decide_eq_true (by first|(with_reducible assumption)|assumption)); omega)
                 (first | cases eo19 | (injection eo19 with ea_ en_ ec_; (first | subst ea_ | (injection ea_ with ea_; subst ea_)); subst ec_; clear en_))
                 have GB19 := Aside0.mk gb19
                 have GG19 := Aside0.mk HG19
                 clear gb19 gl19 HG19
                 (first | simp only [add_plain] at hx180_0 | skip)
                 obtain ⟨oki19, ce19, hcl19, hM19, hcc19, _, _, hH19⟩ := Kd.S_elem HO_4.out [] (x25_2 : Int) (of_decide_eq_true (by first|(with_reducible assumption)|assumption)) (by have h_ : (x25_2 : Int) < ((x4_2.length : Int) : Int) := of_decide_eq_true (by first|(with_reducible assumption)|assumption); first | exact h_ | (have e_ := (Kd.S_reads' HO_4.out).1; omega) | simpa using h_)
                 obtain ⟨ve19_0, rfl, ge19_0⟩ := hM19
                 have hv19 := hcc19 0 _ rfl
                 have hX19 := HX180_0.out
                 (try simp only [add_plain] at hX19)
                 (try simp only [Nat.add_zero] at hv19)
                 (try rw [show ((Kd.slice 9 Kd.string)).sz = 1 from rfl, Nat.mul_one] at hv19)
                 replace hv19 := Option.some.inj (hv19.symm.trans hX19)
                 subst hv19
                 clear hX19 hcc19 hcl19
                 have UU19 := Aside0.mk (show Kd.R Kd.string 9 _ w.heap.size oki19 (.slice A180_0 (rd_L3 x4_2 x25_2).length c180_0) (rd_L3 x4_2 x25_2) from ge19_0)
                 have HH19 := Aside0.mk hH19
                 have HN19 := Aside0.mk (Kd.S_reads' HO_4.out).1
                 clear hH19 ge19_0
                 go_wp2_with (first | ((with_reducible refine gate_builtin (b := .append) (xs := #[.tmp 35, .tmp 37]) rfl ?_); at_builtin; refine Kd.R_append Kd.string (w0 := w) w.heap.size rfl (.tmp 35) (.tmp 37) 22 9 (.string ⟨#[]⟩) 16 rfl Try.underlying22 info9 rfl (by decide) (by omega) (.slice A180_0 (rd_L3 x4_2 x25_2).length c180_0) (rd_L3 x4_2 x25_2) (rdOf ByteArray.empty (rd_L3 l0 x19_1) x25_2) [.string (rdOf ByteArray.empty (rd_L3 l0 x19_1) x25_2)] (fun k_ => oki19 k_ ∨ ((fun _ => True)) k_ ∧ wr.heap.size ≤ k_) (fun _ => False) rfl rfl ?aP (fun _ hk => hk.elim) ?aF ?aO ?aB ?aS ?aL ?_; (case aP => exact rfl); (case aB => exact (by repeat (first|(with_reducible first|exact HB.out|apply below_alloc|apply pw_below_drewN|apply below_drew1)|exact HB.out))); (case aF => exact (fun k_ hk => .inr ⟨trivial, hk⟩)); (case aO => exact (by (with_reducible repeat (first|apply Kd.R_alloc|apply Kd.R_drewN|apply Kd.R_drew)); exact Kd.R_mono UU19.out (fun _ hk => .inl hk))); (case aS => exact (below_size (by repeat (first|(with_reducible first|exact HB.out|apply below_alloc|apply pw_below_drewN|apply below_drew1)|exact HB.out)))); (case aL => have := LMc16.out; omega); intro v182 w20 ho hb hg hat; rw [← Ny181.out] at ho; have n0_ := Aside0.mk (hb); have n1_ := Aside0.mk (Kd.H_grown (Kd.H_widen (by repeat (first | exact HH19.out | refine Kd.H_alloc ?_ _ | refine Kd.H_drewN ?_ _ | refine Kd.H_drew ?_))) hg (fun k_ e_ => .inl (UU19.out.1 k_ e_))); have n2_ := Aside0.mk (ho); clear HB; clear HH19; clear HO_4; clear UU19; clear HL180_0; have HB := n0_; have HH19 := n1_; have HO183 := n2_; clear n0_ n1_ n2_; clear ho hb hg hat; have p17 : 0 ≤ (x25_2 : Int) := of_decide_eq_true (by first|(with_reducible assumption)|assumption); have q17 : (x25_2 : Int) < ((x4_2.length : Int) : Int) := of_decide_eq_true (by first|(with_reducible assumption)|assumption); replace p17 := eq_true p17; replace q17 := eq_true q17; obtain ⟨Ao23, co23, eo23⟩ := Kd.R_slice HO183.out; subst eo23; obtain ⟨_, _, hraw21, _, _, hcc21, _⟩ := Kd.H_raw HH19.out (of_decide_eq_true (by first|(with_reducible assumption)|assumption)) (by have h_ : (x25_2 : Int) < ((x4_2.length : Int) : Int) := of_decide_eq_true (by first|(with_reducible assumption)|assumption); first | exact h_ | (have e_ := (HN19.out); omega) | simpa using h_); obtain ⟨_, hfr21⟩ := Kd.H_at HH19.out (of_decide_eq_true (by first|(with_reducible assumption)|assumption)) (by have h_ : (x25_2 : Int) < ((x4_2.length : Int) : Int) := of_decide_eq_true (by first|(with_reducible assumption)|assumption); first | exact h_ | (have e_ := (HN19.out); omega) | simpa using h_); have hx21_0 := hcc21 0 _ rfl; have hf21_0 := hfr21 0; (try simp only [Nat.add_zero] at hx21_0 hf21_0); (try rw [show ((Kd.slice 9 Kd.string)).sz = 1 from rfl, Nat.mul_one] at hx21_0); (try rw [show ((Kd.slice 9 Kd.string)).sz = 1 from rfl, Nat.mul_one] at hf21_0); have HP21 := Kd.S_seg0 HH19.out (of_decide_eq_true (by first|(with_reducible assumption)|assumption)) (by have h_ : (x25_2 : Int) < ((x4_2.length : Int) : Int) := of_decide_eq_true (by first|(with_reducible assumption)|assumption); first | exact h_ | (have e_ := (HN19.out); omega) | simpa using h_) (seg := [.slice Ao23 y181.length co23]) (j := 0) (show 1 ≤ 1 from by decide) (x' := y181) (Kd.M_row HO183.out) (fun _ hk => hk); (try simp only [show ((Kd.slice 9 Kd.string)).sz = 1 from rfl, Nat.mul_one, Nat.add_zero] at HP21); clear hcc21 hfr21) | ((with_reducible refine gate_store (t := 22) (p := 39) rfl ?_); refine store_event (t := 22) (p := 39) (v := ?vo_w22) (w1 := (w20.setCell ⟨go19, (x25_2 : Int).toNat, none⟩ (.slice Ao23 y181.length co23))) ?hg ?ho ?hn ?hr ?_; (case ho => rfl); (case hg => rfl); (case hn => rfl); (case hr => first | (go_simp; done) | (go_simp; rfl)); intro w22 hw; have hg : w20.grownBy w22 (some go19) := (by rw [hw]; exact HP21.2); have hp_ : Kd.S (Kd.slice 9 Kd.string) 22 w22 w.heap.size (fun _ => True) (.slice (some ⟨go19, 0, none⟩) x4_2.length co18) y184 := (by rw [hw, Ny184.out]; exact HP21.1); clear HP21; have n0_ := Aside0.mk ((by rw [hw]; exact below_set HB.out GB19.out : Below w.heap.size w w22)); have n1_ := Aside0.mk (hp_); clear HB; clear HO183; clear HH19; have HB := n0_; have HO_4 := n1_; clear n0_ n1_; clear hg hw hp_ hraw21))
                 go_roundg k2
                 case measure => have := HK1.out; have := HK2.out; omega
                 case rel => exact ⟨(y184), (wrap64 (x25_2 + 1)), (by first|rfl|(simp;done)|(simp[*];done)), H', ⟨by have := HK1.out; have := HK2.out; omega⟩, ⟨by (with_reducible repeat (first | apply Kd.S_alloc | apply Kd.S_drewN | apply Kd.S_drew)); exact HO_4.out⟩, ⟨by repeat (first|(with_reducible first|exact HB.out|apply below_alloc|apply pw_below_drewN|apply below_drew1)|exact HB.out)⟩⟩
                ·rw [if_neg c16] at H
                 exact absurd H (by simp)
               ·rw [if_neg c15] at H
                exact absurd H (by simp)
              ·rw [if_neg c14] at H
               exact absurd H (by simp)
             ·rw [if_neg c13] at H
              exact absurd H (by simp)
            ·rw [if_neg c12] at H
             have c12b0 : decide (x25_2 < ((rd_L3 l0 x19_1).length : Int)) = false := decide_eq_false c12
             clear c12
             have H' := Aside0.mk H
             clear H
             go_wp2
             go_roundg k2
             case measure => have := HK1.out; have := HK2.out; omega
             case rel => exact ⟨(x4_2), (wrap64 (x19_1 + 1)), (by first|rfl|(simp;done)|(simp[*];done)), H', ⟨by have := HK1.out; have := HK2.out; omega⟩, ⟨by (with_reducible repeat (first | apply Kd.S_alloc | apply Kd.S_drewN | apply Kd.S_drew)); exact HO_4.out⟩, ⟨by repeat (first|(with_reducible first|exact HB.out|apply below_alloc|apply pw_below_drewN|apply below_drew1)|exact HB.out)⟩⟩
         ·rw [if_neg c11] at H
          exact absurd H (by simp)
        ·rw [if_neg c10] at H
         exact absurd H (by simp)
       ·rw [if_neg c9] at H
        have c9b0 : decide (x19_1 < (l0.length : Int)) = false := decide_eq_false c9
        clear c9
        simp only [Option.some.injEq, Prod.mk.injEq] at H
        obtain ⟨rfl, rfl⟩ := H
        go_wp2
        go_ret2
        exact ⟨_, by first | rfl | (simp [errW_none, errW_some] <;> rfl) | (simp [*, errW_none, errW_some] <;> rfl), by (with_reducible repeat (first | apply Kd.S_alloc | apply Kd.S_drewN | apply Kd.S_drew)); exact HO_4.out, by repeat (first|(with_reducible first|exact HB.out|apply below_alloc|apply pw_below_drewN|apply below_drew1)|exact HB.out)⟩
    ·rw [if_neg c6] at H
     exact absurd H (by simp)
   ·rw [if_neg c5] at H
    exact absurd H (by simp)
  ·rw [if_neg c4] at H
   exact absurd H (by simp)
 ·replace c3 := Bool.eq_false_iff.mpr c3
  subst c3
  have H1 : (some (([] : List (List ByteArray)), false)) = some (r1, r2) := by rw [if_neg (show ¬ (false = true) by decide)] at H; exact H
  clear H
  have H := H1
  clear H1
  simp only [Option.some.injEq, Prod.mk.injEq] at H
  obtain ⟨rfl, rfl⟩ := H
  go_enter Try.func34, Try.ntmps34
  go_wp2_with (first | ((with_reducible refine gate_callee (f := 54) rfl ?_); refine goesL_ (some 10) rfl rfl Try.func54 (by kernel_rfl) rfl #[.slice A0 l0.length c0] rfl (by (try simp only [List.map_toArray, List.map_cons, List.map_nil]); first | done | rfl | (simp only [List.length_drop, List.length_take]; rfl)) ?_; (with_reducible refine (impl_tableOk.calls k _ _ l0 false _ ?side1 ?side2 A2.out).mono ?_); (case side1 => repeat (first | exact HR0.out | (with_reducible refine Kd.C_alloc ?_ _) | (with_reducible refine Kd.C_drewN ?_ _) | (with_reducible refine Kd.C_drew ?_))); (case side2 => exact HC0.out); rintro e w' ⟨rfl, ⟨nd, rfl⟩⟩; refine ⟨_, rfl, ?_⟩))
  go_ret2
  exact ⟨_, by first | rfl | (simp [errW_none, errW_some] <;> rfl) | (simp [*, errW_none, errW_some] <;> rfl), by first | exact Kd.S_nil _ _ _ _ _ | exact Kd.N_nil _ _ _ _ _ | exact Kd.V_nil _ _ _ _ _ | exact Kd.Q_nil _ _ _ _ _ | exact Kd.R_nil _ _ _ _ _, by repeat (first|(with_reducible first|exact HB.out|apply below_alloc|apply pw_below_drewN|apply below_drew1)|exact HB.out)⟩

end Go.Proofs.Ytcbjlaphoajngaa.PFw
