-- Written by a program of this session (xprint). -- COMPACT
import Derived.Test.YthcfocpimoghbaaPTax0
import Derived.Test.YthcfocpimoghbaaPTax6
namespace Go.Proofs.Ythcfocpimoghbaa.PTa
open Go.RowKit Go.Proofs.YthcfocpimoghbaaW.PrintWords Go.Proofs.YthcfocpimoghbaaW.PrintLast Go.Proofs.YthcfocpimoghbaaW.PrintMore
attribute [local go_sem] max2_int min2_int max_two min_two max_three min_three max_four min_four   -- for this text's walks alone
set_option linter.unusedVariables false
set_option linter.unusedSimpArgs false

/-! ### spec_l13Cells: function 66 -/
mutual
def spec_l13Cells.l0 : Nat → List (List ByteArray) → Int → Option (Bool)
 | 0, _, _ => none
 | k + 1, x0, x3 => if x3 < (x0.length : Int) then (spec_l13Cells.j1 k x0 x3 (decide (x3 ≤ 20))) else (spec_l13Cells.j1 k x0 x3 false)
def spec_l13Cells.j1 : Nat → List (List ByteArray) → Int → Bool → Option (Bool)
 | 0, _, _, _ => none
 | k + 1, x0, x3, x12 => if x12 = true then (if 0 ≤ x3 then (if x3 < (x0.length : Int) then (if 0 < (x0.length : Int) then (if ((rd_L3 x0 x3).length : Int) = ((rd_L3 x0 0).length : Int) then (if ((rd_L3 x0 x3).length : Int) < 1 then (spec_l13Cells.j2 k x0 x3 true) else (spec_l13Cells.j2 k x0 x3 (decide (((rd_L3 x0 x3).length : Int) > 20)))) else (spec_l13Cells.j2 k x0 x3 true)) else (none)) else (none)) else (none)) else (if (x0.length : Int) ≥ 1 then (some (decide ((x0.length : Int) ≤ 20))) else (some false))
def spec_l13Cells.j2 : Nat → List (List ByteArray) → Int → Bool → Option (Bool)
 | 0, _, _, _ => none
 | k + 1, x0, x3, x40 => if x40 = true then (some false) else (spec_l13Cells.l1 k x0 x3 0)
def spec_l13Cells.l1 : Nat → List (List ByteArray) → Int → Int → Option (Bool)
 | 0, _, _, _ => none
 | k + 1, x0, x3, x4 => if 0 ≤ x3 then (if x3 < (x0.length : Int) then (if x4 < ((rd_L3 x0 x3).length : Int) then (if 0 ≤ x4 then (if (rdOf ByteArray.empty (rd_L3 x0 x3) x4).toList = ([] : List UInt8) then (spec_l13Cells.l1 k x0 x3 (wrap64 (x4 + 1))) else ((spec_TextValid.f k (rdOf ByteArray.empty (rd_L3 x0 x3) x4)).bind fun t219 => (if t219 = true then (spec_l13Cells.l1 k x0 x3 (wrap64 (x4 + 1))) else (some false)))) else (none)) else (spec_l13Cells.l0 k x0 (wrap64 (x3 + 1)))) else (none)) else (none)
end
def spec_l13Cells.f (k : Nat) (l0 : List (List ByteArray)) : Option (Bool) := spec_l13Cells.l0 k l0 0
theorem spec_l13Cells.mono_l : ∀ k, (∀ y0 y1, LeO (spec_l13Cells.l0 k y0 y1) (spec_l13Cells.l0 (k + 1) y0 y1)) ∧ (∀ y0 y1 y2, LeO (spec_l13Cells.j1 k y0 y1 y2) (spec_l13Cells.j1 (k + 1) y0 y1 y2)) ∧ (∀ y0 y1 y2, LeO (spec_l13Cells.j2 k y0 y1 y2) (spec_l13Cells.j2 (k + 1) y0 y1 y2)) ∧ (∀ y0 y1 y2, LeO (spec_l13Cells.l1 k y0 y1 y2) (spec_l13Cells.l1 (k + 1) y0 y1 y2))
 | 0 => ⟨fun _ _ r h => by simp [spec_l13Cells.l0] at h, fun _ _ _ r h => by simp [spec_l13Cells.j1] at h, fun _ _ _ r h => by simp [spec_l13Cells.j2] at h, fun _ _ _ r h => by simp [spec_l13Cells.l1] at h⟩
 | k + 1 => by
  obtain ⟨ih0, ih1, ih2, ih3⟩ := spec_l13Cells.mono_l k
  refine ⟨?_, ?_, ?_, ?_⟩
  ·intro y0 y1
   unfold spec_l13Cells.l0
   repeat' first
   | (with_reducible exact ih0 _ _)
   | (with_reducible exact ih1 _ _ _)
   | (with_reducible exact ih2 _ _ _)
   | (with_reducible exact ih3 _ _ _)
   | (with_reducible exact spec_TextValid.mono _ _)
   | (with_reducible exact LeO.refl _)
   | (with_reducible exact LeO.none _)
   | (with_reducible refine LeO.ite ?_ ?_)
   | (with_reducible refine LeO.bind ?_ (fun _ => ?_))
   | exact ih0 _ _
   | exact ih1 _ _ _
   | exact ih2 _ _ _
   | exact ih3 _ _ _
   | exact spec_TextValid.mono _ _
   | exact LeO.none _
   | refine LeO.ite ?_ ?_
   | refine LeO.bind ?_ (fun _ => ?_)
  ·intro y0 y1 y2
   unfold spec_l13Cells.j1
   repeat' first
   | (with_reducible exact ih0 _ _)
   | (with_reducible exact ih1 _ _ _)
   | (with_reducible exact ih2 _ _ _)
   | (with_reducible exact ih3 _ _ _)
   | (with_reducible exact spec_TextValid.mono _ _)
   | (with_reducible exact LeO.refl _)
   | (with_reducible exact LeO.none _)
   | (with_reducible refine LeO.ite ?_ ?_)
   | (with_reducible refine LeO.bind ?_ (fun _ => ?_))
   | exact ih0 _ _
   | exact ih1 _ _ _
   | exact ih2 _ _ _
   | exact ih3 _ _ _
   | exact spec_TextValid.mono _ _
   | exact LeO.none _
   | refine LeO.ite ?_ ?_
   | refine LeO.bind ?_ (fun _ => ?_)
  ·intro y0 y1 y2
   unfold spec_l13Cells.j2
   repeat' first
   | (with_reducible exact ih0 _ _)
   | (with_reducible exact ih1 _ _ _)
   | (with_reducible exact ih2 _ _ _)
   | (with_reducible exact ih3 _ _ _)
   | (with_reducible exact spec_TextValid.mono _ _)
   | (with_reducible exact LeO.refl _)
   | (with_reducible exact LeO.none _)
   | (with_reducible refine LeO.ite ?_ ?_)
   | (with_reducible refine LeO.bind ?_ (fun _ => ?_))
   | exact ih0 _ _
   | exact ih1 _ _ _
   | exact ih2 _ _ _
   | exact ih3 _ _ _
   | exact spec_TextValid.mono _ _
   | exact LeO.none _
   | refine LeO.ite ?_ ?_
   | refine LeO.bind ?_ (fun _ => ?_)
  ·intro y0 y1 y2
   unfold spec_l13Cells.l1
   repeat' first
   | (with_reducible exact ih0 _ _)
   | (with_reducible exact ih1 _ _ _)
   | (with_reducible exact ih2 _ _ _)
   | (with_reducible exact ih3 _ _ _)
   | (with_reducible exact spec_TextValid.mono _ _)
   | (with_reducible exact LeO.refl _)
   | (with_reducible exact LeO.none _)
   | (with_reducible refine LeO.ite ?_ ?_)
   | (with_reducible refine LeO.bind ?_ (fun _ => ?_))
   | exact ih0 _ _
   | exact ih1 _ _ _
   | exact ih2 _ _ _
   | exact ih3 _ _ _
   | exact spec_TextValid.mono _ _
   | exact LeO.none _
   | refine LeO.ite ?_ ?_
   | refine LeO.bind ?_ (fun _ => ?_)
theorem spec_l13Cells.mono : ∀ a0 k, LeO (spec_l13Cells.f k a0) (spec_l13Cells.f (k + 1) a0) := by
 intro a0 k
 obtain ⟨ih0, ih1, ih2, ih3⟩ := spec_l13Cells.mono_l k
 unfold spec_l13Cells.f
 repeat' first
   | (with_reducible exact ih0 _ _)
   | (with_reducible exact ih1 _ _ _)
   | (with_reducible exact ih2 _ _ _)
   | (with_reducible exact ih3 _ _ _)
   | (with_reducible exact spec_TextValid.mono _ _)
   | (with_reducible exact LeO.refl _)
   | (with_reducible exact LeO.none _)
   | (with_reducible refine LeO.ite ?_ ?_)
   | (with_reducible refine LeO.bind ?_ (fun _ => ?_))
   | exact ih0 _ _
   | exact ih1 _ _ _
   | exact ih2 _ _ _
   | exact ih3 _ _ _
   | exact spec_TextValid.mono _ _
   | exact LeO.none _
   | refine LeO.ite ?_ ?_
   | refine LeO.bind ?_ (fun _ => ?_)
set_option maxHeartbeats 8000000 in
set_option maxRecDepth 100000 in
theorem spec_l13Cells.calls (k : Nat) (A0 : Option Addr) (c0 : Nat) (l0 : List (List ByteArray)) (r : Bool) (w : World) (hr0 : Kd.C (Kd.slice 9 Kd.string) w A0 l0.length l0) (hc0 : l0.length ≤ c0) (h : spec_l13Cells.f k l0 = some r) :
  Calls Try.prog 66 #[.slice A0 l0.length c0] w fun e w' => e = .returned (.bool r) ∧ Drawn0 w w' := by
 have HR0 := Aside0.mk hr0
 have HC0 := Aside0.mk hc0
 clear hr0 hc0
 have H : (spec_l13Cells.l0 k l0 0) = some r := h
 clear h
 have H' := Aside0.mk H
 clear H
 go_enter Try.func66, Try.ntmps66
 go_wp2
 repeat (go_quiet (fail); try go_wp2)
 go_loopg [3] k (fun kq v3 w' => ∃ (x3_1 : Int), v3 = .int .i64 x3_1 ∧ Aside0 (spec_l13Cells.l0 kq l0 x3_1 = some r) ∧ Aside0 (kq ≤ k) ∧ Drawn0 w w')
 case atStart => exact ⟨(0), (by first|rfl|(simp;done)|(simp[*];done)), H', ⟨Nat.le_refl _⟩, by repeat (first | exact Drawn0.refl _ | apply Drawn0.step)⟩
 case round =>
  clear H'
  obtain ⟨x3_1, rfl, HA, HK1, ⟨m1, rfl⟩⟩ := hrel
  cases gk with
  | zero => exact absurd HA.out (by simp [spec_l13Cells.l0])
  | succ k1 =>
   have H := HA.out
   clear HA
   simp only [spec_l13Cells.l0] at H
   have HC2 := Aside0.mk H
   clear H
   go_upto_region 2 with (fail)
   repeat (go_quiet (fail); go_upto_region 2 with (fail))
   go_cut [12] (fun v12 wc => ∃ (kq : Nat) (x12_1 : Bool), v12 = .bool x12_1 ∧ Aside0 (spec_l13Cells.j1 kq l0 x3_1 x12_1 = some r) ∧ Aside0 (kq ≤ k1) ∧ Drawn0 w wc)
   case first =>
    have H := HC2.out
    clear HC2
    by_cases c3 : x3_1 < (l0.length : Int)
    ·rw [if_pos c3] at H
     have c3b0 : decide (x3_1 < (l0.length : Int)) = true := decide_eq_true c3
     clear c3
     (first | rw [c3b0] | (simp only [i64_w, i32_w]; rw [c3b0]) | skip)
     have H' := Aside0.mk H
     clear H
     go_wp2
     repeat (go_quiet (fail); try go_wp2)
     go_meet
     case rel => exact ⟨_, (decide (x3_1 ≤ 20)), (by first|rfl|(simp;done)|(simp[*];done)), H', ⟨by have := HK1.out; first | omega | exact Nat.le_refl _⟩, by repeat (first | exact Drawn0.refl _ | apply Drawn0.step)⟩
    ·rw [if_neg c3] at H
     have c3b0 : decide (x3_1 < (l0.length : Int)) = false := decide_eq_false c3
     clear c3
     (first | rw [c3b0] | (simp only [i64_w, i32_w]; rw [c3b0]) | skip)
     have H' := Aside0.mk H
     clear H
     go_wp2
     repeat (go_quiet (fail); try go_wp2)
     go_meet
     case rel => exact ⟨_, (false), (by first|rfl|(simp;done)|(simp[*];done)), H', ⟨by have := HK1.out; first | omega | exact Nat.le_refl _⟩, by repeat (first | exact Drawn0.refl _ | apply Drawn0.step)⟩
   case rest =>
    clear HC2
    try clear p2
    try clear c3
    try clear c3b0
    obtain ⟨kq, x12_1, rfl, HA, HJ1, ⟨mc1, rfl⟩⟩ := hcut
    cases kq with
    | zero => exact absurd HA.out (by simp [spec_l13Cells.j1])
    | succ kj1 =>
     have H := HA.out
     clear HA
     simp only [spec_l13Cells.j1] at H
     by_cases c4 : x12_1 = true
     ·subst c4
      have H1 : (if 0 ≤ x3_1 then (if x3_1 < (l0.length : Int) then (if 0 < (l0.length : Int) then (if ((rd_L3 l0 x3_1).length : Int) = ((rd_L3 l0 0).length : Int) then (if ((rd_L3 l0 x3_1).length : Int) < 1 then (spec_l13Cells.j2 kj1 l0 x3_1 true) else (spec_l13Cells.j2 kj1 l0 x3_1 (decide (((rd_L3 l0 x3_1).length : Int) > 20)))) else (spec_l13Cells.j2 kj1 l0 x3_1 true)) else (none)) else (none)) else (none)) = some r := by rw [if_pos rfl] at H; exact H
      clear H
      have H := H1
      clear H1
      have HC5 := Aside0.mk H
      clear H
      go_upto_region 4 with (fail)
      repeat (go_quiet (fail); go_upto_region 4 with (fail))
      go_cut [40] (fun v40 wc => ∃ (kq : Nat) (x40_4 : Bool), v40 = .bool x40_4 ∧ Aside0 (spec_l13Cells.j2 kq l0 x3_1 x40_4 = some r) ∧ Aside0 (kq ≤ kj1) ∧ Drawn0 w wc)
      case first =>
       have H := HC5.out
       clear HC5
       by_cases c6 : 0 ≤ x3_1
       ·rw [if_pos c6] at H
        have c6b0 : decide (0 ≤ x3_1) = true := decide_eq_true c6
        clear c6
        (first | rw [c6b0] | (simp only [i64_w, i32_w]; rw [c6b0]) | skip)
        by_cases c7 : x3_1 < (l0.length : Int)
        ·rw [if_pos c7] at H
         have c7b0 : decide (x3_1 < (l0.length : Int)) = true := decide_eq_true c7
         clear c7
         by_cases c8 : 0 < (l0.length : Int)
         ·rw [if_pos c8] at H
          have c8b0 : decide (0 < (l0.length : Int)) = true := decide_eq_true c8
          have c8b1 : decide (0 < l0.length) = true := decide_eq_true (by omega)
          clear c8
          by_cases c9 : ((rd_L3 l0 x3_1).length : Int) = ((rd_L3 l0 0).length : Int)
          ·rw [if_pos c9] at H
           have c9b0 : (((rd_L3 l0 x3_1).length : Int) == ((rd_L3 l0 0).length : Int)) = true := beq_iff_eq.mpr c9
           have c9b1 : (((rd_L3 l0 x3_1).length : Int) != ((rd_L3 l0 0).length : Int)) = false := bne_eq_false_iff_eq.mpr c9
           have c9b2 : ((rd_L3 l0 x3_1).length == (rd_L3 l0 0).length) = true := by first | simpa using c9 | (simp at c9 ⊢; omega)
           clear c9
           by_cases c10 : ((rd_L3 l0 x3_1).length : Int) < 1
           ·rw [if_pos c10] at H
            have c10b0 : decide (((rd_L3 l0 x3_1).length : Int) < 1) = true := decide_eq_true c10
            have c10b1 : decide ((rd_L3 l0 x3_1).length < 1) = true := decide_eq_true (by omega)
            clear c10
            have H' := Aside0.mk H
            clear H
            have p210 : 0 ≤ (x3_1 : Int) := of_decide_eq_true (by first|(with_reducible assumption)|assumption)
            have q210 : x3_1 < (l0.length : Int) := of_decide_eq_true (by first|(with_reducible assumption)|assumption)
            obtain ⟨ad210, A210_0, c210_0, e210, hx210_0, hl210_0, hi210_0⟩ := at_L3 HR0.out x3_1 p210 q210
            cases e210
            have HR210_0 := Aside0.mk hi210_0
            have HC210_0 := Aside0.mk hl210_0
            clear hi210_0 hl210_0
            replace p210 := eq_true p210
            replace q210 := eq_true q210
            have p211 : 0 ≤ (0 : Int) := (by omega)
            have q211 : 0 < (l0.length : Int) := of_decide_eq_true (by first|(with_reducible assumption)|assumption)
            obtain ⟨ad211, A211_0, c211_0, e211, hx211_0, hl211_0, hi211_0⟩ := at_L3 HR0.out 0 p211 q211
            obtain rfl : ad210 = ad211 := (by injection e211)
            have qi211 : (0 < l0.length) = True := eq_true (by omega)
            (try rw [show ((0 : Int)).toNat = 0 from rfl] at hx211_0)
            (try rw [Addr.add_zero'] at hx211_0)
            have HR211_0 := Aside0.mk hi211_0
            have HC211_0 := Aside0.mk hl211_0
            clear hi211_0 hl211_0
            replace p211 := eq_true p211
            replace q211 := eq_true q211
            have p212 : 0 ≤ (x3_1 : Int) := of_decide_eq_true (by first|(with_reducible assumption)|assumption)
            have q212 : x3_1 < (l0.length : Int) := of_decide_eq_true (by first|(with_reducible assumption)|assumption)
            obtain ⟨ad212, A212_0, c212_0, e212, hx212_0, hl212_0, hi212_0⟩ := at_L3 HR0.out x3_1 p212 q212
            obtain rfl : ad210 = ad212 := (by injection e212)
            have HR212_0 := Aside0.mk hi212_0
            have HC212_0 := Aside0.mk hl212_0
            clear hi212_0 hl212_0
            replace p212 := eq_true p212
            replace q212 := eq_true q212
            have ea_ := Option.some.inj (hx210_0.symm.trans hx212_0)
            injection ea_ with ea_ en_ ec_
            subst ea_
            subst ec_
            clear en_
            go_wp2
            repeat (go_quiet (fail); try go_wp2)
            go_meet
            case rel => exact ⟨_, (true), (by first|rfl|(simp;done)|(simp[*];done)), H', ⟨by have := HK1.out; have := HJ1.out; first | omega | exact Nat.le_refl _⟩, by repeat (first | exact Drawn0.refl _ | apply Drawn0.step)⟩
           ·rw [if_neg c10] at H
            have c10b0 : decide (((rd_L3 l0 x3_1).length : Int) < 1) = false := decide_eq_false c10
            have c10b1 : decide ((rd_L3 l0 x3_1).length < 1) = false := decide_eq_false (by omega)
            clear c10
            have H' := Aside0.mk H
            clear H
            have p210 : 0 ≤ (x3_1 : Int) := of_decide_eq_true (by first|(with_reducible assumption)|assumption)
            have q210 : x3_1 < (l0.length : Int) := of_decide_eq_true (by first|(with_reducible assumption)|assumption)
            obtain ⟨ad210, A210_0, c210_0, e210, hx210_0, hl210_0, hi210_0⟩ := at_L3 HR0.out x3_1 p210 q210
            cases e210
            have HR210_0 := Aside0.mk hi210_0
            have HC210_0 := Aside0.mk hl210_0
            clear hi210_0 hl210_0
            replace p210 := eq_true p210
            replace q210 := eq_true q210
            have p211 : 0 ≤ (0 : Int) := (by omega)
            have q211 : 0 < (l0.length : Int) := of_decide_eq_true (by first|(with_reducible assumption)|assumption)
            obtain ⟨ad211, A211_0, c211_0, e211, hx211_0, hl211_0, hi211_0⟩ := at_L3 HR0.out 0 p211 q211
            obtain rfl : ad210 = ad211 := (by injection e211)
            have qi211 : (0 < l0.length) = True := eq_true (by omega)
            (try rw [show ((0 : Int)).toNat = 0 from rfl] at hx211_0)
            (try rw [Addr.add_zero'] at hx211_0)
            have HR211_0 := Aside0.mk hi211_0
            have HC211_0 := Aside0.mk hl211_0
            clear hi211_0 hl211_0
            replace p211 := eq_true p211
            replace q211 := eq_true q211
            have p212 : 0 ≤ (x3_1 : Int) := of_decide_eq_true (by first|(with_reducible assumption)|assumption)
            have q212 : x3_1 < (l0.length : Int) := of_decide_eq_true (by first|(with_reducible assumption)|assumption)
            obtain ⟨ad212, A212_0, c212_0, e212, hx212_0, hl212_0, hi212_0⟩ := at_L3 HR0.out x3_1 p212 q212
            obtain rfl : ad210 = ad212 := (by injection e212)
            have HR212_0 := Aside0.mk hi212_0
            have HC212_0 := Aside0.mk hl212_0
            clear hi212_0 hl212_0
            replace p212 := eq_true p212
            replace q212 := eq_true q212
            have ea_ := Option.some.inj (hx210_0.symm.trans hx212_0)
            injection ea_ with ea_ en_ ec_
            subst ea_
            subst ec_
            clear en_
            have p213 : 0 ≤ (x3_1 : Int) := of_decide_eq_true (by first|(with_reducible assumption)|assumption)
            have q213 : x3_1 < (l0.length : Int) := of_decide_eq_true (by first|(with_reducible assumption)|assumption)
            obtain ⟨ad213, A213_0, c213_0, e213, hx213_0, hl213_0, hi213_0⟩ := at_L3 HR0.out x3_1 p213 q213
            obtain rfl : ad210 = ad213 := (by injection e213)
            have HR213_0 := Aside0.mk hi213_0
            have HC213_0 := Aside0.mk hl213_0
            clear hi213_0 hl213_0
            replace p213 := eq_true p213
            replace q213 := eq_true q213
            have ea_ := Option.some.inj (hx210_0.symm.trans hx213_0)
            injection ea_ with ea_ en_ ec_
            subst ea_
            subst ec_
            clear en_
            go_wp2
            repeat (go_quiet (fail); try go_wp2)
            go_meet
            case rel => exact ⟨_, (decide (((rd_L3 l0 x3_1).length : Int) > 20)), (by first|rfl|(simp;done)|(simp[*];done)), H', ⟨by have := HK1.out; have := HJ1.out; first | omega | exact Nat.le_refl _⟩, by repeat (first | exact Drawn0.refl _ | apply Drawn0.step)⟩
          ·rw [if_neg c9] at H
           have c9b0 : (((rd_L3 l0 x3_1).length : Int) == ((rd_L3 l0 0).length : Int)) = false := beq_eq_false_iff_ne.mpr c9
           have c9b1 : (((rd_L3 l0 x3_1).length : Int) != ((rd_L3 l0 0).length : Int)) = true := bne_iff_ne.mpr c9
           have c9b2 : ((rd_L3 l0 x3_1).length == (rd_L3 l0 0).length) = false := by first | simpa using c9 | (simp at c9 ⊢; omega)
           have H' := Aside0.mk H
           clear H
           have p210 : 0 ≤ (x3_1 : Int) := of_decide_eq_true (by first|(with_reducible assumption)|assumption)
           have q210 : x3_1 < (l0.length : Int) := of_decide_eq_true (by first|(with_reducible assumption)|assumption)
           obtain ⟨ad210, A210_0, c210_0, e210, hx210_0, hl210_0, hi210_0⟩ := at_L3 HR0.out x3_1 p210 q210
           cases e210
           have HR210_0 := Aside0.mk hi210_0
           have HC210_0 := Aside0.mk hl210_0
           clear hi210_0 hl210_0
           replace p210 := eq_true p210
           replace q210 := eq_true q210
           have p211 : 0 ≤ (0 : Int) := (by omega)
           have q211 : 0 < (l0.length : Int) := of_decide_eq_true (by first|(with_reducible assumption)|assumption)
           obtain ⟨ad211, A211_0, c211_0, e211, hx211_0, hl211_0, hi211_0⟩ := at_L3 HR0.out 0 p211 q211
           obtain rfl : ad210 = ad211 := (by injection e211)
           have qi211 : (0 < l0.length) = True := eq_true (by omega)
           (try rw [show ((0 : Int)).toNat = 0 from rfl] at hx211_0)
           (try rw [Addr.add_zero'] at hx211_0)
           have HR211_0 := Aside0.mk hi211_0
           have HC211_0 := Aside0.mk hl211_0
           clear hi211_0 hl211_0
           replace p211 := eq_true p211
           replace q211 := eq_true q211
           go_wp2
           repeat (go_quiet (fail); try go_wp2)
           go_meet
           case rel => exact ⟨_, (true), (by first|rfl|(simp;done)|(simp[*];done)), H', ⟨by have := HK1.out; have := HJ1.out; first | omega | exact Nat.le_refl _⟩, by repeat (first | exact Drawn0.refl _ | apply Drawn0.step)⟩
         ·rw [if_neg c8] at H
          exact absurd H (by simp)
        ·rw [if_neg c7] at H
         exact absurd H (by simp)
       ·rw [if_neg c6] at H
        exact absurd H (by simp)
      case rest =>
       clear HC5
       try clear c1
       try clear c2
       try clear p2
       try clear q2
       try clear hx2
       try clear qi2
       try clear c3
       try clear c3b0
       try clear c4
       try clear c6
       try clear c6b0
       try clear c7
       try clear c7b0
       try clear c8
       try clear c8b0
       try clear c8b1
       try clear c9
       try clear c9b0
       try clear c9b1
       try clear c9b2
       try clear c10
       try clear c10b0
       try clear c10b1
       try clear hx210_0
       try clear hx211_0
       try clear hx212_0
       try clear hx213_0
       try clear p2
       try clear p210
       try clear p211
       try clear p212
       try clear p213
       try clear q210
       try clear q211
       try clear q212
       try clear q213
       obtain ⟨kq, x40_4, rfl, HA, HJ4, ⟨mc4, rfl⟩⟩ := hcut
       cases kq with
       | zero => exact absurd HA.out (by simp [spec_l13Cells.j2])
       | succ kj4 =>
        have H := HA.out
        clear HA
        simp only [spec_l13Cells.j2] at H
        by_cases c11 : x40_4 = true
        ·subst c11
         have H1 : (some false) = some r := by rw [if_pos rfl] at H; exact H
         clear H
         have H := H1
         clear H1
         obtain rfl := Option.some.inj H
         go_wp2
         repeat (go_quiet (fail); try go_wp2)
         go_ret
         exact ⟨by first | rfl | (simp; done) | (simp [*]; done), by repeat (first | exact Drawn0.refl _ | apply Drawn0.step)⟩
        ·replace c11 := Bool.eq_false_iff.mpr c11
         subst c11
         have H1 : (spec_l13Cells.l1 kj4 l0 x3_1 0) = some r := by rw [if_neg (show ¬ (false = true) by decide)] at H; exact H
         clear H
         have H := H1
         clear H1
         have H' := Aside0.mk H
         clear H
         go_wp2
         repeat (go_quiet (fail); try go_wp2)
         go_loopg [4] kj4 (fun kq v4 w' => ∃ (x4_4 : Int), v4 = .int .i64 x4_4 ∧ Aside0 (spec_l13Cells.l1 kq l0 x3_1 x4_4 = some r) ∧ Aside0 (kq ≤ kj4) ∧ Drawn0 w w')
         case atStart => exact ⟨(0), (by first|rfl|(simp;done)|(simp[*];done)), H', ⟨Nat.le_refl _⟩, by repeat (first | exact Drawn0.refl _ | apply Drawn0.step)⟩
         case round =>
          clear H'
          try clear c1
          try clear c2
          try clear p2
          try clear q2
          try clear hx2
          try clear qi2
          try clear c3
          try clear c3b0
          try clear c4
          try clear c6
          try clear c6b0
          try clear c7
          try clear c7b0
          try clear c8
          try clear c8b0
          try clear c8b1
          try clear c9
          try clear c9b0
          try clear c9b1
          try clear c9b2
          try clear c10
          try clear c10b0
          try clear c10b1
          try clear c11
          try clear hx210_0
          try clear hx211_0
          try clear hx212_0
          try clear hx213_0
          try clear p2
          try clear p210
          try clear p211
          try clear p212
          try clear p213
          try clear q2
          try clear q210
          try clear q211
          try clear q212
          try clear q213
          obtain ⟨x4_4, rfl, HA, HK4, ⟨m4, rfl⟩⟩ := hrel
          cases gk with
          | zero => exact absurd HA.out (by simp [spec_l13Cells.l1])
          | succ k4 =>
           have H := HA.out
           clear HA
           simp only [spec_l13Cells.l1] at H
           by_cases c12 : 0 ≤ x3_1
           ·rw [if_pos c12] at H
            have c12b0 : decide (0 ≤ x3_1) = true := decide_eq_true c12
            clear c12
            by_cases c13 : x3_1 < (l0.length : Int)
            ·rw [if_pos c13] at H
             have c13b0 : decide (x3_1 < (l0.length : Int)) = true := decide_eq_true c13
             clear c13
             by_cases c14 : x4_4 < ((rd_L3 l0 x3_1).length : Int)
             ·rw [if_pos c14] at H
              have c14b0 : decide (x4_4 < ((rd_L3 l0 x3_1).length : Int)) = true := decide_eq_true c14
              clear c14
              by_cases c15 : 0 ≤ x4_4
              ·rw [if_pos c15] at H
               have c15b0 : decide (0 ≤ x4_4) = true := decide_eq_true c15
               clear c15
               by_cases c16 : (rdOf ByteArray.empty (rd_L3 l0 x3_1) x4_4).toList = ([] : List UInt8)
               ·rw [if_pos c16] at H
                have c16b0 : ((rdOf ByteArray.empty (rd_L3 l0 x3_1) x4_4).toList == ([] : List UInt8)) = true := beq_iff_eq.mpr c16
                have c16b1 : ((rdOf ByteArray.empty (rd_L3 l0 x3_1) x4_4).toList != ([] : List UInt8)) = false := bne_eq_false_iff_eq.mpr c16
                clear c16
                have H' := Aside0.mk H
                clear H
                have p214 : 0 ≤ (x3_1 : Int) := of_decide_eq_true (by first|(with_reducible assumption)|assumption)
                have q214 : x3_1 < (l0.length : Int) := of_decide_eq_true (by first|(with_reducible assumption)|assumption)
                obtain ⟨ad214, A214_0, c214_0, e214, hx214_0, hl214_0, hi214_0⟩ := at_L3 HR0.out x3_1 p214 q214
                cases e214
                have HR214_0 := Aside0.mk hi214_0
                have HC214_0 := Aside0.mk hl214_0
                clear hi214_0 hl214_0
                replace p214 := eq_true p214
                replace q214 := eq_true q214
                have p215 : 0 ≤ (x3_1 : Int) := of_decide_eq_true (by first|(with_reducible assumption)|assumption)
                have q215 : x3_1 < (l0.length : Int) := of_decide_eq_true (by first|(with_reducible assumption)|assumption)
                obtain ⟨ad215, A215_0, c215_0, e215, hx215_0, hl215_0, hi215_0⟩ := at_L3 HR0.out x3_1 p215 q215
                obtain rfl : ad214 = ad215 := (by injection e215)
                have HR215_0 := Aside0.mk hi215_0
                have HC215_0 := Aside0.mk hl215_0
                clear hi215_0 hl215_0
                replace p215 := eq_true p215
                replace q215 := eq_true q215
                have ea_ := Option.some.inj (hx214_0.symm.trans hx215_0)
                injection ea_ with ea_ en_ ec_
                subst ea_
                subst ec_
                clear en_
                have p216 : 0 ≤ (x4_4 : Int) := of_decide_eq_true (by first|(with_reducible assumption)|assumption)
                have q216 : x4_4 < ((rd_L3 l0 x3_1).length : Int) := of_decide_eq_true (by first|(with_reducible assumption)|assumption)
                obtain ⟨ad216, e216, hx216_0⟩ := Kd.at_string HR215_0.out x4_4 p216 q216
                cases e216
                replace p216 := eq_true p216
                replace q216 := eq_true q216
                go_wp2
                repeat (go_quiet (fail); try go_wp2)
                go_roundg k4
                case measure => have := HK1.out; have := HJ1.out; have := HJ4.out; have := HK4.out; omega
                case rel => exact ⟨(wrap64 (x4_4 + 1)), (by first|rfl|(simp;done)|(simp[*];done)), H', ⟨by have := HK1.out; have := HJ1.out; have := HJ4.out; have := HK4.out; omega⟩, by repeat (first | exact Drawn0.refl _ | apply Drawn0.step)⟩
               ·rw [if_neg c16] at H
                have c16b0 : ((rdOf ByteArray.empty (rd_L3 l0 x3_1) x4_4).toList == ([] : List UInt8)) = false := beq_eq_false_iff_ne.mpr c16
                have c16b1 : ((rdOf ByteArray.empty (rd_L3 l0 x3_1) x4_4).toList != ([] : List UInt8)) = true := bne_iff_ne.mpr c16
                replace H := Option.bind_eq_some_iff.mp H
                obtain ⟨t219, A170, H⟩ := H
                replace H : (if t219 = true then (spec_l13Cells.l1 k4 l0 x3_1 (wrap64 (x4_4 + 1))) else (some false)) = some r := H
                have A17 := Aside0.mk A170
                clear A170
                by_cases c18 : t219 = true
                ·subst c18
                 have H1 : (spec_l13Cells.l1 k4 l0 x3_1 (wrap64 (x4_4 + 1))) = some r := by rw [if_pos rfl] at H; exact H
                 clear H
                 have H := H1
                 clear H1
                 have H' := Aside0.mk H
                 clear H
                 have p214 : 0 ≤ (x3_1 : Int) := of_decide_eq_true (by first|(with_reducible assumption)|assumption)
                 have q214 : x3_1 < (l0.length : Int) := of_decide_eq_true (by first|(with_reducible assumption)|assumption)
                 obtain ⟨ad214, A214_0, c214_0, e214, hx214_0, hl214_0, hi214_0⟩ := at_L3 HR0.out x3_1 p214 q214
                 cases e214
                 have HR214_0 := Aside0.mk hi214_0
                 have HC214_0 := Aside0.mk hl214_0
                 clear hi214_0 hl214_0
                 replace p214 := eq_true p214
                 replace q214 := eq_true q214
                 have p215 : 0 ≤ (x3_1 : Int) := of_decide_eq_true (by first|(with_reducible assumption)|assumption)
                 have q215 : x3_1 < (l0.length : Int) := of_decide_eq_true (by first|(with_reducible assumption)|assumption)
                 obtain ⟨ad215, A215_0, c215_0, e215, hx215_0, hl215_0, hi215_0⟩ := at_L3 HR0.out x3_1 p215 q215
                 obtain rfl : ad214 = ad215 := (by injection e215)
                 have HR215_0 := Aside0.mk hi215_0
                 have HC215_0 := Aside0.mk hl215_0
                 clear hi215_0 hl215_0
                 replace p215 := eq_true p215
                 replace q215 := eq_true q215
                 have ea_ := Option.some.inj (hx214_0.symm.trans hx215_0)
                 injection ea_ with ea_ en_ ec_
                 subst ea_
                 subst ec_
                 clear en_
                 have p216 : 0 ≤ (x4_4 : Int) := of_decide_eq_true (by first|(with_reducible assumption)|assumption)
                 have q216 : x4_4 < ((rd_L3 l0 x3_1).length : Int) := of_decide_eq_true (by first|(with_reducible assumption)|assumption)
                 obtain ⟨ad216, e216, hx216_0⟩ := Kd.at_string HR215_0.out x4_4 p216 q216
                 cases e216
                 replace p216 := eq_true p216
                 replace q216 := eq_true q216
                 have p217 : 0 ≤ (x3_1 : Int) := of_decide_eq_true (by first|(with_reducible assumption)|assumption)
                 have q217 : x3_1 < (l0.length : Int) := of_decide_eq_true (by first|(with_reducible assumption)|assumption)
                 obtain ⟨ad217, A217_0, c217_0, e217, hx217_0, hl217_0, hi217_0⟩ := at_L3 HR0.out x3_1 p217 q217
                 obtain rfl : ad214 = ad217 := (by injection e217)
                 have HR217_0 := Aside0.mk hi217_0
                 have HC217_0 := Aside0.mk hl217_0
                 clear hi217_0 hl217_0
                 replace p217 := eq_true p217
                 replace q217 := eq_true q217
                 have ea_ := Option.some.inj (hx214_0.symm.trans hx217_0)
                 injection ea_ with ea_ en_ ec_
                 subst ea_
                 subst ec_
                 clear en_
                 have p218 : 0 ≤ (x4_4 : Int) := of_decide_eq_true (by first|(with_reducible assumption)|assumption)
                 have q218 : x4_4 < ((rd_L3 l0 x3_1).length : Int) := of_decide_eq_true (by first|(with_reducible assumption)|assumption)
                 obtain ⟨ad218, e218, hx218_0⟩ := Kd.at_string HR217_0.out x4_4 p218 q218
                 cases e218
                 replace p218 := eq_true p218
                 replace q218 := eq_true q218
                 go_wp2_with (first | (go_at_call 82; (with_reducible refine (spec_TextValid.calls k4 (rdOf ByteArray.empty (rd_L3 l0 x3_1) x4_4) true _ A17.out).mono ?_); rintro e w' ⟨rfl, ⟨nd, rfl⟩⟩; (try first | exact ⟨rfl, _, World.drewN_drewN _ _ _⟩ | exact ⟨rfl, _, Eq.trans (World.drewN_drewN _ _ _) (congrArg (World.drewN _) (Nat.add_assoc _ _ _))⟩)))
                 repeat (go_quiet (first | (go_at_call 82; (with_reducible refine (spec_TextValid.calls k4 (rdOf ByteArray.empty (rd_L3 l0 x3_1) x4_4) true _ A17.out).mono ?_); rintro e w' ⟨rfl, ⟨nd, rfl⟩⟩; (try first | exact ⟨rfl, _, World.drewN_drewN _ _ _⟩ | exact ⟨rfl, _, Eq.trans (World.drewN_drewN _ _ _) (congrArg (World.drewN _) (Nat.add_assoc _ _ _))⟩))); try go_wp2_with (first | (go_at_call 82; (with_reducible refine (spec_TextValid.calls k4 (rdOf ByteArray.empty (rd_L3 l0 x3_1) x4_4) true _ A17.out).mono ?_); rintro e w' ⟨rfl, ⟨nd, rfl⟩⟩; (try first | exact ⟨rfl, _, World.drewN_drewN _ _ _⟩ | exact ⟨rfl, _, Eq.trans (World.drewN_drewN _ _ _) (congrArg (World.drewN _) (Nat.add_assoc _ _ _))⟩))))
                 go_roundg k4
                 case measure => have := HK1.out; have := HJ1.out; have := HJ4.out; have := HK4.out; omega
                 case rel => exact ⟨(wrap64 (x4_4 + 1)), (by first|rfl|(simp;done)|(simp[*];done)), H', ⟨by have := HK1.out; have := HJ1.out; have := HJ4.out; have := HK4.out; omega⟩, by repeat (first | exact Drawn0.refl _ | apply Drawn0.step)⟩
                ·replace c18 := Bool.eq_false_iff.mpr c18
                 subst c18
                 have H1 : (some false) = some r := by rw [if_neg (show ¬ (false = true) by decide)] at H; exact H
                 clear H
                 have H := H1
                 clear H1
                 obtain rfl := Option.some.inj H
                 have p214 : 0 ≤ (x3_1 : Int) := of_decide_eq_true (by first|(with_reducible assumption)|assumption)
                 have q214 : x3_1 < (l0.length : Int) := of_decide_eq_true (by first|(with_reducible assumption)|assumption)
                 obtain ⟨ad214, A214_0, c214_0, e214, hx214_0, hl214_0, hi214_0⟩ := at_L3 HR0.out x3_1 p214 q214
                 cases e214
                 have HR214_0 := Aside0.mk hi214_0
                 have HC214_0 := Aside0.mk hl214_0
                 clear hi214_0 hl214_0
                 replace p214 := eq_true p214
                 replace q214 := eq_true q214
                 have p215 : 0 ≤ (x3_1 : Int) := of_decide_eq_true (by first|(with_reducible assumption)|assumption)
                 have q215 : x3_1 < (l0.length : Int) := of_decide_eq_true (by first|(with_reducible assumption)|assumption)
                 obtain ⟨ad215, A215_0, c215_0, e215, hx215_0, hl215_0, hi215_0⟩ := at_L3 HR0.out x3_1 p215 q215
                 obtain rfl : ad214 = ad215 := (by injection e215)
                 have HR215_0 := Aside0.mk hi215_0
                 have HC215_0 := Aside0.mk hl215_0
                 clear hi215_0 hl215_0
                 replace p215 := eq_true p215
                 replace q215 := eq_true q215
                 have ea_ := Option.some.inj (hx214_0.symm.trans hx215_0)
                 injection ea_ with ea_ en_ ec_
                 subst ea_
                 subst ec_
                 clear en_
                 have p216 : 0 ≤ (x4_4 : Int) := of_decide_eq_true (by first|(with_reducible assumption)|assumption)
                 have q216 : x4_4 < ((rd_L3 l0 x3_1).length : Int) := of_decide_eq_true (by first|(with_reducible assumption)|assumption)
                 obtain ⟨ad216, e216, hx216_0⟩ := Kd.at_string HR215_0.out x4_4 p216 q216
                 cases e216
                 replace p216 := eq_true p216
                 replace q216 := eq_true q216
                 have p217 : 0 ≤ (x3_1 : Int) := of_decide_eq_true (by first|(with_reducible assumption)|assumption)
                 have q217 : x3_1 < (l0.length : Int) := of_decide_eq_true (by first|(with_reducible assumption)|assumption)
                 obtain ⟨ad217, A217_0, c217_0, e217, hx217_0, hl217_0, hi217_0⟩ := at_L3 HR0.out x3_1 p217 q217
                 obtain rfl : ad214 = ad217 := (by injection e217)
                 have HR217_0 := Aside0.mk hi217_0
                 have HC217_0 := Aside0.mk hl217_0
                 clear hi217_0 hl217_0
                 replace p217 := eq_true p217
                 replace q217 := eq_true q217
                 have ea_ := Option.some.inj (hx214_0.symm.trans hx217_0)
                 injection ea_ with ea_ en_ ec_
                 subst ea_
                 subst ec_
                 clear en_
                 have p218 : 0 ≤ (x4_4 : Int) := of_decide_eq_true (by first|(with_reducible assumption)|assumption)
                 have q218 : x4_4 < ((rd_L3 l0 x3_1).length : Int) := of_decide_eq_true (by first|(with_reducible assumption)|assumption)
                 obtain ⟨ad218, e218, hx218_0⟩ := Kd.at_string HR217_0.out x4_4 p218 q218
                 cases e218
                 replace p218 := eq_true p218
                 replace q218 := eq_true q218
                 go_wp2_with (first | (go_at_call 82; (with_reducible refine (spec_TextValid.calls k4 (rdOf ByteArray.empty (rd_L3 l0 x3_1) x4_4) false _ A17.out).mono ?_); rintro e w' ⟨rfl, ⟨nd, rfl⟩⟩; (try first | exact ⟨rfl, _, World.drewN_drewN _ _ _⟩ | exact ⟨rfl, _, Eq.trans (World.drewN_drewN _ _ _) (congrArg (World.drewN _) (Nat.add_assoc _ _ _))⟩)))
                 repeat (go_quiet (first | (go_at_call 82; (with_reducible refine (spec_TextValid.calls k4 (rdOf ByteArray.empty (rd_L3 l0 x3_1) x4_4) false _ A17.out).mono ?_); rintro e w' ⟨rfl, ⟨nd, rfl⟩⟩; (try first | exact ⟨rfl, _, World.drewN_drewN _ _ _⟩ | exact ⟨rfl, _, Eq.trans (World.drewN_drewN _ _ _) (congrArg (World.drewN _) (Nat.add_assoc _ _ _))⟩))); try go_wp2_with (first | (go_at_call 82; (with_reducible refine (spec_TextValid.calls k4 (rdOf ByteArray.empty (rd_L3 l0 x3_1) x4_4) false _ A17.out).mono ?_); rintro e w' ⟨rfl, ⟨nd, rfl⟩⟩; (try first | exact ⟨rfl, _, World.drewN_drewN _ _ _⟩ | exact ⟨rfl, _, Eq.trans (World.drewN_drewN _ _ _) (congrArg (World.drewN _) (Nat.add_assoc _ _ _))⟩))))
                 go_ret
                 exact ⟨by first | rfl | (simp; done) | (simp [*]; done), by repeat (first | exact Drawn0.refl _ | apply Drawn0.step)⟩
              ·rw [if_neg c15] at H
               exact absurd H (by simp)
             ·rw [if_neg c14] at H
              have c14b0 : decide (x4_4 < ((rd_L3 l0 x3_1).length : Int)) = false := decide_eq_false c14
              clear c14
              have H' := Aside0.mk H
              clear H
              have p214 : 0 ≤ (x3_1 : Int) := of_decide_eq_true (by first|(with_reducible assumption)|assumption)
              have q214 : x3_1 < (l0.length : Int) := of_decide_eq_true (by first|(with_reducible assumption)|assumption)
              obtain ⟨ad214, A214_0, c214_0, e214, hx214_0, hl214_0, hi214_0⟩ := at_L3 HR0.out x3_1 p214 q214
              cases e214
              have HR214_0 := Aside0.mk hi214_0
              have HC214_0 := Aside0.mk hl214_0
              clear hi214_0 hl214_0
              replace p214 := eq_true p214
              replace q214 := eq_true q214
              go_wp2
              repeat (go_quiet (fail); try go_wp2)
              go_roundg k4
              case measure => have := HK1.out; have := HJ1.out; have := HJ4.out; have := HK4.out; omega
              case rel => exact ⟨(wrap64 (x3_1 + 1)), (by first|rfl|(simp;done)|(simp[*];done)), H', ⟨by have := HK1.out; have := HJ1.out; have := HJ4.out; have := HK4.out; omega⟩, by repeat (first | exact Drawn0.refl _ | apply Drawn0.step)⟩
            ·rw [if_neg c13] at H
             exact absurd H (by simp)
           ·rw [if_neg c12] at H
            exact absurd H (by simp)
     ·replace c4 := Bool.eq_false_iff.mpr c4
      subst c4
      have H1 : (if (l0.length : Int) ≥ 1 then (some (decide ((l0.length : Int) ≤ 20))) else (some false)) = some r := by rw [if_neg (show ¬ (false = true) by decide)] at H; exact H
      clear H
      have H := H1
      clear H1
      by_cases c19 : (l0.length : Int) ≥ 1
      ·rw [if_pos c19] at H
       have c19b0 : decide (1 ≤ (l0.length : Int)) = true := decide_eq_true c19
       have c19b1 : decide (1 ≤ l0.length) = true := decide_eq_true (by omega)
       clear c19
       obtain rfl := Option.some.inj H
       go_wp2
       repeat (go_quiet (fail); try go_wp2)
       go_ret
       exact ⟨by first | rfl | (simp; done) | (simp [*]; done), by repeat (first | exact Drawn0.refl _ | apply Drawn0.step)⟩
      ·rw [if_neg c19] at H
       have c19b0 : decide (1 ≤ (l0.length : Int)) = false := decide_eq_false c19
       have c19b1 : decide (1 ≤ l0.length) = false := decide_eq_false (by omega)
       clear c19
       obtain rfl := Option.some.inj H
       go_wp2
       repeat (go_quiet (fail); try go_wp2)
       go_ret
       exact ⟨by first | rfl | (simp; done) | (simp [*]; done), by repeat (first | exact Drawn0.refl _ | apply Drawn0.step)⟩

end Go.Proofs.Ythcfocpimoghbaa.PTa
