-- Written by a program of this session (xprint). -- COMPACT
import Derived.Test.YtcbjlaphoajngaaPFwx0
import Derived.Test.YtcbjlaphoajngaaPFwx5
namespace Go.Proofs.Ytcbjlaphoajngaa.PFw
open Go.RowKit Go.Proofs.YtcbjlaphoajngaaW.PrintWords Go.Proofs.YtcbjlaphoajngaaW.PrintLast Go.Proofs.YtcbjlaphoajngaaW.PrintMore
attribute [local go_sem] max2_int min2_int max_two min_two max_three min_three max_four min_four   -- for this text's walks alone
set_option linter.unusedVariables false
set_option linter.unusedSimpArgs false

/-! ### spec_l13Cells: function 55 -/
mutual
def spec_l13Cells.l0 : Nat → List (List ByteArray) → Int → Option (Bool)
 | 0, _, _ => none
 | k + 1, x0, x3 => if x3 < (x0.length : Int) then (spec_l13Cells.j1 k x0 x3 (decide (x3 ≤ 20))) else (spec_l13Cells.j1 k x0 x3 false)
def spec_l13Cells.j1 : Nat → List (List ByteArray) → Int → Bool → Option (Bool)
 | 0, _, _, _ => none
 | k + 1, x0, x3, x12 => if x12 = true then (if 0 ≤ x3 then (if x3 < (x0.length : Int) then (if 0 < (x0.length : Int) then (if ((rd_L3 x0 x3).length : Int) = ((rd_L3 x0 0).length : Int) then (if ((rd_L3 x0 x3).length : Int) < 1 then (spec_l13Cells.j2 k x0 x3 true) else (spec_l13Cells.j2 k x0 x3 (decide (((rd_L3 x0 x3).length : Int) > 20)))) else (spec_l13Cells.j2 k x0 x3 true)) else (none)) else (none)) else (none)) else (if (x0.length : Int) ≥ 1 then (some (decide ((x0.length : Int) ≤ 20))) else (some false))
def spec_l13Cells.j2 : Nat → List (List ByteArray) → Int → Bool → Option (Bool)
 | 0, _, _, _ => none
 | k + 1, x0, x3, x40 => if x40 = true then (some false) else (spec_l13Cells.l1 k x0 x3 0)
def spec_l13Cells.l1 : Nat → List (List ByteArray) → Int → Int → Option (Bool)
 | 0, _, _, _ => none
 | k + 1, x0, x3, x4 => if 0 ≤ x3 then (if x3 < (x0.length : Int) then (if x4 < ((rd_L3 x0 x3).length : Int) then (if 0 ≤ x4 then (if (rdOf ByteArray.empty (rd_L3 x0 x3) x4).toList = ([] : List UInt8) then (spec_l13Cells.l1 k x0 x3 (wrap64 (x4 + 1))) else ((spec_TextValid.f k (rdOf ByteArray.empty (rd_L3 x0 x3) x4)).bind fun t194 => (if t194 = true then (spec_l13Cells.l1 k x0 x3 (wrap64 (x4 + 1))) else (some false)))) else (none)) else (spec_l13Cells.l0 k x0 (wrap64 (x3 + 1)))) else (none)) else (none)
end
def spec_l13Cells.f (k : Nat) (l0 : List (List ByteArray)) : Option (Bool) := spec_l13Cells.l0 k l0 0
theorem spec_l13Cells.mono_l : ∀ k, (∀ y0 y1, LeO (spec_l13Cells.l0 k y0 y1) (spec_l13Cells.l0 (k + 1) y0 y1)) ∧ (∀ y0 y1 y2, LeO (spec_l13Cells.j1 k y0 y1 y2) (spec_l13Cells.j1 (k + 1) y0 y1 y2)) ∧ (∀ y0 y1 y2, LeO (spec_l13Cells.j2 k y0 y1 y2) (spec_l13Cells.j2 (k + 1) y0 y1 y2)) ∧ (∀ y0 y1 y2, LeO (spec_l13Cells.l1 k y0 y1 y2) (spec_l13Cells.l1 (k + 1) y0 y1 y2))
 | 0 => ⟨fun _ _ r h => by simp [spec_l13Cells.l0] at h, fun _ _ _ r h => by simp [spec_l13Cells.j1] at h, fun _ _ _ r h => by simp [spec_l13Cells.j2] at h, fun _ _ _ r h => by simp [spec_l13Cells.l1] at h⟩
 | k + 1 => by
  obtain ⟨ih0, ih1, ih2, ih3⟩ := spec_l13Cells.mono_l k
  refine ⟨?_, ?_, ?_, ?_⟩
  ·intro y0 y1
   unfold spec_l13Cells.l0
   repeat' first
   | (with_reducible exact ih0 _ _)
   | (with_reducible exact ih1 _ _ _)
   | (with_reducible exact ih2 _ _ _)
   | (with_reducible exact ih3 _ _ _)
   | (with_reducible exact spec_TextValid.mono _ _)
   | (with_reducible exact LeO.refl _)
   | (with_reducible exact LeO.none _)
   | (with_reducible refine LeO.ite ?_ ?_)
   | (with_reducible refine LeO.bind ?_ (fun _ => ?_))
   | exact ih0 _ _
   | exact ih1 _ _ _
   | exact ih2 _ _ _
   | exact ih3 _ _ _
   | exact spec_TextValid.mono _ _
   | exact LeO.none _
   | refine LeO.ite ?_ ?_
   | refine LeO.bind ?_ (fun _ => ?_)
  ·intro y0 y1 y2
   unfold spec_l13Cells.j1
   repeat' first
   | (with_reducible exact ih0 _ _)
   | (with_reducible exact ih1 _ _ _)
   | (with_reducible exact ih2 _ _ _)
   | (with_reducible exact ih3 _ _ _)
   | (with_reducible exact spec_TextValid.mono _ _)
   | (with_reducible exact LeO.refl _)
   | (with_reducible exact LeO.none _)
   | (with_reducible refine LeO.ite ?_ ?_)
   | (with_reducible refine LeO.bind ?_ (fun _ => ?_))
   | exact ih0 _ _
   | exact ih1 _ _ _
   | exact ih2 _ _ _
   | exact ih3 _ _ _
   | exact spec_TextValid.mono _ _
   | exact LeO.none _
   | refine LeO.ite ?_ ?_
   | refine LeO.bind ?_ (fun _ => ?_)
  ·intro y0 y1 y2
   unfold spec_l13Cells.j2
   repeat' first
   | (with_reducible exact ih0 _ _)
   | (with_reducible exact ih1 _ _ _)
   | (with_reducible exact ih2 _ _ _)
   | (with_reducible exact ih3 _ _ _)
   | (with_reducible exact spec_TextValid.mono _ _)
   | (with_reducible exact LeO.refl _)
   | (with_reducible exact LeO.none _)
   | (with_reducible refine LeO.ite ?_ ?_)
   | (with_reducible refine LeO.bind ?_ (fun _ => ?_))
   | exact ih0 _ _
   | exact ih1 _ _ _
   | exact ih2 _ _ _
   | exact ih3 _ _ _
   | exact spec_TextValid.mono _ _
   | exact LeO.none _
   | refine LeO.ite ?_ ?_
   | refine LeO.bind ?_ (fun _ => ?_)
  ·intro y0 y1 y2
   unfold spec_l13Cells.l1
   repeat' first
   | (with_reducible exact ih0 _ _)
   | (with_reducible exact ih1 _ _ _)
   | (with_reducible exact ih2 _ _ _)
   | (with_reducible exact ih3 _ _ _)
   | (with_reducible exact spec_TextValid.mono _ _)
   | (with_reducible exact LeO.refl _)
   | (with_reducible exact LeO.none _)
   | (with_reducible refine LeO.ite ?_ ?_)
   | (with_reducible refine LeO.bind ?_ (fun _ => ?_))
   | exact ih0 _ _
   | exact ih1 _ _ _
   | exact ih2 _ _ _
   | exact ih3 _ _ _
   | exact spec_TextValid.mono _ _
   | exact LeO.none _
   | refine LeO.ite ?_ ?_
   | refine LeO.bind ?_ (fun _ => ?_)
theorem spec_l13Cells.mono : ∀ a0 k, LeO (spec_l13Cells.f k a0) (spec_l13Cells.f (k + 1) a0) := by
 intro a0 k
 obtain ⟨ih0, ih1, ih2, ih3⟩ := spec_l13Cells.mono_l k
 unfold spec_l13Cells.f
 repeat' first
   | (with_reducible exact ih0 _ _)
   | (with_reducible exact ih1 _ _ _)
   | (with_reducible exact ih2 _ _ _)
   | (with_reducible exact ih3 _ _ _)
   | (with_reducible exact spec_TextValid.mono _ _)
   | (with_reducible exact LeO.refl _)
   | (with_reducible exact LeO.none _)
   | (with_reducible refine LeO.ite ?_ ?_)
   | (with_reducible refine LeO.bind ?_ (fun _ => ?_))
   | exact ih0 _ _
   | exact ih1 _ _ _
   | exact ih2 _ _ _
   | exact ih3 _ _ _
   | exact spec_TextValid.mono _ _
   | exact LeO.none _
   | refine LeO.ite ?_ ?_
   | refine LeO.bind ?_ (fun _ => ?_)
set_option maxHeartbeats 8000000 in
set_option maxRecDepth 100000 in
theorem spec_l13Cells.calls (k : Nat) (A0 : Option Addr) (c0 : Nat) (l0 : List (List ByteArray)) (r : Bool) (w : World) (hr0 : Kd.C (Kd.slice 9 Kd.string) w A0 l0.length l0) (hc0 : l0.length ≤ c0) (h : spec_l13Cells.f k l0 = some r) :
  Calls Try.prog 55 #[.slice A0 l0.length c0] w fun e w' => e = .returned (.bool r) ∧ Drawn0 w w' := by
 have HR0 := Aside0.mk hr0
 have HC0 := Aside0.mk hc0
 clear hr0 hc0
 have H : (spec_l13Cells.l0 k l0 0) = some r := h
 clear h
 have H' := Aside0.mk H
 clear H
 go_enter Try.func55, Try.ntmps55
 go_wp2
 repeat (go_quiet (fail); try go_wp2)
 go_loopg [3] k (fun kq v3 w' => ∃ (x3_1 : Int), v3 = .int .i64 x3_1 ∧ Aside0 (spec_l13Cells.l0 kq l0 x3_1 = some r) ∧ Aside0 (kq ≤ k) ∧ Drawn0 w w')
 case atStart => exact ⟨(0), (by first|rfl|(simp;done)|(simp[*];done)), H', ⟨Nat.le_refl _⟩, by repeat (first | exact Drawn0.refl _ | apply Drawn0.step)⟩
 case round =>
  clear H'
  obtain ⟨x3_1, rfl, HA, HK1, ⟨m1, rfl⟩⟩ := hrel
  cases gk with
  | zero => exact absurd HA.out (by simp [spec_l13Cells.l0])
  | succ k1 =>
   have H := HA.out
   clear HA
   simp only [spec_l13Cells.l0] at H
   have HC2 := Aside0.mk H
   clear H
   go_upto_region 2 with (fail)
   repeat (go_quiet (fail); go_upto_region 2 with (fail))
   go_cut [12] (fun v12 wc => ∃ (kq : Nat) (x12_1 : Bool), v12 = .bool x12_1 ∧ Aside0 (spec_l13Cells.j1 kq l0 x3_1 x12_1 = some r) ∧ Aside0 (kq ≤ k1) ∧ Drawn0 w wc)
   case first =>
    have H := HC2.out
    clear HC2
    by_cases c3 : x3_1 < (l0.length : Int)
    ·rw [if_pos c3] at H
     have c3b0 : decide (x3_1 < (l0.length : Int)) = true := decide_eq_true c3
     clear c3
     (first | rw [c3b0] | (simp only [i64_w, i32_w]; rw [c3b0]) | skip)
     have H' := Aside0.mk H
     clear H
     go_wp2
     repeat (go_quiet (fail); try go_wp2)
     go_meet
     case rel => exact ⟨_, (decide (x3_1 ≤ 20)), (by first|rfl|(simp;done)|(simp[*];done)), H', ⟨by have := HK1.out; first | omega | exact Nat.le_refl _⟩, by repeat (first | exact Drawn0.refl _ | apply Drawn0.step)⟩
    ·rw [if_neg c3] at H
     have c3b0 : decide (x3_1 < (l0.length : Int)) = false := decide_eq_false c3
     clear c3
     (first | rw [c3b0] | (simp only [i64_w, i32_w]; rw [c3b0]) | skip)
     have H' := Aside0.mk H
     clear H
     go_wp2
     repeat (go_quiet (fail); try go_wp2)
     go_meet
     case rel => exact ⟨_, (false), (by first|rfl|(simp;done)|(simp[*];done)), H', ⟨by have := HK1.out; first | omega | exact Nat.le_refl _⟩, by repeat (first | exact Drawn0.refl _ | apply Drawn0.step)⟩
   case rest =>
    clear HC2
    try clear p2
    try clear c3
    try clear c3b0
    obtain ⟨kq, x12_1, rfl, HA, HJ1, ⟨mc1, rfl⟩⟩ := hcut
    cases kq with
    | zero => exact absurd HA.out (by simp [spec_l13Cells.j1])
    | succ kj1 =>
     have H := HA.out
     clear HA
     simp only [spec_l13Cells.j1] at H
     by_cases c4 : x12_1 = true
     ·subst c4
      have H1 : (if 0 ≤ x3_1 then (if x3_1 < (l0.length : Int) then (if 0 < (l0.length : Int) then (if ((rd_L3 l0 x3_1).length : Int) = ((rd_L3 l0 0).length : Int) then (if ((rd_L3 l0 x3_1).length : Int) < 1 then (spec_l13Cells.j2 kj1 l0 x3_1 true) else (spec_l13Cells.j2 kj1 l0 x3_1 (decide (((rd_L3 l0 x3_1).length : Int) > 20)))) else (spec_l13Cells.j2 kj1 l0 x3_1 true)) else (none)) else (none)) else (none)) = some r := by rw [if_pos rfl] at H; exact H
      clear H
      have H := H1
      clear H1
      have HC5 := Aside0.mk H
      clear H
      go_upto_region 4 with (fail)
      repeat (go_quiet (fail); go_upto_region 4 with (fail))
      go_cut [40] (fun v40 wc => ∃ (kq : Nat) (x40_4 : Bool), v40 = .bool x40_4 ∧ Aside0 (spec_l13Cells.j2 kq l0 x3_1 x40_4 = some r) ∧ Aside0 (kq ≤ kj1) ∧ Drawn0 w wc)
      case first =>
       have H := HC5.out
       clear HC5
       by_cases c6 : 0 ≤ x3_1
       ·rw [if_pos c6] at H
        have c6b0 : decide (0 ≤ x3_1) = true := decide_eq_true c6
        clear c6
        (first | rw [c6b0] | (simp only [i64_w, i32_w]; rw [c6b0]) | skip)
        by_cases c7 : x3_1 < (l0.length : Int)
        ·rw [if_pos c7] at H
         have c7b0 : decide (x3_1 < (l0.length : Int)) = true := decide_eq_true c7
         clear c7
         by_cases c8 : 0 < (l0.length : Int)
         ·rw [if_pos c8] at H
          have c8b0 : decide (0 < (l0.length : Int)) = true := decide_eq_true c8
          have c8b1 : decide (0 < l0.length) = true := decide_eq_true (by omega)
          clear c8
          by_cases c9 : ((rd_L3 l0 x3_1).length : Int) = ((rd_L3 l0 0).length : Int)
          ·rw [if_pos c9] at H
           have c9b0 : (((rd_L3 l0 x3_1).length : Int) == ((rd_L3 l0 0).length : Int)) = true := beq_iff_eq.mpr c9
           have c9b1 : (((rd_L3 l0 x3_1).length : Int) != ((rd_L3 l0 0).length : Int)) = false := bne_eq_false_iff_eq.mpr c9
           have c9b2 : ((rd_L3 l0 x3_1).length == (rd_L3 l0 0).length) = true := by first | simpa using c9 | (simp at c9 ⊢; omega)
           clear c9
           by_cases c10 : ((rd_L3 l0 x3_1).length : Int) < 1
           ·rw [if_pos c10] at H
            have c10b0 : decide (((rd_L3 l0 x3_1).length : Int) < 1) = true := decide_eq_true c10
            have c10b1 : decide ((rd_L3 l0 x3_1).length < 1) = true := decide_eq_true (by omega)
            clear c10
            have H' := Aside0.mk H
            clear H
            have p185 : 0 ≤ (x3_1 : Int) := of_decide_eq_true (by first|(with_reducible assumption)|assumption)
            have q185 : x3_1 < (l0.length : Int) := of_decide_eq_true (by first|(with_reducible assumption)|assumption)
            obtain ⟨ad185, A185_0, c185_0, e185, hx185_0, hl185_0, hi185_0⟩ := at_L3 HR0.out x3_1 p185 q185
            cases e185
            have HR185_0 := Aside0.mk hi185_0
            have HC185_0 := Aside0.mk hl185_0
            clear hi185_0 hl185_0
            replace p185 := eq_true p185
            replace q185 := eq_true q185
            have p186 : 0 ≤ (0 : Int) := (by omega)
            have q186 : 0 < (l0.length : Int) := of_decide_eq_true (by first|(with_reducible assumption)|assumption)
            obtain ⟨ad186, A186_0, c186_0, e186, hx186_0, hl186_0, hi186_0⟩ := at_L3 HR0.out 0 p186 q186
            obtain rfl : ad185 = ad186 := (by injection e186)
            have qi186 : (0 < l0.length) = True := eq_true (by omega)
            (try rw [show ((0 : Int)).toNat = 0 from rfl] at hx186_0)
            (try rw [Addr.add_zero'] at hx186_0)
            have HR186_0 := Aside0.mk hi186_0
            have HC186_0 := Aside0.mk hl186_0
            clear hi186_0 hl186_0
            replace p186 := eq_true p186
            replace q186 := eq_true q186
            have p187 : 0 ≤ (x3_1 : Int) := of_decide_eq_true (by first|(with_reducible assumption)|assumption)
            have q187 : x3_1 < (l0.length : Int) := of_decide_eq_true (by first|(with_reducible assumption)|assumption)
            obtain ⟨ad187, A187_0, c187_0, e187, hx187_0, hl187_0, hi187_0⟩ := at_L3 HR0.out x3_1 p187 q187
            obtain rfl : ad185 = ad187 := (by injection e187)
            have HR187_0 := Aside0.mk hi187_0
            have HC187_0 := Aside0.mk hl187_0
            clear hi187_0 hl187_0
            replace p187 := eq_true p187
            replace q187 := eq_true q187
            have ea_ := Option.some.inj (hx185_0.symm.trans hx187_0)
            injection ea_ with ea_ en_ ec_
            subst ea_
            subst ec_
            clear en_
            go_wp2
            repeat (go_quiet (fail); try go_wp2)
            go_meet
            case rel => exact ⟨_, (true), (by first|rfl|(simp;done)|(simp[*];done)), H', ⟨by have := HK1.out; have := HJ1.out; first | omega | exact Nat.le_refl _⟩, by repeat (first | exact Drawn0.refl _ | apply Drawn0.step)⟩
           ·rw [if_neg c10] at H
            have c10b0 : decide (((rd_L3 l0 x3_1).length : Int) < 1) = false := decide_eq_false c10
            have c10b1 : decide ((rd_L3 l0 x3_1).length < 1) = false := decide_eq_false (by omega)
            clear c10
            have H' := Aside0.mk H
            clear H
            have p185 : 0 ≤ (x3_1 : Int) := of_decide_eq_true (by first|(with_reducible assumption)|assumption)
            have q185 : x3_1 < (l0.length : Int) := of_decide_eq_true (by first|(with_reducible assumption)|assumption)
            obtain ⟨ad185, A185_0, c185_0, e185, hx185_0, hl185_0, hi185_0⟩ := at_L3 HR0.out x3_1 p185 q185
            cases e185
            have HR185_0 := Aside0.mk hi185_0
            have HC185_0 := Aside0.mk hl185_0
            clear hi185_0 hl185_0
            replace p185 := eq_true p185
            replace q185 := eq_true q185
            have p186 : 0 ≤ (0 : Int) := (by omega)
            have q186 : 0 < (l0.length : Int) := of_decide_eq_true (by first|(with_reducible assumption)|assumption)
            obtain ⟨ad186, A186_0, c186_0, e186, hx186_0, hl186_0, hi186_0⟩ := at_L3 HR0.out 0 p186 q186
            obtain rfl : ad185 = ad186 := (by injection e186)
            have qi186 : (0 < l0.length) = True := eq_true (by omega)
            (try rw [show ((0 : Int)).toNat = 0 from rfl] at hx186_0)
            (try rw [Addr.add_zero'] at hx186_0)
            have HR186_0 := Aside0.mk hi186_0
            have HC186_0 := Aside0.mk hl186_0
            clear hi186_0 hl186_0
            replace p186 := eq_true p186
            replace q186 := eq_true q186
            have p187 : 0 ≤ (x3_1 : Int) := of_decide_eq_true (by first|(with_reducible assumption)|assumption)
            have q187 : x3_1 < (l0.length : Int) := of_decide_eq_true (by first|(with_reducible assumption)|assumption)
            obtain ⟨ad187, A187_0, c187_0, e187, hx187_0, hl187_0, hi187_0⟩ := at_L3 HR0.out x3_1 p187 q187
            obtain rfl : ad185 = ad187 := (by injection e187)
            have HR187_0 := Aside0.mk hi187_0
            have HC187_0 := Aside0.mk hl187_0
            clear hi187_0 hl187_0
            replace p187 := eq_true p187
            replace q187 := eq_true q187
            have ea_ := Option.some.inj (hx185_0.symm.trans hx187_0)
            injection ea_ with ea_ en_ ec_
            subst ea_
            subst ec_
            clear en_
            have p188 : 0 ≤ (x3_1 : Int) := of_decide_eq_true (by first|(with_reducible assumption)|assumption)
            have q188 : x3_1 < (l0.length : Int) := of_decide_eq_true (by first|(with_reducible assumption)|assumption)
            obtain ⟨ad188, A188_0, c188_0, e188, hx188_0, hl188_0, hi188_0⟩ := at_L3 HR0.out x3_1 p188 q188
            obtain rfl : ad185 = ad188 := (by injection e188)
            have HR188_0 := Aside0.mk hi188_0
            have HC188_0 := Aside0.mk hl188_0
            clear hi188_0 hl188_0
            replace p188 := eq_true p188
            replace q188 := eq_true q188
            have ea_ := Option.some.inj (hx185_0.symm.trans hx188_0)
            injection ea_ with ea_ en_ ec_
            subst ea_
            subst ec_
            clear en_
            go_wp2
            repeat (go_quiet (fail); try go_wp2)
            go_meet
            case rel => exact ⟨_, (decide (((rd_L3 l0 x3_1).length : Int) > 20)), (by first|rfl|(simp;done)|(simp[*];done)), H', ⟨by have := HK1.out; have := HJ1.out; first | omega | exact Nat.le_refl _⟩, by repeat (first | exact Drawn0.refl _ | apply Drawn0.step)⟩
          ·rw [if_neg c9] at H
           have c9b0 : (((rd_L3 l0 x3_1).length : Int) == ((rd_L3 l0 0).length : Int)) = false := beq_eq_false_iff_ne.mpr c9
           have c9b1 : (((rd_L3 l0 x3_1).length : Int) != ((rd_L3 l0 0).length : Int)) = true := bne_iff_ne.mpr c9
           have c9b2 : ((rd_L3 l0 x3_1).length == (rd_L3 l0 0).length) = false := by first | simpa using c9 | (simp at c9 ⊢; omega)
           have H' := Aside0.mk H
           clear H
           have p185 : 0 ≤ (x3_1 : Int) := of_decide_eq_true (by first|(with_reducible assumption)|assumption)
           have q185 : x3_1 < (l0.length : Int) := of_decide_eq_true (by first|(with_reducible assumption)|assumption)
           obtain ⟨ad185, A185_0, c185_0, e185, hx185_0, hl185_0, hi185_0⟩ := at_L3 HR0.out x3_1 p185 q185
           cases e185
           have HR185_0 := Aside0.mk hi185_0
           have HC185_0 := Aside0.mk hl185_0
           clear hi185_0 hl185_0
           replace p185 := eq_true p185
           replace q185 := eq_true q185
           have p186 : 0 ≤ (0 : Int) := (by omega)
           have q186 : 0 < (l0.length : Int) := of_decide_eq_true (by first|(with_reducible assumption)|assumption)
           obtain ⟨ad186, A186_0, c186_0, e186, hx186_0, hl186_0, hi186_0⟩ := at_L3 HR0.out 0 p186 q186
           obtain rfl : ad185 = ad186 := (by injection e186)
           have qi186 : (0 < l0.length) = True := eq_true (by omega)
           (try rw [show ((0 : Int)).toNat = 0 from rfl] at hx186_0)
           (try rw [Addr.add_zero'] at hx186_0)
           have HR186_0 := Aside0.mk hi186_0
           have HC186_0 := Aside0.mk hl186_0
           clear hi186_0 hl186_0
           replace p186 := eq_true p186
           replace q186 := eq_true q186
           go_wp2
           repeat (go_quiet (fail); try go_wp2)
           go_meet
           case rel => exact ⟨_, (true), (by first|rfl|(simp;done)|(simp[*];done)), H', ⟨by have := HK1.out; have := HJ1.out; first | omega | exact Nat.le_refl _⟩, by repeat (first | exact Drawn0.refl _ | apply Drawn0.step)⟩
         ·rw [if_neg c8] at H
          exact absurd H (by simp)
        ·rw [if_neg c7] at H
         exact absurd H (by simp)
       ·rw [if_neg c6] at H
        exact absurd H (by simp)
      case rest =>
       clear HC5
       try clear c1
       try clear p1
       try clear q1
       try clear hx1
       try clear qi1
       try clear p2
       try clear c3
       try clear c3b0
       try clear c4
       try clear c5
       try clear c6
       try clear c6b0
       try clear c7
       try clear c7b0
       try clear c8
       try clear c8b0
       try clear c8b1
       try clear c9
       try clear c9b0
       try clear c9b1
       try clear c9b2
       try clear c10
       try clear c10b0
       try clear c10b1
       try clear hx185_0
       try clear hx186_0
       try clear hx187_0
       try clear hx188_0
       try clear p185
       try clear p186
       try clear p187
       try clear p188
       try clear p2
       try clear q185
       try clear q186
       try clear q187
       try clear q188
       obtain ⟨kq, x40_4, rfl, HA, HJ4, ⟨mc4, rfl⟩⟩ := hcut
       cases kq with
       | zero => exact absurd HA.out (by simp [spec_l13Cells.j2])
       | succ kj4 =>
        have H := HA.out
        clear HA
        simp only [spec_l13Cells.j2] at H
        by_cases c11 : x40_4 = true
        ·subst c11
         have H1 : (some false) = some r := by rw [if_pos rfl] at H; exact H
         clear H
         have H := H1
         clear H1
         obtain rfl := Option.some.inj H
         go_wp2
         repeat (go_quiet (fail); try go_wp2)
         go_ret
         exact ⟨by first | rfl | (simp; done) | (simp [*]; done), by repeat (first | exact Drawn0.refl _ | apply Drawn0.step)⟩
        ·replace c11 := Bool.eq_false_iff.mpr c11
         subst c11
         have H1 : (spec_l13Cells.l1 kj4 l0 x3_1 0) = some r := by rw [if_neg (show ¬ (false = true) by decide)] at H; exact H
         clear H
         have H := H1
         clear H1
         have H' := Aside0.mk H
         clear H
         go_wp2
         repeat (go_quiet (fail); try go_wp2)
         go_loopg [4] kj4 (fun kq v4 w' => ∃ (x4_4 : Int), v4 = .int .i64 x4_4 ∧ Aside0 (spec_l13Cells.l1 kq l0 x3_1 x4_4 = some r) ∧ Aside0 (kq ≤ kj4) ∧ Drawn0 w w')
         case atStart => exact ⟨(0), (by first|rfl|(simp;done)|(simp[*];done)), H', ⟨Nat.le_refl _⟩, by repeat (first | exact Drawn0.refl _ | apply Drawn0.step)⟩
         case round =>
          clear H'
          try clear c1
          try clear p1
          try clear q1
          try clear hx1
          try clear qi1
          try clear p2
          try clear c3
          try clear c3b0
          try clear c4
          try clear c5
          try clear c6
          try clear c6b0
          try clear c7
          try clear c7b0
          try clear c8
          try clear c8b0
          try clear c8b1
          try clear c9
          try clear c9b0
          try clear c9b1
          try clear c9b2
          try clear c10
          try clear c10b0
          try clear c10b1
          try clear c11
          try clear hx185_0
          try clear hx186_0
          try clear hx187_0
          try clear hx188_0
          try clear p1
          try clear p185
          try clear p186
          try clear p187
          try clear p188
          try clear p2
          try clear q1
          try clear q185
          try clear q186
          try clear q187
          try clear q188
          obtain ⟨x4_4, rfl, HA, HK4, ⟨m4, rfl⟩⟩ := hrel
          cases gk with
          | zero => exact absurd HA.out (by simp [spec_l13Cells.l1])
          | succ k4 =>
           have H := HA.out
           clear HA
           simp only [spec_l13Cells.l1] at H
           by_cases c12 : 0 ≤ x3_1
           ·rw [if_pos c12] at H
            have c12b0 : decide (0 ≤ x3_1) = true := decide_eq_true c12
            clear c12
            by_cases c13 : x3_1 < (l0.length : Int)
            ·rw [if_pos c13] at H
             have c13b0 : decide (x3_1 < (l0.length : Int)) = true := decide_eq_true c13
             clear c13
             by_cases c14 : x4_4 < ((rd_L3 l0 x3_1).length : Int)
             ·rw [if_pos c14] at H
              have c14b0 : decide (x4_4 < ((rd_L3 l0 x3_1).length : Int)) = true := decide_eq_true c14
              clear c14
              by_cases c15 : 0 ≤ x4_4
              ·rw [if_pos c15] at H
               have c15b0 : decide (0 ≤ x4_4) = true := decide_eq_true c15
               clear c15
               by_cases c16 : (rdOf ByteArray.empty (rd_L3 l0 x3_1) x4_4).toList = ([] : List UInt8)
               ·rw [if_pos c16] at H
                have c16b0 : ((rdOf ByteArray.empty (rd_L3 l0 x3_1) x4_4).toList == ([] : List UInt8)) = true := beq_iff_eq.mpr c16
                have c16b1 : ((rdOf ByteArray.empty (rd_L3 l0 x3_1) x4_4).toList != ([] : List UInt8)) = false := bne_eq_false_iff_eq.mpr c16
                clear c16
                have H' := Aside0.mk H
                clear H
                have p189 : 0 ≤ (x3_1 : Int) := of_decide_eq_true (by first|(with_reducible assumption)|assumption)
                have q189 : x3_1 < (l0.length : Int) := of_decide_eq_true (by first|(with_reducible assumption)|assumption)
                obtain ⟨ad189, A189_0, c189_0, e189, hx189_0, hl189_0, hi189_0⟩ := at_L3 HR0.out x3_1 p189 q189
                cases e189
                have HR189_0 := Aside0.mk hi189_0
                have HC189_0 := Aside0.mk hl189_0
                clear hi189_0 hl189_0
                replace p189 := eq_true p189
                replace q189 := eq_true q189
                have p190 : 0 ≤ (x3_1 : Int) := of_decide_eq_true (by first|(with_reducible assumption)|assumption)
                have q190 : x3_1 < (l0.length : Int) := of_decide_eq_true (by first|(with_reducible assumption)|assumption)
                obtain ⟨ad190, A190_0, c190_0, e190, hx190_0, hl190_0, hi190_0⟩ := at_L3 HR0.out x3_1 p190 q190
                obtain rfl : ad189 = ad190 := (by injection e190)
                have HR190_0 := Aside0.mk hi190_0
                have HC190_0 := Aside0.mk hl190_0
                clear hi190_0 hl190_0
                replace p190 := eq_true p190
                replace q190 := eq_true q190
                have ea_ := Option.some.inj (hx189_0.symm.trans hx190_0)
                injection ea_ with ea_ en_ ec_
                subst ea_
                subst ec_
                clear en_
                have p191 : 0 ≤ (x4_4 : Int) := of_decide_eq_true (by first|(with_reducible assumption)|assumption)
                have q191 : x4_4 < ((rd_L3 l0 x3_1).length : Int) := of_decide_eq_true (by first|(with_reducible assumption)|assumption)
                obtain ⟨ad191, e191, hx191_0⟩ := Kd.at_string HR190_0.out x4_4 p191 q191
                cases e191
                replace p191 := eq_true p191
                replace q191 := eq_true q191
                go_wp2
                repeat (go_quiet (fail); try go_wp2)
                go_roundg k4
                case measure => have := HK1.out; have := HJ1.out; have := HJ4.out; have := HK4.out; omega
                case rel => exact ⟨(wrap64 (x4_4 + 1)), (by first|rfl|(simp;done)|(simp[*];done)), H', ⟨by have := HK1.out; have := HJ1.out; have := HJ4.out; have := HK4.out; omega⟩, by repeat (first | exact Drawn0.refl _ | apply Drawn0.step)⟩
               ·rw [if_neg c16] at H
                have c16b0 : ((rdOf ByteArray.empty (rd_L3 l0 x3_1) x4_4).toList == ([] : List UInt8)) = false := beq_eq_false_iff_ne.mpr c16
                have c16b1 : ((rdOf ByteArray.empty (rd_L3 l0 x3_1) x4_4).toList != ([] : List UInt8)) = true := bne_iff_ne.mpr c16
                replace H := Option.bind_eq_some_iff.mp H
                obtain ⟨t194, A170, H⟩ := H
                replace H : (if t194 = true then (spec_l13Cells.l1 k4 l0 x3_1 (wrap64 (x4_4 + 1))) else (some false)) = some r := H
                have A17 := Aside0.mk A170
                clear A170
                by_cases c18 : t194 = true
                ·subst c18
                 have H1 : (spec_l13Cells.l1 k4 l0 x3_1 (wrap64 (x4_4 + 1))) = some r := by rw [if_pos rfl] at H; exact H
                 clear H
                 have H := H1
                 clear H1
                 have H' := Aside0.mk H
                 clear H
                 have p189 : 0 ≤ (x3_1 : Int) := of_decide_eq_true (by first|(with_reducible assumption)|assumption)
                 have q189 : x3_1 < (l0.length : Int) := of_decide_eq_true (by first|(with_reducible assumption)|assumption)
                 obtain ⟨ad189, A189_0, c189_0, e189, hx189_0, hl189_0, hi189_0⟩ := at_L3 HR0.out x3_1 p189 q189
                 cases e189
                 have HR189_0 := Aside0.mk hi189_0
                 have HC189_0 := Aside0.mk hl189_0
                 clear hi189_0 hl189_0
                 replace p189 := eq_true p189
                 replace q189 := eq_true q189
                 have p190 : 0 ≤ (x3_1 : Int) := of_decide_eq_true (by first|(with_reducible assumption)|assumption)
                 have q190 : x3_1 < (l0.length : Int) := of_decide_eq_true (by first|(with_reducible assumption)|assumption)
                 obtain ⟨ad190, A190_0, c190_0, e190, hx190_0, hl190_0, hi190_0⟩ := at_L3 HR0.out x3_1 p190 q190
                 obtain rfl : ad189 = ad190 := (by injection e190)
                 have HR190_0 := Aside0.mk hi190_0
                 have HC190_0 := Aside0.mk hl190_0
                 clear hi190_0 hl190_0
                 replace p190 := eq_true p190
                 replace q190 := eq_true q190
                 have ea_ := Option.some.inj (hx189_0.symm.trans hx190_0)
                 injection ea_ with ea_ en_ ec_
                 subst ea_
                 subst ec_
                 clear en_
                 have p191 : 0 ≤ (x4_4 : Int) := of_decide_eq_true (by first|(with_reducible assumption)|assumption)
                 have q191 : x4_4 < ((rd_L3 l0 x3_1).length : Int) := of_decide_eq_true (by first|(with_reducible assumption)|assumption)
                 obtain ⟨ad191, e191, hx191_0⟩ := Kd.at_string HR190_0.out x4_4 p191 q191
                 cases e191
                 replace p191 := eq_true p191
                 replace q191 := eq_true q191
                 have p192 : 0 ≤ (x3_1 : Int) := of_decide_eq_true (by first|(with_reducible assumption)|assumption)
                 have q192 : x3_1 < (l0.length : Int) := of_decide_eq_true (by first|(with_reducible assumption)|assumption)
                 obtain ⟨ad192, A192_0, c192_0, e192, hx192_0, hl192_0, hi192_0⟩ := at_L3 HR0.out x3_1 p192 q192
                 obtain rfl : ad189 = ad192 := (by injection e192)
                 have HR192_0 := Aside0.mk hi192_0
                 have HC192_0 := Aside0.mk hl192_0
                 clear hi192_0 hl192_0
                 replace p192 := eq_true p192
                 replace q192 := eq_true q192
                 have ea_ := Option.some.inj (hx189_0.symm.trans hx192_0)
                 injection ea_ with ea_ en_ ec_
                 subst ea_
                 subst ec_
                 clear en_
                 have p193 : 0 ≤ (x4_4 : Int) := of_decide_eq_true (by first|(with_reducible assumption)|assumption)
                 have q193 : x4_4 < ((rd_L3 l0 x3_1).length : Int) := of_decide_eq_true (by first|(with_reducible assumption)|assumption)
                 obtain ⟨ad193, e193, hx193_0⟩ := Kd.at_string HR192_0.out x4_4 p193 q193
                 cases e193
                 replace p193 := eq_true p193
                 replace q193 := eq_true q193
                 go_wp2_with (first | (go_at_call 45; (with_reducible refine (spec_TextValid.calls k4 (rdOf ByteArray.empty (rd_L3 l0 x3_1) x4_4) true _ A17.out).mono ?_); rintro e w' ⟨rfl, ⟨nd, rfl⟩⟩; (try first | exact ⟨rfl, _, World.drewN_drewN _ _ _⟩ | exact ⟨rfl, _, Eq.trans (World.drewN_drewN _ _ _) (congrArg (World.drewN _) (Nat.add_assoc _ _ _))⟩)))
                 repeat (go_quiet (first | (go_at_call 45; (with_reducible refine (spec_TextValid.calls k4 (rdOf ByteArray.empty (rd_L3 l0 x3_1) x4_4) true _ A17.out).mono ?_); rintro e w' ⟨rfl, ⟨nd, rfl⟩⟩; (try first | exact ⟨rfl, _, World.drewN_drewN _ _ _⟩ | exact ⟨rfl, _, Eq.trans (World.drewN_drewN _ _ _) (congrArg (World.drewN _) (Nat.add_assoc _ _ _))⟩))); try go_wp2_with (first | (go_at_call 45; (with_reducible refine (spec_TextValid.calls k4 (rdOf ByteArray.empty (rd_L3 l0 x3_1) x4_4) true _ A17.out).mono ?_); rintro e w' ⟨rfl, ⟨nd, rfl⟩⟩; (try first | exact ⟨rfl, _, World.drewN_drewN _ _ _⟩ | exact ⟨rfl, _, Eq.trans (World.drewN_drewN _ _ _) (congrArg (World.drewN _) (Nat.add_assoc _ _ _))⟩))))
                 go_roundg k4
                 case measure => have := HK1.out; have := HJ1.out; have := HJ4.out; have := HK4.out; omega
                 case rel => exact ⟨(wrap64 (x4_4 + 1)), (by first|rfl|(simp;done)|(simp[*];done)), H', ⟨by have := HK1.out; have := HJ1.out; have := HJ4.out; have := HK4.out; omega⟩, by repeat (first | exact Drawn0.refl _ | apply Drawn0.step)⟩
                ·replace c18 := Bool.eq_false_iff.mpr c18
                 subst c18
                 have H1 : (some false) = some r := by rw [if_neg (show ¬ (false = true) by decide)] at H; exact H
                 clear H
                 have H := H1
                 clear H1
                 obtain rfl := Option.some.inj H
                 have p189 : 0 ≤ (x3_1 : Int) := of_decide_eq_true (by first|(with_reducible assumption)|assumption)
                 have q189 : x3_1 < (l0.length : Int) := of_decide_eq_true (by first|(with_reducible assumption)|assumption)
                 obtain ⟨ad189, A189_0, c189_0, e189, hx189_0, hl189_0, hi189_0⟩ := at_L3 HR0.out x3_1 p189 q189
                 cases e189
                 have HR189_0 := Aside0.mk hi189_0
                 have HC189_0 := Aside0.mk hl189_0
                 clear hi189_0 hl189_0
                 replace p189 := eq_true p189
                 replace q189 := eq_true q189
                 have p190 : 0 ≤ (x3_1 : Int) := of_decide_eq_true (by first|(with_reducible assumption)|assumption)
                 have q190 : x3_1 < (l0.length : Int) := of_decide_eq_true (by first|(with_reducible assumption)|assumption)
                 obtain ⟨ad190, A190_0, c190_0, e190, hx190_0, hl190_0, hi190_0⟩ := at_L3 HR0.out x3_1 p190 q190
                 obtain rfl : ad189 = ad190 := (by injection e190)
                 have HR190_0 := Aside0.mk hi190_0
                 have HC190_0 := Aside0.mk hl190_0
                 clear hi190_0 hl190_0
                 replace p190 := eq_true p190
                 replace q190 := eq_true q190
                 have ea_ := Option.some.inj (hx189_0.symm.trans hx190_0)
                 injection ea_ with ea_ en_ ec_
                 subst ea_
                 subst ec_
                 clear en_
                 have p191 : 0 ≤ (x4_4 : Int) := of_decide_eq_true (by first|(with_reducible assumption)|assumption)
                 have q191 : x4_4 < ((rd_L3 l0 x3_1).length : Int) := of_decide_eq_true (by first|(with_reducible assumption)|assumption)
                 obtain ⟨ad191, e191, hx191_0⟩ := Kd.at_string HR190_0.out x4_4 p191 q191
                 cases e191
                 replace p191 := eq_true p191
                 replace q191 := eq_true q191
                 have p192 : 0 ≤ (x3_1 : Int) := of_decide_eq_true (by first|(with_reducible assumption)|assumption)
                 have q192 : x3_1 < (l0.length : Int) := of_decide_eq_true (by first|(with_reducible assumption)|assumption)
                 obtain ⟨ad192, A192_0, c192_0, e192, hx192_0, hl192_0, hi192_0⟩ := at_L3 HR0.out x3_1 p192 q192
                 obtain rfl : ad189 = ad192 := (by injection e192)
                 have HR192_0 := Aside0.mk hi192_0
                 have HC192_0 := Aside0.mk hl192_0
                 clear hi192_0 hl192_0
                 replace p192 := eq_true p192
                 replace q192 := eq_true q192
                 have ea_ := Option.some.inj (hx189_0.symm.trans hx192_0)
                 injection ea_ with ea_ en_ ec_
                 subst ea_
                 subst ec_
                 clear en_
                 have p193 : 0 ≤ (x4_4 : Int) := of_decide_eq_true (by first|(with_reducible assumption)|assumption)
                 have q193 : x4_4 < ((rd_L3 l0 x3_1).length : Int) := of_decide_eq_true (by first|(with_reducible assumption)|assumption)
                 obtain ⟨ad193, e193, hx193_0⟩ := Kd.at_string HR192_0.out x4_4 p193 q193
                 cases e193
                 replace p193 := eq_true p193
                 replace q193 := eq_true q193
                 go_wp2_with (first | (go_at_call 45; (with_reducible refine (spec_TextValid.calls k4 (rdOf ByteArray.empty (rd_L3 l0 x3_1) x4_4) false _ A17.out).mono ?_); rintro e w' ⟨rfl, ⟨nd, rfl⟩⟩; (try first | exact ⟨rfl, _, World.drewN_drewN _ _ _⟩ | exact ⟨rfl, _, Eq.trans (World.drewN_drewN _ _ _) (congrArg (World.drewN _) (Nat.add_assoc _ _ _))⟩)))
                 repeat (go_quiet (first | (go_at_call 45; (with_reducible refine (spec_TextValid.calls k4 (rdOf ByteArray.empty (rd_L3 l0 x3_1) x4_4) false _ A17.out).mono ?_); rintro e w' ⟨rfl, ⟨nd, rfl⟩⟩; (try first | exact ⟨rfl, _, World.drewN_drewN _ _ _⟩ | exact ⟨rfl, _, Eq.trans (World.drewN_drewN _ _ _) (congrArg (World.drewN _) (Nat.add_assoc _ _ _))⟩))); try go_wp2_with (first | (go_at_call 45; (with_reducible refine (spec_TextValid.calls k4 (rdOf ByteArray.empty (rd_L3 l0 x3_1) x4_4) false _ A17.out).mono ?_); rintro e w' ⟨rfl, ⟨nd, rfl⟩⟩; (try first | exact ⟨rfl, _, World.drewN_drewN _ _ _⟩ | exact ⟨rfl, _, Eq.trans (World.drewN_drewN _ _ _) (congrArg (World.drewN _) (Nat.add_assoc _ _ _))⟩))))
                 go_ret
                 exact ⟨by first | rfl | (simp; done) | (simp [*]; done), by repeat (first | exact Drawn0.refl _ | apply Drawn0.step)⟩
              ·rw [if_neg c15] at H
               exact absurd H (by simp)
             ·rw [if_neg c14] at H
              have c14b0 : decide (x4_4 < ((rd_L3 l0 x3_1).length : Int)) = false := decide_eq_false c14
              clear c14
              have H' := Aside0.mk H
              clear H
              have p189 : 0 ≤ (x3_1 : Int) := of_decide_eq_true (by first|(with_reducible assumption)|assumption)
              have q189 : x3_1 < (l0.length : Int) := of_decide_eq_true (by first|(with_reducible assumption)|assumption)
              obtain ⟨ad189, A189_0, c189_0, e189, hx189_0, hl189_0, hi189_0⟩ := at_L3 HR0.out x3_1 p189 q189
              cases e189
              have HR189_0 := Aside0.mk hi189_0
              have HC189_0 := Aside0.mk hl189_0
              clear hi189_0 hl189_0
              replace p189 := eq_true p189
              replace q189 := eq_true q189
              go_wp2
              repeat (go_quiet (fail); try go_wp2)
              go_roundg k4
              case measure => have := HK1.out; have := HJ1.out; have := HJ4.out; have := HK4.out; omega
              case rel => exact ⟨(wrap64 (x3_1 + 1)), (by first|rfl|(simp;done)|(simp[*];done)), H', ⟨by have := HK1.out; have := HJ1.out; have := HJ4.out; have := HK4.out; omega⟩, by repeat (first | exact Drawn0.refl _ | apply Drawn0.step)⟩
            ·rw [if_neg c13] at H
             exact absurd H (by simp)
           ·rw [if_neg c12] at H
            exact absurd H (by simp)
     ·replace c4 := Bool.eq_false_iff.mpr c4
      subst c4
      have H1 : (if (l0.length : Int) ≥ 1 then (some (decide ((l0.length : Int) ≤ 20))) else (some false)) = some r := by rw [if_neg (show ¬ (false = true) by decide)] at H; exact H
      clear H
      have H := H1
      clear H1
      by_cases c19 : (l0.length : Int) ≥ 1
      ·rw [if_pos c19] at H
       have c19b0 : decide (1 ≤ (l0.length : Int)) = true := decide_eq_true c19
       have c19b1 : decide (1 ≤ l0.length) = true := decide_eq_true (by omega)
       clear c19
       obtain rfl := Option.some.inj H
       go_wp2
       repeat (go_quiet (fail); try go_wp2)
       go_ret
       exact ⟨by first | rfl | (simp; done) | (simp [*]; done), by repeat (first | exact Drawn0.refl _ | apply Drawn0.step)⟩
      ·rw [if_neg c19] at H
       have c19b0 : decide (1 ≤ (l0.length : Int)) = false := decide_eq_false c19
       have c19b1 : decide (1 ≤ l0.length) = false := decide_eq_false (by omega)
       clear c19
       obtain rfl := Option.some.inj H
       go_wp2
       repeat (go_quiet (fail); try go_wp2)
       go_ret
       exact ⟨by first | rfl | (simp; done) | (simp [*]; done), by repeat (first | exact Drawn0.refl _ | apply Drawn0.step)⟩

end Go.Proofs.Ytcbjlaphoajngaa.PFw
