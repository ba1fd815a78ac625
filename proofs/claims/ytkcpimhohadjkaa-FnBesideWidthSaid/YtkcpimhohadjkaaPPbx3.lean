-- Written by a program of this session (xprint). -- COMPACT
import Derived.Test.YtkcpimhohadjkaaPPbx0
import Derived.Test.YtkcpimhohadjkaaPPbx2
namespace Go.Proofs.Ytkcpimhohadjkaa.PPb
open Go.RowKit Go.Proofs.YtkcpimhohadjkaaW.PrintWords Go.Proofs.YtkcpimhohadjkaaW.PrintLast Go.Proofs.YtkcpimhohadjkaaW.PrintMore
attribute [local go_sem] max2_int min2_int max_two min_two max_three min_three max_four min_four   -- for this text's walks alone
set_option linter.unusedVariables false
set_option linter.unusedSimpArgs false

/-! ### spec_PadLines: function 15 -/
mutual
def spec_PadLines.j0 : Nat → List (S59) → Int → List ByteArray → Bool → Option (List ByteArray × Bool)
 | 0, _, _, _, _ => none
 | k + 1, x0, x1, x6, x22 => if x22 = true then (some (x6, false)) else (spec_PadLines.l0 k x0 x1 x6 0)
def spec_PadLines.l0 : Nat → List (S59) → Int → List ByteArray → Int → Option (List ByteArray × Bool)
 | 0, _, _, _, _ => none
 | k + 1, x0, x1, x6, x7 => if x7 < (x0.length : Int) then (if 0 ≤ x7 then ((spec_l2Line.f k ((rd_T59 x0 x7).f0) ((rd_T59 x0 x7).f1)).bind fun t122 => ((spec_l2Spaces.f k (wrap64 (x1 - (t122.size : Int)))).bind fun t123 => (if t122.size + t123.size ≤ 9223372036854775807 then (if x6.length < 8796093022208 then (spec_PadLines.l0 k x0 x1 (x6 ++ [t122 ++ t123]) (wrap64 (x7 + 1))) else (none)) else (none)))) else (none)) else (some (x6, true))
end
def spec_PadLines.f (k : Nat) (l0 : List (S59)) (a1 : Int) : Option (List ByteArray × Bool) := (some (([] : List ByteArray) : List ByteArray)).bind fun y116 => ((spec_LayoutValid.f k l0).bind fun t119 => (if t119 = true then ((spec_LayoutWidth.f k l0).bind fun t120 => (if a1 < t120 then (spec_PadLines.j0 k l0 a1 y116 true) else (spec_PadLines.j0 k l0 a1 y116 (decide (a1 > 200))))) else (spec_PadLines.j0 k l0 a1 y116 true)))
set_option maxHeartbeats 8000000 in
set_option maxRecDepth 100000 in
theorem spec_PadLines.calls (k : Nat) (A0 : Option Addr) (c0 : Nat) (l0 : List (S59)) (a1 : Int) (r1 : List ByteArray) (r2 : Bool) (w : World) (hr0 : Kd.C k59 w A0 l0.length l0) (hc0 : l0.length ≤ c0) (h : spec_PadLines.f k l0 a1 = some (r1, r2)) :
  Calls Try.prog 15 #[.slice A0 l0.length c0, .int .i64 a1] w fun e w' => ∃ v0_ : Value, e = .returned (.tuple #[v0_, .bool r2]) ∧ Kd.R Kd.string 9 w' w.heap.size (fun _ => True) v0_ r1 ∧ Below w.heap.size w w' := by
 have hu59 := Try.underlying59
 have HR0 := Aside0.mk hr0
 have HC0 := Aside0.mk hc0
 clear hr0 hc0
 have HB := Aside0.mk (Below.refl w.heap.size w)
 have H : ((some (([] : List ByteArray) : List ByteArray)).bind fun y116 => ((spec_LayoutValid.f k l0).bind fun t119 => (if t119 = true then ((spec_LayoutWidth.f k l0).bind fun t120 => (if a1 < t120 then (spec_PadLines.j0 k l0 a1 y116 true) else (spec_PadLines.j0 k l0 a1 y116 (decide (a1 > 200))))) else (spec_PadLines.j0 k l0 a1 y116 true)))) = some (r1, r2) := h
 clear h
 obtain ⟨y116, hy116⟩ : ∃ y_ : List ByteArray, y_ = (([] : List ByteArray)) := ⟨_, rfl⟩
 replace H : ((spec_LayoutValid.f k l0).bind fun t119 => (if t119 = true then ((spec_LayoutWidth.f k l0).bind fun t120 => (if a1 < t120 then (spec_PadLines.j0 k l0 a1 y116 true) else (spec_PadLines.j0 k l0 a1 y116 (decide (a1 > 200))))) else (spec_PadLines.j0 k l0 a1 y116 true))) = some (r1, r2) := by first | (rw [hy116]; with_reducible exact H) | (have H2_ := (Option.bind_some _ _).symm.trans H; rw [hy116]; with_reducible exact H2_) | (have H2_ := (Option.bind_some _ _).symm.trans H; with_reducible exact H2_) | with_reducible exact H | (rw [hy116]; exact H) | exact H
 have Ny116 := Aside0.mk hy116
 clear hy116
 have HC3 := Aside0.mk H
 clear H
 go_enter Try.func15, Try.ntmps15
 go_upto_region 2 with (first | ((with_reducible refine gate_dst (N := 9) rfl ?_); refine Kd.R_lit Kd.string _ 9 ?hg (N := 9) ?hd (xs := ([] : List ByteArray)) (inner := []) (ok := fun _ => True) (okp := fun _ => True) ?hr ?hp (fun _ hk => hk) trivial (Below.refl _ _) (Nat.le_refl _) (by simp) ?_; (case hd => rfl); (case hg => rfl); (case hr => first | (go_simp; done) | (go_simp; rfl)); (case hp => exact (Reps.none _ _)); intro v117 w4 ho5 hb hg_ hnew_; clear hg_ hnew_; (first | rw [← Ny116.out] at ho5 | (simp only [Int.reduceToNat] at ho5; rw [← Ny116.out] at ho5)); have n0_ := Aside0.mk (Kd.R_lower ho5 (below_size aB)); have n1_ := Aside0.mk (below_step aB hb); clear HB; have HO118 := n0_; have HB := n1_; clear n0_ n1_; clear hb ho5))
 (try simp only [Act.put, List.setIfInBounds_toArray, List.set_cons_zero, List.set_cons_succ])
 go_cut [22] (fun v22 wc => ∃ (kq : Nat) (x22_2 : Bool), v22 = .bool x22_2 ∧ Aside0 (spec_PadLines.j0 kq l0 a1 y116 x22_2 = some (r1, r2)) ∧ Aside0 (kq ≤ k) ∧ Aside0 (Kd.R Kd.string 9 wc w.heap.size (fun _ => True) v117 y116) ∧ Aside0 (Below w.heap.size w wc))
 case first =>
  have H := HC3.out
  clear HC3
  replace H := Option.bind_eq_some_iff.mp H
  obtain ⟨t119, A60, H⟩ := H
  replace H : (if t119 = true then ((spec_LayoutWidth.f k l0).bind fun t120 => (if a1 < t120 then (spec_PadLines.j0 k l0 a1 y116 true) else (spec_PadLines.j0 k l0 a1 y116 (decide (a1 > 200))))) else (spec_PadLines.j0 k l0 a1 y116 true)) = some (r1, r2) := H
  have A6 := Aside0.mk A60
  clear A60
  by_cases c7 : t119 = true
  ·subst c7
   have H1 : ((spec_LayoutWidth.f k l0).bind fun t120 => (if a1 < t120 then (spec_PadLines.j0 k l0 a1 y116 true) else (spec_PadLines.j0 k l0 a1 y116 (decide (a1 > 200))))) = some (r1, r2) := by rw [if_pos rfl] at H; exact H
   clear H
   have H := H1
   clear H1
   replace H := Option.bind_eq_some_iff.mp H
   obtain ⟨t120, A80, H⟩ := H
   replace H : (if a1 < t120 then (spec_PadLines.j0 k l0 a1 y116 true) else (spec_PadLines.j0 k l0 a1 y116 (decide (a1 > 200)))) = some (r1, r2) := H
   have A8 := Aside0.mk A80
   clear A80
   by_cases c9 : a1 < t120
   ·rw [if_pos c9] at H
    have c9b0 : decide (a1 < t120) = true := decide_eq_true c9
    clear c9
    (first | rw [c9b0] | (simp only [i64_w, i32_w]; rw [c9b0]) | skip)
    have H' := Aside0.mk H
    clear H
    go_wp2_with (first | ((with_reducible refine gate_callee (f := 52) rfl ?_); refine goesL_ (some 11) rfl rfl Try.func52 aK rfl #[.slice A0 l0.length c0] rfl aL ?_; (with_reducible refine (spec_LayoutValid.calls k _ _ l0 true _ ?side1 ?side2 A6.out).mono ?_); (case side1 => repeat (first | exact (Kd.C_below HR0.out HB.out) | (with_reducible refine Kd.C_alloc ?_ _) | (with_reducible refine Kd.C_drewN ?_ _) | (with_reducible refine Kd.C_drew ?_))); (case side2 => exact HC0.out); rintro e w' ⟨rfl, ⟨nd, rfl⟩⟩; refine ⟨_, rfl, ?_⟩) | (go_at_call 53; (with_reducible refine (spec_LayoutWidth.calls k _ _ l0 t120 _ ?side1 ?side2 A8.out).mono ?_); (case side1 => repeat (first | exact (Kd.C_below HR0.out aB) | (with_reducible refine Kd.C_alloc ?_ _) | (with_reducible refine Kd.C_drewN ?_ _) | (with_reducible refine Kd.C_drew ?_))); (case side2 => exact HC0.out); rintro e w10 ⟨rfl, hb⟩; have n0_ := Aside0.mk (Kd.R_below (aP HO118.out) hb); have n1_ := Aside0.mk (below_step aB hb); clear HO118; clear HB; have HO118 := n0_; have HB := n1_; clear n0_ n1_; (try clear hb); (try clear hb2); (try clear hk); (try clear hi)))
    go_meet
    case rel => exact ⟨_, (true), aR, H', ⟨by first | omega | exact Nat.le_refl _⟩, ⟨by (with_reducible repeat (first|apply Kd.R_alloc|apply Kd.R_drewN|apply Kd.R_drew)); exact HO118.out⟩, ⟨by repeat (first|(with_reducible first|exact HB.out|apply below_alloc|apply pw_below_drewN|apply below_drew1)|exact HB.out)⟩⟩
   ·rw [if_neg c9] at H
    have c9b0 : decide (a1 < t120) = false := decide_eq_false c9
    clear c9
    (first | rw [c9b0] | (simp only [i64_w, i32_w]; rw [c9b0]) | skip)
    have H' := Aside0.mk H
    clear H
    go_wp2_with (first | ((with_reducible refine gate_callee (f := 52) rfl ?_); refine goesL_ (some 11) rfl rfl Try.func52 aK rfl #[.slice A0 l0.length c0] rfl aL ?_; (with_reducible refine (spec_LayoutValid.calls k _ _ l0 true _ ?side1 ?side2 A6.out).mono ?_); (case side1 => repeat (first | exact (Kd.C_below HR0.out HB.out) | (with_reducible refine Kd.C_alloc ?_ _) | (with_reducible refine Kd.C_drewN ?_ _) | (with_reducible refine Kd.C_drew ?_))); (case side2 => exact HC0.out); rintro e w' ⟨rfl, ⟨nd, rfl⟩⟩; refine ⟨_, rfl, ?_⟩) | (go_at_call 53; (with_reducible refine (spec_LayoutWidth.calls k _ _ l0 t120 _ ?side1 ?side2 A8.out).mono ?_); (case side1 => repeat (first | exact (Kd.C_below HR0.out aB) | (with_reducible refine Kd.C_alloc ?_ _) | (with_reducible refine Kd.C_drewN ?_ _) | (with_reducible refine Kd.C_drew ?_))); (case side2 => exact HC0.out); rintro e w11 ⟨rfl, hb⟩; have n0_ := Aside0.mk (Kd.R_below (aP HO118.out) hb); have n1_ := Aside0.mk (below_step aB hb); clear HO118; clear HB; have HO118 := n0_; have HB := n1_; clear n0_ n1_; (try clear hb); (try clear hb2); (try clear hk); (try clear hi)))
    go_meet
    case rel => exact ⟨_, (decide (a1 > 200)), aR, H', ⟨by first | omega | exact Nat.le_refl _⟩, ⟨by (with_reducible repeat (first|apply Kd.R_alloc|apply Kd.R_drewN|apply Kd.R_drew)); exact HO118.out⟩, ⟨by repeat (first|(with_reducible first|exact HB.out|apply below_alloc|apply pw_below_drewN|apply below_drew1)|exact HB.out)⟩⟩
  ·replace c7 := Bool.eq_false_iff.mpr c7
   subst c7
   have H1 : (spec_PadLines.j0 k l0 a1 y116 true) = some (r1, r2) := by rw [if_neg (show ¬ (false = true) by decide)] at H; exact H
   clear H
   have H := H1
   clear H1
   have H' := Aside0.mk H
   clear H
   go_wp2_with (first | ((with_reducible refine gate_callee (f := 52) rfl ?_); refine goesL_ (some 11) rfl rfl Try.func52 aK rfl #[.slice A0 l0.length c0] rfl aL ?_; (with_reducible refine (spec_LayoutValid.calls k _ _ l0 false _ ?side1 ?side2 A6.out).mono ?_); (case side1 => repeat (first | exact (Kd.C_below HR0.out HB.out) | (with_reducible refine Kd.C_alloc ?_ _) | (with_reducible refine Kd.C_drewN ?_ _) | (with_reducible refine Kd.C_drew ?_))); (case side2 => exact HC0.out); rintro e w' ⟨rfl, ⟨nd, rfl⟩⟩; refine ⟨_, rfl, ?_⟩))
   go_meet
   case rel => exact ⟨_, (true), aR, H', ⟨by first | omega | exact Nat.le_refl _⟩, ⟨by (with_reducible repeat (first|apply Kd.R_alloc|apply Kd.R_drewN|apply Kd.R_drew)); exact HO118.out⟩, ⟨by repeat (first|(with_reducible first|exact HB.out|apply below_alloc|apply pw_below_drewN|apply below_drew1)|exact HB.out)⟩⟩
 case rest =>
  clear HC3
  try clear c1
  try clear p2
  try clear c5
  try clear c7
  try clear c9
  try clear c9b0
  obtain ⟨kq, x22_2, rfl, HA, HJ2, HO_6, HB⟩ := hcut
  cases kq with
  | zero => exact absurd HA.out (by simp [spec_PadLines.j0])
  | succ kj2 =>
   have H := HA.out
   clear HA
   simp only [spec_PadLines.j0] at H
   by_cases c12 : x22_2 = true
   ·subst c12
    have H1 : (some (y116, false)) = some (r1, r2) := by rw [if_pos rfl] at H; exact H
    clear H
    have H := H1
    clear H1
    simp only [Option.some.injEq, Prod.mk.injEq] at H
    obtain ⟨rfl, rfl⟩ := H
    go_wp2
    go_ret2
    exact ⟨_, by first | rfl | (simp [errW_none, errW_some] <;> rfl) | (simp [*, errW_none, errW_some] <;> rfl), by (with_reducible repeat (first|apply Kd.R_alloc|apply Kd.R_drewN|apply Kd.R_drew)); exact HO_6.out, by repeat (first|(with_reducible first|exact HB.out|apply below_alloc|apply pw_below_drewN|apply below_drew1)|exact HB.out)⟩
   ·replace c12 := Bool.eq_false_iff.mpr c12
    subst c12
    have H1 : (spec_PadLines.l0 kj2 l0 a1 y116 0) = some (r1, r2) := by rw [if_neg (show ¬ (false = true) by decide)] at H; exact H
    clear H
    have H := H1
    clear H1
    have H' := Aside0.mk H
    clear H
    go_wp2
    go_loopg [6, 7] kj2 (fun kq v6 v7 w' => ∃ (x6_2 : List ByteArray) (x7_2 : Int), v7 = .int .i64 x7_2 ∧ Aside0 (spec_PadLines.l0 kq l0 a1 x6_2 x7_2 = some (r1, r2)) ∧ Aside0 (kq ≤ kj2) ∧ Aside0 (Kd.R Kd.string 9 w' w.heap.size (fun _ => True) v6 x6_2) ∧ Aside0 (Below w.heap.size w w'))
    case atStart => exact ⟨(y116), (0), aR, H', ⟨Nat.le_refl _⟩, ⟨by (with_reducible repeat (first|apply Kd.R_alloc|apply Kd.R_drewN|apply Kd.R_drew)); exact HO_6.out⟩, ⟨by repeat (first|(with_reducible first|exact HB.out|apply below_alloc|apply pw_below_drewN|apply below_drew1)|exact HB.out)⟩⟩
    case round =>
     clear H'
     try clear c1
     try clear p2
     try clear c5
     try clear c7
     try clear c9
     try clear c9b0
     try clear c12
     try clear p2
     obtain ⟨x6_2, x7_2, rfl, HA, HK2, HO_6, HB⟩ := hrel
     cases gk with
     | zero => exact absurd HA.out (by simp [spec_PadLines.l0])
     | succ k2 =>
      have H := HA.out
      clear HA
      simp only [spec_PadLines.l0] at H
      by_cases c13 : x7_2 < (l0.length : Int)
      ·rw [if_pos c13] at H
       have c13b0 : decide (x7_2 < (l0.length : Int)) = true := decide_eq_true c13
       clear c13
       by_cases c14 : 0 ≤ x7_2
       ·rw [if_pos c14] at H
        have c14b0 : decide (0 ≤ x7_2) = true := decide_eq_true c14
        clear c14
        replace H := Option.bind_eq_some_iff.mp H
        obtain ⟨t122, A150, H⟩ := H
        replace H : ((spec_l2Spaces.f k2 (wrap64 (a1 - (t122.size : Int)))).bind fun t123 => (if t122.size + t123.size ≤ 9223372036854775807 then (if x6_2.length < 8796093022208 then (spec_PadLines.l0 k2 l0 a1 (x6_2 ++ [t122 ++ t123]) (wrap64 (x7_2 + 1))) else (none)) else (none))) = some (r1, r2) := H
        have A15 := Aside0.mk A150
        clear A150
        replace H := Option.bind_eq_some_iff.mp H
        obtain ⟨t123, A160, H⟩ := H
        replace H : (if t122.size + t123.size ≤ 9223372036854775807 then (if x6_2.length < 8796093022208 then (spec_PadLines.l0 k2 l0 a1 (x6_2 ++ [t122 ++ t123]) (wrap64 (x7_2 + 1))) else (none)) else (none)) = some (r1, r2) := H
        have A16 := Aside0.mk A160
        clear A160
        by_cases c17 : t122.size + t123.size ≤ 9223372036854775807
        ·rw [if_pos c17] at H
         have c17b0 := eq_true c17
         have c17b1 : decide (t122.size + t123.size ≤ 9223372036854775807) = true := decide_eq_true c17
         try have c17b2 : (9223372036854775807 < t122.size + t123.size) = False := eq_false (Nat.not_lt.2 c17)
         by_cases c18 : x6_2.length < 8796093022208
         ·rw [if_pos c18] at H
          have LMc18 := Aside0.mk c18
          clear c18
          obtain ⟨y124, hy124⟩ : ∃ y_ : List ByteArray, y_ = (x6_2 ++ [t122 ++ t123]) := ⟨_, rfl⟩
          replace H : (spec_PadLines.l0 k2 l0 a1 y124 (wrap64 (x7_2 + 1))) = some (r1, r2) := by first | (rw [hy124]; with_reducible exact H) | (have H2_ := (Option.bind_some _ _).symm.trans H; rw [hy124]; with_reducible exact H2_) | (have H2_ := (Option.bind_some _ _).symm.trans H; with_reducible exact H2_) | with_reducible exact H | (rw [hy124]; exact H) | exact H
          have Ny124 := Aside0.mk hy124
          clear hy124
          have H' := Aside0.mk H
          clear H
          have p121 : 0 ≤ (x7_2 : Int) := of_decide_eq_true aQ
          have q121 : x7_2 < (l0.length : Int) := of_decide_eq_true aQ
          obtain ⟨ad121, e121, hx121_0, hx121_1⟩ := at_T59 HR0.out x7_2 p121 q121
          cases e121
          replace hx121_0 := (HB.out.cell (World.block_lt_of_cell? w _ hx121_0)).trans hx121_0
          replace hx121_1 := (HB.out.cell (World.block_lt_of_cell? w _ hx121_1)).trans hx121_1
          replace p121 := eq_true p121
          replace q121 := eq_true q121
          go_wp2_with (first | ((with_reducible refine gate_callee (f := 54) rfl ?_); refine goesL_ (some 34) rfl rfl Try.func54 aK rfl #[.agg #[.int .i64 ((rd_T59 l0 x7_2).f0), .string ((rd_T59 l0 x7_2).f1)]] rfl aL ?_; (with_reducible refine (spec_l2Line.calls k2 ((rd_T59 l0 x7_2).f0) ((rd_T59 l0 x7_2).f1) t122 _ A15.out).mono ?_); rintro e w19 ⟨rfl, hb⟩; refine ⟨_, rfl, ?_⟩; have n0_ := Aside0.mk (Kd.R_below (aP HO_6.out) hb); have n1_ := Aside0.mk (below_step aB hb); clear HO_6; clear HB; have HO_6 := n0_; have HB := n1_; clear n0_ n1_; (try clear hb); (try clear hb2); (try clear hk); (try clear hi)) | ((with_reducible refine gate_callee (f := 55) rfl ?_); refine goesL_ (some 41) rfl rfl Try.func55 aK rfl #[.int .i64 (wrap64 (a1 - (t122.size : Int)))] rfl aL ?_; (with_reducible refine (spec_l2Spaces.calls k2 (wrap64 (a1 - (t122.size : Int))) t123 _ A16.out).mono ?_); rintro e w' ⟨rfl, ⟨nd, rfl⟩⟩; refine ⟨_, rfl, ?_⟩) | ((with_reducible refine gate_builtin (b := .append) (xs := #[.tmp 35, .tmp 43]) rfl ?_); at_builtin; refine Kd.R_append Kd.string (w0 := w) w.heap.size rfl (.tmp 35) (.tmp 43) 24 9 (.string ⟨#[]⟩) 16 rfl Try.underlying24 info9 rfl (by decide) (by omega) u6 x6_2 (t122 ++ t123) [.string (t122 ++ t123)] (fun _ => True) (fun _ => False) rfl rfl ?aP (fun _ hk => hk.elim) ?aF ?aO ?aB ?aS ?aL ?_; (case aP => exact rfl); (case aB => exact aB); (case aF => exact (fun _ _ => trivial)); (case aO => exact (aP HO_6.out)); (case aS => exact (below_size aB)); (case aL => have := LMc18.out; omega); intro v125 w20 ho hb hg hat; rw [← Ny124.out] at ho; have n0_ := Aside0.mk (hb); have n1_ := Aside0.mk (ho); clear HB; clear HO_6; have HB := n0_; have HO126 := n1_; clear n0_ n1_; clear ho hb hg hat))
          go_roundg k2
          case measure => have := HJ2.out; have := HK2.out; omega
          case rel => exact ⟨(y124), (wrap64 (x7_2 + 1)), aR, H', ⟨by have := HJ2.out; have := HK2.out; omega⟩, ⟨by (with_reducible repeat (first|apply Kd.R_alloc|apply Kd.R_drewN|apply Kd.R_drew)); exact HO126.out⟩, ⟨by repeat (first|(with_reducible first|exact HB.out|apply below_alloc|apply pw_below_drewN|apply below_drew1)|exact HB.out)⟩⟩
         ·rw [if_neg c18] at H
          exact absurd H (by simp)
        ·rw [if_neg c17] at H
         exact absurd H (by simp)
       ·rw [if_neg c14] at H
        exact absurd H (by simp)
      ·rw [if_neg c13] at H
       have c13b0 : decide (x7_2 < (l0.length : Int)) = false := decide_eq_false c13
       clear c13
       simp only [Option.some.injEq, Prod.mk.injEq] at H
       obtain ⟨rfl, rfl⟩ := H
       go_wp2
       go_ret2
       exact ⟨_, by first | rfl | (simp [errW_none, errW_some] <;> rfl) | (simp [*, errW_none, errW_some] <;> rfl), by (with_reducible repeat (first|apply Kd.R_alloc|apply Kd.R_drewN|apply Kd.R_drew)); exact HO_6.out, by repeat (first|(with_reducible first|exact HB.out|apply below_alloc|apply pw_below_drewN|apply below_drew1)|exact HB.out)⟩

/-! ### strings_IndexByte: function 102 -/
def strings_IndexByte.f (a0 : ByteArray) (a1 : Int) : Option Int := some (Lib.indexByte a0.data.toList a1.toNat.toUInt8)
theorem strings_IndexByte.calls (a0 : ByteArray) (a1 : Int) (r : Int) (w : World) (h : strings_IndexByte.f a0 a1 = some r) :
  Calls Try.prog 102 #[.string a0, .int .u8 a1] w fun e w' => e = .returned (.int .i64 r) ∧ Drawn0 w w' := by
 unfold strings_IndexByte.f at h
 obtain rfl := Option.some.inj h
 refine (Try.strings_IndexByte a0 a1 w).mono ?_
 rintro e w' ⟨rfl, rfl⟩
 exact ⟨rfl, Drawn0.refl _⟩

/-! ### impl_TextValid: function 89 -/
def impl_TextValid.l0 : Nat → ByteArray → Int → Option (Bool)
 | 0, _, _ => none
 | k + 1, x0, x3 => if x3 < (x0.size : Int) then (if 0 ≤ x3 then (if (bt x0 x3) ≥ 97 then (if (bt x0 x3) ≤ 122 then (impl_TextValid.l0 k x0 (wrap64 (x3 + 1))) else (if (bt x0 x3) ≥ 48 then (if (bt x0 x3) ≤ 57 then (impl_TextValid.l0 k x0 (wrap64 (x3 + 1))) else ((strings_IndexByte.f (⟨#[44, 58, 61, 123, 125, 40, 41, 91, 93]⟩ : ByteArray) (bt x0 x3)).bind fun t127 => (if t127 ≥ 0 then (impl_TextValid.l0 k x0 (wrap64 (x3 + 1))) else (some false)))) else ((strings_IndexByte.f (⟨#[44, 58, 61, 123, 125, 40, 41, 91, 93]⟩ : ByteArray) (bt x0 x3)).bind fun t128 => (if t128 ≥ 0 then (impl_TextValid.l0 k x0 (wrap64 (x3 + 1))) else (some false))))) else (if (bt x0 x3) ≥ 48 then (if (bt x0 x3) ≤ 57 then (impl_TextValid.l0 k x0 (wrap64 (x3 + 1))) else ((strings_IndexByte.f (⟨#[44, 58, 61, 123, 125, 40, 41, 91, 93]⟩ : ByteArray) (bt x0 x3)).bind fun t129 => (if t129 ≥ 0 then (impl_TextValid.l0 k x0 (wrap64 (x3 + 1))) else (some false)))) else ((strings_IndexByte.f (⟨#[44, 58, 61, 123, 125, 40, 41, 91, 93]⟩ : ByteArray) (bt x0 x3)).bind fun t130 => (if t130 ≥ 0 then (impl_TextValid.l0 k x0 (wrap64 (x3 + 1))) else (some false))))) else (none)) else (if (x0.size : Int) ≥ 1 then (some (decide ((x0.size : Int) ≤ 12))) else (some false))
def impl_TextValid.f (k : Nat) (a0 : ByteArray) : Option (Bool) := impl_TextValid.l0 k a0 0
set_option maxHeartbeats 8000000 in
set_option maxRecDepth 100000 in
theorem impl_TextValid.calls (k : Nat) (a0 : ByteArray) (r : Bool) (w : World) (h : impl_TextValid.f k a0 = some r) :
  Calls Try.prog 89 #[.string a0] w fun e w' => e = .returned (.bool r) ∧ Drawn0 w w' := by
 have H : (impl_TextValid.l0 k a0 0) = some r := h
 clear h
 have H' := Aside0.mk H
 clear H
 go_enter Try.func89, Try.ntmps89
 go_wp2
 go_loopg [3] k (fun kq v3 w' => ∃ (x3_1 : Int), v3 = .int .i64 x3_1 ∧ Aside0 (impl_TextValid.l0 kq a0 x3_1 = some r) ∧ Aside0 (kq ≤ k) ∧ Drawn0 w w')
 case atStart => exact ⟨(0), aR, H', ⟨Nat.le_refl _⟩, by repeat (first | exact Drawn0.refl _ | apply Drawn0.step)⟩
 case round =>
  clear H'
  obtain ⟨x3_1, rfl, HA, HK1, ⟨m1, rfl⟩⟩ := hrel
  cases gk with
  | zero => exact absurd HA.out (by simp [impl_TextValid.l0])
  | succ k1 =>
   have H := HA.out
   clear HA
   simp only [impl_TextValid.l0] at H
   by_cases c2 : x3_1 < (a0.size : Int)
   ·rw [if_pos c2] at H
    have c2b0 : decide (x3_1 < (a0.size : Int)) = true := decide_eq_true c2
    clear c2
    by_cases c3 : 0 ≤ x3_1
    ·rw [if_pos c3] at H
     have c3b0 : decide (0 ≤ x3_1) = true := decide_eq_true c3
     clear c3
     by_cases c5 : (bt a0 x3_1) ≥ 97
     ·rw [if_pos c5] at H
      have c5b0 : decide (97 ≤ (bt a0 x3_1)) = true := decide_eq_true c5
      clear c5
      by_cases c7 : (bt a0 x3_1) ≤ 122
      ·rw [if_pos c7] at H
       have c7b0 : decide ((bt a0 x3_1) ≤ 122) = true := decide_eq_true c7
       clear c7
       have H' := Aside0.mk H
       clear H
       have p4 : 0 ≤ (x3_1 : Int) := of_decide_eq_true aQ
       have q4 : x3_1 < (a0.size : Int) := of_decide_eq_true aQ
       have hx4 := bt_at a0 x3_1
       replace p4 := eq_true p4
       replace q4 := eq_true q4
       have p6 : 0 ≤ (x3_1 : Int) := of_decide_eq_true aQ
       have q6 : x3_1 < (a0.size : Int) := of_decide_eq_true aQ
       have hx6 := bt_at a0 x3_1
       replace p6 := eq_true p6
       replace q6 := eq_true q6
       go_wp2
       go_roundg k1
       case measure => have := HK1.out; omega
       case rel => exact ⟨(wrap64 (x3_1 + 1)), aR, H', ⟨by have := HK1.out; omega⟩, by repeat (first | exact Drawn0.refl _ | apply Drawn0.step)⟩
      ·rw [if_neg c7] at H
       have c7b0 : decide ((bt a0 x3_1) ≤ 122) = false := decide_eq_false c7
       clear c7
       by_cases c9 : (bt a0 x3_1) ≥ 48
       ·rw [if_pos c9] at H
        have c9b0 : decide (48 ≤ (bt a0 x3_1)) = true := decide_eq_true c9
        clear c9
        by_cases c11 : (bt a0 x3_1) ≤ 57
        ·rw [if_pos c11] at H
         have c11b0 : decide ((bt a0 x3_1) ≤ 57) = true := decide_eq_true c11
         clear c11
         have H' := Aside0.mk H
         clear H
         have p4 : 0 ≤ (x3_1 : Int) := of_decide_eq_true aQ
         have q4 : x3_1 < (a0.size : Int) := of_decide_eq_true aQ
         have hx4 := bt_at a0 x3_1
         replace p4 := eq_true p4
         replace q4 := eq_true q4
         have p6 : 0 ≤ (x3_1 : Int) := of_decide_eq_true aQ
         have q6 : x3_1 < (a0.size : Int) := of_decide_eq_true aQ
         have hx6 := bt_at a0 x3_1
         replace p6 := eq_true p6
         replace q6 := eq_true q6
         have p8 : 0 ≤ (x3_1 : Int) := of_decide_eq_true aQ
         have q8 : x3_1 < (a0.size : Int) := of_decide_eq_true aQ
         have hx8 := bt_at a0 x3_1
         replace p8 := eq_true p8
         replace q8 := eq_true q8
         have p10 : 0 ≤ (x3_1 : Int) := of_decide_eq_true aQ
         have q10 : x3_1 < (a0.size : Int) := of_decide_eq_true aQ
         have hx10 := bt_at a0 x3_1
         replace p10 := eq_true p10
         replace q10 := eq_true q10
         go_wp2
         go_roundg k1
         case measure => have := HK1.out; omega
         case rel => exact ⟨(wrap64 (x3_1 + 1)), aR, H', ⟨by have := HK1.out; omega⟩, by repeat (first | exact Drawn0.refl _ | apply Drawn0.step)⟩
        ·rw [if_neg c11] at H
         have c11b0 : decide ((bt a0 x3_1) ≤ 57) = false := decide_eq_false c11
         clear c11
         replace H := Option.bind_eq_some_iff.mp H
         obtain ⟨t127, A130, H⟩ := H
         replace H : (if t127 ≥ 0 then (impl_TextValid.l0 k1 a0 (wrap64 (x3_1 + 1))) else (some false)) = some r := H
         have A13 := Aside0.mk A130
         clear A130
         by_cases c14 : t127 ≥ 0
         ·rw [if_pos c14] at H
          have c14b0 : decide (0 ≤ t127) = true := decide_eq_true c14
          clear c14
          have H' := Aside0.mk H
          clear H
          have p4 : 0 ≤ (x3_1 : Int) := of_decide_eq_true aQ
          have q4 : x3_1 < (a0.size : Int) := of_decide_eq_true aQ
          have hx4 := bt_at a0 x3_1
          replace p4 := eq_true p4
          replace q4 := eq_true q4
          have p6 : 0 ≤ (x3_1 : Int) := of_decide_eq_true aQ
          have q6 : x3_1 < (a0.size : Int) := of_decide_eq_true aQ
          have hx6 := bt_at a0 x3_1
          replace p6 := eq_true p6
          replace q6 := eq_true q6
          have p8 : 0 ≤ (x3_1 : Int) := of_decide_eq_true aQ
          have q8 : x3_1 < (a0.size : Int) := of_decide_eq_true aQ
          have hx8 := bt_at a0 x3_1
          replace p8 := eq_true p8
          replace q8 := eq_true q8
          have p10 : 0 ≤ (x3_1 : Int) := of_decide_eq_true aQ
          have q10 : x3_1 < (a0.size : Int) := of_decide_eq_true aQ
          have hx10 := bt_at a0 x3_1
          replace p10 := eq_true p10
          replace q10 := eq_true q10
          have p12 : 0 ≤ (x3_1 : Int) := of_decide_eq_true aQ
          have q12 : x3_1 < (a0.size : Int) := of_decide_eq_true aQ
          have hx12 := bt_at a0 x3_1
          replace p12 := eq_true p12
          replace q12 := eq_true q12
          go_wp2_with (first | (go_at_call 102; (with_reducible refine (strings_IndexByte.calls (⟨#[44, 58, 61, 123, 125, 40, 41, 91, 93]⟩ : ByteArray) (bt a0 x3_1) t127 _ A13.out).mono ?_); rintro e w' ⟨rfl, ⟨nd, rfl⟩⟩))
          go_roundg k1
          case measure => have := HK1.out; omega
          case rel => exact ⟨(wrap64 (x3_1 + 1)), aR, H', ⟨by have := HK1.out; omega⟩, by repeat (first | exact Drawn0.refl _ | apply Drawn0.step)⟩
         ·rw [if_neg c14] at H
          have c14b0 : decide (0 ≤ t127) = false := decide_eq_false c14
          clear c14
          obtain rfl := Option.some.inj H
          have p4 : 0 ≤ (x3_1 : Int) := of_decide_eq_true aQ
          have q4 : x3_1 < (a0.size : Int) := of_decide_eq_true aQ
          have hx4 := bt_at a0 x3_1
          replace p4 := eq_true p4
          replace q4 := eq_true q4
          have p6 : 0 ≤ (x3_1 : Int) := of_decide_eq_true aQ
          have q6 : x3_1 < (a0.size : Int) := of_decide_eq_true aQ
          have hx6 := bt_at a0 x3_1
          replace p6 := eq_true p6
          replace q6 := eq_true q6
          have p8 : 0 ≤ (x3_1 : Int) := of_decide_eq_true aQ
          have q8 : x3_1 < (a0.size : Int) := of_decide_eq_true aQ
          have hx8 := bt_at a0 x3_1
          replace p8 := eq_true p8
          replace q8 := eq_true q8
          have p10 : 0 ≤ (x3_1 : Int) := of_decide_eq_true aQ
          have q10 : x3_1 < (a0.size : Int) := of_decide_eq_true aQ
          have hx10 := bt_at a0 x3_1
          replace p10 := eq_true p10
          replace q10 := eq_true q10
          have p12 : 0 ≤ (x3_1 : Int) := of_decide_eq_true aQ
          have q12 : x3_1 < (a0.size : Int) := of_decide_eq_true aQ
          have hx12 := bt_at a0 x3_1
          replace p12 := eq_true p12
          replace q12 := eq_true q12
          go_wp2_with (first | (go_at_call 102; (with_reducible refine (strings_IndexByte.calls (⟨#[44, 58, 61, 123, 125, 40, 41, 91, 93]⟩ : ByteArray) (bt a0 x3_1) t127 _ A13.out).mono ?_); rintro e w' ⟨rfl, ⟨nd, rfl⟩⟩))
          go_ret
          exact ⟨by first | rfl | (simp; done) | (simp [*]; done), by repeat (first | exact Drawn0.refl _ | apply Drawn0.step)⟩
       ·rw [if_neg c9] at H
        have c9b0 : decide (48 ≤ (bt a0 x3_1)) = false := decide_eq_false c9
        clear c9
        replace H := Option.bind_eq_some_iff.mp H
        obtain ⟨t128, A160, H⟩ := H
        replace H : (if t128 ≥ 0 then (impl_TextValid.l0 k1 a0 (wrap64 (x3_1 + 1))) else (some false)) = some r := H
        have A16 := Aside0.mk A160
        clear A160
        by_cases c17 : t128 ≥ 0
        ·rw [if_pos c17] at H
         have c17b0 : decide (0 ≤ t128) = true := decide_eq_true c17
         clear c17
         have H' := Aside0.mk H
         clear H
         have p4 : 0 ≤ (x3_1 : Int) := of_decide_eq_true aQ
         have q4 : x3_1 < (a0.size : Int) := of_decide_eq_true aQ
         have hx4 := bt_at a0 x3_1
         replace p4 := eq_true p4
         replace q4 := eq_true q4
         have p6 : 0 ≤ (x3_1 : Int) := of_decide_eq_true aQ
         have q6 : x3_1 < (a0.size : Int) := of_decide_eq_true aQ
         have hx6 := bt_at a0 x3_1
         replace p6 := eq_true p6
         replace q6 := eq_true q6
         have p8 : 0 ≤ (x3_1 : Int) := of_decide_eq_true aQ
         have q8 : x3_1 < (a0.size : Int) := of_decide_eq_true aQ
         have hx8 := bt_at a0 x3_1
         replace p8 := eq_true p8
         replace q8 := eq_true q8
         have p15 : 0 ≤ (x3_1 : Int) := of_decide_eq_true aQ
         have q15 : x3_1 < (a0.size : Int) := of_decide_eq_true aQ
         have hx15 := bt_at a0 x3_1
         replace p15 := eq_true p15
         replace q15 := eq_true q15
         go_wp2_with (first | (go_at_call 102; (with_reducible refine (strings_IndexByte.calls (⟨#[44, 58, 61, 123, 125, 40, 41, 91, 93]⟩ : ByteArray) (bt a0 x3_1) t128 _ A16.out).mono ?_); rintro e w' ⟨rfl, ⟨nd, rfl⟩⟩))
         go_roundg k1
         case measure => have := HK1.out; omega
         case rel => exact ⟨(wrap64 (x3_1 + 1)), aR, H', ⟨by have := HK1.out; omega⟩, by repeat (first | exact Drawn0.refl _ | apply Drawn0.step)⟩
        ·rw [if_neg c17] at H
         have c17b0 : decide (0 ≤ t128) = false := decide_eq_false c17
         clear c17
         obtain rfl := Option.some.inj H
         have p4 : 0 ≤ (x3_1 : Int) := of_decide_eq_true aQ
         have q4 : x3_1 < (a0.size : Int) := of_decide_eq_true aQ
         have hx4 := bt_at a0 x3_1
         replace p4 := eq_true p4
         replace q4 := eq_true q4
         have p6 : 0 ≤ (x3_1 : Int) := of_decide_eq_true aQ
         have q6 : x3_1 < (a0.size : Int) := of_decide_eq_true aQ
         have hx6 := bt_at a0 x3_1
         replace p6 := eq_true p6
         replace q6 := eq_true q6
         have p8 : 0 ≤ (x3_1 : Int) := of_decide_eq_true aQ
         have q8 : x3_1 < (a0.size : Int) := of_decide_eq_true aQ
         have hx8 := bt_at a0 x3_1
         replace p8 := eq_true p8
         replace q8 := eq_true q8
         have p15 : 0 ≤ (x3_1 : Int) := of_decide_eq_true aQ
         have q15 : x3_1 < (a0.size : Int) := of_decide_eq_true aQ
         have hx15 := bt_at a0 x3_1
         replace p15 := eq_true p15
         replace q15 := eq_true q15
         go_wp2_with (first | (go_at_call 102; (with_reducible refine (strings_IndexByte.calls (⟨#[44, 58, 61, 123, 125, 40, 41, 91, 93]⟩ : ByteArray) (bt a0 x3_1) t128 _ A16.out).mono ?_); rintro e w' ⟨rfl, ⟨nd, rfl⟩⟩))
         go_ret
         exact ⟨by first | rfl | (simp; done) | (simp [*]; done), by repeat (first | exact Drawn0.refl _ | apply Drawn0.step)⟩
     ·rw [if_neg c5] at H
      have c5b0 : decide (97 ≤ (bt a0 x3_1)) = false := decide_eq_false c5
      clear c5
      by_cases c19 : (bt a0 x3_1) ≥ 48
      ·rw [if_pos c19] at H
       have c19b0 : decide (48 ≤ (bt a0 x3_1)) = true := decide_eq_true c19
       clear c19
       by_cases c21 : (bt a0 x3_1) ≤ 57
       ·rw [if_pos c21] at H
        have c21b0 : decide ((bt a0 x3_1) ≤ 57) = true := decide_eq_true c21
        clear c21
        have H' := Aside0.mk H
        clear H
        have p4 : 0 ≤ (x3_1 : Int) := of_decide_eq_true aQ
        have q4 : x3_1 < (a0.size : Int) := of_decide_eq_true aQ
        have hx4 := bt_at a0 x3_1
        replace p4 := eq_true p4
        replace q4 := eq_true q4
        have p18 : 0 ≤ (x3_1 : Int) := of_decide_eq_true aQ
        have q18 : x3_1 < (a0.size : Int) := of_decide_eq_true aQ
        have hx18 := bt_at a0 x3_1
        replace p18 := eq_true p18
        replace q18 := eq_true q18
        have p20 : 0 ≤ (x3_1 : Int) := of_decide_eq_true aQ
        have q20 : x3_1 < (a0.size : Int) := of_decide_eq_true aQ
        have hx20 := bt_at a0 x3_1
        replace p20 := eq_true p20
        replace q20 := eq_true q20
        go_wp2
        go_roundg k1
        case measure => have := HK1.out; omega
        case rel => exact ⟨(wrap64 (x3_1 + 1)), aR, H', ⟨by have := HK1.out; omega⟩, by repeat (first | exact Drawn0.refl _ | apply Drawn0.step)⟩
       ·rw [if_neg c21] at H
        have c21b0 : decide ((bt a0 x3_1) ≤ 57) = false := decide_eq_false c21
        clear c21
        replace H := Option.bind_eq_some_iff.mp H
        obtain ⟨t129, A230, H⟩ := H
        replace H : (if t129 ≥ 0 then (impl_TextValid.l0 k1 a0 (wrap64 (x3_1 + 1))) else (some false)) = some r := H
        have A23 := Aside0.mk A230
        clear A230
        by_cases c24 : t129 ≥ 0
        ·rw [if_pos c24] at H
         have c24b0 : decide (0 ≤ t129) = true := decide_eq_true c24
         clear c24
         have H' := Aside0.mk H
         clear H
         have p4 : 0 ≤ (x3_1 : Int) := of_decide_eq_true aQ
         have q4 : x3_1 < (a0.size : Int) := of_decide_eq_true aQ
         have hx4 := bt_at a0 x3_1
         replace p4 := eq_true p4
         replace q4 := eq_true q4
         have p18 : 0 ≤ (x3_1 : Int) := of_decide_eq_true aQ
         have q18 : x3_1 < (a0.size : Int) := of_decide_eq_true aQ
         have hx18 := bt_at a0 x3_1
         replace p18 := eq_true p18
         replace q18 := eq_true q18
         have p20 : 0 ≤ (x3_1 : Int) := of_decide_eq_true aQ
         have q20 : x3_1 < (a0.size : Int) := of_decide_eq_true aQ
         have hx20 := bt_at a0 x3_1
         replace p20 := eq_true p20
         replace q20 := eq_true q20
         have p22 : 0 ≤ (x3_1 : Int) := of_decide_eq_true aQ
         have q22 : x3_1 < (a0.size : Int) := of_decide_eq_true aQ
         have hx22 := bt_at a0 x3_1
         replace p22 := eq_true p22
         replace q22 := eq_true q22
         go_wp2_with (first | (go_at_call 102; (with_reducible refine (strings_IndexByte.calls (⟨#[44, 58, 61, 123, 125, 40, 41, 91, 93]⟩ : ByteArray) (bt a0 x3_1) t129 _ A23.out).mono ?_); rintro e w' ⟨rfl, ⟨nd, rfl⟩⟩))
         go_roundg k1
         case measure => have := HK1.out; omega
         case rel => exact ⟨(wrap64 (x3_1 + 1)), aR, H', ⟨by have := HK1.out; omega⟩, by repeat (first | exact Drawn0.refl _ | apply Drawn0.step)⟩
        ·rw [if_neg c24] at H
         have c24b0 : decide (0 ≤ t129) = false := decide_eq_false c24
         clear c24
         obtain rfl := Option.some.inj H
         have p4 : 0 ≤ (x3_1 : Int) := of_decide_eq_true aQ
         have q4 : x3_1 < (a0.size : Int) := of_decide_eq_true aQ
         have hx4 := bt_at a0 x3_1
         replace p4 := eq_true p4
         replace q4 := eq_true q4
         have p18 : 0 ≤ (x3_1 : Int) := of_decide_eq_true aQ
         have q18 : x3_1 < (a0.size : Int) := of_decide_eq_true aQ
         have hx18 := bt_at a0 x3_1
         replace p18 := eq_true p18
         replace q18 := eq_true q18
         have p20 : 0 ≤ (x3_1 : Int) := of_decide_eq_true aQ
         have q20 : x3_1 < (a0.size : Int) := of_decide_eq_true aQ
         have hx20 := bt_at a0 x3_1
         replace p20 := eq_true p20
         replace q20 := eq_true q20
         have p22 : 0 ≤ (x3_1 : Int) := of_decide_eq_true aQ
         have q22 : x3_1 < (a0.size : Int) := of_decide_eq_true aQ
         have hx22 := bt_at a0 x3_1
         replace p22 := eq_true p22
         replace q22 := eq_true q22
         go_wp2_with (first | (go_at_call 102; (with_reducible refine (strings_IndexByte.calls (⟨#[44, 58, 61, 123, 125, 40, 41, 91, 93]⟩ : ByteArray) (bt a0 x3_1) t129 _ A23.out).mono ?_); rintro e w' ⟨rfl, ⟨nd, rfl⟩⟩))
         go_ret
         exact ⟨by first | rfl | (simp; done) | (simp [*]; done), by repeat (first | exact Drawn0.refl _ | apply Drawn0.step)⟩
      ·rw [if_neg c19] at H
       have c19b0 : decide (48 ≤ (bt a0 x3_1)) = false := decide_eq_false c19
       clear c19
       replace H := Option.bind_eq_some_iff.mp H
       obtain ⟨t130, A260, H⟩ := H
       replace H : (if t130 ≥ 0 then (impl_TextValid.l0 k1 a0 (wrap64 (x3_1 + 1))) else (some false)) = some r := H
       have A26 := Aside0.mk A260
       clear A260
       by_cases c27 : t130 ≥ 0
       ·rw [if_pos c27] at H
        have c27b0 : decide (0 ≤ t130) = true := decide_eq_true c27
        clear c27
        have H' := Aside0.mk H
        clear H
        have p4 : 0 ≤ (x3_1 : Int) := of_decide_eq_true aQ
        have q4 : x3_1 < (a0.size : Int) := of_decide_eq_true aQ
        have hx4 := bt_at a0 x3_1
        replace p4 := eq_true p4
        replace q4 := eq_true q4
        have p18 : 0 ≤ (x3_1 : Int) := of_decide_eq_true aQ
        have q18 : x3_1 < (a0.size : Int) := of_decide_eq_true aQ
        have hx18 := bt_at a0 x3_1
        replace p18 := eq_true p18
        replace q18 := eq_true q18
        have p25 : 0 ≤ (x3_1 : Int) := of_decide_eq_true aQ
        have q25 : x3_1 < (a0.size : Int) := of_decide_eq_true aQ
        have hx25 := bt_at a0 x3_1
        replace p25 := eq_true p25
        replace q25 := eq_true q25
        go_wp2_with (first | (go_at_call 102; (with_reducible refine (strings_IndexByte.calls (⟨#[44, 58, 61, 123, 125, 40, 41, 91, 93]⟩ : ByteArray) (bt a0 x3_1) t130 _ A26.out).mono ?_); rintro e w' ⟨rfl, ⟨nd, rfl⟩⟩))
        go_roundg k1
        case measure => have := HK1.out; omega
        case rel => exact ⟨(wrap64 (x3_1 + 1)), aR, H', ⟨by have := HK1.out; omega⟩, by repeat (first | exact Drawn0.refl _ | apply Drawn0.step)⟩
       ·rw [if_neg c27] at H
        have c27b0 : decide (0 ≤ t130) = false := decide_eq_false c27
        clear c27
        obtain rfl := Option.some.inj H
        have p4 : 0 ≤ (x3_1 : Int) := of_decide_eq_true aQ
        have q4 : x3_1 < (a0.size : Int) := of_decide_eq_true aQ
        have hx4 := bt_at a0 x3_1
        replace p4 := eq_true p4
        replace q4 := eq_true q4
        have p18 : 0 ≤ (x3_1 : Int) := of_decide_eq_true aQ
        have q18 : x3_1 < (a0.size : Int) := of_decide_eq_true aQ
        have hx18 := bt_at a0 x3_1
        replace p18 := eq_true p18
        replace q18 := eq_true q18
        have p25 : 0 ≤ (x3_1 : Int) := of_decide_eq_true aQ
        have q25 : x3_1 < (a0.size : Int) := of_decide_eq_true aQ
        have hx25 := bt_at a0 x3_1
        replace p25 := eq_true p25
        replace q25 := eq_true q25
        go_wp2_with (first | (go_at_call 102; (with_reducible refine (strings_IndexByte.calls (⟨#[44, 58, 61, 123, 125, 40, 41, 91, 93]⟩ : ByteArray) (bt a0 x3_1) t130 _ A26.out).mono ?_); rintro e w' ⟨rfl, ⟨nd, rfl⟩⟩))
        go_ret
        exact ⟨by first | rfl | (simp; done) | (simp [*]; done), by repeat (first | exact Drawn0.refl _ | apply Drawn0.step)⟩
    ·rw [if_neg c3] at H
     exact absurd H (by simp)
   ·rw [if_neg c2] at H
    have c2b0 : decide (x3_1 < (a0.size : Int)) = false := decide_eq_false c2
    clear c2
    by_cases c28 : (a0.size : Int) ≥ 1
    ·rw [if_pos c28] at H
     have c28b0 : decide (1 ≤ (a0.size : Int)) = true := decide_eq_true c28
     have c28b1 : decide (1 ≤ a0.size) = true := decide_eq_true (by omega)
     clear c28
     obtain rfl := Option.some.inj H
     go_wp2
     go_ret
     exact ⟨by first | rfl | (simp; done) | (simp [*]; done), by repeat (first | exact Drawn0.refl _ | apply Drawn0.step)⟩
    ·rw [if_neg c28] at H
     have c28b0 : decide (1 ≤ (a0.size : Int)) = false := decide_eq_false c28
     have c28b1 : decide (1 ≤ a0.size) = false := decide_eq_false (by omega)
     clear c28
     obtain rfl := Option.some.inj H
     go_wp2
     go_ret
     exact ⟨by first | rfl | (simp; done) | (simp [*]; done), by repeat (first | exact Drawn0.refl _ | apply Drawn0.step)⟩

/-! ### impl_rowBytes: function 73 -/
def impl_rowBytes.l0 : Nat → ByteArray → Int → Option (Bool)
 | 0, _, _ => none
 | k + 1, x0, x3 => if x3 < (x0.size : Int) then (if 0 ≤ x3 then (if (bt x0 x3) = 32 then (impl_rowBytes.l0 k x0 (wrap64 (x3 + 1))) else (if x3 ≤ (wrap64 (x3 + 1)) then (if (wrap64 (x3 + 1)) ≤ (x0.size : Int) then ((impl_TextValid.f k (x0.extract (x3 : Int).toNat ((wrap64 (x3 + 1)) : Int).toNat)).bind fun t131 => (if t131 = true then (impl_rowBytes.l0 k x0 (wrap64 (x3 + 1))) else (some false))) else (none)) else (none))) else (none)) else (some true)
def impl_rowBytes.f (k : Nat) (a0 : ByteArray) : Option (Bool) := impl_rowBytes.l0 k a0 0
set_option maxHeartbeats 8000000 in
set_option maxRecDepth 100000 in
theorem impl_rowBytes.calls (k : Nat) (a0 : ByteArray) (r : Bool) (w : World) (h : impl_rowBytes.f k a0 = some r) :
  Calls Try.prog 73 #[.string a0] w fun e w' => e = .returned (.bool r) ∧ Drawn0 w w' := by
 have H : (impl_rowBytes.l0 k a0 0) = some r := h
 clear h
 have H' := Aside0.mk H
 clear H
 go_enter Try.func73, Try.ntmps73
 go_wp2
 go_loopg [3] k (fun kq v3 w' => ∃ (x3_1 : Int), v3 = .int .i64 x3_1 ∧ Aside0 (impl_rowBytes.l0 kq a0 x3_1 = some r) ∧ Aside0 (kq ≤ k) ∧ Drawn0 w w')
 case atStart => exact ⟨(0), aR, H', ⟨Nat.le_refl _⟩, by repeat (first | exact Drawn0.refl _ | apply Drawn0.step)⟩
 case round =>
  clear H'
  obtain ⟨x3_1, rfl, HA, HK1, ⟨m1, rfl⟩⟩ := hrel
  cases gk with
  | zero => exact absurd HA.out (by simp [impl_rowBytes.l0])
  | succ k1 =>
   have H := HA.out
   clear HA
   simp only [impl_rowBytes.l0] at H
   by_cases c2 : x3_1 < (a0.size : Int)
   ·rw [if_pos c2] at H
    have c2b0 : decide (x3_1 < (a0.size : Int)) = true := decide_eq_true c2
    clear c2
    by_cases c3 : 0 ≤ x3_1
    ·rw [if_pos c3] at H
     have c3b0 : decide (0 ≤ x3_1) = true := decide_eq_true c3
     clear c3
     by_cases c5 : (bt a0 x3_1) = 32
     ·rw [if_pos c5] at H
      have c5b0 : ((bt a0 x3_1) == 32) = true := beq_iff_eq.mpr c5
      have c5b1 : ((bt a0 x3_1) != 32) = false := bne_eq_false_iff_eq.mpr c5
      clear c5
      have H' := Aside0.mk H
      clear H
      have p4 : 0 ≤ (x3_1 : Int) := of_decide_eq_true aQ
      have q4 : x3_1 < (a0.size : Int) := of_decide_eq_true aQ
      have hx4 := bt_at a0 x3_1
      replace p4 := eq_true p4
      replace q4 := eq_true q4
      go_wp2
      go_roundg k1
      case measure => have := HK1.out; omega
      case rel => exact ⟨(wrap64 (x3_1 + 1)), aR, H', ⟨by have := HK1.out; omega⟩, by repeat (first | exact Drawn0.refl _ | apply Drawn0.step)⟩
     ·rw [if_neg c5] at H
      have c5b0 : ((bt a0 x3_1) == 32) = false := beq_eq_false_iff_ne.mpr c5
      have c5b1 : ((bt a0 x3_1) != 32) = true := bne_iff_ne.mpr c5
      have c6b0 := eq_true (of_decide_eq_true aQ : 0 ≤ x3_1)
      by_cases c7 : x3_1 ≤ (wrap64 (x3_1 + 1))
      ·rw [if_pos c7] at H
       have c7b0 := eq_true c7
       have c7b1 : decide (x3_1 ≤ (wrap64 (x3_1 + 1))) = true := decide_eq_true c7
       by_cases c8 : (wrap64 (x3_1 + 1)) ≤ (a0.size : Int)
       ·rw [if_pos c8] at H
        have c8b0 := eq_true c8
        have c8b1 : decide ((wrap64 (x3_1 + 1)) ≤ (a0.size : Int)) = true := decide_eq_true c8
        replace H := Option.bind_eq_some_iff.mp H
        obtain ⟨t131, A90, H⟩ := H
        replace H : (if t131 = true then (impl_rowBytes.l0 k1 a0 (wrap64 (x3_1 + 1))) else (some false)) = some r := H
        have A9 := Aside0.mk A90
        clear A90
        by_cases c10 : t131 = true
        ·subst c10
         have H1 : (impl_rowBytes.l0 k1 a0 (wrap64 (x3_1 + 1))) = some r := by rw [if_pos rfl] at H; exact H
         clear H
         have H := H1
         clear H1
         have H' := Aside0.mk H
         clear H
         have p4 : 0 ≤ (x3_1 : Int) := of_decide_eq_true aQ
         have q4 : x3_1 < (a0.size : Int) := of_decide_eq_true aQ
         have hx4 := bt_at a0 x3_1
         replace p4 := eq_true p4
         replace q4 := eq_true q4
         go_wp2_with (first | (go_at_call 89; (with_reducible refine (impl_TextValid.calls k1 (a0.extract (x3_1 : Int).toNat ((wrap64 (x3_1 + 1)) : Int).toNat) true _ A9.out).mono ?_); rintro e w' ⟨rfl, ⟨nd, rfl⟩⟩))
         go_roundg k1
         case measure => have := HK1.out; omega
         case rel => exact ⟨(wrap64 (x3_1 + 1)), aR, H', ⟨by have := HK1.out; omega⟩, by repeat (first | exact Drawn0.refl _ | apply Drawn0.step)⟩
        ·replace c10 := Bool.eq_false_iff.mpr c10
         subst c10
         have H1 : (some false) = some r := by rw [if_neg (show ¬ (false = true) by decide)] at H; exact H
         clear H
         have H := H1
         clear H1
         obtain rfl := Option.some.inj H
         have p4 : 0 ≤ (x3_1 : Int) := of_decide_eq_true aQ
         have q4 : x3_1 < (a0.size : Int) := of_decide_eq_true aQ
         have hx4 := bt_at a0 x3_1
         replace p4 := eq_true p4
         replace q4 := eq_true q4
         go_wp2_with (first | (go_at_call 89; (with_reducible refine (impl_TextValid.calls k1 (a0.extract (x3_1 : Int).toNat ((wrap64 (x3_1 + 1)) : Int).toNat) false _ A9.out).mono ?_); rintro e w' ⟨rfl, ⟨nd, rfl⟩⟩))
         go_ret
         exact ⟨by first | rfl | (simp; done) | (simp [*]; done), by repeat (first | exact Drawn0.refl _ | apply Drawn0.step)⟩
       ·rw [if_neg c8] at H
        exact absurd H (by simp)
      ·rw [if_neg c7] at H
       exact absurd H (by simp)
    ·rw [if_neg c3] at H
     exact absurd H (by simp)
   ·rw [if_neg c2] at H
    have c2b0 : decide (x3_1 < (a0.size : Int)) = false := decide_eq_false c2
    clear c2
    obtain rfl := Option.some.inj H
    go_wp2
    go_ret
    exact ⟨by first | rfl | (simp; done) | (simp [*]; done), by repeat (first | exact Drawn0.refl _ | apply Drawn0.step)⟩

end Go.Proofs.Ytkcpimhohadjkaa.PPb
