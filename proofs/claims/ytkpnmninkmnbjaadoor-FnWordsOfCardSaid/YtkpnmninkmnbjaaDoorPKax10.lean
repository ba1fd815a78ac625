-- Written by a program of this session (xprint). -- COMPACT
import Derived.Test.YtkpnmninkmnbjaaDoorPKax0
import Derived.Test.YtkpnmninkmnbjaaDoorPKax4
import Derived.Test.YtkpnmninkmnbjaaDoorPKax7
namespace Go.Proofs.YtkpnmninkmnbjaaDoor.PKa
open Go.RowKit Go.Proofs.YtkpnmninkmnbjaaDoorW.PrintWords Go.Proofs.YtkpnmninkmnbjaaDoorW.PrintLast Go.Proofs.YtkpnmninkmnbjaaDoorW.PrintMore
attribute [local go_sem] max2_int min2_int max_two min_two max_three min_three max_four min_four   -- for this text's walks alone
set_option linter.unusedVariables false
set_option linter.unusedSimpArgs false

/-! ### spec_l12Line: function 38 -/
def spec_l12Line.l0 : Nat → List ByteArray → ByteArray → Int → Option (ByteArray)
 | 0, _, _, _ => none
 | k + 1, x0, x3, x4 => if x4 < (x0.length : Int) then (if x4 > 0 then (if x3.size + 1 ≤ 9223372036854775807 then (if 0 ≤ x4 then (if (x3 ++ (⟨#[32]⟩ : ByteArray)).size + (rdOf ByteArray.empty x0 x4).size ≤ 9223372036854775807 then (spec_l12Line.l0 k x0 ((x3 ++ (⟨#[32]⟩ : ByteArray)) ++ (rdOf ByteArray.empty x0 x4)) (wrap64 (x4 + 1))) else (none)) else (none)) else (none)) else (if 0 ≤ x4 then (if x3.size + (rdOf ByteArray.empty x0 x4).size ≤ 9223372036854775807 then (spec_l12Line.l0 k x0 (x3 ++ (rdOf ByteArray.empty x0 x4)) (wrap64 (x4 + 1))) else (none)) else (none))) else (some x3)
def spec_l12Line.f (k : Nat) (l0 : List ByteArray) : Option (ByteArray) := spec_l12Line.l0 k l0 (⟨#[]⟩ : ByteArray) 0
set_option maxHeartbeats 8000000 in
set_option maxRecDepth 100000 in
theorem spec_l12Line.calls (k : Nat) (A0 : Option Addr) (c0 : Nat) (l0 : List ByteArray) (r : ByteArray) (w : World) (hr0 : Kd.C Kd.string w A0 l0.length l0) (hc0 : l0.length ≤ c0) (h : spec_l12Line.f k l0 = some r) :
  Calls Tryd.prog 38 #[.slice A0 l0.length c0] w fun e w' => e = .returned (.string r) ∧ Drawn0 w w' := by
 have HR0 := Aside0.mk hr0
 have HC0 := Aside0.mk hc0
 clear hr0 hc0
 have H : (spec_l12Line.l0 k l0 (⟨#[]⟩ : ByteArray) 0) = some r := h
 clear h
 have H' := Aside0.mk H
 clear H
 go_enter Tryd.func38, Tryd.ntmps38
 go_wp2
 go_loopg [3, 4] k (fun kq v3 v4 w' => ∃ (x3_1 : ByteArray) (x4_1 : Int), v3 = .string x3_1 ∧ v4 = .int .i64 x4_1 ∧ Aside0 (spec_l12Line.l0 kq l0 x3_1 x4_1 = some r) ∧ Aside0 (kq ≤ k) ∧ Drawn0 w w')
 case atStart => exact ⟨((⟨#[]⟩ : ByteArray)), (0), (by first|rfl|(simp;done)|(simp[*];done)), (by first|rfl|(simp;done)|(simp[*];done)), H', ⟨Nat.le_refl _⟩, by repeat (first | exact Drawn0.refl _ | apply Drawn0.step)⟩
 case round =>
  clear H'
  obtain ⟨x3_1, x4_1, rfl, rfl, HA, HK1, ⟨m1, rfl⟩⟩ := hrel
  cases gk with
  | zero => exact absurd HA.out (by simp [spec_l12Line.l0])
  | succ k1 =>
   have H := HA.out
   clear HA
   simp only [spec_l12Line.l0] at H
   by_cases c2 : x4_1 < (l0.length : Int)
   ·rw [if_pos c2] at H
    have c2b0 : decide (x4_1 < (l0.length : Int)) = true := decide_eq_true c2
    clear c2
    by_cases c3 : x4_1 > 0
    ·rw [if_pos c3] at H
     have c3b0 : decide (0 < x4_1) = true := decide_eq_true c3
     clear c3
     by_cases c4 : x3_1.size + 1 ≤ 9223372036854775807
     ·rw [if_pos c4] at H
      have c4b0 := eq_true c4
      have c4b1 : decide (x3_1.size + 1 ≤ 9223372036854775807) = true := decide_eq_true c4
      try have c4b2 : (9223372036854775807 < x3_1.size + 1) = False := eq_false (Nat.not_lt.2 c4)
      by_cases c5 : 0 ≤ x4_1
      ·rw [if_pos c5] at H
       have c5b0 : decide (0 ≤ x4_1) = true := decide_eq_true c5
       clear c5
       by_cases c6 : (x3_1 ++ (⟨#[32]⟩ : ByteArray)).size + (rdOf ByteArray.empty l0 x4_1).size ≤ 9223372036854775807
       ·rw [if_pos c6] at H
        have c6b0 := eq_true c6
        have c6b1 : decide ((x3_1 ++ (⟨#[32]⟩ : ByteArray)).size + (rdOf ByteArray.empty l0 x4_1).size ≤ 9223372036854775807) = true := decide_eq_true c6
        try have c6b2 : (9223372036854775807 < (x3_1 ++ (⟨#[32]⟩ : ByteArray)).size + (rdOf ByteArray.empty l0 x4_1).size) = False := eq_false (Nat.not_lt.2 c6)
        try have c6b3 : (9223372036854775807 < x3_1.size + 1 + (rdOf ByteArray.empty l0 x4_1).size) = False := eq_false (Nat.not_lt.2 (by have q_ := c6; simp only [ByteArray.size_append] at q_; exact q_))
        have H' := Aside0.mk H
        clear H
        have p354 : 0 ≤ (x4_1 : Int) := of_decide_eq_true (by first|(with_reducible assumption)|assumption)
        have q354 : x4_1 < (l0.length : Int) := of_decide_eq_true (by first|(with_reducible assumption)|assumption)
        obtain ⟨ad354, e354, hx354_0⟩ := Kd.at_string HR0.out x4_1 p354 q354
        cases e354
        replace p354 := eq_true p354
        replace q354 := eq_true q354
        go_wp2
        go_roundg k1
        case measure => have := HK1.out; omega
        case rel => exact ⟨((x3_1 ++ (⟨#[32]⟩ : ByteArray)) ++ (rdOf ByteArray.empty l0 x4_1)), (wrap64 (x4_1 + 1)), (by first|rfl|(simp;done)|(simp[*];done)), (by first|rfl|(simp;done)|(simp[*];done)), H', ⟨by have := HK1.out; omega⟩, by repeat (first | exact Drawn0.refl _ | apply Drawn0.step)⟩
       ·rw [if_neg c6] at H
        exact absurd H (by simp)
      ·rw [if_neg c5] at H
       exact absurd H (by simp)
     ·rw [if_neg c4] at H
      exact absurd H (by simp)
    ·rw [if_neg c3] at H
     have c3b0 : decide (0 < x4_1) = false := decide_eq_false c3
     clear c3
     by_cases c7 : 0 ≤ x4_1
     ·rw [if_pos c7] at H
      have c7b0 : decide (0 ≤ x4_1) = true := decide_eq_true c7
      clear c7
      by_cases c8 : x3_1.size + (rdOf ByteArray.empty l0 x4_1).size ≤ 9223372036854775807
      ·rw [if_pos c8] at H
       have c8b0 := eq_true c8
       have c8b1 : decide (x3_1.size + (rdOf ByteArray.empty l0 x4_1).size ≤ 9223372036854775807) = true := decide_eq_true c8
       try have c8b2 : (9223372036854775807 < x3_1.size + (rdOf ByteArray.empty l0 x4_1).size) = False := eq_false (Nat.not_lt.2 c8)
       have H' := Aside0.mk H
       clear H
       have p355 : 0 ≤ (x4_1 : Int) := of_decide_eq_true (by first|(with_reducible assumption)|assumption)
       have q355 : x4_1 < (l0.length : Int) := of_decide_eq_true (by first|(with_reducible assumption)|assumption)
       obtain ⟨ad355, e355, hx355_0⟩ := Kd.at_string HR0.out x4_1 p355 q355
       cases e355
       replace p355 := eq_true p355
       replace q355 := eq_true q355
       go_wp2
       go_roundg k1
       case measure => have := HK1.out; omega
       case rel => exact ⟨(x3_1 ++ (rdOf ByteArray.empty l0 x4_1)), (wrap64 (x4_1 + 1)), (by first|rfl|(simp;done)|(simp[*];done)), (by first|rfl|(simp;done)|(simp[*];done)), H', ⟨by have := HK1.out; omega⟩, by repeat (first | exact Drawn0.refl _ | apply Drawn0.step)⟩
      ·rw [if_neg c8] at H
       exact absurd H (by simp)
     ·rw [if_neg c7] at H
      exact absurd H (by simp)
   ·rw [if_neg c2] at H
    have c2b0 : decide (x4_1 < (l0.length : Int)) = false := decide_eq_false c2
    clear c2
    obtain rfl := Option.some.inj H
    go_wp2
    go_ret
    exact ⟨by first | rfl | (simp; done) | (simp [*]; done), by repeat (first | exact Drawn0.refl _ | apply Drawn0.step)⟩

/-! ### spec_l12Best: function 37 -/
mutual
def spec_l12Best.l0 : Nat → List ByteArray → Int → List Int → List Int → Int → Option (List Int × List Int)
 | 0, _, _, _, _, _ => none
 | k + 1, x0, x1, x6, x7, x8 => if x8 ≥ 0 then (spec_l12Best.l1 k x0 x1 x6 x7 x8 1) else (some (x6, x7))
def spec_l12Best.l1 : Nat → List ByteArray → Int → List Int → List Int → Int → Int → Option (List Int × List Int)
 | 0, _, _, _, _, _, _ => none
 | k + 1, x0, x1, x6, x7, x8, x9 => if (wrap64 (x8 + x9)) ≤ (x0.length : Int) then (if 0 ≤ x8 then (if x8 ≤ (wrap64 (x8 + x9)) then ((spec_l12Line.f k ((x0.take ((wrap64 (x8 + x9)) : Int).toNat).drop (x8 : Int).toNat)).bind fun t363 => (if 0 ≤ (wrap64 (x8 + x9)) then (if (wrap64 (x8 + x9)) < (x6.length : Int) then (if (wrap64 (x8 + x9)) < (x0.length : Int) then (spec_l12Best.j2 k x0 x1 x6 x7 x8 x9 t363 (rd x6 (wrap64 (x8 + x9))) true) else (spec_l12Best.j2 k x0 x1 x6 x7 x8 x9 t363 (rd x6 (wrap64 (x8 + x9))) (decide ((t363.size : Int) > x1)))) else (none)) else (none))) else (none)) else (none)) else (spec_l12Best.l0 k x0 x1 x6 x7 (wrap64 (x8 - 1)))
def spec_l12Best.j2 : Nat → List ByteArray → Int → List Int → List Int → Int → Int → ByteArray → Int → Bool → Option (List Int × List Int)
 | 0, _, _, _, _, _, _, _, _, _ => none
 | k + 1, x0, x1, x6, x7, x8, x9, x10, x11, x59 => if x59 = true then ((spec_l12Cost.f (x10.size : Int) x1).bind fun t365 => (if x9 = 1 then (if 0 ≤ x8 then (if x8 < (x6.length : Int) then (if x8 < (x7.length : Int) then (spec_l12Best.l1 k x0 x1 (x6.set (x8 : Int).toNat (wrap64 (x11 + t365))) (x7.set (x8 : Int).toNat x9) x8 (wrap64 (x9 + 1))) else (none)) else (none)) else (none)) else (if 0 ≤ x8 then (if x8 < (x6.length : Int) then (if (wrap64 (x11 + t365)) < (rd x6 x8) then (if x8 < (x7.length : Int) then (spec_l12Best.l1 k x0 x1 (x6.set (x8 : Int).toNat (wrap64 (x11 + t365))) (x7.set (x8 : Int).toNat x9) x8 (wrap64 (x9 + 1))) else (none)) else (spec_l12Best.l1 k x0 x1 x6 x7 x8 (wrap64 (x9 + 1)))) else (none)) else (none)))) else (if x9 = 1 then (if 0 ≤ x8 then (if x8 < (x6.length : Int) then (if x8 < (x7.length : Int) then (spec_l12Best.l1 k x0 x1 (x6.set (x8 : Int).toNat x11) (x7.set (x8 : Int).toNat x9) x8 (wrap64 (x9 + 1))) else (none)) else (none)) else (none)) else (if 0 ≤ x8 then (if x8 < (x6.length : Int) then (if x11 < (rd x6 x8) then (if x8 < (x7.length : Int) then (spec_l12Best.l1 k x0 x1 (x6.set (x8 : Int).toNat x11) (x7.set (x8 : Int).toNat x9) x8 (wrap64 (x9 + 1))) else (none)) else (spec_l12Best.l1 k x0 x1 x6 x7 x8 (wrap64 (x9 + 1)))) else (none)) else (none)))
end
def spec_l12Best.f (k : Nat) (l0 : List ByteArray) (a1 : Int) : Option (List Int × List Int) := if 0 ≤ (wrap64 ((l0.length : Int) + 1)) then (if (wrap64 ((l0.length : Int) + 1) : Int).toNat ≤ 35184372088832 then (spec_l12Best.l0 k l0 a1 (List.replicate (wrap64 ((l0.length : Int) + 1) : Int).toNat 0) (List.replicate (wrap64 ((l0.length : Int) + 1) : Int).toNat 0) (wrap64 ((l0.length : Int) - 1))) else (none)) else (none)
set_option maxHeartbeats 8000000 in
set_option maxRecDepth 100000 in
theorem spec_l12Best.calls (k : Nat) (A0 : Option Addr) (c0 : Nat) (l0 : List ByteArray) (a1 : Int) (r1 : List Int) (r2 : List Int) (w : World) (hr0 : Kd.C Kd.string w A0 l0.length l0) (hc0 : l0.length ≤ c0) (h : spec_l12Best.f k l0 a1 = some (r1, r2)) :
  Calls Tryd.prog 37 #[.slice A0 l0.length c0, .int .i64 a1] w fun e w' => ∃ v0_ v1_ : Value, e = .returned (.tuple #[v0_, v1_]) ∧ Kd.R (Kd.int .i64) 3 w' w.heap.size (fun k_ => some k_ ≠ (v1_ : Value).ownBlock) v0_ r1 ∧ Kd.R (Kd.int .i64) 3 w' w.heap.size (fun k_ => some k_ ≠ (v0_ : Value).ownBlock) v1_ r2 ∧ Below w.heap.size w w' := by
 have HR0 := Aside0.mk hr0
 have HC0 := Aside0.mk hc0
 clear hr0 hc0
 have HB := Aside0.mk (Below.refl w.heap.size w)
 have H : (if 0 ≤ (wrap64 ((l0.length : Int) + 1)) then (if (wrap64 ((l0.length : Int) + 1) : Int).toNat ≤ 35184372088832 then (spec_l12Best.l0 k l0 a1 (List.replicate (wrap64 ((l0.length : Int) + 1) : Int).toNat 0) (List.replicate (wrap64 ((l0.length : Int) + 1) : Int).toNat 0) (wrap64 ((l0.length : Int) - 1))) else (none)) else (none)) = some (r1, r2) := h
 clear h
 obtain ⟨ji3, hji3⟩ : ∃ j_ : Int, (wrap64 ((l0.length : Int) + 1)) = j_ := ⟨_, rfl⟩
 replace H : (if 0 ≤ (ji3) then (if (ji3 : Int).toNat ≤ 35184372088832 then (spec_l12Best.l0 k l0 a1 (List.replicate (ji3 : Int).toNat 0) (List.replicate (ji3 : Int).toNat 0) (wrap64 ((l0.length : Int) - 1))) else (none)) else (none)) = some (r1, r2) := by first | (rw [hji3] at H; exact H) | (simp only [hji3] at H ⊢; exact H)
 have hji3w : (IntKind.i64.wrap ((l0.length : Int) + 1)) = ji3 := (i64_w _).trans hji3
 by_cases c4 : 0 ≤ (ji3)
 ·rw [if_pos c4] at H
  have c4b0 := eq_true c4
  have c4b1 : decide (0 ≤ (ji3)) = true := decide_eq_true c4
  clear c4
  by_cases c5 : (ji3 : Int).toNat ≤ 35184372088832
  ·rw [if_pos c5] at H
   have c5b0 := eq_true c5
   have c5b1 : decide ((ji3 : Int).toNat ≤ 35184372088832) = true := decide_eq_true c5
   clear c5
   obtain ⟨y356, hy356⟩ : ∃ y_ : List Int, y_ = (List.replicate (ji3 : Int).toNat 0) := ⟨_, rfl⟩
   replace H : (spec_l12Best.l0 k l0 a1 y356 (List.replicate (ji3 : Int).toNat 0) (wrap64 ((l0.length : Int) - 1))) = some (r1, r2) := by first | (rw [hy356]; with_reducible exact H) | (have H2_ := (Option.bind_some _ _).symm.trans H; rw [hy356]; with_reducible exact H2_) | (have H2_ := (Option.bind_some _ _).symm.trans H; with_reducible exact H2_) | with_reducible exact H | (rw [hy356]; exact H) | exact H
   have Ny356 := Aside0.mk hy356
   clear hy356
   obtain ⟨y359, hy359⟩ : ∃ y_ : List Int, y_ = (List.replicate (ji3 : Int).toNat 0) := ⟨_, rfl⟩
   replace H : (spec_l12Best.l0 k l0 a1 y356 y359 (wrap64 ((l0.length : Int) - 1))) = some (r1, r2) := by first | (rw [hy359]; with_reducible exact H) | (have H2_ := (Option.bind_some _ _).symm.trans H; rw [hy359]; with_reducible exact H2_) | (have H2_ := (Option.bind_some _ _).symm.trans H; with_reducible exact H2_) | with_reducible exact H | (rw [hy359]; exact H) | exact H
   have Ny359 := Aside0.mk hy359
   clear hy359
   have H' := Aside0.mk H
   clear H
   go_enter Tryd.func37, Tryd.ntmps37
   go_wp2_with (first | ((with_reducible refine gate_dst (N := 15) rfl ?_); (try (refine gate_guard (by rfl) ?_; dsimp only)); refine Kd.R_make (Kd.int .i64) _ 3 rfl (N := 15) rfl 43 _ _ rfl ji3 rfl rfl Tryd.underlying43 (.int .i64 0) 8 info3 rfl (by decide) (by omega) 0 (ok := fun _ => True) (okp := fun _ => True) rfl (fun _ hk => hk) trivial (of_decide_eq_true (by first|(with_reducible assumption)|assumption)) (Nat.le_trans (Nat.mul_le_mul_right _ (of_decide_eq_true (by first|(with_reducible assumption)|assumption) : ji3.toNat ≤ 35184372088832)) (by omega)) (Below.refl _ _) (Nat.le_refl _) ?_; intro v357 w6 ho7 hb hg_ hnew_; clear hg_ hnew_; (first | rw [← Ny356.out] at ho7 | (simp only [Int.reduceToNat] at ho7; rw [← Ny356.out] at ho7)); have n0_ := Aside0.mk (Kd.R_lower ho7 (below_size (by repeat (first|(with_reducible first|exact HB.out|apply below_alloc|apply pw_below_drewN|apply below_drew1)|exact HB.out)))); have n1_ := Aside0.mk (below_step (by repeat (first|(with_reducible first|exact HB.out|apply below_alloc|apply pw_below_drewN|apply below_drew1)|exact HB.out)) hb); clear HB; have HO358 := n0_; have HB := n1_; clear n0_ n1_; clear hb ho7) | ((with_reducible refine gate_dst (N := 19) rfl ?_); (try (refine gate_guard (by rfl) ?_; dsimp only)); refine Kd.R_make (Kd.int .i64) _ 3 rfl (N := 19) rfl 43 _ _ rfl ji3 rfl rfl Tryd.underlying43 (.int .i64 0) 8 info3 rfl (by decide) (by omega) 0 (ok := fun _ => True) (okp := fun _ => True) rfl (fun _ hk => hk) trivial (of_decide_eq_true (by first|(with_reducible assumption)|assumption)) (Nat.le_trans (Nat.mul_le_mul_right _ (of_decide_eq_true (by first|(with_reducible assumption)|assumption) : ji3.toNat ≤ 35184372088832)) (by omega)) (Below.refl _ _) (Nat.le_refl _) ?_; intro v360 w8 ho9 hb hg_ hnew_; clear hg_ hnew_; (first | rw [← Ny359.out] at ho9 | (simp only [Int.reduceToNat] at ho9; rw [← Ny359.out] at ho9)); have n0_ := Aside0.mk (Kd.R_elder' (by (with_reducible repeat (first|apply Kd.R_alloc|apply Kd.R_drewN|apply Kd.R_drew)); exact HO358.out) (Kd.R_base ho9) hb); have n1_ := Aside0.mk (Kd.R_lower (Kd.R_new' ho9 (Kd.R_lt (by (with_reducible repeat (first|apply Kd.R_alloc|apply Kd.R_drewN|apply Kd.R_drew)); exact HO358.out))) (below_size (by repeat (first|(with_reducible first|exact HB.out|apply below_alloc|apply pw_below_drewN|apply below_drew1)|exact HB.out)))); have n2_ := Aside0.mk (below_step (by repeat (first|(with_reducible first|exact HB.out|apply below_alloc|apply pw_below_drewN|apply below_drew1)|exact HB.out)) hb); clear HO358; clear HB; have HO358 := n0_; have HO361 := n1_; have HB := n2_; clear n0_ n1_ n2_; clear hb ho9))
   go_loopg [8] k (fun kq v8 w' => ∃ (x6_1 : List Int) (x7_1 : List Int) (x8_1 : Int), v8 = .int .i64 x8_1 ∧ Aside0 (spec_l12Best.l0 kq l0 a1 x6_1 x7_1 x8_1 = some (r1, r2)) ∧ Aside0 (kq ≤ k) ∧ Aside0 (Kd.R (Kd.int .i64) 3 w' w.heap.size (fun k_ => some k_ ≠ (v360 : Value).ownBlock) v357 x6_1) ∧ Aside0 (Kd.R (Kd.int .i64) 3 w' w.heap.size (fun k_ => some k_ ≠ (v357 : Value).ownBlock) v360 x7_1) ∧ Aside0 (Below w.heap.size w w'))
   case atStart => exact ⟨(y356), (y359), (wrap64 ((l0.length : Int) - 1)), (by first|rfl|(simp;done)|(simp[*];done)), H', ⟨Nat.le_refl _⟩, ⟨by (with_reducible repeat (first|apply Kd.R_alloc|apply Kd.R_drewN|apply Kd.R_drew)); exact Kd.R_mono HO358.out (fun _ hk => hk.2)⟩, ⟨by (with_reducible repeat (first|apply Kd.R_alloc|apply Kd.R_drewN|apply Kd.R_drew)); exact Kd.R_mono HO361.out (fun _ hk => hk.2)⟩, ⟨by repeat (first|(with_reducible first|exact HB.out|apply below_alloc|apply pw_below_drewN|apply below_drew1)|exact HB.out)⟩⟩
   case round =>
    clear H'
    try clear p2
    try clear c3
    try clear c4
    try clear c4b0
    try clear c4b1
    try clear c5
    try clear c5b0
    try clear c5b1
    try clear p6
    obtain ⟨x6_1, x7_1, x8_1, rfl, HA, HK1, HO_6, HO_7, HB⟩ := hrel
    cases gk with
    | zero => exact absurd HA.out (by simp [spec_l12Best.l0])
    | succ k1 =>
     have H := HA.out
     clear HA
     simp only [spec_l12Best.l0] at H
     by_cases c10 : x8_1 ≥ 0
     ·rw [if_pos c10] at H
      have c10b0 : decide (0 ≤ x8_1) = true := decide_eq_true c10
      clear c10
      have H' := Aside0.mk H
      clear H
      go_wp2
      go_loopg [9] k1 (fun kq v9 w' => ∃ (x6_2 : List Int) (x7_2 : List Int) (x9_2 : Int), v9 = .int .i64 x9_2 ∧ Aside0 (spec_l12Best.l1 kq l0 a1 x6_2 x7_2 x8_1 x9_2 = some (r1, r2)) ∧ Aside0 (kq ≤ k1) ∧ Aside0 (Kd.R (Kd.int .i64) 3 w' w.heap.size (fun k_ => some k_ ≠ (v360 : Value).ownBlock) v357 x6_2) ∧ Aside0 (Kd.R (Kd.int .i64) 3 w' w.heap.size (fun k_ => some k_ ≠ (v357 : Value).ownBlock) v360 x7_2) ∧ Aside0 (Below w.heap.size w w'))
      case atStart => exact ⟨(x6_1), (x7_1), (1), (by first|rfl|(simp;done)|(simp[*];done)), H', ⟨Nat.le_refl _⟩, ⟨by (with_reducible repeat (first|apply Kd.R_alloc|apply Kd.R_drewN|apply Kd.R_drew)); exact HO_6.out⟩, ⟨by (with_reducible repeat (first|apply Kd.R_alloc|apply Kd.R_drewN|apply Kd.R_drew)); exact HO_7.out⟩, ⟨by repeat (first|(with_reducible first|exact HB.out|apply below_alloc|apply pw_below_drewN|apply below_drew1)|exact HB.out)⟩⟩
      case round =>
       clear H'
       try clear c1
       try clear p2
       try clear c3
       try clear c4
       try clear c4b0
       try clear c4b1
       try clear c5
       try clear c5b0
       try clear c5b1
       try clear p6
       try clear c10
       try clear c10b0
       try clear p2
       try clear p6
       obtain ⟨x6_2, x7_2, x9_2, rfl, HA, HK2, HO_6, HO_7, HB⟩ := hrel
       cases gk with
       | zero => exact absurd HA.out (by simp [spec_l12Best.l1])
       | succ k2 =>
        have H := HA.out
        clear HA
        simp only [spec_l12Best.l1] at H
        by_cases c11 : (wrap64 (x8_1 + x9_2)) ≤ (l0.length : Int)
        ·rw [if_pos c11] at H
         have c11b0 : decide ((wrap64 (x8_1 + x9_2)) ≤ (l0.length : Int)) = true := decide_eq_true c11
         clear c11
         by_cases c12 : 0 ≤ x8_1
         ·rw [if_pos c12] at H
          have c12b0 := eq_true c12
          have c12b1 : decide (0 ≤ x8_1) = true := decide_eq_true c12
          clear c12
          by_cases c13 : x8_1 ≤ (wrap64 (x8_1 + x9_2))
          ·rw [if_pos c13] at H
           have c13b0 := eq_true c13
           have c13b1 : decide (x8_1 ≤ (wrap64 (x8_1 + x9_2))) = true := decide_eq_true c13
           have c14b0 := eq_true (of_decide_eq_true (by first|(with_reducible assumption)|assumption) : (wrap64 (x8_1 + x9_2)) ≤ (l0.length : Int))
           replace H := Option.bind_eq_some_iff.mp H
           obtain ⟨t363, A150, H⟩ := H
           replace H : (if 0 ≤ (wrap64 (x8_1 + x9_2)) then (if (wrap64 (x8_1 + x9_2)) < (x6_2.length : Int) then (if (wrap64 (x8_1 + x9_2)) < (l0.length : Int) then (spec_l12Best.j2 k2 l0 a1 x6_2 x7_2 x8_1 x9_2 t363 (rd x6_2 (wrap64 (x8_1 + x9_2))) true) else (spec_l12Best.j2 k2 l0 a1 x6_2 x7_2 x8_1 x9_2 t363 (rd x6_2 (wrap64 (x8_1 + x9_2))) (decide ((t363.size : Int) > a1)))) else (none)) else (none)) = some (r1, r2) := H
           have A15 := Aside0.mk A150
           clear A150
           obtain ⟨ji16, hji16⟩ : ∃ j_ : Int, (wrap64 (x8_1 + x9_2)) = j_ := ⟨_, rfl⟩
           replace H : (if 0 ≤ (ji16) then (if (ji16) < (x6_2.length : Int) then (if (ji16) < (l0.length : Int) then (spec_l12Best.j2 k2 l0 a1 x6_2 x7_2 x8_1 x9_2 t363 (rd x6_2 (ji16)) true) else (spec_l12Best.j2 k2 l0 a1 x6_2 x7_2 x8_1 x9_2 t363 (rd x6_2 (ji16)) (decide ((t363.size : Int) > a1)))) else (none)) else (none)) = some (r1, r2) := by first | (rw [hji16] at H; exact H) | (simp only [hji16] at H ⊢; exact H)
           (try rw [hji16] at c11b0)
           (try rw [hji16] at c13b0)
           (try rw [hji16] at c13b1)
           (try rw [hji16] at c13)
           (try rw [hji16] at A15)
           have hji16w : (IntKind.i64.wrap (x8_1 + x9_2)) = ji16 := (i64_w _).trans hji16
           by_cases c17 : 0 ≤ (ji16)
           ·rw [if_pos c17] at H
            have c17b0 : decide (0 ≤ (ji16)) = true := decide_eq_true c17
            clear c17
            by_cases c18 : (ji16) < (x6_2.length : Int)
            ·rw [if_pos c18] at H
             have c18b0 : decide ((ji16) < (x6_2.length : Int)) = true := decide_eq_true c18
             clear c18
             have HC19 := Aside0.mk H
             clear H
             obtain ⟨i020, hi020, _, hsz20, _⟩ := info_parts info9
             obtain ⟨A20, hcut20, hA20, hC20⟩ := print_mid_of (P := Tryd.prog) Value.string (⟨#[]⟩ : ByteArray) 23 9 .i64 .i64 Tryd.underlying23 hi020 hsz20 A0 c0 l0 x8_1 (ji16) (of_decide_eq_true (by first|(with_reducible assumption)|assumption)) (by first | omega | exact of_decide_eq_true (by first|(with_reducible assumption)|assumption)) (of_decide_eq_true (by first|(with_reducible assumption)|assumption)) HC0.out
             have HR362 := Aside0.mk (Kd.C_of_reads (h1 := fun _ => rfl) (hA20 _ (Kd.reads_of_C HR0.out)))
             have HC362 := Aside0.mk hC20
             clear hA20 hC20 hi020 hsz20
             go_upto_region 11 with (first | ((with_reducible refine gate_callee (f := 38) rfl ?_); refine goesL_ (some 41) rfl rfl Tryd.func38 (by kernel_rfl) rfl #[.slice A20 ((l0.take ((ji16) : Int).toNat).drop (x8_1 : Int).toNat).length (c0 - x8_1.toNat)] rfl (by (try simp only [List.map_toArray, List.map_cons, List.map_nil]); first | done | (rw [show ((l0.take ((ji16) : Int).toNat).drop (x8_1 : Int).toNat).length = ((ji16).toNat - x8_1.toNat) from (by rw [List.length_drop, List.length_take]; have h_ : ((ji16) : Int) ≤ (l0.length : Int) := of_decide_eq_true (by first|(with_reducible assumption)|assumption); omega)] <;> rfl) | (simp only [hji16]; rfl) | rfl | (simp only [List.length_drop, List.length_take]; rfl)) ?_; (with_reducible refine (spec_l12Line.calls k2 _ _ ((l0.take ((ji16) : Int).toNat).drop (x8_1 : Int).toNat) t363 _ ?side1 ?side2 A15.out).mono ?_); (case side1 => repeat (first | exact (Kd.C_below HR362.out HB.out) | (with_reducible refine Kd.C_alloc ?_ _) | (with_reducible refine Kd.C_drewN ?_ _) | (with_reducible refine Kd.C_drew ?_))); (case side2 => exact HC362.out); rintro e w' ⟨rfl, ⟨nd, rfl⟩⟩; refine ⟨_, rfl, ?_⟩; obtain ⟨Ao21, co21, eo21⟩ := Kd.R_slice HO_6.out; subst eo21; have p364 : 0 ≤ ((ji16) : Int) := of_decide_eq_true (by first|(with_reducible assumption)|assumption); have q364 : (ji16) < (x6_2.length : Int) := of_decide_eq_true (by first|(with_reducible assumption)|assumption); obtain ⟨ad364, e364, hx364_0⟩ := Kd.at_int (Kd.R_reads' HO_6.out).2.2 (ji16) p364 q364; cases e364; replace p364 := eq_true p364; replace q364 := eq_true q364))
             (try simp only [Act.put, List.setIfInBounds_toArray, List.set_cons_zero, List.set_cons_succ])
             go_cut [59] (fun v59 wc => ∃ (kq : Nat) (x59_18 : Bool), v59 = .bool x59_18 ∧ Aside0 (spec_l12Best.j2 kq l0 a1 x6_2 x7_2 x8_1 x9_2 t363 (rd x6_2 (ji16)) x59_18 = some (r1, r2)) ∧ Aside0 (kq ≤ k2) ∧ Aside0 (Kd.R (Kd.int .i64) 3 wc w.heap.size (fun k_ => some k_ ≠ (v360 : Value).ownBlock) (.slice (some ad364) x6_2.length co21) x6_2) ∧ Aside0 (Kd.R (Kd.int .i64) 3 wc w.heap.size (fun k_ => some k_ ≠ ((.slice (some ad364) x6_2.length co21) : Value).ownBlock) v360 x7_2) ∧ Aside0 (Below w.heap.size w wc))
             case first =>
              have H := HC19.out
              clear HC19
              by_cases c22 : (ji16) < (l0.length : Int)
              ·rw [if_pos c22] at H
               have c22b0 : decide ((ji16) < (l0.length : Int)) = true := decide_eq_true c22
               clear c22
               (first | rw [c22b0] | (simp only [i64_w, i32_w]; rw [c22b0]) | skip)
               have H' := Aside0.mk H
               clear H
               go_wp2
               go_meet
               case rel => exact ⟨_, (true), (by first|rfl|(simp;done)|(simp[*];done)), H', ⟨by have := HK1.out; have := HK2.out; first | omega | exact Nat.le_refl _⟩, ⟨by (with_reducible repeat (first|apply Kd.R_alloc|apply Kd.R_drewN|apply Kd.R_drew)); exact HO_6.out⟩, ⟨by (with_reducible repeat (first|apply Kd.R_alloc|apply Kd.R_drewN|apply Kd.R_drew)); exact HO_7.out⟩, ⟨by repeat (first|(with_reducible first|exact HB.out|apply below_alloc|apply pw_below_drewN|apply below_drew1)|exact HB.out)⟩⟩
              ·rw [if_neg c22] at H
               have c22b0 : decide ((ji16) < (l0.length : Int)) = false := decide_eq_false c22
               clear c22
               (first | rw [c22b0] | (simp only [i64_w, i32_w]; rw [c22b0]) | skip)
               have H' := Aside0.mk H
               clear H
               go_wp2
               go_meet
               case rel => exact ⟨_, (decide ((t363.size : Int) > a1)), (by first|rfl|(simp;done)|(simp[*];done)), H', ⟨by have := HK1.out; have := HK2.out; first | omega | exact Nat.le_refl _⟩, ⟨by (with_reducible repeat (first|apply Kd.R_alloc|apply Kd.R_drewN|apply Kd.R_drew)); exact HO_6.out⟩, ⟨by (with_reducible repeat (first|apply Kd.R_alloc|apply Kd.R_drewN|apply Kd.R_drew)); exact HO_7.out⟩, ⟨by repeat (first|(with_reducible first|exact HB.out|apply below_alloc|apply pw_below_drewN|apply below_drew1)|exact HB.out)⟩⟩
             case rest =>
              clear HC19
              try clear c1
              try clear c2
              try clear p2
              try clear c3
              try clear p3
              try clear q3
              try clear hx3
              try clear c4
              try clear c4b0
              try clear c4b1
              try clear c5
              try clear c5b0
              try clear c5b1
              try clear p6
              try clear c10
              try clear c10b0
              try clear c11
              try clear c11b0
              try clear c12
              try clear c12b0
              try clear c12b1
              try clear c13
              try clear c13b0
              try clear c13b1
              try clear c14
              try clear c14b0
              try clear c17
              try clear c17b0
              try clear c18
              try clear c18b0
              try clear c22
              try clear c22b0
              try clear hx364_0
              try clear p2
              try clear p364
              try clear p6
              try clear q364
              obtain ⟨kq, x59_18, rfl, HA, HJ18, HO_6, HO_7, HB⟩ := hcut
              cases kq with
              | zero => exact absurd HA.out (by simp [spec_l12Best.j2])
              | succ kj18 =>
               have H := HA.out
               clear HA
               simp only [spec_l12Best.j2] at H
               by_cases c23 : x59_18 = true
               ·subst c23
                have H1 : ((spec_l12Cost.f (t363.size : Int) a1).bind fun t365 => (if x9_2 = 1 then (if 0 ≤ x8_1 then (if x8_1 < (x6_2.length : Int) then (if x8_1 < (x7_2.length : Int) then (spec_l12Best.l1 kj18 l0 a1 (x6_2.set (x8_1 : Int).toNat (wrap64 ((rd x6_2 (ji16)) + t365))) (x7_2.set (x8_1 : Int).toNat x9_2) x8_1 (wrap64 (x9_2 + 1))) else (none)) else (none)) else (none)) else (if 0 ≤ x8_1 then (if x8_1 < (x6_2.length : Int) then (if (wrap64 ((rd x6_2 (ji16)) + t365)) < (rd x6_2 x8_1) then (if x8_1 < (x7_2.length : Int) then (spec_l12Best.l1 kj18 l0 a1 (x6_2.set (x8_1 : Int).toNat (wrap64 ((rd x6_2 (ji16)) + t365))) (x7_2.set (x8_1 : Int).toNat x9_2) x8_1 (wrap64 (x9_2 + 1))) else (none)) else (spec_l12Best.l1 kj18 l0 a1 x6_2 x7_2 x8_1 (wrap64 (x9_2 + 1)))) else (none)) else (none)))) = some (r1, r2) := by rw [if_pos rfl] at H; exact H
                clear H
                have H := H1
                clear H1
                replace H := Option.bind_eq_some_iff.mp H
                obtain ⟨t365, A240, H⟩ := H
                replace H : (if x9_2 = 1 then (if 0 ≤ x8_1 then (if x8_1 < (x6_2.length : Int) then (if x8_1 < (x7_2.length : Int) then (spec_l12Best.l1 kj18 l0 a1 (x6_2.set (x8_1 : Int).toNat (wrap64 ((rd x6_2 (ji16)) + t365))) (x7_2.set (x8_1 : Int).toNat x9_2) x8_1 (wrap64 (x9_2 + 1))) else (none)) else (none)) else (none)) else (if 0 ≤ x8_1 then (if x8_1 < (x6_2.length : Int) then (if (wrap64 ((rd x6_2 (ji16)) + t365)) < (rd x6_2 x8_1) then (if x8_1 < (x7_2.length : Int) then (spec_l12Best.l1 kj18 l0 a1 (x6_2.set (x8_1 : Int).toNat (wrap64 ((rd x6_2 (ji16)) + t365))) (x7_2.set (x8_1 : Int).toNat x9_2) x8_1 (wrap64 (x9_2 + 1))) else (none)) else (spec_l12Best.l1 kj18 l0 a1 x6_2 x7_2 x8_1 (wrap64 (x9_2 + 1)))) else (none)) else (none))) = some (r1, r2) := H
                have A24 := Aside0.mk A240
                clear A240
                by_cases c25 : x9_2 = 1
                ·rw [if_pos c25] at H
                 have c25b0 : (x9_2 == 1) = true := beq_iff_eq.mpr c25
                 have c25b1 : (x9_2 != 1) = false := bne_eq_false_iff_eq.mpr c25
                 clear c25
                 by_cases c26 : 0 ≤ x8_1
                 ·rw [if_pos c26] at H
                  have c26b0 : decide (0 ≤ x8_1) = true := decide_eq_true c26
                  clear c26
                  by_cases c27 : x8_1 < (x6_2.length : Int)
                  ·rw [if_pos c27] at H
                   have c27b0 : decide (x8_1 < (x6_2.length : Int)) = true := decide_eq_true c27
                   clear c27
                   obtain ⟨y366, hy366⟩ : ∃ y_ : List Int, y_ = (x6_2.set (x8_1 : Int).toNat (wrap64 ((rd x6_2 (ji16)) + t365))) := ⟨_, rfl⟩
                   replace H : (if x8_1 < (x7_2.length : Int) then (spec_l12Best.l1 kj18 l0 a1 y366 (x7_2.set (x8_1 : Int).toNat x9_2) x8_1 (wrap64 (x9_2 + 1))) else (none)) = some (r1, r2) := by first | (rw [hy366]; with_reducible exact H) | (have H2_ := (Option.bind_some _ _).symm.trans H; rw [hy366]; with_reducible exact H2_) | (have H2_ := (Option.bind_some _ _).symm.trans H; with_reducible exact H2_) | with_reducible exact H | (rw [hy366]; exact H) | exact H
                   have Ny366 := Aside0.mk hy366
                   clear hy366
                   by_cases c29 : x8_1 < (x7_2.length : Int)
                   ·rw [if_pos c29] at H
                    have c29b0 : decide (x8_1 < (x7_2.length : Int)) = true := decide_eq_true c29
                    clear c29
                    obtain ⟨y367, hy367⟩ : ∃ y_ : List Int, y_ = (x7_2.set (x8_1 : Int).toNat x9_2) := ⟨_, rfl⟩
                    replace H : (spec_l12Best.l1 kj18 l0 a1 y366 y367 x8_1 (wrap64 (x9_2 + 1))) = some (r1, r2) := by first | (rw [hy367]; with_reducible exact H) | (have H2_ := (Option.bind_some _ _).symm.trans H; rw [hy367]; with_reducible exact H2_) | (have H2_ := (Option.bind_some _ _).symm.trans H; with_reducible exact H2_) | with_reducible exact H | (rw [hy367]; exact H) | exact H
                    have Ny367 := Aside0.mk hy367
                    clear hy367
                    have H' := Aside0.mk H
                    clear H
                    go_wp2_with (first | ((with_reducible refine gate_callee (f := 43) rfl ?_); refine goesL_ (some 64) rfl rfl Tryd.func43 (by kernel_rfl) rfl #[.int .i64 (t363.size : Int), .int .i64 a1] rfl (by (try simp only [List.map_toArray, List.map_cons, List.map_nil]); first | done | rfl | (simp only [List.length_drop, List.length_take]; rfl)) ?_; (with_reducible refine (spec_l12Cost.calls (t363.size : Int) a1 t365 _ A24.out).mono ?_); rintro e w' ⟨rfl, ⟨nd, rfl⟩⟩; refine ⟨_, rfl, ?_⟩; (try (rw [drewN_self wc]; generalize hq_ : World.drewN wc _ = wc; have n0_ : Aside0 (Kd.R (Kd.int .i64) 3 wc w.heap.size (fun k_ => some k_ ≠ (v360 : Value).ownBlock) (.slice (some ad364) x6_2.length co21) x6_2) := ⟨by rw [← hq_]; exact (by (with_reducible repeat (first|apply Kd.R_alloc|apply Kd.R_drewN|apply Kd.R_drew)); exact HO_6.out)⟩; have n1_ : Aside0 (Kd.R (Kd.int .i64) 3 wc w.heap.size (fun k_ => some k_ ≠ (.slice (some ad364) x6_2.length co21 : Value).ownBlock) v360 x7_2) := ⟨by rw [← hq_]; exact (by (with_reducible repeat (first|apply Kd.R_alloc|apply Kd.R_drewN|apply Kd.R_drew)); exact HO_7.out)⟩; have n2_ : Aside0 (Below w.heap.size w wc) := ⟨by rw [← hq_]; exact (by repeat (first|(with_reducible first|exact HB.out|apply below_alloc|apply pw_below_drewN|apply below_drew1)|exact HB.out))⟩; clear HO_6 HO_7 HB hq_; have HO_6 := n0_; have HO_7 := n1_; have HB := n2_; clear n0_ n1_ n2_)); have p28 : 0 ≤ (x8_1 : Int) := of_decide_eq_true (by first|(with_reducible assumption)|assumption); have q28 : (x8_1 : Int) < ((x6_2.length : Int) : Int) := of_decide_eq_true (by first|(with_reducible assumption)|assumption); obtain ⟨go28, co28, eo28, gb28, gl28, cl28, HG28⟩ := Kd.R_form HO_6.out (by omega); (first | cases eo28 | (injection eo28 with ea_ en_ ec_; (first | subst ea_ | (injection ea_ with ea_; subst ea_)); subst ec_; clear en_)); have GB28 := Aside0.mk gb28; have GG28 := Aside0.mk HG28; clear gb28 gl28 HG28; (first | simp only [add_plain] at hx364_0 | skip); obtain ⟨hx28_0, hf28_0⟩ := Kd.R_celln 0 HO_6.out (x8_1 : Int) p28 q28; replace p28 := eq_true p28; replace q28 := eq_true q28; obtain ⟨hy31_, hz31_⟩ := Kd.R_celln 0 HO_6.out (x8_1 : Int) (of_decide_eq_true (by first|(with_reducible assumption)|assumption)) (of_decide_eq_true (by first|(with_reducible assumption)|assumption)); have HP31 := Kd.R_putg HO_6.out (x8_1 : Int) (wrap64 ((rd x6_2 (ji16)) + t365))) | ((with_reducible refine gate_store (t := 3) (p := 79) rfl ?_); refine store_event (t := 3) (p := 79) (v := ?vo_w32) (w1 := (wc.setCell ⟨go28, (x8_1 : Int).toNat, none⟩ (.int .i64 (wrap64 ((rd x6_2 (ji16)) + t365))))) ?hg ?ho ?hn ?hr ?_; (case ho => rfl); (case hg => rfl); (case hn => rfl); (case hr => first | (go_simp; done) | (go_simp; rfl)); intro w32 hw; have hg : wc.grownBy w32 (some go28) := (by rw [hw]; exact HP31.2); have hp_ : Kd.R (Kd.int .i64) 3 w32 w.heap.size (fun k_ => some k_ ≠ (v360 : Value).ownBlock) (.slice (some ⟨go28, 0, none⟩) x6_2.length co21) y366 := (by rw [hw, Ny366.out]; exact HP31.1); clear HP31; have n0_ := Aside0.mk (hp_); have n1_ := Aside0.mk (Kd.R_after (v := (.slice (some ⟨go28, 0, none⟩) x6_2.length co21)) (v1 := (.slice (some ⟨go28, 0, none⟩) x6_2.length co21)) (ok := (fun _ => True)) (by (with_reducible repeat (first|apply Kd.R_alloc|apply Kd.R_drewN|apply Kd.R_drew)); exact Kd.R_mono HO_7.out (fun _ hk => ⟨trivial, hk⟩)) hg (.inl rfl)); have n2_ := Aside0.mk ((by rw [hw]; exact below_set (HB.out) GB28.out : Below w.heap.size w w32)); clear HO_6; clear HO_7; clear HB; have HO_6 := n0_; have HO_7 := n1_; have HB := n2_; clear n0_ n1_ n2_; clear hg hw hp_; have p30 : 0 ≤ (x8_1 : Int) := of_decide_eq_true (by first|(with_reducible assumption)|assumption); have q30 : (x8_1 : Int) < ((x7_2.length : Int) : Int) := of_decide_eq_true (by first|(with_reducible assumption)|assumption); obtain ⟨go30, co30, eo30, gb30, gl30, cl30, HG30⟩ := Kd.R_form HO_7.out (by omega); (first | cases eo30 | (injection eo30 with ea_ en_ ec_; (first | subst ea_ | (injection ea_ with ea_; subst ea_)); subst ec_; clear en_)); have GB30 := Aside0.mk gb30; have GG30 := Aside0.mk HG30; clear gb30 gl30 HG30; obtain ⟨hx30_0, hf30_0⟩ := Kd.R_celln 0 HO_7.out (x8_1 : Int) p30 q30; replace p30 := eq_true p30; replace q30 := eq_true q30; have n_ := Aside0.mk (Kd.R_mono (ok' := (fun k_ => some k_ ≠ (.slice (some ⟨go28, 0, none⟩) x6_2.length co21 : Value).ownBlock)) HO_7.out (fun k_ hk => hk.2)); clear HO_7; have HO_7 := n_; clear n_; obtain ⟨hy33_, hz33_⟩ := Kd.R_celln 0 HO_7.out (x8_1 : Int) (of_decide_eq_true (by first|(with_reducible assumption)|assumption)) (of_decide_eq_true (by first|(with_reducible assumption)|assumption)); have HP33 := Kd.R_putg HO_7.out (x8_1 : Int) x9_2) | ((with_reducible refine gate_store (t := 3) (p := 83) rfl ?_); refine store_event (t := 3) (p := 83) (v := ?vo_w34) (w1 := (w32.setCell ⟨go30, (x8_1 : Int).toNat, none⟩ (.int .i64 x9_2))) ?hg ?ho ?hn ?hr ?_; (case ho => rfl); (case hg => rfl); (case hn => rfl); (case hr => first | (go_simp; done) | (go_simp; rfl)); intro w34 hw; have hg : w32.grownBy w34 (some go30) := (by rw [hw]; exact HP33.2); have hp_ : Kd.R (Kd.int .i64) 3 w34 w.heap.size (fun k_ => some k_ ≠ (.slice (some ⟨go28, 0, none⟩) x6_2.length co21 : Value).ownBlock) (.slice (some ⟨go30, 0, none⟩) x7_2.length co30) y367 := (by rw [hw, Ny367.out]; exact HP33.1); clear HP33; have n0_ := Aside0.mk (Kd.R_after (v := (.slice (some ⟨go30, 0, none⟩) x7_2.length co30)) (v1 := (.slice (some ⟨go30, 0, none⟩) x7_2.length co30)) (ok := (fun _ => True)) (by (with_reducible repeat (first|apply Kd.R_alloc|apply Kd.R_drewN|apply Kd.R_drew)); exact Kd.R_mono HO_6.out (fun _ hk => ⟨trivial, hk⟩)) hg (.inl rfl)); have n1_ := Aside0.mk (hp_); have n2_ := Aside0.mk ((by rw [hw]; exact below_set (HB.out) GB30.out : Below w.heap.size w w34)); clear HO_6; clear HO_7; clear HB; have HO_6 := n0_; have HO_7 := n1_; have HB := n2_; clear n0_ n1_ n2_; clear hg hw hp_))
                    go_roundg kj18
                    case measure => have := HK1.out; have := HK2.out; have := HJ18.out; omega
                    case rel => exact ⟨(y366), (y367), (wrap64 (x9_2 + 1)), (by first|rfl|(simp;done)|(simp[*];done)), H', ⟨by have := HK1.out; have := HK2.out; have := HJ18.out; omega⟩, ⟨by (with_reducible repeat (first|apply Kd.R_alloc|apply Kd.R_drewN|apply Kd.R_drew)); exact Kd.R_mono HO_6.out (fun _ hk => hk.2)⟩, ⟨by (with_reducible repeat (first|apply Kd.R_alloc|apply Kd.R_drewN|apply Kd.R_drew)); exact HO_7.out⟩, ⟨by repeat (first|(with_reducible first|exact HB.out|apply below_alloc|apply pw_below_drewN|apply below_drew1)|exact HB.out)⟩⟩
                   ·rw [if_neg c29] at H
                    exact absurd H (by simp)
                  ·rw [if_neg c27] at H
                   exact absurd H (by simp)
                 ·rw [if_neg c26] at H
                  exact absurd H (by simp)
                ·rw [if_neg c25] at H
                 have c25b0 : (x9_2 == 1) = false := beq_eq_false_iff_ne.mpr c25
                 have c25b1 : (x9_2 != 1) = true := bne_iff_ne.mpr c25
                 by_cases c35 : 0 ≤ x8_1
                 ·rw [if_pos c35] at H
                  have c35b0 : decide (0 ≤ x8_1) = true := decide_eq_true c35
                  clear c35
                  by_cases c36 : x8_1 < (x6_2.length : Int)
                  ·rw [if_pos c36] at H
                   have c36b0 : decide (x8_1 < (x6_2.length : Int)) = true := decide_eq_true c36
                   clear c36
                   by_cases c37 : (wrap64 ((rd x6_2 (ji16)) + t365)) < (rd x6_2 x8_1)
                   ·rw [if_pos c37] at H
                    have c37b0 : decide ((wrap64 ((rd x6_2 (ji16)) + t365)) < (rd x6_2 x8_1)) = true := decide_eq_true c37
                    clear c37
                    obtain ⟨y369, hy369⟩ : ∃ y_ : List Int, y_ = (x6_2.set (x8_1 : Int).toNat (wrap64 ((rd x6_2 (ji16)) + t365))) := ⟨_, rfl⟩
                    replace H : (if x8_1 < (x7_2.length : Int) then (spec_l12Best.l1 kj18 l0 a1 y369 (x7_2.set (x8_1 : Int).toNat x9_2) x8_1 (wrap64 (x9_2 + 1))) else (none)) = some (r1, r2) := by first | (rw [hy369]; with_reducible exact H) | (have H2_ := (Option.bind_some _ _).symm.trans H; rw [hy369]; with_reducible exact H2_) | (have H2_ := (Option.bind_some _ _).symm.trans H; with_reducible exact H2_) | with_reducible exact H | (rw [hy369]; exact H) | exact H
                    have Ny369 := Aside0.mk hy369
                    clear hy369
                    by_cases c39 : x8_1 < (x7_2.length : Int)
                    ·rw [if_pos c39] at H
                     have c39b0 : decide (x8_1 < (x7_2.length : Int)) = true := decide_eq_true c39
                     clear c39
                     obtain ⟨y370, hy370⟩ : ∃ y_ : List Int, y_ = (x7_2.set (x8_1 : Int).toNat x9_2) := ⟨_, rfl⟩
                     replace H : (spec_l12Best.l1 kj18 l0 a1 y369 y370 x8_1 (wrap64 (x9_2 + 1))) = some (r1, r2) := by first | (rw [hy370]; with_reducible exact H) | (have H2_ := (Option.bind_some _ _).symm.trans H; rw [hy370]; with_reducible exact H2_) | (have H2_ := (Option.bind_some _ _).symm.trans H; with_reducible exact H2_) | with_reducible exact H | (rw [hy370]; exact H) | exact H
                     have Ny370 := Aside0.mk hy370
                     clear hy370
                     have H' := Aside0.mk H
                     clear H
                     go_wp2_with (first | ((with_reducible refine gate_callee (f := 43) rfl ?_); refine goesL_ (some 64) rfl rfl Tryd.func43 (by kernel_rfl) rfl #[.int .i64 (t363.size : Int), .int .i64 a1] rfl (by (try simp only [List.map_toArray, List.map_cons, List.map_nil]); first | done | rfl | (simp only [List.length_drop, List.length_take]; rfl)) ?_; (with_reducible refine (spec_l12Cost.calls (t363.size : Int) a1 t365 _ A24.out).mono ?_); rintro e w' ⟨rfl, ⟨nd, rfl⟩⟩; refine ⟨_, rfl, ?_⟩; (try (rw [drewN_self wc]; generalize hq_ : World.drewN wc _ = wc; have n0_ : Aside0 (Kd.R (Kd.int .i64) 3 wc w.heap.size (fun k_ => some k_ ≠ (v360 : Value).ownBlock) (.slice (some ad364) x6_2.length co21) x6_2) := ⟨by rw [← hq_]; exact (by (with_reducible repeat (first|apply Kd.R_alloc|apply Kd.R_drewN|apply Kd.R_drew)); exact HO_6.out)⟩; have n1_ : Aside0 (Kd.R (Kd.int .i64) 3 wc w.heap.size (fun k_ => some k_ ≠ (.slice (some ad364) x6_2.length co21 : Value).ownBlock) v360 x7_2) := ⟨by rw [← hq_]; exact (by (with_reducible repeat (first|apply Kd.R_alloc|apply Kd.R_drewN|apply Kd.R_drew)); exact HO_7.out)⟩; have n2_ : Aside0 (Below w.heap.size w wc) := ⟨by rw [← hq_]; exact (by repeat (first|(with_reducible first|exact HB.out|apply below_alloc|apply pw_below_drewN|apply below_drew1)|exact HB.out))⟩; clear HO_6 HO_7 HB hq_; have HO_6 := n0_; have HO_7 := n1_; have HB := n2_; clear n0_ n1_ n2_)); have p368 : 0 ≤ (x8_1 : Int) := of_decide_eq_true (by first|(with_reducible assumption)|assumption); have q368 : x8_1 < (x6_2.length : Int) := of_decide_eq_true (by first|(with_reducible assumption)|assumption); obtain ⟨ad368, e368, hx368_0⟩ := Kd.at_int (Kd.R_reads' HO_6.out).2.2 x8_1 p368 q368; obtain rfl : ad364 = ad368 := (by injection e368); replace p368 := eq_true p368; replace q368 := eq_true q368; have p38 : 0 ≤ (x8_1 : Int) := of_decide_eq_true (by first|(with_reducible assumption)|assumption); have q38 : (x8_1 : Int) < ((x6_2.length : Int) : Int) := of_decide_eq_true (by first|(with_reducible assumption)|assumption); obtain ⟨go38, co38, eo38, gb38, gl38, cl38, HG38⟩ := Kd.R_form HO_6.out (by omega); (first | cases eo38 | (injection eo38 with ea_ en_ ec_; (first | subst ea_ | (injection ea_ with ea_; subst ea_)); subst ec_; clear en_)); have GB38 := Aside0.mk gb38; have GG38 := Aside0.mk HG38; clear gb38 gl38 HG38; (first | simp only [add_plain] at hx368_0 | skip); obtain ⟨hx38_0, hf38_0⟩ := Kd.R_celln 0 HO_6.out (x8_1 : Int) p38 q38; replace p38 := eq_true p38; replace q38 := eq_true q38; obtain ⟨hy41_, hz41_⟩ := Kd.R_celln 0 HO_6.out (x8_1 : Int) (of_decide_eq_true (by first|(with_reducible assumption)|assumption)) (of_decide_eq_true (by first|(with_reducible assumption)|assumption)); have HP41 := Kd.R_putg HO_6.out (x8_1 : Int) (wrap64 ((rd x6_2 (ji16)) + t365))) | ((with_reducible refine gate_store (t := 3) (p := 79) rfl ?_); refine store_event (t := 3) (p := 79) (v := ?vo_w42) (w1 := (wc.setCell ⟨go38, (x8_1 : Int).toNat, none⟩ (.int .i64 (wrap64 ((rd x6_2 (ji16)) + t365))))) ?hg ?ho ?hn ?hr ?_; (case ho => rfl); (case hg => rfl); (case hn => rfl); (case hr => first | (go_simp; done) | (go_simp; rfl)); intro w42 hw; have hg : wc.grownBy w42 (some go38) := (by rw [hw]; exact HP41.2); have hp_ : Kd.R (Kd.int .i64) 3 w42 w.heap.size (fun k_ => some k_ ≠ (v360 : Value).ownBlock) (.slice (some ⟨go38, 0, none⟩) x6_2.length co21) y369 := (by rw [hw, Ny369.out]; exact HP41.1); clear HP41; have n0_ := Aside0.mk (hp_); have n1_ := Aside0.mk (Kd.R_after (v := (.slice (some ⟨go38, 0, none⟩) x6_2.length co21)) (v1 := (.slice (some ⟨go38, 0, none⟩) x6_2.length co21)) (ok := (fun _ => True)) (by (with_reducible repeat (first|apply Kd.R_alloc|apply Kd.R_drewN|apply Kd.R_drew)); exact Kd.R_mono HO_7.out (fun _ hk => ⟨trivial, hk⟩)) hg (.inl rfl)); have n2_ := Aside0.mk ((by rw [hw]; exact below_set (HB.out) GB38.out : Below w.heap.size w w42)); clear HO_6; clear HO_7; clear HB; have HO_6 := n0_; have HO_7 := n1_; have HB := n2_; clear n0_ n1_ n2_; clear hg hw hp_; have p40 : 0 ≤ (x8_1 : Int) := of_decide_eq_true (by first|(with_reducible assumption)|assumption); have q40 : (x8_1 : Int) < ((x7_2.length : Int) : Int) := of_decide_eq_true (by first|(with_reducible assumption)|assumption); obtain ⟨go40, co40, eo40, gb40, gl40, cl40, HG40⟩ := Kd.R_form HO_7.out (by omega); (first | cases eo40 | (injection eo40 with ea_ en_ ec_; (first | subst ea_ | (injection ea_ with ea_; subst ea_)); subst ec_; clear en_)); have GB40 := Aside0.mk gb40; have GG40 := Aside0.mk HG40; clear gb40 gl40 HG40; obtain ⟨hx40_0, hf40_0⟩ := Kd.R_celln 0 HO_7.out (x8_1 : Int) p40 q40; replace p40 := eq_true p40; replace q40 := eq_true q40; have n_ := Aside0.mk (Kd.R_mono (ok' := (fun k_ => some k_ ≠ (.slice (some ⟨go38, 0, none⟩) x6_2.length co21 : Value).ownBlock)) HO_7.out (fun k_ hk => hk.2)); clear HO_7; have HO_7 := n_; clear n_; obtain ⟨hy43_, hz43_⟩ := Kd.R_celln 0 HO_7.out (x8_1 : Int) (of_decide_eq_true (by first|(with_reducible assumption)|assumption)) (of_decide_eq_true (by first|(with_reducible assumption)|assumption)); have HP43 := Kd.R_putg HO_7.out (x8_1 : Int) x9_2) | ((with_reducible refine gate_store (t := 3) (p := 83) rfl ?_); refine store_event (t := 3) (p := 83) (v := ?vo_w44) (w1 := (w42.setCell ⟨go40, (x8_1 : Int).toNat, none⟩ (.int .i64 x9_2))) ?hg ?ho ?hn ?hr ?_; (case ho => rfl); (case hg => rfl); (case hn => rfl); (case hr => first | (go_simp; done) | (go_simp; rfl)); intro w44 hw; have hg : w42.grownBy w44 (some go40) := (by rw [hw]; exact HP43.2); have hp_ : Kd.R (Kd.int .i64) 3 w44 w.heap.size (fun k_ => some k_ ≠ (.slice (some ⟨go38, 0, none⟩) x6_2.length co21 : Value).ownBlock) (.slice (some ⟨go40, 0, none⟩) x7_2.length co40) y370 := (by rw [hw, Ny370.out]; exact HP43.1); clear HP43; have n0_ := Aside0.mk (Kd.R_after (v := (.slice (some ⟨go40, 0, none⟩) x7_2.length co40)) (v1 := (.slice (some ⟨go40, 0, none⟩) x7_2.length co40)) (ok := (fun _ => True)) (by (with_reducible repeat (first|apply Kd.R_alloc|apply Kd.R_drewN|apply Kd.R_drew)); exact Kd.R_mono HO_6.out (fun _ hk => ⟨trivial, hk⟩)) hg (.inl rfl)); have n1_ := Aside0.mk (hp_); have n2_ := Aside0.mk ((by rw [hw]; exact below_set (HB.out) GB40.out : Below w.heap.size w w44)); clear HO_6; clear HO_7; clear HB; have HO_6 := n0_; have HO_7 := n1_; have HB := n2_; clear n0_ n1_ n2_; clear hg hw hp_))
                     go_roundg kj18
                     case measure => have := HK1.out; have := HK2.out; have := HJ18.out; omega
                     case rel => exact ⟨(y369), (y370), (wrap64 (x9_2 + 1)), (by first|rfl|(simp;done)|(simp[*];done)), H', ⟨by have := HK1.out; have := HK2.out; have := HJ18.out; omega⟩, ⟨by (with_reducible repeat (first|apply Kd.R_alloc|apply Kd.R_drewN|apply Kd.R_drew)); exact Kd.R_mono HO_6.out (fun _ hk => hk.2)⟩, ⟨by (with_reducible repeat (first|apply Kd.R_alloc|apply Kd.R_drewN|apply Kd.R_drew)); exact HO_7.out⟩, ⟨by repeat (first|(with_reducible first|exact HB.out|apply below_alloc|apply pw_below_drewN|apply below_drew1)|exact HB.out)⟩⟩
                    ·rw [if_neg c39] at H
                     exact absurd H (by simp)
                   ·rw [if_neg c37] at H
                    have c37b0 : decide ((wrap64 ((rd x6_2 (ji16)) + t365)) < (rd x6_2 x8_1)) = false := decide_eq_false c37
                    clear c37
                    have H' := Aside0.mk H
                    clear H
                    go_wp2_with (first | ((with_reducible refine gate_callee (f := 43) rfl ?_); refine goesL_ (some 64) rfl rfl Tryd.func43 (by kernel_rfl) rfl #[.int .i64 (t363.size : Int), .int .i64 a1] rfl (by (try simp only [List.map_toArray, List.map_cons, List.map_nil]); first | done | rfl | (simp only [List.length_drop, List.length_take]; rfl)) ?_; (with_reducible refine (spec_l12Cost.calls (t363.size : Int) a1 t365 _ A24.out).mono ?_); rintro e w' ⟨rfl, ⟨nd, rfl⟩⟩; refine ⟨_, rfl, ?_⟩; have p368 : 0 ≤ (x8_1 : Int) := of_decide_eq_true (by first|(with_reducible assumption)|assumption); have q368 : x8_1 < (x6_2.length : Int) := of_decide_eq_true (by first|(with_reducible assumption)|assumption); obtain ⟨ad368, e368, hx368_0⟩ := Kd.at_int (Kd.R_reads' HO_6.out).2.2 x8_1 p368 q368; obtain rfl : ad364 = ad368 := (by injection e368); replace p368 := eq_true p368; replace q368 := eq_true q368))
                    go_roundg kj18
                    case measure => have := HK1.out; have := HK2.out; have := HJ18.out; omega
                    case rel => exact ⟨(x6_2), (x7_2), (wrap64 (x9_2 + 1)), (by first|rfl|(simp;done)|(simp[*];done)), H', ⟨by have := HK1.out; have := HK2.out; have := HJ18.out; omega⟩, ⟨by (with_reducible repeat (first|apply Kd.R_alloc|apply Kd.R_drewN|apply Kd.R_drew)); exact HO_6.out⟩, ⟨by (with_reducible repeat (first|apply Kd.R_alloc|apply Kd.R_drewN|apply Kd.R_drew)); exact HO_7.out⟩, ⟨by repeat (first|(with_reducible first|exact HB.out|apply below_alloc|apply pw_below_drewN|apply below_drew1)|exact HB.out)⟩⟩
                  ·rw [if_neg c36] at H
                   exact absurd H (by simp)
                 ·rw [if_neg c35] at H
                  exact absurd H (by simp)
               ·replace c23 := Bool.eq_false_iff.mpr c23
                subst c23
                have H1 : (if x9_2 = 1 then (if 0 ≤ x8_1 then (if x8_1 < (x6_2.length : Int) then (if x8_1 < (x7_2.length : Int) then (spec_l12Best.l1 kj18 l0 a1 (x6_2.set (x8_1 : Int).toNat (rd x6_2 (ji16))) (x7_2.set (x8_1 : Int).toNat x9_2) x8_1 (wrap64 (x9_2 + 1))) else (none)) else (none)) else (none)) else (if 0 ≤ x8_1 then (if x8_1 < (x6_2.length : Int) then (if (rd x6_2 (ji16)) < (rd x6_2 x8_1) then (if x8_1 < (x7_2.length : Int) then (spec_l12Best.l1 kj18 l0 a1 (x6_2.set (x8_1 : Int).toNat (rd x6_2 (ji16))) (x7_2.set (x8_1 : Int).toNat x9_2) x8_1 (wrap64 (x9_2 + 1))) else (none)) else (spec_l12Best.l1 kj18 l0 a1 x6_2 x7_2 x8_1 (wrap64 (x9_2 + 1)))) else (none)) else (none))) = some (r1, r2) := by rw [if_neg (show ¬ (false = true) by decide)] at H; exact H
                clear H
                have H := H1
                clear H1
                by_cases c45 : x9_2 = 1
                ·rw [if_pos c45] at H
                 have c45b0 : (x9_2 == 1) = true := beq_iff_eq.mpr c45
                 have c45b1 : (x9_2 != 1) = false := bne_eq_false_iff_eq.mpr c45
                 clear c45
                 by_cases c46 : 0 ≤ x8_1
                 ·rw [if_pos c46] at H
                  have c46b0 : decide (0 ≤ x8_1) = true := decide_eq_true c46
                  clear c46
                  by_cases c47 : x8_1 < (x6_2.length : Int)
                  ·rw [if_pos c47] at H
                   have c47b0 : decide (x8_1 < (x6_2.length : Int)) = true := decide_eq_true c47
                   clear c47
                   obtain ⟨y371, hy371⟩ : ∃ y_ : List Int, y_ = (x6_2.set (x8_1 : Int).toNat (rd x6_2 (ji16))) := ⟨_, rfl⟩
                   replace H : (if x8_1 < (x7_2.length : Int) then (spec_l12Best.l1 kj18 l0 a1 y371 (x7_2.set (x8_1 : Int).toNat x9_2) x8_1 (wrap64 (x9_2 + 1))) else (none)) = some (r1, r2) := by first | (rw [hy371]; with_reducible exact H) | (have H2_ := (Option.bind_some _ _).symm.trans H; rw [hy371]; with_reducible exact H2_) | (have H2_ := (Option.bind_some _ _).symm.trans H; with_reducible exact H2_) | with_reducible exact H | (rw [hy371]; exact H) | exact H
                   have Ny371 := Aside0.mk hy371
                   clear hy371
                   by_cases c49 : x8_1 < (x7_2.length : Int)
                   ·rw [if_pos c49] at H
                    have c49b0 : decide (x8_1 < (x7_2.length : Int)) = true := decide_eq_true c49
                    clear c49
                    obtain ⟨y372, hy372⟩ : ∃ y_ : List Int, y_ = (x7_2.set (x8_1 : Int).toNat x9_2) := ⟨_, rfl⟩
                    replace H : (spec_l12Best.l1 kj18 l0 a1 y371 y372 x8_1 (wrap64 (x9_2 + 1))) = some (r1, r2) := by first | (rw [hy372]; with_reducible exact H) | (have H2_ := (Option.bind_some _ _).symm.trans H; rw [hy372]; with_reducible exact H2_) | (have H2_ := (Option.bind_some _ _).symm.trans H; with_reducible exact H2_) | with_reducible exact H | (rw [hy372]; exact H) | exact H
                    have Ny372 := Aside0.mk hy372
                    clear hy372
                    have H' := Aside0.mk H
                    clear H
                    have p48 : 0 ≤ (x8_1 : Int) := of_decide_eq_true (by first|(with_reducible assumption)|assumption)
                    have q48 : (x8_1 : Int) < ((x6_2.length : Int) : Int) := of_decide_eq_true (by first|(with_reducible assumption)|assumption)
                    obtain ⟨go48, co48, eo48, gb48, gl48, cl48, HG48⟩ := Kd.R_form HO_6.out (by omega)
                    (first | cases eo48 | (injection eo48 with ea_ en_ ec_; (first | subst ea_ | (injection ea_ with ea_; subst ea_)); subst ec_; clear en_))
                    have GB48 := Aside0.mk gb48
                    have GG48 := Aside0.mk HG48
                    clear gb48 gl48 HG48
                    (first | simp only [add_plain] at hx368_0 | skip)
                    obtain ⟨hx48_0, hf48_0⟩ := Kd.R_celln 0 HO_6.out (x8_1 : Int) p48 q48
                    replace p48 := eq_true p48
                    replace q48 := eq_true q48
                    have HP51 := Kd.R_putg HO_6.out (x8_1 : Int) (rd x6_2 (ji16))
                    go_wp2_with (first | ((with_reducible refine gate_store (t := 3) (p := 79) rfl ?_); refine store_event (t := 3) (p := 79) (v := ?vo_w52) (w1 := (wc.setCell ⟨go48, (x8_1 : Int).toNat, none⟩ (.int .i64 (rd x6_2 (ji16))))) ?hg ?ho ?hn ?hr ?_; (case ho => rfl); (case hg => rfl); (case hn => rfl); (case hr => first | (go_simp; done) | (go_simp; rfl)); intro w52 hw; have hg : wc.grownBy w52 (some go48) := (by rw [hw]; exact HP51.2); have hp_ : Kd.R (Kd.int .i64) 3 w52 w.heap.size (fun k_ => some k_ ≠ (v360 : Value).ownBlock) (.slice (some ⟨go48, 0, none⟩) x6_2.length co21) y371 := (by rw [hw, Ny371.out]; exact HP51.1); clear HP51; have n0_ := Aside0.mk (hp_); have n1_ := Aside0.mk (Kd.R_after (v := (.slice (some ⟨go48, 0, none⟩) x6_2.length co21)) (v1 := (.slice (some ⟨go48, 0, none⟩) x6_2.length co21)) (ok := (fun _ => True)) (by (with_reducible repeat (first|apply Kd.R_alloc|apply Kd.R_drewN|apply Kd.R_drew)); exact Kd.R_mono HO_7.out (fun _ hk => ⟨trivial, hk⟩)) hg (.inl rfl)); have n2_ := Aside0.mk ((by rw [hw]; exact below_set (HB.out) GB48.out : Below w.heap.size w w52)); clear HO_6; clear HO_7; clear HB; have HO_6 := n0_; have HO_7 := n1_; have HB := n2_; clear n0_ n1_ n2_; clear hg hw hp_; have p50 : 0 ≤ (x8_1 : Int) := of_decide_eq_true (by first|(with_reducible assumption)|assumption); have q50 : (x8_1 : Int) < ((x7_2.length : Int) : Int) := of_decide_eq_true (by first|(with_reducible assumption)|assumption); obtain ⟨go50, co50, eo50, gb50, gl50, cl50, HG50⟩ := Kd.R_form HO_7.out (by omega); (first | cases eo50 | (injection eo50 with ea_ en_ ec_; (first | subst ea_ | (injection ea_ with ea_; subst ea_)); subst ec_; clear en_)); have GB50 := Aside0.mk gb50; have GG50 := Aside0.mk HG50; clear gb50 gl50 HG50; obtain ⟨hx50_0, hf50_0⟩ := Kd.R_celln 0 HO_7.out (x8_1 : Int) p50 q50; replace p50 := eq_true p50; replace q50 := eq_true q50; have n_ := Aside0.mk (Kd.R_mono (ok' := (fun k_ => some k_ ≠ (.slice (some ⟨go48, 0, none⟩) x6_2.length co21 : Value).ownBlock)) HO_7.out (fun k_ hk => hk.2)); clear HO_7; have HO_7 := n_; clear n_; obtain ⟨hy53_, hz53_⟩ := Kd.R_celln 0 HO_7.out (x8_1 : Int) (of_decide_eq_true (by first|(with_reducible assumption)|assumption)) (of_decide_eq_true (by first|(with_reducible assumption)|assumption)); have HP53 := Kd.R_putg HO_7.out (x8_1 : Int) x9_2) | ((with_reducible refine gate_store (t := 3) (p := 83) rfl ?_); refine store_event (t := 3) (p := 83) (v := ?vo_w54) (w1 := (w52.setCell ⟨go50, (x8_1 : Int).toNat, none⟩ (.int .i64 x9_2))) ?hg ?ho ?hn ?hr ?_; (case ho => rfl); (case hg => rfl); (case hn => rfl); (case hr => first | (go_simp; done) | (go_simp; rfl)); intro w54 hw; have hg : w52.grownBy w54 (some go50) := (by rw [hw]; exact HP53.2); have hp_ : Kd.R (Kd.int .i64) 3 w54 w.heap.size (fun k_ => some k_ ≠ (.slice (some ⟨go48, 0, none⟩) x6_2.length co21 : Value).ownBlock) (.slice (some ⟨go50, 0, none⟩) x7_2.length co50) y372 := (by rw [hw, Ny372.out]; exact HP53.1); clear HP53; have n0_ := Aside0.mk (Kd.R_after (v := (.slice (some ⟨go50, 0, none⟩) x7_2.length co50)) (v1 := (.slice (some ⟨go50, 0, none⟩) x7_2.length co50)) (ok := (fun _ => True)) (by (with_reducible repeat (first|apply Kd.R_alloc|apply Kd.R_drewN|apply Kd.R_drew)); exact Kd.R_mono HO_6.out (fun _ hk => ⟨trivial, hk⟩)) hg (.inl rfl)); have n1_ := Aside0.mk (hp_); have n2_ := Aside0.mk ((by rw [hw]; exact below_set (HB.out) GB50.out : Below w.heap.size w w54)); clear HO_6; clear HO_7; clear HB; have HO_6 := n0_; have HO_7 := n1_; have HB := n2_; clear n0_ n1_ n2_; clear hg hw hp_))
                    go_roundg kj18
                    case measure => have := HK1.out; have := HK2.out; have := HJ18.out; omega
                    case rel => exact ⟨(y371), (y372), (wrap64 (x9_2 + 1)), (by first|rfl|(simp;done)|(simp[*];done)), H', ⟨by have := HK1.out; have := HK2.out; have := HJ18.out; omega⟩, ⟨by (with_reducible repeat (first|apply Kd.R_alloc|apply Kd.R_drewN|apply Kd.R_drew)); exact Kd.R_mono HO_6.out (fun _ hk => hk.2)⟩, ⟨by (with_reducible repeat (first|apply Kd.R_alloc|apply Kd.R_drewN|apply Kd.R_drew)); exact HO_7.out⟩, ⟨by repeat (first|(with_reducible first|exact HB.out|apply below_alloc|apply pw_below_drewN|apply below_drew1)|exact HB.out)⟩⟩
                   ·rw [if_neg c49] at H
                    exact absurd H (by simp)
                  ·rw [if_neg c47] at H
                   exact absurd H (by simp)
                 ·rw [if_neg c46] at H
                  exact absurd H (by simp)
                ·rw [if_neg c45] at H
                 have c45b0 : (x9_2 == 1) = false := beq_eq_false_iff_ne.mpr c45
                 have c45b1 : (x9_2 != 1) = true := bne_iff_ne.mpr c45
                 by_cases c55 : 0 ≤ x8_1
                 ·rw [if_pos c55] at H
                  have c55b0 : decide (0 ≤ x8_1) = true := decide_eq_true c55
                  clear c55
                  by_cases c56 : x8_1 < (x6_2.length : Int)
                  ·rw [if_pos c56] at H
                   have c56b0 : decide (x8_1 < (x6_2.length : Int)) = true := decide_eq_true c56
                   clear c56
                   by_cases c57 : (rd x6_2 (ji16)) < (rd x6_2 x8_1)
                   ·rw [if_pos c57] at H
                    have c57b0 : decide ((rd x6_2 (ji16)) < (rd x6_2 x8_1)) = true := decide_eq_true c57
                    clear c57
                    obtain ⟨y374, hy374⟩ : ∃ y_ : List Int, y_ = (x6_2.set (x8_1 : Int).toNat (rd x6_2 (ji16))) := ⟨_, rfl⟩
                    replace H : (if x8_1 < (x7_2.length : Int) then (spec_l12Best.l1 kj18 l0 a1 y374 (x7_2.set (x8_1 : Int).toNat x9_2) x8_1 (wrap64 (x9_2 + 1))) else (none)) = some (r1, r2) := by first | (rw [hy374]; with_reducible exact H) | (have H2_ := (Option.bind_some _ _).symm.trans H; rw [hy374]; with_reducible exact H2_) | (have H2_ := (Option.bind_some _ _).symm.trans H; with_reducible exact H2_) | with_reducible exact H | (rw [hy374]; exact H) | exact H
                    have Ny374 := Aside0.mk hy374
                    clear hy374
                    by_cases c59 : x8_1 < (x7_2.length : Int)
                    ·rw [if_pos c59] at H
                     have c59b0 : decide (x8_1 < (x7_2.length : Int)) = true := decide_eq_true c59
                     clear c59
                     obtain ⟨y375, hy375⟩ : ∃ y_ : List Int, y_ = (x7_2.set (x8_1 : Int).toNat x9_2) := ⟨_, rfl⟩
                     replace H : (spec_l12Best.l1 kj18 l0 a1 y374 y375 x8_1 (wrap64 (x9_2 + 1))) = some (r1, r2) := by first | (rw [hy375]; with_reducible exact H) | (have H2_ := (Option.bind_some _ _).symm.trans H; rw [hy375]; with_reducible exact H2_) | (have H2_ := (Option.bind_some _ _).symm.trans H; with_reducible exact H2_) | with_reducible exact H | (rw [hy375]; exact H) | exact H
                     have Ny375 := Aside0.mk hy375
                     clear hy375
                     have H' := Aside0.mk H
                     clear H
                     have p373 : 0 ≤ (x8_1 : Int) := of_decide_eq_true (by first|(with_reducible assumption)|assumption)
                     have q373 : x8_1 < (x6_2.length : Int) := of_decide_eq_true (by first|(with_reducible assumption)|assumption)
                     obtain ⟨ad373, e373, hx373_0⟩ := Kd.at_int (Kd.R_reads' HO_6.out).2.2 x8_1 p373 q373
                     obtain rfl : ad364 = ad373 := (by injection e373)
                     replace p373 := eq_true p373
                     replace q373 := eq_true q373
                     have p58 : 0 ≤ (x8_1 : Int) := of_decide_eq_true (by first|(with_reducible assumption)|assumption)
                     have q58 : (x8_1 : Int) < ((x6_2.length : Int) : Int) := of_decide_eq_true (by first|(with_reducible assumption)|assumption)
                     obtain ⟨go58, co58, eo58, gb58, gl58, cl58, HG58⟩ := Kd.R_form HO_6.out (by omega)
                     (first | cases eo58 | (injection eo58 with ea_ en_ ec_; (first | subst ea_ | (injection ea_ with ea_; subst ea_)); subst ec_; clear en_))
                     have GB58 := Aside0.mk gb58
                     have GG58 := Aside0.mk HG58
                     clear gb58 gl58 HG58
                     (first | simp only [add_plain] at hx373_0 | skip)
                     obtain ⟨hx58_0, hf58_0⟩ := Kd.R_celln 0 HO_6.out (x8_1 : Int) p58 q58
                     replace p58 := eq_true p58
                     replace q58 := eq_true q58
                     have HP61 := Kd.R_putg HO_6.out (x8_1 : Int) (rd x6_2 (ji16))
                     go_wp2_with (first | ((with_reducible refine gate_store (t := 3) (p := 79) rfl ?_); refine store_event (t := 3) (p := 79) (v := ?vo_w62) (w1 := (wc.setCell ⟨go58, (x8_1 : Int).toNat, none⟩ (.int .i64 (rd x6_2 (ji16))))) ?hg ?ho ?hn ?hr ?_; (case ho => rfl); (case hg => rfl); (case hn => rfl); (case hr => first | (go_simp; done) | (go_simp; rfl)); intro w62 hw; have hg : wc.grownBy w62 (some go58) := (by rw [hw]; exact HP61.2); have hp_ : Kd.R (Kd.int .i64) 3 w62 w.heap.size (fun k_ => some k_ ≠ (v360 : Value).ownBlock) (.slice (some ⟨go58, 0, none⟩) x6_2.length co21) y374 := (by rw [hw, Ny374.out]; exact HP61.1); clear HP61; have n0_ := Aside0.mk (hp_); have n1_ := Aside0.mk (Kd.R_after (v := (.slice (some ⟨go58, 0, none⟩) x6_2.length co21)) (v1 := (.slice (some ⟨go58, 0, none⟩) x6_2.length co21)) (ok := (fun _ => True)) (by (with_reducible repeat (first|apply Kd.R_alloc|apply Kd.R_drewN|apply Kd.R_drew)); exact Kd.R_mono HO_7.out (fun _ hk => ⟨trivial, hk⟩)) hg (.inl rfl)); have n2_ := Aside0.mk ((by rw [hw]; exact below_set (HB.out) GB58.out : Below w.heap.size w w62)); clear HO_6; clear HO_7; clear HB; have HO_6 := n0_; have HO_7 := n1_; have HB := n2_; clear n0_ n1_ n2_; clear hg hw hp_; have p60 : 0 ≤ (x8_1 : Int) := of_decide_eq_true (by first|(with_reducible assumption)|assumption); have q60 : (x8_1 : Int) < ((x7_2.length : Int) : Int) := of_decide_eq_true (by first|(with_reducible assumption)|assumption); obtain ⟨go60, co60, eo60, gb60, gl60, cl60, HG60⟩ := Kd.R_form HO_7.out (by omega); (first | cases eo60 | (injection eo60 with ea_ en_ ec_; (first | subst ea_ | (injection ea_ with ea_; subst ea_)); subst ec_; clear en_)); have GB60 := Aside0.mk gb60; have GG60 := Aside0.mk HG60; clear gb60 gl60 HG60; obtain ⟨hx60_0, hf60_0⟩ := Kd.R_celln 0 HO_7.out (x8_1 : Int) p60 q60; replace p60 := eq_true p60; replace q60 := eq_true q60; have n_ := Aside0.mk (Kd.R_mono (ok' := (fun k_ => some k_ ≠ (.slice (some ⟨go58, 0, none⟩) x6_2.length co21 : Value).ownBlock)) HO_7.out (fun k_ hk => hk.2)); clear HO_7; have HO_7 := n_; clear n_; obtain ⟨hy63_, hz63_⟩ := Kd.R_celln 0 HO_7.out (x8_1 : Int) (of_decide_eq_true (by first|(with_reducible assumption)|assumption)) (of_decide_eq_true (by first|(with_reducible assumption)|assumption)); have HP63 := Kd.R_putg HO_7.out (x8_1 : Int) x9_2) | ((with_reducible refine gate_store (t := 3) (p := 83) rfl ?_); refine store_event (t := 3) (p := 83) (v := ?vo_w64) (w1 := (w62.setCell ⟨go60, (x8_1 : Int).toNat, none⟩ (.int .i64 x9_2))) ?hg ?ho ?hn ?hr ?_; (case ho => rfl); (case hg => rfl); (case hn => rfl); (case hr => first | (go_simp; done) | (go_simp; rfl)); intro w64 hw; have hg : w62.grownBy w64 (some go60) := (by rw [hw]; exact HP63.2); have hp_ : Kd.R (Kd.int .i64) 3 w64 w.heap.size (fun k_ => some k_ ≠ (.slice (some ⟨go58, 0, none⟩) x6_2.length co21 : Value).ownBlock) (.slice (some ⟨go60, 0, none⟩) x7_2.length co60) y375 := (by rw [hw, Ny375.out]; exact HP63.1); clear HP63; have n0_ := Aside0.mk (Kd.R_after (v := (.slice (some ⟨go60, 0, none⟩) x7_2.length co60)) (v1 := (.slice (some ⟨go60, 0, none⟩) x7_2.length co60)) (ok := (fun _ => True)) (by (with_reducible repeat (first|apply Kd.R_alloc|apply Kd.R_drewN|apply Kd.R_drew)); exact Kd.R_mono HO_6.out (fun _ hk => ⟨trivial, hk⟩)) hg (.inl rfl)); have n1_ := Aside0.mk (hp_); have n2_ := Aside0.mk ((by rw [hw]; exact below_set (HB.out) GB60.out : Below w.heap.size w w64)); clear HO_6; clear HO_7; clear HB; have HO_6 := n0_; have HO_7 := n1_; have HB := n2_; clear n0_ n1_ n2_; clear hg hw hp_))
                     go_roundg kj18
                     case measure => have := HK1.out; have := HK2.out; have := HJ18.out; omega
                     case rel => exact ⟨(y374), (y375), (wrap64 (x9_2 + 1)), (by first|rfl|(simp;done)|(simp[*];done)), H', ⟨by have := HK1.out; have := HK2.out; have := HJ18.out; omega⟩, ⟨by (with_reducible repeat (first|apply Kd.R_alloc|apply Kd.R_drewN|apply Kd.R_drew)); exact Kd.R_mono HO_6.out (fun _ hk => hk.2)⟩, ⟨by (with_reducible repeat (first|apply Kd.R_alloc|apply Kd.R_drewN|apply Kd.R_drew)); exact HO_7.out⟩, ⟨by repeat (first|(with_reducible first|exact HB.out|apply below_alloc|apply pw_below_drewN|apply below_drew1)|exact HB.out)⟩⟩
                    ·rw [if_neg c59] at H
                     exact absurd H (by simp)
                   ·rw [if_neg c57] at H
                    have c57b0 : decide ((rd x6_2 (ji16)) < (rd x6_2 x8_1)) = false := decide_eq_false c57
                    clear c57
                    have H' := Aside0.mk H
                    clear H
                    have p373 : 0 ≤ (x8_1 : Int) := of_decide_eq_true (by first|(with_reducible assumption)|assumption)
                    have q373 : x8_1 < (x6_2.length : Int) := of_decide_eq_true (by first|(with_reducible assumption)|assumption)
                    obtain ⟨ad373, e373, hx373_0⟩ := Kd.at_int (Kd.R_reads' HO_6.out).2.2 x8_1 p373 q373
                    obtain rfl : ad364 = ad373 := (by injection e373)
                    replace p373 := eq_true p373
                    replace q373 := eq_true q373
                    go_wp2
                    go_roundg kj18
                    case measure => have := HK1.out; have := HK2.out; have := HJ18.out; omega
                    case rel => exact ⟨(x6_2), (x7_2), (wrap64 (x9_2 + 1)), (by first|rfl|(simp;done)|(simp[*];done)), H', ⟨by have := HK1.out; have := HK2.out; have := HJ18.out; omega⟩, ⟨by (with_reducible repeat (first|apply Kd.R_alloc|apply Kd.R_drewN|apply Kd.R_drew)); exact HO_6.out⟩, ⟨by (with_reducible repeat (first|apply Kd.R_alloc|apply Kd.R_drewN|apply Kd.R_drew)); exact HO_7.out⟩, ⟨by repeat (first|(with_reducible first|exact HB.out|apply below_alloc|apply pw_below_drewN|apply below_drew1)|exact HB.out)⟩⟩
                  ·rw [if_neg c56] at H
                   exact absurd H (by simp)
                 ·rw [if_neg c55] at H
                  exact absurd H (by simp)
            ·rw [if_neg c18] at H
             exact absurd H (by simp)
           ·rw [if_neg c17] at H
            exact absurd H (by simp)
          ·rw [if_neg c13] at H
           exact absurd H (by simp)
         ·rw [if_neg c12] at H
          exact absurd H (by simp)
        ·rw [if_neg c11] at H
         have c11b0 : decide ((wrap64 (x8_1 + x9_2)) ≤ (l0.length : Int)) = false := decide_eq_false c11
         clear c11
         have H' := Aside0.mk H
         clear H
         go_wp2
         go_roundg k2
         case measure => have := HK1.out; have := HK2.out; omega
         case rel => exact ⟨(x6_2), (x7_2), (wrap64 (x8_1 - 1)), (by first|rfl|(simp;done)|(simp[*];done)), H', ⟨by have := HK1.out; have := HK2.out; omega⟩, ⟨by (with_reducible repeat (first|apply Kd.R_alloc|apply Kd.R_drewN|apply Kd.R_drew)); exact HO_6.out⟩, ⟨by (with_reducible repeat (first|apply Kd.R_alloc|apply Kd.R_drewN|apply Kd.R_drew)); exact HO_7.out⟩, ⟨by repeat (first|(with_reducible first|exact HB.out|apply below_alloc|apply pw_below_drewN|apply below_drew1)|exact HB.out)⟩⟩
     ·rw [if_neg c10] at H
      have c10b0 : decide (0 ≤ x8_1) = false := decide_eq_false c10
      clear c10
      simp only [Option.some.injEq, Prod.mk.injEq] at H
      obtain ⟨rfl, rfl⟩ := H
      go_wp2
      go_ret2
      exact ⟨_, _, by first | rfl | (simp [errW_none, errW_some] <;> rfl) | (simp only [← hji3]; first | rfl | (simp [errW_none, errW_some] <;> rfl)) | (simp [*, errW_none, errW_some] <;> rfl), by (with_reducible repeat (first|apply Kd.R_alloc|apply Kd.R_drewN|apply Kd.R_drew)); exact HO_6.out, by (with_reducible repeat (first|apply Kd.R_alloc|apply Kd.R_drewN|apply Kd.R_drew)); exact HO_7.out, by repeat (first|(with_reducible first|exact HB.out|apply below_alloc|apply pw_below_drewN|apply below_drew1)|exact HB.out)⟩
  ·rw [if_neg c5] at H
   exact absurd H (by simp)
 ·rw [if_neg c4] at H
  exact absurd H (by simp)

/-! ### spec_WrapBest: function 25 -/
def spec_WrapBest.l0 : Nat → List ByteArray → List ByteArray → List Int → Int → Option (List ByteArray × Bool)
 | 0, _, _, _, _ => none
 | k + 1, x0, x6, x8, x9 => if x9 < (x0.length : Int) then (if 0 ≤ x9 then (if x9 < (x8.length : Int) then (if x9 ≤ (wrap64 (x9 + (rd x8 x9))) then (if (wrap64 (x9 + (rd x8 x9))) ≤ (x0.length : Int) then ((spec_l12Line.f k ((x0.take ((wrap64 (x9 + (rd x8 x9))) : Int).toNat).drop (x9 : Int).toNat)).bind fun t388 => (if x6.length < 8796093022208 then (spec_WrapBest.l0 k x0 (x6 ++ [t388]) x8 (wrap64 (x9 + (rd x8 x9)))) else (none))) else (none)) else (none)) else (none)) else (none)) else (some (x6, true))
def spec_WrapBest.f (k : Nat) (l0 : List ByteArray) (a1 : Int) : Option (List ByteArray × Bool) := (some (([] : List ByteArray) : List ByteArray)).bind fun y376 => ((spec_l12Right.f k l0 a1).bind fun t379 => (if t379 = true then ((spec_l12Best.f k l0 a1).bind fun bt380 => (spec_WrapBest.l0 k l0 y376 bt380.2 0)) else (some (y376, false))))
set_option maxHeartbeats 8000000 in
set_option maxRecDepth 100000 in
theorem spec_WrapBest.calls (k : Nat) (A0 : Option Addr) (c0 : Nat) (l0 : List ByteArray) (a1 : Int) (r1 : List ByteArray) (r2 : Bool) (w : World) (hr0 : Kd.C Kd.string w A0 l0.length l0) (hc0 : l0.length ≤ c0) (h : spec_WrapBest.f k l0 a1 = some (r1, r2)) :
  Calls Tryd.prog 25 #[.slice A0 l0.length c0, .int .i64 a1] w fun e w' => ∃ v0_ : Value, e = .returned (.tuple #[v0_, .bool r2]) ∧ Kd.R Kd.string 9 w' w.heap.size (fun _ => True) v0_ r1 ∧ Below w.heap.size w w' := by
 have HR0 := Aside0.mk hr0
 have HC0 := Aside0.mk hc0
 clear hr0 hc0
 have HB := Aside0.mk (Below.refl w.heap.size w)
 have H : ((some (([] : List ByteArray) : List ByteArray)).bind fun y376 => ((spec_l12Right.f k l0 a1).bind fun t379 => (if t379 = true then ((spec_l12Best.f k l0 a1).bind fun bt380 => (spec_WrapBest.l0 k l0 y376 bt380.2 0)) else (some (y376, false))))) = some (r1, r2) := h
 clear h
 obtain ⟨y376, hy376⟩ : ∃ y_ : List ByteArray, y_ = (([] : List ByteArray)) := ⟨_, rfl⟩
 replace H : ((spec_l12Right.f k l0 a1).bind fun t379 => (if t379 = true then ((spec_l12Best.f k l0 a1).bind fun bt380 => (spec_WrapBest.l0 k l0 y376 bt380.2 0)) else (some (y376, false)))) = some (r1, r2) := by first | (rw [hy376]; with_reducible exact H) | (have H2_ := (Option.bind_some _ _).symm.trans H; rw [hy376]; with_reducible exact H2_) | (have H2_ := (Option.bind_some _ _).symm.trans H; with_reducible exact H2_) | with_reducible exact H | (rw [hy376]; exact H) | exact H
 have Ny376 := Aside0.mk hy376
 clear hy376
 replace H := Option.bind_eq_some_iff.mp H
 obtain ⟨t379, A30, H⟩ := H
 replace H : (if t379 = true then ((spec_l12Best.f k l0 a1).bind fun bt380 => (spec_WrapBest.l0 k l0 y376 bt380.2 0)) else (some (y376, false))) = some (r1, r2) := H
 have A3 := Aside0.mk A30
 clear A30
 by_cases c4 : t379 = true
 ·subst c4
  have H1 : ((spec_l12Best.f k l0 a1).bind fun bt380 => (spec_WrapBest.l0 k l0 y376 bt380.2 0)) = some (r1, r2) := by rw [if_pos rfl] at H; exact H
  clear H
  have H := H1
  clear H1
  replace H := Option.bind_eq_some_iff.mp H
  obtain ⟨⟨t380, t381⟩, A50, H⟩ := H
  replace H : (spec_WrapBest.l0 k l0 y376 t381 0) = some (r1, r2) := H
  have A5 := Aside0.mk A50
  clear A50
  have H' := Aside0.mk H
  clear H
  go_enter Tryd.func25, Tryd.ntmps25
  go_wp2_with (first | ((with_reducible refine gate_dst (N := 10) rfl ?_); refine Kd.R_lit Kd.string _ 9 ?hg (N := 10) ?hd (xs := ([] : List ByteArray)) (inner := []) (ok := fun _ => True) (okp := fun _ => True) ?hr ?hp (fun _ hk => hk) trivial (Below.refl _ _) (Nat.le_refl _) (by simp) ?_; (case hd => rfl); (case hg => rfl); (case hr => first | (go_simp; done) | (go_simp; rfl)); (case hp => exact (Reps.none _ _)); intro v377 w6 ho7 hb hg_ hnew_; clear hg_ hnew_; (first | rw [← Ny376.out] at ho7 | (simp only [Int.reduceToNat] at ho7; rw [← Ny376.out] at ho7)); have n0_ := Aside0.mk (Kd.R_lower ho7 (below_size (by repeat (first|(with_reducible first|exact HB.out|apply below_alloc|apply pw_below_drewN|apply below_drew1)|exact HB.out)))); have n1_ := Aside0.mk (below_step (by repeat (first|(with_reducible first|exact HB.out|apply below_alloc|apply pw_below_drewN|apply below_drew1)|exact HB.out)) hb); clear HB; have HO378 := n0_; have HB := n1_; clear n0_ n1_; clear hb ho7) | ((with_reducible refine gate_callee (f := 29) rfl ?_); refine goesL_ (some 13) rfl rfl Tryd.func29 (by kernel_rfl) rfl #[.slice A0 l0.length c0, .int .i64 a1] rfl (by (try simp only [List.map_toArray, List.map_cons, List.map_nil]); first | done | rfl | (simp only [List.length_drop, List.length_take]; rfl)) ?_; (with_reducible refine (spec_l12Right.calls k _ _ l0 a1 true _ ?side1 ?side2 A3.out).mono ?_); (case side1 => repeat (first | exact (Kd.C_below HR0.out HB.out) | (with_reducible refine Kd.C_alloc ?_ _) | (with_reducible refine Kd.C_drewN ?_ _) | (with_reducible refine Kd.C_drew ?_))); (case side2 => exact HC0.out); rintro e w' ⟨rfl, ⟨nd, rfl⟩⟩; refine ⟨_, rfl, ?_⟩) | ((with_reducible refine gate_callee (f := 37) rfl ?_); refine goesL_ (some 19) rfl rfl Tryd.func37 (by kernel_rfl) rfl #[.slice A0 l0.length c0, .int .i64 a1] rfl (by (try simp only [List.map_toArray, List.map_cons, List.map_nil]); first | done | rfl | (simp only [List.length_drop, List.length_take]; rfl)) ?_; (with_reducible refine (spec_l12Best.calls k _ _ l0 a1 t380 t381 _ ?side1 ?side2 A5.out).mono ?_); (case side1 => repeat (first | exact (Kd.C_below HR0.out (by repeat (first|(with_reducible first|exact HB.out|apply below_alloc|apply pw_below_drewN|apply below_drew1)|exact HB.out))) | (with_reducible refine Kd.C_alloc ?_ _) | (with_reducible refine Kd.C_drewN ?_ _) | (with_reducible refine Kd.C_drew ?_))); (case side2 => exact HC0.out); rintro e w8 ⟨v382, v384, rfl, ho0, ho1, hb⟩; refine ⟨_, rfl, ?_⟩; have n0_ := Aside0.mk (Kd.R_below (by (with_reducible repeat (first|apply Kd.R_alloc|apply Kd.R_drewN|apply Kd.R_drew)); exact HO378.out) hb); have n1_ := Aside0.mk (Kd.R_lower ho0 (below_size (by repeat (first|(with_reducible first|exact HB.out|apply below_alloc|apply pw_below_drewN|apply below_drew1)|exact HB.out)))); have n2_ := Aside0.mk (Kd.R_lower ho1 (below_size (by repeat (first|(with_reducible first|exact HB.out|apply below_alloc|apply pw_below_drewN|apply below_drew1)|exact HB.out)))); have n3_ := Aside0.mk (below_step (by repeat (first|(with_reducible first|exact HB.out|apply below_alloc|apply pw_below_drewN|apply below_drew1)|exact HB.out)) hb); clear HO378; clear HB; have HO378 := n0_; have HO383 := n1_; have HO385 := n2_; have HB := n3_; clear n0_ n1_ n2_ n3_; (try clear hb); (try clear hb2); (try clear hk); (try clear hi); (try clear ho0); (try clear ho1)))
  go_loopg [6, 9] k (fun kq v6 v9 w' => ∃ (x6_1 : List ByteArray) (x9_1 : Int), v9 = .int .i64 x9_1 ∧ Aside0 (spec_WrapBest.l0 kq l0 x6_1 t381 x9_1 = some (r1, r2)) ∧ Aside0 (kq ≤ k) ∧ Aside0 (Kd.R Kd.string 9 w' w.heap.size (fun _ => True) v6 x6_1) ∧ Aside0 (Kd.R (Kd.int .i64) 3 w' w.heap.size (fun _ => True) v384 t381) ∧ Aside0 (Below w.heap.size w w'))
  case atStart => exact ⟨(y376), (0), (by first|rfl|(simp;done)|(simp[*];done)), H', ⟨Nat.le_refl _⟩, ⟨by (with_reducible repeat (first|apply Kd.R_alloc|apply Kd.R_drewN|apply Kd.R_drew)); exact HO378.out⟩, ⟨by (with_reducible repeat (first|apply Kd.R_alloc|apply Kd.R_drewN|apply Kd.R_drew)); exact Kd.R_mono HO385.out (fun _ hk => trivial)⟩, ⟨by repeat (first|(with_reducible first|exact HB.out|apply below_alloc|apply pw_below_drewN|apply below_drew1)|exact HB.out)⟩⟩
  case round =>
   clear H'
   try clear c2
   try clear p2
   try clear c3
   try clear c4
   obtain ⟨x6_1, x9_1, rfl, HA, HK1, HO_6, HO_8, HB⟩ := hrel
   cases gk with
   | zero => exact absurd HA.out (by simp [spec_WrapBest.l0])
   | succ k1 =>
    have H := HA.out
    clear HA
    simp only [spec_WrapBest.l0] at H
    by_cases c9 : x9_1 < (l0.length : Int)
    ·rw [if_pos c9] at H
     have c9b0 : decide (x9_1 < (l0.length : Int)) = true := decide_eq_true c9
     clear c9
     by_cases c10 : 0 ≤ x9_1
     ·rw [if_pos c10] at H
      have c10b0 : decide (0 ≤ x9_1) = true := decide_eq_true c10
      clear c10
      by_cases c11 : x9_1 < (t381.length : Int)
      ·rw [if_pos c11] at H
       have c11b0 : decide (x9_1 < (t381.length : Int)) = true := decide_eq_true c11
       clear c11
       have c12b0 := eq_true (of_decide_eq_true (by first|(with_reducible assumption)|assumption) : 0 ≤ x9_1)
       by_cases c13 : x9_1 ≤ (wrap64 (x9_1 + (rd t381 x9_1)))
       ·rw [if_pos c13] at H
        have c13b0 := eq_true c13
        have c13b1 : decide (x9_1 ≤ (wrap64 (x9_1 + (rd t381 x9_1)))) = true := decide_eq_true c13
        by_cases c14 : (wrap64 (x9_1 + (rd t381 x9_1))) ≤ (l0.length : Int)
        ·rw [if_pos c14] at H
         have c14b0 := eq_true c14
         have c14b1 : decide ((wrap64 (x9_1 + (rd t381 x9_1))) ≤ (l0.length : Int)) = true := decide_eq_true c14
         replace H := Option.bind_eq_some_iff.mp H
         obtain ⟨t388, A150, H⟩ := H
         replace H : (if x6_1.length < 8796093022208 then (spec_WrapBest.l0 k1 l0 (x6_1 ++ [t388]) t381 (wrap64 (x9_1 + (rd t381 x9_1)))) else (none)) = some (r1, r2) := H
         have A15 := Aside0.mk A150
         clear A150
         by_cases c16 : x6_1.length < 8796093022208
         ·rw [if_pos c16] at H
          have LMc16 := Aside0.mk c16
          clear c16
          obtain ⟨y389, hy389⟩ : ∃ y_ : List ByteArray, y_ = (x6_1 ++ [t388]) := ⟨_, rfl⟩
          replace H : (spec_WrapBest.l0 k1 l0 y389 t381 (wrap64 (x9_1 + (rd t381 x9_1)))) = some (r1, r2) := by first | (rw [hy389]; with_reducible exact H) | (have H2_ := (Option.bind_some _ _).symm.trans H; rw [hy389]; with_reducible exact H2_) | (have H2_ := (Option.bind_some _ _).symm.trans H; with_reducible exact H2_) | with_reducible exact H | (rw [hy389]; exact H) | exact H
          have Ny389 := Aside0.mk hy389
          clear hy389
          have H' := Aside0.mk H
          clear H
          obtain ⟨Ao17, co17, eo17⟩ := Kd.R_slice HO_8.out
          subst eo17
          have p386 : 0 ≤ (x9_1 : Int) := of_decide_eq_true (by first|(with_reducible assumption)|assumption)
          have q386 : x9_1 < (t381.length : Int) := of_decide_eq_true (by first|(with_reducible assumption)|assumption)
          obtain ⟨ad386, e386, hx386_0⟩ := Kd.at_int (Kd.R_reads' HO_8.out).2.2 x9_1 p386 q386
          cases e386
          replace p386 := eq_true p386
          replace q386 := eq_true q386
          obtain ⟨i018, hi018, _, hsz18, _⟩ := info_parts info9
          obtain ⟨A18, hcut18, hA18, hC18⟩ := print_mid_of (P := Tryd.prog) Value.string (⟨#[]⟩ : ByteArray) 23 9 .i64 .i64 Tryd.underlying23 hi018 hsz18 A0 c0 l0 x9_1 (wrap64 (x9_1 + (rd t381 x9_1))) (of_decide_eq_true (by first|(with_reducible assumption)|assumption)) (by first | omega | exact of_decide_eq_true (by first|(with_reducible assumption)|assumption)) (of_decide_eq_true (by first|(with_reducible assumption)|assumption)) HC0.out
          have HR387 := Aside0.mk (Kd.C_of_reads (h1 := fun _ => rfl) (hA18 _ (Kd.reads_of_C HR0.out)))
          have HC387 := Aside0.mk hC18
          clear hA18 hC18 hi018 hsz18
          go_wp2_with (first | ((with_reducible refine gate_callee (f := 38) rfl ?_); refine goesL_ (some 36) rfl rfl Tryd.func38 (by kernel_rfl) rfl #[.slice A18 ((l0.take ((wrap64 (x9_1 + (rd t381 x9_1))) : Int).toNat).drop (x9_1 : Int).toNat).length (c0 - x9_1.toNat)] rfl (by (try simp only [List.map_toArray, List.map_cons, List.map_nil]); first | done | (rw [show ((l0.take ((wrap64 (x9_1 + (rd t381 x9_1))) : Int).toNat).drop (x9_1 : Int).toNat).length = ((wrap64 (x9_1 + (rd t381 x9_1))).toNat - x9_1.toNat) from (by rw [List.length_drop, List.length_take]; have h_ : ((wrap64 (x9_1 + (rd t381 x9_1))) : Int) ≤ (l0.length : Int) := of_decide_eq_true (by first|(with_reducible assumption)|assumption); omega)] <;> rfl) | rfl | (simp only [List.length_drop, List.length_take]; rfl)) ?_; (with_reducible refine (spec_l12Line.calls k1 _ _ ((l0.take ((wrap64 (x9_1 + (rd t381 x9_1))) : Int).toNat).drop (x9_1 : Int).toNat) t388 _ ?side1 ?side2 A15.out).mono ?_); (case side1 => repeat (first | exact (Kd.C_below HR387.out HB.out) | (with_reducible refine Kd.C_alloc ?_ _) | (with_reducible refine Kd.C_drewN ?_ _) | (with_reducible refine Kd.C_drew ?_))); (case side2 => exact HC387.out); rintro e w' ⟨rfl, ⟨nd, rfl⟩⟩; refine ⟨_, rfl, ?_⟩) | ((with_reducible refine gate_builtin (b := .append) (xs := #[.tmp 26, .tmp 37]) rfl ?_); at_builtin; refine Kd.R_append Kd.string (w0 := w) w.heap.size rfl (.tmp 26) (.tmp 37) 23 9 (.string ⟨#[]⟩) 16 rfl Tryd.underlying23 info9 rfl (by decide) (by omega) u6 x6_1 t388 [.string t388] (fun _ => True) (fun _ => False) rfl rfl ?aP (fun _ hk => hk.elim) ?aF ?aO ?aB ?aS ?aL ?_; (case aP => exact rfl); (case aB => exact (by repeat (first|(with_reducible first|exact HB.out|apply below_alloc|apply pw_below_drewN|apply below_drew1)|exact HB.out))); (case aF => exact (fun _ _ => trivial)); (case aO => exact (by (with_reducible repeat (first|apply Kd.R_alloc|apply Kd.R_drewN|apply Kd.R_drew)); exact HO_6.out)); (case aS => exact (below_size (by repeat (first|(with_reducible first|exact HB.out|apply below_alloc|apply pw_below_drewN|apply below_drew1)|exact HB.out)))); (case aL => have := LMc16.out; omega); intro v390 w19 ho hb hg hat; rw [← Ny389.out] at ho; have n0_ := Aside0.mk (Kd.R_over' (by (with_reducible repeat (first|apply Kd.R_alloc|apply Kd.R_drewN|apply Kd.R_drew)); exact HO_8.out) (Kd.R_typed (by (with_reducible repeat (first|apply Kd.R_alloc|apply Kd.R_drewN|apply Kd.R_drew)); exact HO_6.out)) (by decide) hg); have n1_ := Aside0.mk (hb); have n2_ := Aside0.mk (ho); clear HO_8; clear HB; clear HO_6; have HO_8 := n0_; have HB := n1_; have HO391 := n2_; clear n0_ n1_ n2_; clear ho hb hg hat; have p392 : 0 ≤ (x9_1 : Int) := of_decide_eq_true (by first|(with_reducible assumption)|assumption); have q392 : x9_1 < (t381.length : Int) := of_decide_eq_true (by first|(with_reducible assumption)|assumption); obtain ⟨ad392, e392, hx392_0⟩ := Kd.at_int (Kd.R_reads' HO_8.out).2.2 x9_1 p392 q392; obtain rfl : ad386 = ad392 := (by injection e392); replace p392 := eq_true p392; replace q392 := eq_true q392))
          go_roundg k1
          case measure => have := HK1.out; omega
          case rel => exact ⟨(y389), (wrap64 (x9_1 + (rd t381 x9_1))), (by first|rfl|(simp;done)|(simp[*];done)), H', ⟨by have := HK1.out; omega⟩, ⟨by (with_reducible repeat (first|apply Kd.R_alloc|apply Kd.R_drewN|apply Kd.R_drew)); exact HO391.out⟩, ⟨by (with_reducible repeat (first|apply Kd.R_alloc|apply Kd.R_drewN|apply Kd.R_drew)); exact HO_8.out⟩, ⟨by repeat (first|(with_reducible first|exact HB.out|apply below_alloc|apply pw_below_drewN|apply below_drew1)|exact HB.out)⟩⟩
         ·rw [if_neg c16] at H
          exact absurd H (by simp)
        ·rw [if_neg c14] at H
         exact absurd H (by simp)
       ·rw [if_neg c13] at H
        exact absurd H (by simp)
      ·rw [if_neg c11] at H
       exact absurd H (by simp)
     ·rw [if_neg c10] at H
      exact absurd H (by simp)
    ·rw [if_neg c9] at H
     have c9b0 : decide (x9_1 < (l0.length : Int)) = false := decide_eq_false c9
     clear c9
     simp only [Option.some.injEq, Prod.mk.injEq] at H
     obtain ⟨rfl, rfl⟩ := H
     go_wp2
     go_ret2
     exact ⟨_, by first | rfl | (simp [errW_none, errW_some] <;> rfl) | (simp [*, errW_none, errW_some] <;> rfl), by (with_reducible repeat (first|apply Kd.R_alloc|apply Kd.R_drewN|apply Kd.R_drew)); exact HO_6.out, by repeat (first|(with_reducible first|exact HB.out|apply below_alloc|apply pw_below_drewN|apply below_drew1)|exact HB.out)⟩
 ·replace c4 := Bool.eq_false_iff.mpr c4
  subst c4
  have H1 : (some (y376, false)) = some (r1, r2) := by rw [if_neg (show ¬ (false = true) by decide)] at H; exact H
  clear H
  have H := H1
  clear H1
  simp only [Option.some.injEq, Prod.mk.injEq] at H
  obtain ⟨rfl, rfl⟩ := H
  go_enter Tryd.func25, Tryd.ntmps25
  go_wp2_with (first | ((with_reducible refine gate_dst (N := 10) rfl ?_); refine Kd.R_lit Kd.string _ 9 ?hg (N := 10) ?hd (xs := ([] : List ByteArray)) (inner := []) (ok := fun _ => True) (okp := fun _ => True) ?hr ?hp (fun _ hk => hk) trivial (Below.refl _ _) (Nat.le_refl _) (by simp) ?_; (case hd => rfl); (case hg => rfl); (case hr => first | (go_simp; done) | (go_simp; rfl)); (case hp => exact (Reps.none _ _)); intro v377 w20 ho21 hb hg_ hnew_; clear hg_ hnew_; (first | rw [← Ny376.out] at ho21 | (simp only [Int.reduceToNat] at ho21; rw [← Ny376.out] at ho21)); have n0_ := Aside0.mk (Kd.R_lower ho21 (below_size (by repeat (first|(with_reducible first|exact HB.out|apply below_alloc|apply pw_below_drewN|apply below_drew1)|exact HB.out)))); have n1_ := Aside0.mk (below_step (by repeat (first|(with_reducible first|exact HB.out|apply below_alloc|apply pw_below_drewN|apply below_drew1)|exact HB.out)) hb); clear HB; have HO378 := n0_; have HB := n1_; clear n0_ n1_; clear hb ho21) | ((with_reducible refine gate_callee (f := 29) rfl ?_); refine goesL_ (some 13) rfl rfl Tryd.func29 (by kernel_rfl) rfl #[.slice A0 l0.length c0, .int .i64 a1] rfl (by (try simp only [List.map_toArray, List.map_cons, List.map_nil]); first | done | rfl | (simp only [List.length_drop, List.length_take]; rfl)) ?_; (with_reducible refine (spec_l12Right.calls k _ _ l0 a1 false _ ?side1 ?side2 A3.out).mono ?_); (case side1 => repeat (first | exact (Kd.C_below HR0.out HB.out) | (with_reducible refine Kd.C_alloc ?_ _) | (with_reducible refine Kd.C_drewN ?_ _) | (with_reducible refine Kd.C_drew ?_))); (case side2 => exact HC0.out); rintro e w' ⟨rfl, ⟨nd, rfl⟩⟩; refine ⟨_, rfl, ?_⟩))
  go_ret2
  exact ⟨_, by first | rfl | (simp [errW_none, errW_some] <;> rfl) | (simp [*, errW_none, errW_some] <;> rfl), by (with_reducible repeat (first|apply Kd.R_alloc|apply Kd.R_drewN|apply Kd.R_drew)); exact HO378.out, by repeat (first|(with_reducible first|exact HB.out|apply below_alloc|apply pw_below_drewN|apply below_drew1)|exact HB.out)⟩

end Go.Proofs.YtkpnmninkmnbjaaDoor.PKa
