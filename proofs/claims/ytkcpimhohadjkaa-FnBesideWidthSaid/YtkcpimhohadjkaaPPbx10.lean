-- Written by a program of this session (xprint). -- COMPACT
import Derived.Test.YtkcpimhohadjkaaPPbx0
import Derived.Test.YtkcpimhohadjkaaPPbx1
namespace Go.Proofs.Ytkcpimhohadjkaa.PPb
open Go.RowKit Go.Proofs.YtkcpimhohadjkaaW.PrintWords Go.Proofs.YtkcpimhohadjkaaW.PrintLast Go.Proofs.YtkcpimhohadjkaaW.PrintMore
attribute [local go_sem] max2_int min2_int max_two min_two max_three min_three max_four min_four   -- for this text's walks alone
set_option linter.unusedVariables false
set_option linter.unusedSimpArgs false

/-! ### spec_l1Kids: function 110 -/
mutual
def spec_l1Kids.j0 : Nat → Int → Bool → Option (Int)
 | 0, _, _ => none
 | k + 1, x3, x4 => if x4 = true then (some 0) else (if x3 = 6 then (spec_l1Kids.j1 k x3 (x3 == 6)) else (spec_l1Kids.j1 k x3 (x3 == 8)))
def spec_l1Kids.j1 : Nat → Int → Bool → Option (Int)
 | 0, _, _ => none
 | k + 1, x3, x10 => if x10 = true then (some 1) else (if x3 = 7 then (some 2) else (some (-1)))
end
def spec_l1Kids.f (k : Nat) (a0 : Int) : Option (Int) := if a0 = 1 then (spec_l1Kids.j0 k a0 (a0 == 1)) else (if a0 = 2 then (spec_l1Kids.j0 k a0 (a0 == 2)) else (if a0 = 3 then (spec_l1Kids.j0 k a0 (a0 == 3)) else (if a0 = 4 then (spec_l1Kids.j0 k a0 (a0 == 4)) else (spec_l1Kids.j0 k a0 (a0 == 5)))))
set_option maxHeartbeats 8000000 in
set_option maxRecDepth 100000 in
theorem spec_l1Kids.calls (k : Nat) (a0 : Int) (r : Int) (w : World) (h : spec_l1Kids.f k a0 = some r) :
  Calls Try.prog 110 #[.int .i64 a0] w fun e w' => e = .returned (.int .i64 r) ∧ Drawn0 w w' := by
 have H : (if a0 = 1 then (spec_l1Kids.j0 k a0 (a0 == 1)) else (if a0 = 2 then (spec_l1Kids.j0 k a0 (a0 == 2)) else (if a0 = 3 then (spec_l1Kids.j0 k a0 (a0 == 3)) else (if a0 = 4 then (spec_l1Kids.j0 k a0 (a0 == 4)) else (spec_l1Kids.j0 k a0 (a0 == 5)))))) = some r := h
 clear h
 have HC2 := Aside0.mk H
 clear H
 go_enter Try.func110, Try.ntmps110
 go_upto_if 4 with (fail)
 go_cut [4] (fun v4 wc => ∃ (kq : Nat) (x4_1 : Bool), v4 = .bool x4_1 ∧ Aside0 (spec_l1Kids.j0 kq a0 x4_1 = some r) ∧ Aside0 (kq ≤ k) ∧ Drawn0 w wc)
 case first =>
  have H := HC2.out
  clear HC2
  by_cases c3 : a0 = 1
  ·rw [if_pos c3] at H
   have c3b0 : (a0 == 1) = true := beq_iff_eq.mpr c3
   have c3b1 : (a0 != 1) = false := bne_eq_false_iff_eq.mpr c3
   clear c3
   (first | rw [c3b0] | (simp only [i64_w, i32_w]; rw [c3b0]) | skip)
   have H' := Aside0.mk H
   clear H
   go_wp2
   go_meet
   case rel => exact ⟨_, ((a0 == 1)), aR, H', ⟨by first | omega | exact Nat.le_refl _⟩, by repeat (first | exact Drawn0.refl _ | apply Drawn0.step)⟩
  ·rw [if_neg c3] at H
   have c3b0 : (a0 == 1) = false := beq_eq_false_iff_ne.mpr c3
   have c3b1 : (a0 != 1) = true := bne_iff_ne.mpr c3
   (first | rw [c3b0] | (simp only [i64_w, i32_w]; rw [c3b0]) | skip)
   by_cases c4 : a0 = 2
   ·rw [if_pos c4] at H
    have c4b0 : (a0 == 2) = true := beq_iff_eq.mpr c4
    have c4b1 : (a0 != 2) = false := bne_eq_false_iff_eq.mpr c4
    clear c4
    have H' := Aside0.mk H
    clear H
    go_wp2
    go_meet
    case rel => exact ⟨_, ((a0 == 2)), aR, H', ⟨by first | omega | exact Nat.le_refl _⟩, by repeat (first | exact Drawn0.refl _ | apply Drawn0.step)⟩
   ·rw [if_neg c4] at H
    have c4b0 : (a0 == 2) = false := beq_eq_false_iff_ne.mpr c4
    have c4b1 : (a0 != 2) = true := bne_iff_ne.mpr c4
    by_cases c5 : a0 = 3
    ·rw [if_pos c5] at H
     have c5b0 : (a0 == 3) = true := beq_iff_eq.mpr c5
     have c5b1 : (a0 != 3) = false := bne_eq_false_iff_eq.mpr c5
     clear c5
     have H' := Aside0.mk H
     clear H
     go_wp2
     go_meet
     case rel => exact ⟨_, ((a0 == 3)), aR, H', ⟨by first | omega | exact Nat.le_refl _⟩, by repeat (first | exact Drawn0.refl _ | apply Drawn0.step)⟩
    ·rw [if_neg c5] at H
     have c5b0 : (a0 == 3) = false := beq_eq_false_iff_ne.mpr c5
     have c5b1 : (a0 != 3) = true := bne_iff_ne.mpr c5
     by_cases c6 : a0 = 4
     ·rw [if_pos c6] at H
      have c6b0 : (a0 == 4) = true := beq_iff_eq.mpr c6
      have c6b1 : (a0 != 4) = false := bne_eq_false_iff_eq.mpr c6
      clear c6
      have H' := Aside0.mk H
      clear H
      go_wp2
      go_meet
      case rel => exact ⟨_, ((a0 == 4)), aR, H', ⟨by first | omega | exact Nat.le_refl _⟩, by repeat (first | exact Drawn0.refl _ | apply Drawn0.step)⟩
     ·rw [if_neg c6] at H
      have c6b0 : (a0 == 4) = false := beq_eq_false_iff_ne.mpr c6
      have c6b1 : (a0 != 4) = true := bne_iff_ne.mpr c6
      have H' := Aside0.mk H
      clear H
      go_wp2
      go_meet
      case rel => exact ⟨_, ((a0 == 5)), aR, H', ⟨by first | omega | exact Nat.le_refl _⟩, by repeat (first | exact Drawn0.refl _ | apply Drawn0.step)⟩
 case rest =>
  clear HC2
  try clear c1
  try clear p2
  try clear c3
  try clear c3b0
  try clear c3b1
  try clear c4
  try clear c4b0
  try clear c4b1
  try clear c5
  try clear c5b0
  try clear c5b1
  try clear c6
  try clear c6b0
  try clear c6b1
  obtain ⟨kq, x4_1, rfl, HA, HJ1, ⟨mc1, rfl⟩⟩ := hcut
  cases kq with
  | zero => exact absurd HA.out (by simp [spec_l1Kids.j0])
  | succ kj1 =>
   have H := HA.out
   clear HA
   simp only [spec_l1Kids.j0] at H
   by_cases c7 : x4_1 = true
   ·subst c7
    have H1 : (some 0) = some r := by rw [if_pos rfl] at H; exact H
    clear H
    have H := H1
    clear H1
    obtain rfl := Option.some.inj H
    go_wp2
    go_ret
    exact ⟨by first | rfl | (simp; done) | (simp [*]; done), by repeat (first | exact Drawn0.refl _ | apply Drawn0.step)⟩
   ·replace c7 := Bool.eq_false_iff.mpr c7
    subst c7
    have H1 : (if a0 = 6 then (spec_l1Kids.j1 kj1 a0 (a0 == 6)) else (spec_l1Kids.j1 kj1 a0 (a0 == 8))) = some r := by rw [if_neg (show ¬ (false = true) by decide)] at H; exact H
    clear H
    have H := H1
    clear H1
    have HC8 := Aside0.mk H
    clear H
    go_upto_if 10 with (fail)
    go_cut [10] (fun v10 wc => ∃ (kq : Nat) (x10_7 : Bool), v10 = .bool x10_7 ∧ Aside0 (spec_l1Kids.j1 kq a0 x10_7 = some r) ∧ Aside0 (kq ≤ kj1) ∧ Drawn0 w wc)
    case first =>
     have H := HC8.out
     clear HC8
     by_cases c9 : a0 = 6
     ·rw [if_pos c9] at H
      have c9b0 : (a0 == 6) = true := beq_iff_eq.mpr c9
      have c9b1 : (a0 != 6) = false := bne_eq_false_iff_eq.mpr c9
      clear c9
      (first | rw [c9b0] | (simp only [i64_w, i32_w]; rw [c9b0]) | skip)
      have H' := Aside0.mk H
      clear H
      go_wp2
      go_meet
      case rel => exact ⟨_, ((a0 == 6)), aR, H', ⟨by have := HJ1.out; first | omega | exact Nat.le_refl _⟩, by repeat (first | exact Drawn0.refl _ | apply Drawn0.step)⟩
     ·rw [if_neg c9] at H
      have c9b0 : (a0 == 6) = false := beq_eq_false_iff_ne.mpr c9
      have c9b1 : (a0 != 6) = true := bne_iff_ne.mpr c9
      (first | rw [c9b0] | (simp only [i64_w, i32_w]; rw [c9b0]) | skip)
      have H' := Aside0.mk H
      clear H
      go_wp2
      go_meet
      case rel => exact ⟨_, ((a0 == 8)), aR, H', ⟨by have := HJ1.out; first | omega | exact Nat.le_refl _⟩, by repeat (first | exact Drawn0.refl _ | apply Drawn0.step)⟩
    case rest =>
     clear HC8
     try clear c1
     try clear p2
     try clear c3
     try clear c3b0
     try clear c3b1
     try clear c4
     try clear c4b0
     try clear c4b1
     try clear c5
     try clear c5b0
     try clear c5b1
     try clear c6
     try clear c6b0
     try clear c6b1
     try clear c7
     try clear c9
     try clear c9b0
     try clear c9b1
     try clear p2
     obtain ⟨kq, x10_7, rfl, HA, HJ7, ⟨mc7, rfl⟩⟩ := hcut
     cases kq with
     | zero => exact absurd HA.out (by simp [spec_l1Kids.j1])
     | succ kj7 =>
      have H := HA.out
      clear HA
      simp only [spec_l1Kids.j1] at H
      by_cases c10 : x10_7 = true
      ·subst c10
       have H1 : (some 1) = some r := by rw [if_pos rfl] at H; exact H
       clear H
       have H := H1
       clear H1
       obtain rfl := Option.some.inj H
       go_wp2
       go_ret
       exact ⟨by first | rfl | (simp; done) | (simp [*]; done), by repeat (first | exact Drawn0.refl _ | apply Drawn0.step)⟩
      ·replace c10 := Bool.eq_false_iff.mpr c10
       subst c10
       have H1 : (if a0 = 7 then (some 2) else (some (-1))) = some r := by rw [if_neg (show ¬ (false = true) by decide)] at H; exact H
       clear H
       have H := H1
       clear H1
       by_cases c11 : a0 = 7
       ·rw [if_pos c11] at H
        have c11b0 : (a0 == 7) = true := beq_iff_eq.mpr c11
        have c11b1 : (a0 != 7) = false := bne_eq_false_iff_eq.mpr c11
        clear c11
        obtain rfl := Option.some.inj H
        go_wp2
        go_ret
        exact ⟨by first | rfl | (simp; done) | (simp [*]; done), by repeat (first | exact Drawn0.refl _ | apply Drawn0.step)⟩
       ·rw [if_neg c11] at H
        have c11b0 : (a0 == 7) = false := beq_eq_false_iff_ne.mpr c11
        have c11b1 : (a0 != 7) = true := bne_iff_ne.mpr c11
        obtain rfl := Option.some.inj H
        go_wp2
        go_ret
        exact ⟨by first | rfl | (simp; done) | (simp [*]; done), by repeat (first | exact Drawn0.refl _ | apply Drawn0.step)⟩

/-! ### spec_l1Is: function 106 -/
mutual
def spec_l1Is.j0 : Nat → Int → Bool → Int → Int → ByteArray → List (S91) → Option (Bool)
 | 0, _, _, _, _, _, _ => none
 | k + 1, x1, x16, x380000, x380001, x380002, x380003 => if x16 = true then (some false) else (if x380000 = 2 then ((spec_TextValid.f k x380002).bind fun t381 => (if t381 = true then (spec_l1Is.j1 k x1 false x380000 x380001 x380002 x380003) else (spec_l1Is.j1 k x1 true x380000 x380001 x380002 x380003))) else (spec_l1Is.j1 k x1 (x380002.toList != ([] : List UInt8)) x380000 x380001 x380002 x380003))
def spec_l1Is.j1 : Nat → Int → Bool → Int → Int → ByteArray → List (S91) → Option (Bool)
 | 0, _, _, _, _, _, _ => none
 | k + 1, x1, x35, x380000, x380001, x380002, x380003 => if x35 = true then (some false) else (if x380000 = 6 then (if x380001 < 0 then (spec_l1Is.j2 k x1 true x380000 x380001 x380002 x380003) else (if x380001 > 9 then (spec_l1Is.j2 k x1 true x380000 x380001 x380002 x380003) else (spec_l1Is.j2 k x1 false x380000 x380001 x380002 x380003))) else (spec_l1Is.j2 k x1 (x380001 != 0) x380000 x380001 x380002 x380003))
def spec_l1Is.j2 : Nat → Int → Bool → Int → Int → ByteArray → List (S91) → Option (Bool)
 | 0, _, _, _, _, _, _ => none
 | k + 1, x1, x58, x380000, x380001, x380002, x380003 => if x58 = true then (some false) else (spec_l1Is.l0 k x1 0 x380000 x380001 x380002 x380003)
def spec_l1Is.l0 : Nat → Int → Int → Int → Int → ByteArray → List (S91) → Option (Bool)
 | 0, _, _, _, _, _, _ => none
 | k + 1, x1, x5, x380000, x380001, x380002, x380003 => if x5 < (x380003.length : Int) then (if 0 ≤ x5 then ((spec_l1Is.f k ((rd_T91 x380003 x5).f0) ((rd_T91 x380003 x5).f1) ((rd_T91 x380003 x5).f2) ((rd_T91 x380003 x5).f3) (wrap64 (x1 - 1))).bind fun t383 => (if t383 = true then (spec_l1Is.l0 k x1 (wrap64 (x5 + 1)) x380000 x380001 x380002 x380003) else (some false))) else (none)) else (some true)
def spec_l1Is.f : Nat → Int → Int → ByteArray → List (S91) → Int → Option (Bool)
 | 0, _, _, _, _, _ => none
 | k + 1, a0_0, a0_1, a0_2, l0_3, a1 => if a1 = 0 then (spec_l1Is.j0 k a1 true a0_0 a0_1 a0_2 l0_3) else ((spec_l1Kids.f k a0_0).bind fun t380 => (spec_l1Is.j0 k a1 ((l0_3.length : Int) != t380) a0_0 a0_1 a0_2 l0_3))
end
set_option maxHeartbeats 8000000 in
set_option maxRecDepth 100000 in
theorem spec_l1Is.calls (k : Nat) : ∀ (a0_0 : Int) (a0_1 : Int) (a0_2 : ByteArray) (A0_3 : Option Addr) (c0_3 : Nat) (l0_3 : List (S91)) (a1 : Int) (r : Bool) (w : World) (hr0_3 : Kd.C k91 w A0_3 l0_3.length l0_3) (hc0_3 : l0_3.length ≤ c0_3) (h : spec_l1Is.f k a0_0 a0_1 a0_2 l0_3 a1 = some r),
  Calls Try.prog 106 #[.agg #[.int .i64 a0_0, .int .i64 a0_1, .string a0_2, .slice A0_3 l0_3.length c0_3], .int .i64 a1] w fun e w' => e = .returned (.bool r) ∧ Below w.heap.size w w' := by
 induction k using Nat.strongRecOn with
 | _ k ih =>
 intro a0_0 a0_1 a0_2 A0_3 c0_3 l0_3 a1 r w hr0_3 hc0_3 h
 cases k with
 | zero => exact absurd h (by simp [spec_l1Is.f])
 | succ k =>
 simp only [spec_l1Is.f] at h
 have hu91 := Try.underlying91
 have HR0_3 := Aside0.mk hr0_3
 have HC0_3 := Aside0.mk hc0_3
 clear hr0_3 hc0_3
 have HB := Aside0.mk (Below.refl w.heap.size w)
 have H : (if a1 = 0 then (spec_l1Is.j0 k a1 true a0_0 a0_1 a0_2 l0_3) else ((spec_l1Kids.f k a0_0).bind fun t380 => (spec_l1Is.j0 k a1 ((l0_3.length : Int) != t380) a0_0 a0_1 a0_2 l0_3))) = some r := h
 clear h
 have HC3 := Aside0.mk H
 clear H
 go_enter Try.func106, Try.ntmps106
 go_upto_region 1 with (first | ((with_reducible refine gate_dst (N := 2) rfl ?_); (try (refine gate_guard (by rfl) ?_; dsimp only)); refine box_event ?hg (N := 2) ?hd (cs := #[.int .i64 a0_0, .int .i64 a0_1, .string a0_2, .slice A0_3 l0_3.length c0_3]) (t := 91) ?hr ?_; (case hd => rfl); (case hg => rfl); (case hr => first | (go_simp; done) | (go_simp; rfl)); intro gb379 hg w4 hbox hb; have n0_ := Aside0.mk (below_step aB hb); have n1_ := Aside0.mk (hbox); have n2_ := Aside0.mk ((by rw [hg]; exact (below_size aB) : w.heap.size ≤ gb379)); have n3_ := Aside0.mk ((by rw [hg]; exact (below_size aB) : w.heap.size ≤ gb379)); clear HB; have HB := n0_; have BK379 := n1_; have GW379 := n2_; have GE379 := n3_; clear n0_ n1_ n2_ n3_; clear hb hbox hg))
 repeat (go_quiet (first | ((with_reducible refine gate_dst (N := 2) rfl ?_); (try (refine gate_guard (by rfl) ?_; dsimp only)); refine box_event ?hg (N := 2) ?hd (cs := #[.int .i64 a0_0, .int .i64 a0_1, .string a0_2, .slice A0_3 l0_3.length c0_3]) (t := 91) ?hr ?_; (case hd => rfl); (case hg => rfl); (case hr => first | (go_simp; done) | (go_simp; rfl)); intro gb379 hg w4 hbox hb; have n0_ := Aside0.mk (below_step aB hb); have n1_ := Aside0.mk (hbox); have n2_ := Aside0.mk ((by rw [hg]; exact (below_size aB) : w.heap.size ≤ gb379)); have n3_ := Aside0.mk ((by rw [hg]; exact (below_size aB) : w.heap.size ≤ gb379)); clear HB; have HB := n0_; have BK379 := n1_; have GW379 := n2_; have GE379 := n3_; clear n0_ n1_ n2_ n3_; clear hb hbox hg)); go_upto_region 1 with (first | ((with_reducible refine gate_dst (N := 2) rfl ?_); (try (refine gate_guard (by rfl) ?_; dsimp only)); refine box_event ?hg (N := 2) ?hd (cs := #[.int .i64 a0_0, .int .i64 a0_1, .string a0_2, .slice A0_3 l0_3.length c0_3]) (t := 91) ?hr ?_; (case hd => rfl); (case hg => rfl); (case hr => first | (go_simp; done) | (go_simp; rfl)); intro gb379 hg w4 hbox hb; have n0_ := Aside0.mk (below_step aB hb); have n1_ := Aside0.mk (hbox); have n2_ := Aside0.mk ((by rw [hg]; exact (below_size aB) : w.heap.size ≤ gb379)); have n3_ := Aside0.mk ((by rw [hg]; exact (below_size aB) : w.heap.size ≤ gb379)); clear HB; have HB := n0_; have BK379 := n1_; have GW379 := n2_; have GE379 := n3_; clear n0_ n1_ n2_ n3_; clear hb hbox hg)))
 (try simp only [Act.put, List.setIfInBounds_toArray, List.set_cons_zero, List.set_cons_succ])
 go_cut [16] (fun v16 wc => ∃ (kq : Nat) (x16_2 : Bool), v16 = .bool x16_2 ∧ Aside0 (spec_l1Is.j0 kq a1 x16_2 a0_0 a0_1 a0_2 l0_3 = some r) ∧ Aside0 (kq ≤ k) ∧ Aside0 (wc.heap[gb379]? = some (.cells #[.int .i64 a0_0, .int .i64 a0_1, .string a0_2, (.slice A0_3 l0_3.length c0_3)] 91 (0, 0))) ∧ Aside0 (Below w.heap.size w wc))
 case first =>
  have H := HC3.out
  clear HC3
  by_cases c5 : a1 = 0
  ·rw [if_pos c5] at H
   have c5b0 : (a1 == 0) = true := beq_iff_eq.mpr c5
   have c5b1 : (a1 != 0) = false := bne_eq_false_iff_eq.mpr c5
   clear c5
   (first | rw [c5b0] | (simp only [i64_w, i32_w]; rw [c5b0]) | skip)
   have H' := Aside0.mk H
   clear H
   go_wp2
   repeat (go_quiet (fail); try go_wp2)
   go_meet
   case rel => exact ⟨_, (true), (by first|rfl|(simp;done)|(simp[*];done)|(simp;cases a0_2.toList <;> rfl)), H', ⟨by first | omega | exact Nat.le_refl _⟩, ⟨by refine aW ?_; exact BK379.out⟩, ⟨by repeat (first | (with_reducible first | exact HB.out | apply below_alloc | apply pw_below_drewN | apply below_drew1 | refine below_set ?_ GE379.out) | exact HB.out)⟩⟩
  ·rw [if_neg c5] at H
   have c5b0 : (a1 == 0) = false := beq_eq_false_iff_ne.mpr c5
   have c5b1 : (a1 != 0) = true := bne_iff_ne.mpr c5
   (first | rw [c5b0] | (simp only [i64_w, i32_w]; rw [c5b0]) | skip)
   replace H := Option.bind_eq_some_iff.mp H
   obtain ⟨t380, A60, H⟩ := H
   replace H : (spec_l1Is.j0 k a1 ((l0_3.length : Int) != t380) a0_0 a0_1 a0_2 l0_3) = some r := H
   have A6 := Aside0.mk A60
   clear A60
   have H' := Aside0.mk H
   clear H
   have hcz7_0 : w4.cell? ⟨gb379, 0, none⟩ = some (.int .i64 a0_0) := (blk_cell BK379.out 0).trans rfl
   have hcz7_1 : w4.cell? ⟨gb379, 1, none⟩ = some (.int .i64 a0_1) := (blk_cell BK379.out 1).trans rfl
   have hcz7_2 : w4.cell? ⟨gb379, 2, none⟩ = some (.string a0_2) := (blk_cell BK379.out 2).trans rfl
   have hcz7_3 : w4.cell? ⟨gb379, 3, none⟩ = some (.slice A0_3 l0_3.length c0_3) := (blk_cell BK379.out 3).trans rfl
   have hfz7_0 := blk_frozen BK379.out 0
   have hfz7_1 := blk_frozen BK379.out 1
   have hfz7_2 := blk_frozen BK379.out 2
   have hfz7_3 := blk_frozen BK379.out 3
   go_wp2_with (first | (go_at_call 110; (with_reducible refine (spec_l1Kids.calls k a0_0 t380 _ A6.out).mono ?_); rintro e w' ⟨rfl, ⟨nd, rfl⟩⟩; (try first | exact ⟨rfl, _, World.drewN_drewN _ _ _⟩ | exact ⟨rfl, _, Eq.trans (World.drewN_drewN _ _ _) (congrArg (World.drewN _) (Nat.add_assoc _ _ _))⟩)))
   repeat (go_quiet (first | (go_at_call 110; (with_reducible refine (spec_l1Kids.calls k a0_0 t380 _ A6.out).mono ?_); rintro e w' ⟨rfl, ⟨nd, rfl⟩⟩; (try first | exact ⟨rfl, _, World.drewN_drewN _ _ _⟩ | exact ⟨rfl, _, Eq.trans (World.drewN_drewN _ _ _) (congrArg (World.drewN _) (Nat.add_assoc _ _ _))⟩))); try go_wp2_with (first | (go_at_call 110; (with_reducible refine (spec_l1Kids.calls k a0_0 t380 _ A6.out).mono ?_); rintro e w' ⟨rfl, ⟨nd, rfl⟩⟩; (try first | exact ⟨rfl, _, World.drewN_drewN _ _ _⟩ | exact ⟨rfl, _, Eq.trans (World.drewN_drewN _ _ _) (congrArg (World.drewN _) (Nat.add_assoc _ _ _))⟩))))
   go_meet
   case rel => exact ⟨_, (((l0_3.length : Int) != t380)), (by first|rfl|(simp;done)|(simp[*];done)|(simp;cases a0_2.toList <;> rfl)), H', ⟨by first | omega | exact Nat.le_refl _⟩, ⟨by refine aW ?_; exact BK379.out⟩, ⟨by repeat (first | (with_reducible first | exact HB.out | apply below_alloc | apply pw_below_drewN | apply below_drew1 | refine below_set ?_ GE379.out) | exact HB.out)⟩⟩
 case rest =>
  clear HC3
  try clear c1
  try clear p2
  try clear c5
  try clear c5b0
  try clear c5b1
  try clear hcz7_0
  try clear hcz7_1
  try clear hcz7_2
  try clear hcz7_3
  try clear hfz7_0
  try clear hfz7_1
  try clear hfz7_2
  try clear hfz7_3
  obtain ⟨kq, x16_2, rfl, HA, HJ2, BK379, HB⟩ := hcut
  cases kq with
  | zero => exact absurd HA.out (by simp [spec_l1Is.j0])
  | succ kj2 =>
   have H := HA.out
   clear HA
   simp only [spec_l1Is.j0] at H
   by_cases c8 : x16_2 = true
   ·subst c8
    have H1 : (some false) = some r := by rw [if_pos rfl] at H; exact H
    clear H
    have H := H1
    clear H1
    obtain rfl := Option.some.inj H
    go_wp2
    repeat (go_quiet (fail); try go_wp2)
    go_ret
    exact ⟨by first | rfl | (simp [errW_none, errW_some] <;> rfl) | (simp [*, errW_none, errW_some] <;> rfl), by repeat (first | (with_reducible first | exact HB.out | apply below_alloc | apply pw_below_drewN | apply below_drew1 | refine below_set ?_ GE379.out) | exact HB.out)⟩
   ·replace c8 := Bool.eq_false_iff.mpr c8
    subst c8
    have H1 : (if a0_0 = 2 then ((spec_TextValid.f kj2 a0_2).bind fun t381 => (if t381 = true then (spec_l1Is.j1 kj2 a1 false a0_0 a0_1 a0_2 l0_3) else (spec_l1Is.j1 kj2 a1 true a0_0 a0_1 a0_2 l0_3))) else (spec_l1Is.j1 kj2 a1 (a0_2.toList != ([] : List UInt8)) a0_0 a0_1 a0_2 l0_3)) = some r := by rw [if_neg (show ¬ (false = true) by decide)] at H; exact H
    clear H
    have H := H1
    clear H1
    have HC9 := Aside0.mk H
    clear H
    go_upto_region 3 with (fail)
    repeat (go_quiet (fail); go_upto_region 3 with (fail))
    go_cut [35] (fun v35 wc => ∃ (kq : Nat) (x35_8 : Bool), v35 = .bool x35_8 ∧ Aside0 (spec_l1Is.j1 kq a1 x35_8 a0_0 a0_1 a0_2 l0_3 = some r) ∧ Aside0 (kq ≤ kj2) ∧ Aside0 (wc.heap[gb379]? = some (.cells #[.int .i64 a0_0, .int .i64 a0_1, .string a0_2, (.slice A0_3 l0_3.length c0_3)] 91 (0, 0))) ∧ Aside0 (Below w.heap.size w wc))
    case first =>
     have H := HC9.out
     clear HC9
     by_cases c10 : a0_0 = 2
     ·rw [if_pos c10] at H
      have c10b0 : (a0_0 == 2) = true := beq_iff_eq.mpr c10
      have c10b1 : (a0_0 != 2) = false := bne_eq_false_iff_eq.mpr c10
      clear c10
      (first | rw [c10b0] | (simp only [i64_w, i32_w]; rw [c10b0]) | skip)
      replace H := Option.bind_eq_some_iff.mp H
      obtain ⟨t381, A110, H⟩ := H
      replace H : (if t381 = true then (spec_l1Is.j1 kj2 a1 false a0_0 a0_1 a0_2 l0_3) else (spec_l1Is.j1 kj2 a1 true a0_0 a0_1 a0_2 l0_3)) = some r := H
      have A11 := Aside0.mk A110
      clear A110
      by_cases c12 : t381 = true
      ·subst c12
       have H1 : (spec_l1Is.j1 kj2 a1 false a0_0 a0_1 a0_2 l0_3) = some r := by rw [if_pos rfl] at H; exact H
       clear H
       have H := H1
       clear H1
       have H' := Aside0.mk H
       clear H
       have hcz13_0 : wc.cell? ⟨gb379, 0, none⟩ = some (.int .i64 a0_0) := (blk_cell BK379.out 0).trans rfl
       have hcz13_1 : wc.cell? ⟨gb379, 1, none⟩ = some (.int .i64 a0_1) := (blk_cell BK379.out 1).trans rfl
       have hcz13_2 : wc.cell? ⟨gb379, 2, none⟩ = some (.string a0_2) := (blk_cell BK379.out 2).trans rfl
       have hcz13_3 : wc.cell? ⟨gb379, 3, none⟩ = some (.slice A0_3 l0_3.length c0_3) := (blk_cell BK379.out 3).trans rfl
       have hfz13_0 := blk_frozen BK379.out 0
       have hfz13_1 := blk_frozen BK379.out 1
       have hfz13_2 := blk_frozen BK379.out 2
       have hfz13_3 := blk_frozen BK379.out 3
       go_wp2_with (first | (go_at_call 80; (with_reducible refine (spec_TextValid.calls kj2 a0_2 true _ A11.out).mono ?_); rintro e w' ⟨rfl, ⟨nd, rfl⟩⟩; (try first | exact ⟨rfl, _, World.drewN_drewN _ _ _⟩ | exact ⟨rfl, _, Eq.trans (World.drewN_drewN _ _ _) (congrArg (World.drewN _) (Nat.add_assoc _ _ _))⟩)))
       repeat (go_quiet (first | (go_at_call 80; (with_reducible refine (spec_TextValid.calls kj2 a0_2 true _ A11.out).mono ?_); rintro e w' ⟨rfl, ⟨nd, rfl⟩⟩; (try first | exact ⟨rfl, _, World.drewN_drewN _ _ _⟩ | exact ⟨rfl, _, Eq.trans (World.drewN_drewN _ _ _) (congrArg (World.drewN _) (Nat.add_assoc _ _ _))⟩))); try go_wp2_with (first | (go_at_call 80; (with_reducible refine (spec_TextValid.calls kj2 a0_2 true _ A11.out).mono ?_); rintro e w' ⟨rfl, ⟨nd, rfl⟩⟩; (try first | exact ⟨rfl, _, World.drewN_drewN _ _ _⟩ | exact ⟨rfl, _, Eq.trans (World.drewN_drewN _ _ _) (congrArg (World.drewN _) (Nat.add_assoc _ _ _))⟩))))
       go_meet
       case rel => exact ⟨_, (false), (by first|rfl|(simp;done)|(simp[*];done)|(simp;cases a0_2.toList <;> rfl)), H', ⟨by have := HJ2.out; first | omega | exact Nat.le_refl _⟩, ⟨by refine aW ?_; exact BK379.out⟩, ⟨by repeat (first | (with_reducible first | exact HB.out | apply below_alloc | apply pw_below_drewN | apply below_drew1 | refine below_set ?_ GE379.out) | exact HB.out)⟩⟩
      ·replace c12 := Bool.eq_false_iff.mpr c12
       subst c12
       have H1 : (spec_l1Is.j1 kj2 a1 true a0_0 a0_1 a0_2 l0_3) = some r := by rw [if_neg (show ¬ (false = true) by decide)] at H; exact H
       clear H
       have H := H1
       clear H1
       have H' := Aside0.mk H
       clear H
       have hcz14_0 : wc.cell? ⟨gb379, 0, none⟩ = some (.int .i64 a0_0) := (blk_cell BK379.out 0).trans rfl
       have hcz14_1 : wc.cell? ⟨gb379, 1, none⟩ = some (.int .i64 a0_1) := (blk_cell BK379.out 1).trans rfl
       have hcz14_2 : wc.cell? ⟨gb379, 2, none⟩ = some (.string a0_2) := (blk_cell BK379.out 2).trans rfl
       have hcz14_3 : wc.cell? ⟨gb379, 3, none⟩ = some (.slice A0_3 l0_3.length c0_3) := (blk_cell BK379.out 3).trans rfl
       have hfz14_0 := blk_frozen BK379.out 0
       have hfz14_1 := blk_frozen BK379.out 1
       have hfz14_2 := blk_frozen BK379.out 2
       have hfz14_3 := blk_frozen BK379.out 3
       go_wp2_with (first | (go_at_call 80; (with_reducible refine (spec_TextValid.calls kj2 a0_2 false _ A11.out).mono ?_); rintro e w' ⟨rfl, ⟨nd, rfl⟩⟩; (try first | exact ⟨rfl, _, World.drewN_drewN _ _ _⟩ | exact ⟨rfl, _, Eq.trans (World.drewN_drewN _ _ _) (congrArg (World.drewN _) (Nat.add_assoc _ _ _))⟩)))
       repeat (go_quiet (first | (go_at_call 80; (with_reducible refine (spec_TextValid.calls kj2 a0_2 false _ A11.out).mono ?_); rintro e w' ⟨rfl, ⟨nd, rfl⟩⟩; (try first | exact ⟨rfl, _, World.drewN_drewN _ _ _⟩ | exact ⟨rfl, _, Eq.trans (World.drewN_drewN _ _ _) (congrArg (World.drewN _) (Nat.add_assoc _ _ _))⟩))); try go_wp2_with (first | (go_at_call 80; (with_reducible refine (spec_TextValid.calls kj2 a0_2 false _ A11.out).mono ?_); rintro e w' ⟨rfl, ⟨nd, rfl⟩⟩; (try first | exact ⟨rfl, _, World.drewN_drewN _ _ _⟩ | exact ⟨rfl, _, Eq.trans (World.drewN_drewN _ _ _) (congrArg (World.drewN _) (Nat.add_assoc _ _ _))⟩))))
       go_meet
       case rel => exact ⟨_, (true), (by first|rfl|(simp;done)|(simp[*];done)|(simp;cases a0_2.toList <;> rfl)), H', ⟨by have := HJ2.out; first | omega | exact Nat.le_refl _⟩, ⟨by refine aW ?_; exact BK379.out⟩, ⟨by repeat (first | (with_reducible first | exact HB.out | apply below_alloc | apply pw_below_drewN | apply below_drew1 | refine below_set ?_ GE379.out) | exact HB.out)⟩⟩
     ·rw [if_neg c10] at H
      have c10b0 : (a0_0 == 2) = false := beq_eq_false_iff_ne.mpr c10
      have c10b1 : (a0_0 != 2) = true := bne_iff_ne.mpr c10
      (first | rw [c10b0] | (simp only [i64_w, i32_w]; rw [c10b0]) | skip)
      have H' := Aside0.mk H
      clear H
      have hcz15_0 : wc.cell? ⟨gb379, 0, none⟩ = some (.int .i64 a0_0) := (blk_cell BK379.out 0).trans rfl
      have hcz15_1 : wc.cell? ⟨gb379, 1, none⟩ = some (.int .i64 a0_1) := (blk_cell BK379.out 1).trans rfl
      have hcz15_2 : wc.cell? ⟨gb379, 2, none⟩ = some (.string a0_2) := (blk_cell BK379.out 2).trans rfl
      have hcz15_3 : wc.cell? ⟨gb379, 3, none⟩ = some (.slice A0_3 l0_3.length c0_3) := (blk_cell BK379.out 3).trans rfl
      have hfz15_0 := blk_frozen BK379.out 0
      have hfz15_1 := blk_frozen BK379.out 1
      have hfz15_2 := blk_frozen BK379.out 2
      have hfz15_3 := blk_frozen BK379.out 3
      go_wp2
      repeat (go_quiet (fail); try go_wp2)
      go_meet
      case rel => exact ⟨_, ((a0_2.toList != ([] : List UInt8))), (by first|rfl|(simp;done)|(simp[*];done)|(simp;cases a0_2.toList <;> rfl)), H', ⟨by have := HJ2.out; first | omega | exact Nat.le_refl _⟩, ⟨by refine aW ?_; exact BK379.out⟩, ⟨by repeat (first | (with_reducible first | exact HB.out | apply below_alloc | apply pw_below_drewN | apply below_drew1 | refine below_set ?_ GE379.out) | exact HB.out)⟩⟩
    case rest =>
     clear HC9
     try clear c1
     try clear p2
     try clear c5
     try clear c5b0
     try clear c5b1
     try clear c8
     try clear c10
     try clear c10b0
     try clear c10b1
     try clear c12
     try clear hcz13_0
     try clear hcz13_1
     try clear hcz13_2
     try clear hcz13_3
     try clear hcz14_0
     try clear hcz14_1
     try clear hcz14_2
     try clear hcz14_3
     try clear hcz15_0
     try clear hcz15_1
     try clear hcz15_2
     try clear hcz15_3
     try clear hcz7_0
     try clear hcz7_1
     try clear hcz7_2
     try clear hcz7_3
     try clear hfz13_0
     try clear hfz13_1
     try clear hfz13_2
     try clear hfz13_3
     try clear hfz14_0
     try clear hfz14_1
     try clear hfz14_2
     try clear hfz14_3
     try clear hfz15_0
     try clear hfz15_1
     try clear hfz15_2
     try clear hfz15_3
     try clear hfz7_0
     try clear hfz7_1
     try clear hfz7_2
     try clear hfz7_3
     try clear p2
     obtain ⟨kq, x35_8, rfl, HA, HJ8, BK379, HB⟩ := hcut
     cases kq with
     | zero => exact absurd HA.out (by simp [spec_l1Is.j1])
     | succ kj8 =>
      have H := HA.out
      clear HA
      simp only [spec_l1Is.j1] at H
      by_cases c16 : x35_8 = true
      ·subst c16
       have H1 : (some false) = some r := by rw [if_pos rfl] at H; exact H
       clear H
       have H := H1
       clear H1
       obtain rfl := Option.some.inj H
       go_wp2
       repeat (go_quiet (fail); try go_wp2)
       go_ret
       exact ⟨by first | rfl | (simp [errW_none, errW_some] <;> rfl) | (simp [*, errW_none, errW_some] <;> rfl), by repeat (first | (with_reducible first | exact HB.out | apply below_alloc | apply pw_below_drewN | apply below_drew1 | refine below_set ?_ GE379.out) | exact HB.out)⟩
      ·replace c16 := Bool.eq_false_iff.mpr c16
       subst c16
       have H1 : (if a0_0 = 6 then (if a0_1 < 0 then (spec_l1Is.j2 kj8 a1 true a0_0 a0_1 a0_2 l0_3) else (if a0_1 > 9 then (spec_l1Is.j2 kj8 a1 true a0_0 a0_1 a0_2 l0_3) else (spec_l1Is.j2 kj8 a1 false a0_0 a0_1 a0_2 l0_3))) else (spec_l1Is.j2 kj8 a1 (a0_1 != 0) a0_0 a0_1 a0_2 l0_3)) = some r := by rw [if_neg (show ¬ (false = true) by decide)] at H; exact H
       clear H
       have H := H1
       clear H1
       have HC17 := Aside0.mk H
       clear H
       go_upto_region 5 with (fail)
       repeat (go_quiet (fail); go_upto_region 5 with (fail))
       go_cut [58] (fun v58 wc => ∃ (kq : Nat) (x58_16 : Bool), v58 = .bool x58_16 ∧ Aside0 (spec_l1Is.j2 kq a1 x58_16 a0_0 a0_1 a0_2 l0_3 = some r) ∧ Aside0 (kq ≤ kj8) ∧ Aside0 (wc.heap[gb379]? = some (.cells #[.int .i64 a0_0, .int .i64 a0_1, .string a0_2, (.slice A0_3 l0_3.length c0_3)] 91 (0, 0))) ∧ Aside0 (Below w.heap.size w wc))
       case first =>
        have H := HC17.out
        clear HC17
        by_cases c18 : a0_0 = 6
        ·rw [if_pos c18] at H
         have c18b0 : (a0_0 == 6) = true := beq_iff_eq.mpr c18
         have c18b1 : (a0_0 != 6) = false := bne_eq_false_iff_eq.mpr c18
         clear c18
         (first | rw [c18b0] | (simp only [i64_w, i32_w]; rw [c18b0]) | skip)
         by_cases c19 : a0_1 < 0
         ·rw [if_pos c19] at H
          have c19b0 : decide (a0_1 < 0) = true := decide_eq_true c19
          clear c19
          have H' := Aside0.mk H
          clear H
          have hcz20_0 : wc.cell? ⟨gb379, 0, none⟩ = some (.int .i64 a0_0) := (blk_cell BK379.out 0).trans rfl
          have hcz20_1 : wc.cell? ⟨gb379, 1, none⟩ = some (.int .i64 a0_1) := (blk_cell BK379.out 1).trans rfl
          have hcz20_2 : wc.cell? ⟨gb379, 2, none⟩ = some (.string a0_2) := (blk_cell BK379.out 2).trans rfl
          have hcz20_3 : wc.cell? ⟨gb379, 3, none⟩ = some (.slice A0_3 l0_3.length c0_3) := (blk_cell BK379.out 3).trans rfl
          have hfz20_0 := blk_frozen BK379.out 0
          have hfz20_1 := blk_frozen BK379.out 1
          have hfz20_2 := blk_frozen BK379.out 2
          have hfz20_3 := blk_frozen BK379.out 3
          go_wp2
          repeat (go_quiet (fail); try go_wp2)
          go_meet
          case rel => exact ⟨_, (true), (by first|rfl|(simp;done)|(simp[*];done)|(simp;cases a0_2.toList <;> rfl)), H', ⟨by have := HJ2.out; have := HJ8.out; first | omega | exact Nat.le_refl _⟩, ⟨by refine aW ?_; exact BK379.out⟩, ⟨by repeat (first | (with_reducible first | exact HB.out | apply below_alloc | apply pw_below_drewN | apply below_drew1 | refine below_set ?_ GE379.out) | exact HB.out)⟩⟩
         ·rw [if_neg c19] at H
          have c19b0 : decide (a0_1 < 0) = false := decide_eq_false c19
          clear c19
          by_cases c21 : a0_1 > 9
          ·rw [if_pos c21] at H
           have c21b0 : decide (9 < a0_1) = true := decide_eq_true c21
           clear c21
           have H' := Aside0.mk H
           clear H
           have hcz22_0 : wc.cell? ⟨gb379, 0, none⟩ = some (.int .i64 a0_0) := (blk_cell BK379.out 0).trans rfl
           have hcz22_1 : wc.cell? ⟨gb379, 1, none⟩ = some (.int .i64 a0_1) := (blk_cell BK379.out 1).trans rfl
           have hcz22_2 : wc.cell? ⟨gb379, 2, none⟩ = some (.string a0_2) := (blk_cell BK379.out 2).trans rfl
           have hcz22_3 : wc.cell? ⟨gb379, 3, none⟩ = some (.slice A0_3 l0_3.length c0_3) := (blk_cell BK379.out 3).trans rfl
           have hfz22_0 := blk_frozen BK379.out 0
           have hfz22_1 := blk_frozen BK379.out 1
           have hfz22_2 := blk_frozen BK379.out 2
           have hfz22_3 := blk_frozen BK379.out 3
           go_wp2
           repeat (go_quiet (fail); try go_wp2)
           go_meet
           case rel => exact ⟨_, (true), (by first|rfl|(simp;done)|(simp[*];done)|(simp;cases a0_2.toList <;> rfl)), H', ⟨by have := HJ2.out; have := HJ8.out; first | omega | exact Nat.le_refl _⟩, ⟨by refine aW ?_; exact BK379.out⟩, ⟨by repeat (first | (with_reducible first | exact HB.out | apply below_alloc | apply pw_below_drewN | apply below_drew1 | refine below_set ?_ GE379.out) | exact HB.out)⟩⟩
          ·rw [if_neg c21] at H
           have c21b0 : decide (9 < a0_1) = false := decide_eq_false c21
           clear c21
           have H' := Aside0.mk H
           clear H
           have hcz23_0 : wc.cell? ⟨gb379, 0, none⟩ = some (.int .i64 a0_0) := (blk_cell BK379.out 0).trans rfl
           have hcz23_1 : wc.cell? ⟨gb379, 1, none⟩ = some (.int .i64 a0_1) := (blk_cell BK379.out 1).trans rfl
           have hcz23_2 : wc.cell? ⟨gb379, 2, none⟩ = some (.string a0_2) := (blk_cell BK379.out 2).trans rfl
           have hcz23_3 : wc.cell? ⟨gb379, 3, none⟩ = some (.slice A0_3 l0_3.length c0_3) := (blk_cell BK379.out 3).trans rfl
           have hfz23_0 := blk_frozen BK379.out 0
           have hfz23_1 := blk_frozen BK379.out 1
           have hfz23_2 := blk_frozen BK379.out 2
           have hfz23_3 := blk_frozen BK379.out 3
           go_wp2
           repeat (go_quiet (fail); try go_wp2)
           go_meet
           case rel => exact ⟨_, (false), (by first|rfl|(simp;done)|(simp[*];done)|(simp;cases a0_2.toList <;> rfl)), H', ⟨by have := HJ2.out; have := HJ8.out; first | omega | exact Nat.le_refl _⟩, ⟨by refine aW ?_; exact BK379.out⟩, ⟨by repeat (first | (with_reducible first | exact HB.out | apply below_alloc | apply pw_below_drewN | apply below_drew1 | refine below_set ?_ GE379.out) | exact HB.out)⟩⟩
        ·rw [if_neg c18] at H
         have c18b0 : (a0_0 == 6) = false := beq_eq_false_iff_ne.mpr c18
         have c18b1 : (a0_0 != 6) = true := bne_iff_ne.mpr c18
         (first | rw [c18b0] | (simp only [i64_w, i32_w]; rw [c18b0]) | skip)
         have H' := Aside0.mk H
         clear H
         have hcz24_0 : wc.cell? ⟨gb379, 0, none⟩ = some (.int .i64 a0_0) := (blk_cell BK379.out 0).trans rfl
         have hcz24_1 : wc.cell? ⟨gb379, 1, none⟩ = some (.int .i64 a0_1) := (blk_cell BK379.out 1).trans rfl
         have hcz24_2 : wc.cell? ⟨gb379, 2, none⟩ = some (.string a0_2) := (blk_cell BK379.out 2).trans rfl
         have hcz24_3 : wc.cell? ⟨gb379, 3, none⟩ = some (.slice A0_3 l0_3.length c0_3) := (blk_cell BK379.out 3).trans rfl
         have hfz24_0 := blk_frozen BK379.out 0
         have hfz24_1 := blk_frozen BK379.out 1
         have hfz24_2 := blk_frozen BK379.out 2
         have hfz24_3 := blk_frozen BK379.out 3
         go_wp2
         repeat (go_quiet (fail); try go_wp2)
         go_meet
         case rel => exact ⟨_, ((a0_1 != 0)), (by first|rfl|(simp;done)|(simp[*];done)|(simp;cases a0_2.toList <;> rfl)), H', ⟨by have := HJ2.out; have := HJ8.out; first | omega | exact Nat.le_refl _⟩, ⟨by refine aW ?_; exact BK379.out⟩, ⟨by repeat (first | (with_reducible first | exact HB.out | apply below_alloc | apply pw_below_drewN | apply below_drew1 | refine below_set ?_ GE379.out) | exact HB.out)⟩⟩
       case rest =>
        clear HC17
        try clear c1
        try clear c2
        try clear p2
        try clear c5
        try clear c5b0
        try clear c5b1
        try clear c8
        try clear c10
        try clear c10b0
        try clear c10b1
        try clear c12
        try clear c16
        try clear c18
        try clear c18b0
        try clear c18b1
        try clear c19
        try clear c19b0
        try clear c21
        try clear c21b0
        try clear hcz13_0
        try clear hcz13_1
        try clear hcz13_2
        try clear hcz13_3
        try clear hcz14_0
        try clear hcz14_1
        try clear hcz14_2
        try clear hcz14_3
        try clear hcz15_0
        try clear hcz15_1
        try clear hcz15_2
        try clear hcz15_3
        try clear hcz20_0
        try clear hcz20_1
        try clear hcz20_2
        try clear hcz20_3
        try clear hcz22_0
        try clear hcz22_1
        try clear hcz22_2
        try clear hcz22_3
        try clear hcz23_0
        try clear hcz23_1
        try clear hcz23_2
        try clear hcz23_3
        try clear hcz24_0
        try clear hcz24_1
        try clear hcz24_2
        try clear hcz24_3
        try clear hcz7_0
        try clear hcz7_1
        try clear hcz7_2
        try clear hcz7_3
        try clear hfz13_0
        try clear hfz13_1
        try clear hfz13_2
        try clear hfz13_3
        try clear hfz14_0
        try clear hfz14_1
        try clear hfz14_2
        try clear hfz14_3
        try clear hfz15_0
        try clear hfz15_1
        try clear hfz15_2
        try clear hfz15_3
        try clear hfz20_0
        try clear hfz20_1
        try clear hfz20_2
        try clear hfz20_3
        try clear hfz22_0
        try clear hfz22_1
        try clear hfz22_2
        try clear hfz22_3
        try clear hfz23_0
        try clear hfz23_1
        try clear hfz23_2
        try clear hfz23_3
        try clear hfz24_0
        try clear hfz24_1
        try clear hfz24_2
        try clear hfz24_3
        try clear hfz7_0
        try clear hfz7_1
        try clear hfz7_2
        try clear hfz7_3
        try clear p2
        obtain ⟨kq, x58_16, rfl, HA, HJ16, BK379, HB⟩ := hcut
        cases kq with
        | zero => exact absurd HA.out (by simp [spec_l1Is.j2])
        | succ kj16 =>
         have H := HA.out
         clear HA
         simp only [spec_l1Is.j2] at H
         by_cases c25 : x58_16 = true
         ·subst c25
          have H1 : (some false) = some r := by rw [if_pos rfl] at H; exact H
          clear H
          have H := H1
          clear H1
          obtain rfl := Option.some.inj H
          go_wp2
          repeat (go_quiet (fail); try go_wp2)
          go_ret
          exact ⟨by first | rfl | (simp [errW_none, errW_some] <;> rfl) | (simp [*, errW_none, errW_some] <;> rfl), by repeat (first | (with_reducible first | exact HB.out | apply below_alloc | apply pw_below_drewN | apply below_drew1 | refine below_set ?_ GE379.out) | exact HB.out)⟩
         ·replace c25 := Bool.eq_false_iff.mpr c25
          subst c25
          have H1 : (spec_l1Is.l0 kj16 a1 0 a0_0 a0_1 a0_2 l0_3) = some r := by rw [if_neg (show ¬ (false = true) by decide)] at H; exact H
          clear H
          have H := H1
          clear H1
          have H' := Aside0.mk H
          clear H
          go_wp2
          repeat (go_quiet (fail); try go_wp2)
          go_loopg [5] kj16 (fun kq v5 w' => ∃ (x5_4 : Int), v5 = .int .i64 x5_4 ∧ Aside0 (spec_l1Is.l0 kq a1 x5_4 a0_0 a0_1 a0_2 l0_3 = some r) ∧ Aside0 (kq ≤ kj16) ∧ Aside0 (w'.heap[gb379]? = some (.cells #[.int .i64 a0_0, .int .i64 a0_1, .string a0_2, (.slice A0_3 l0_3.length c0_3)] 91 (0, 0))) ∧ Aside0 (Below w.heap.size w w'))
          case atStart => exact ⟨(0), aR, H', ⟨Nat.le_refl _⟩, ⟨by refine aW ?_; exact BK379.out⟩, ⟨by repeat (first | (with_reducible first | exact HB.out | apply below_alloc | apply pw_below_drewN | apply below_drew1 | refine below_set ?_ GE379.out) | exact HB.out)⟩⟩
          case round =>
           clear H'
           try clear c1
           try clear c2
           try clear p2
           try clear c5
           try clear c5b0
           try clear c5b1
           try clear c8
           try clear c10
           try clear c10b0
           try clear c10b1
           try clear c12
           try clear c16
           try clear c18
           try clear c18b0
           try clear c18b1
           try clear c19
           try clear c19b0
           try clear c21
           try clear c21b0
           try clear c25
           try clear hcz13_0
           try clear hcz13_1
           try clear hcz13_2
           try clear hcz13_3
           try clear hcz14_0
           try clear hcz14_1
           try clear hcz14_2
           try clear hcz14_3
           try clear hcz15_0
           try clear hcz15_1
           try clear hcz15_2
           try clear hcz15_3
           try clear hcz20_0
           try clear hcz20_1
           try clear hcz20_2
           try clear hcz20_3
           try clear hcz22_0
           try clear hcz22_1
           try clear hcz22_2
           try clear hcz22_3
           try clear hcz23_0
           try clear hcz23_1
           try clear hcz23_2
           try clear hcz23_3
           try clear hcz24_0
           try clear hcz24_1
           try clear hcz24_2
           try clear hcz24_3
           try clear hcz7_0
           try clear hcz7_1
           try clear hcz7_2
           try clear hcz7_3
           try clear hfz13_0
           try clear hfz13_1
           try clear hfz13_2
           try clear hfz13_3
           try clear hfz14_0
           try clear hfz14_1
           try clear hfz14_2
           try clear hfz14_3
           try clear hfz15_0
           try clear hfz15_1
           try clear hfz15_2
           try clear hfz15_3
           try clear hfz20_0
           try clear hfz20_1
           try clear hfz20_2
           try clear hfz20_3
           try clear hfz22_0
           try clear hfz22_1
           try clear hfz22_2
           try clear hfz22_3
           try clear hfz23_0
           try clear hfz23_1
           try clear hfz23_2
           try clear hfz23_3
           try clear hfz24_0
           try clear hfz24_1
           try clear hfz24_2
           try clear hfz24_3
           try clear hfz7_0
           try clear hfz7_1
           try clear hfz7_2
           try clear hfz7_3
           try clear p2
           obtain ⟨x5_4, rfl, HA, HK4, BK379, HB⟩ := hrel
           cases gk with
           | zero => exact absurd HA.out (by simp [spec_l1Is.l0])
           | succ k4 =>
            have H := HA.out
            clear HA
            simp only [spec_l1Is.l0] at H
            by_cases c26 : x5_4 < (l0_3.length : Int)
            ·rw [if_pos c26] at H
             have c26b0 : decide (x5_4 < (l0_3.length : Int)) = true := decide_eq_true c26
             clear c26
             by_cases c27 : 0 ≤ x5_4
             ·rw [if_pos c27] at H
              have c27b0 : decide (0 ≤ x5_4) = true := decide_eq_true c27
              clear c27
              replace H := Option.bind_eq_some_iff.mp H
              obtain ⟨t383, A280, H⟩ := H
              replace H : (if t383 = true then (spec_l1Is.l0 k4 a1 (wrap64 (x5_4 + 1)) a0_0 a0_1 a0_2 l0_3) else (some false)) = some r := H
              have A28 := Aside0.mk A280
              clear A280
              by_cases c29 : t383 = true
              ·subst c29
               have H1 : (spec_l1Is.l0 k4 a1 (wrap64 (x5_4 + 1)) a0_0 a0_1 a0_2 l0_3) = some r := by rw [if_pos rfl] at H; exact H
               clear H
               have H := H1
               clear H1
               have H' := Aside0.mk H
               clear H
               have hcz30_0 : wr.cell? ⟨gb379, 0, none⟩ = some (.int .i64 a0_0) := (blk_cell BK379.out 0).trans rfl
               have hcz30_1 : wr.cell? ⟨gb379, 1, none⟩ = some (.int .i64 a0_1) := (blk_cell BK379.out 1).trans rfl
               have hcz30_2 : wr.cell? ⟨gb379, 2, none⟩ = some (.string a0_2) := (blk_cell BK379.out 2).trans rfl
               have hcz30_3 : wr.cell? ⟨gb379, 3, none⟩ = some (.slice A0_3 l0_3.length c0_3) := (blk_cell BK379.out 3).trans rfl
               have hfz30_0 := blk_frozen BK379.out 0
               have hfz30_1 := blk_frozen BK379.out 1
               have hfz30_2 := blk_frozen BK379.out 2
               have hfz30_3 := blk_frozen BK379.out 3
               have p382 : 0 ≤ (x5_4 : Int) := of_decide_eq_true aQ
               have q382 : x5_4 < (l0_3.length : Int) := of_decide_eq_true aQ
               obtain ⟨ad382, A382_3, c382_3, e382, hx382_0, hx382_1, hx382_2, hx382_3, hl382_3, hi382_3⟩ := at_T91 HR0_3.out x5_4 p382 q382
               cases e382
               replace hx382_0 := (HB.out.cell (World.block_lt_of_cell? w _ hx382_0)).trans hx382_0
               replace hx382_1 := (HB.out.cell (World.block_lt_of_cell? w _ hx382_1)).trans hx382_1
               replace hx382_2 := (HB.out.cell (World.block_lt_of_cell? w _ hx382_2)).trans hx382_2
               replace hx382_3 := (HB.out.cell (World.block_lt_of_cell? w _ hx382_3)).trans hx382_3
               have HR382_3 := Aside0.mk hi382_3
               have HC382_3 := Aside0.mk hl382_3
               clear hi382_3 hl382_3
               replace p382 := eq_true p382
               replace q382 := eq_true q382
               go_wp2_with (first | (go_at_call 106; (with_reducible refine (ih k4 (by have := HJ2.out; have := HJ8.out; have := HJ16.out; have := HK4.out; omega) ((rd_T91 l0_3 x5_4).f0) ((rd_T91 l0_3 x5_4).f1) ((rd_T91 l0_3 x5_4).f2) _ _ ((rd_T91 l0_3 x5_4).f3) (wrap64 (a1 - 1)) true _ ?side1 ?side2 A28.out).mono ?_); (case side1 => repeat (first | exact (Kd.C_below HR382_3.out HB.out) | (with_reducible refine Kd.C_alloc ?_ _) | (with_reducible refine Kd.C_drewN ?_ _) | (with_reducible refine Kd.C_drew ?_))); (case side2 => exact HC382_3.out); rintro e w31 ⟨rfl, hb⟩; have n0_ := Aside0.mk (blk_below (g := gb379) (o := .cells #[.int .i64 a0_0, .int .i64 a0_1, .string a0_2, .slice (some ad382) l0_3.length c0_3] 91 (0, 0)) (aW BK379.out) hb); have n1_ := Aside0.mk (below_step (aB1 GE379.out) hb); clear BK379; clear HB; have BK379 := n0_; have HB := n1_; clear n0_ n1_; (try clear hb); (try clear hb2); (try clear hk); (try clear hi)))
               repeat (go_quiet (first | (go_at_call 106; (with_reducible refine (ih k4 (by have := HJ2.out; have := HJ8.out; have := HJ16.out; have := HK4.out; omega) ((rd_T91 l0_3 x5_4).f0) ((rd_T91 l0_3 x5_4).f1) ((rd_T91 l0_3 x5_4).f2) _ _ ((rd_T91 l0_3 x5_4).f3) (wrap64 (a1 - 1)) true _ ?side1 ?side2 A28.out).mono ?_); (case side1 => repeat (first | exact (Kd.C_below HR382_3.out HB.out) | (with_reducible refine Kd.C_alloc ?_ _) | (with_reducible refine Kd.C_drewN ?_ _) | (with_reducible refine Kd.C_drew ?_))); (case side2 => exact HC382_3.out); rintro e w31 ⟨rfl, hb⟩; have n0_ := Aside0.mk (blk_below (g := gb379) (o := .cells #[.int .i64 a0_0, .int .i64 a0_1, .string a0_2, .slice (some ad382) l0_3.length c0_3] 91 (0, 0)) (aW BK379.out) hb); have n1_ := Aside0.mk (below_step (aB1 GE379.out) hb); clear BK379; clear HB; have BK379 := n0_; have HB := n1_; clear n0_ n1_; (try clear hb); (try clear hb2); (try clear hk); (try clear hi))); try go_wp2_with (first | (go_at_call 106; (with_reducible refine (ih k4 (by have := HJ2.out; have := HJ8.out; have := HJ16.out; have := HK4.out; omega) ((rd_T91 l0_3 x5_4).f0) ((rd_T91 l0_3 x5_4).f1) ((rd_T91 l0_3 x5_4).f2) _ _ ((rd_T91 l0_3 x5_4).f3) (wrap64 (a1 - 1)) true _ ?side1 ?side2 A28.out).mono ?_); (case side1 => repeat (first | exact (Kd.C_below HR382_3.out HB.out) | (with_reducible refine Kd.C_alloc ?_ _) | (with_reducible refine Kd.C_drewN ?_ _) | (with_reducible refine Kd.C_drew ?_))); (case side2 => exact HC382_3.out); rintro e w31 ⟨rfl, hb⟩; have n0_ := Aside0.mk (blk_below (g := gb379) (o := .cells #[.int .i64 a0_0, .int .i64 a0_1, .string a0_2, .slice (some ad382) l0_3.length c0_3] 91 (0, 0)) (aW BK379.out) hb); have n1_ := Aside0.mk (below_step (aB1 GE379.out) hb); clear BK379; clear HB; have BK379 := n0_; have HB := n1_; clear n0_ n1_; (try clear hb); (try clear hb2); (try clear hk); (try clear hi))))
               go_roundg k4
               case measure => have := HJ2.out; have := HJ8.out; have := HJ16.out; have := HK4.out; omega
               case rel => exact ⟨(wrap64 (x5_4 + 1)), (by first|rfl|(simp;done)|(simp[*];done)|(simp;cases a0_2.toList <;> rfl)), H', ⟨by have := HJ2.out; have := HJ8.out; have := HJ16.out; have := HK4.out; omega⟩, ⟨by refine aW ?_; exact BK379.out⟩, ⟨by repeat (first | (with_reducible first | exact HB.out | apply below_alloc | apply pw_below_drewN | apply below_drew1 | refine below_set ?_ GE379.out) | exact HB.out)⟩⟩
              ·replace c29 := Bool.eq_false_iff.mpr c29
               subst c29
               have H1 : (some false) = some r := by rw [if_neg (show ¬ (false = true) by decide)] at H; exact H
               clear H
               have H := H1
               clear H1
               obtain rfl := Option.some.inj H
               have hcz32_0 : wr.cell? ⟨gb379, 0, none⟩ = some (.int .i64 a0_0) := (blk_cell BK379.out 0).trans rfl
               have hcz32_1 : wr.cell? ⟨gb379, 1, none⟩ = some (.int .i64 a0_1) := (blk_cell BK379.out 1).trans rfl
               have hcz32_2 : wr.cell? ⟨gb379, 2, none⟩ = some (.string a0_2) := (blk_cell BK379.out 2).trans rfl
               have hcz32_3 : wr.cell? ⟨gb379, 3, none⟩ = some (.slice A0_3 l0_3.length c0_3) := (blk_cell BK379.out 3).trans rfl
               have hfz32_0 := blk_frozen BK379.out 0
               have hfz32_1 := blk_frozen BK379.out 1
               have hfz32_2 := blk_frozen BK379.out 2
               have hfz32_3 := blk_frozen BK379.out 3
               have p382 : 0 ≤ (x5_4 : Int) := of_decide_eq_true aQ
               have q382 : x5_4 < (l0_3.length : Int) := of_decide_eq_true aQ
               obtain ⟨ad382, A382_3, c382_3, e382, hx382_0, hx382_1, hx382_2, hx382_3, hl382_3, hi382_3⟩ := at_T91 HR0_3.out x5_4 p382 q382
               cases e382
               replace hx382_0 := (HB.out.cell (World.block_lt_of_cell? w _ hx382_0)).trans hx382_0
               replace hx382_1 := (HB.out.cell (World.block_lt_of_cell? w _ hx382_1)).trans hx382_1
               replace hx382_2 := (HB.out.cell (World.block_lt_of_cell? w _ hx382_2)).trans hx382_2
               replace hx382_3 := (HB.out.cell (World.block_lt_of_cell? w _ hx382_3)).trans hx382_3
               have HR382_3 := Aside0.mk hi382_3
               have HC382_3 := Aside0.mk hl382_3
               clear hi382_3 hl382_3
               replace p382 := eq_true p382
               replace q382 := eq_true q382
               go_wp2_with (first | (go_at_call 106; (with_reducible refine (ih k4 (by have := HJ2.out; have := HJ8.out; have := HJ16.out; have := HK4.out; omega) ((rd_T91 l0_3 x5_4).f0) ((rd_T91 l0_3 x5_4).f1) ((rd_T91 l0_3 x5_4).f2) _ _ ((rd_T91 l0_3 x5_4).f3) (wrap64 (a1 - 1)) false _ ?side1 ?side2 A28.out).mono ?_); (case side1 => repeat (first | exact (Kd.C_below HR382_3.out HB.out) | (with_reducible refine Kd.C_alloc ?_ _) | (with_reducible refine Kd.C_drewN ?_ _) | (with_reducible refine Kd.C_drew ?_))); (case side2 => exact HC382_3.out); rintro e w33 ⟨rfl, hb⟩; have n0_ := Aside0.mk (blk_below (g := gb379) (o := .cells #[.int .i64 a0_0, .int .i64 a0_1, .string a0_2, .slice (some ad382) l0_3.length c0_3] 91 (0, 0)) (aW BK379.out) hb); have n1_ := Aside0.mk (below_step (aB1 GE379.out) hb); clear BK379; clear HB; have BK379 := n0_; have HB := n1_; clear n0_ n1_; (try clear hb); (try clear hb2); (try clear hk); (try clear hi)))
               repeat (go_quiet (first | (go_at_call 106; (with_reducible refine (ih k4 (by have := HJ2.out; have := HJ8.out; have := HJ16.out; have := HK4.out; omega) ((rd_T91 l0_3 x5_4).f0) ((rd_T91 l0_3 x5_4).f1) ((rd_T91 l0_3 x5_4).f2) _ _ ((rd_T91 l0_3 x5_4).f3) (wrap64 (a1 - 1)) false _ ?side1 ?side2 A28.out).mono ?_); (case side1 => repeat (first | exact (Kd.C_below HR382_3.out HB.out) | (with_reducible refine Kd.C_alloc ?_ _) | (with_reducible refine Kd.C_drewN ?_ _) | (with_reducible refine Kd.C_drew ?_))); (case side2 => exact HC382_3.out); rintro e w33 ⟨rfl, hb⟩; have n0_ := Aside0.mk (blk_below (g := gb379) (o := .cells #[.int .i64 a0_0, .int .i64 a0_1, .string a0_2, .slice (some ad382) l0_3.length c0_3] 91 (0, 0)) (aW BK379.out) hb); have n1_ := Aside0.mk (below_step (aB1 GE379.out) hb); clear BK379; clear HB; have BK379 := n0_; have HB := n1_; clear n0_ n1_; (try clear hb); (try clear hb2); (try clear hk); (try clear hi))); try go_wp2_with (first | (go_at_call 106; (with_reducible refine (ih k4 (by have := HJ2.out; have := HJ8.out; have := HJ16.out; have := HK4.out; omega) ((rd_T91 l0_3 x5_4).f0) ((rd_T91 l0_3 x5_4).f1) ((rd_T91 l0_3 x5_4).f2) _ _ ((rd_T91 l0_3 x5_4).f3) (wrap64 (a1 - 1)) false _ ?side1 ?side2 A28.out).mono ?_); (case side1 => repeat (first | exact (Kd.C_below HR382_3.out HB.out) | (with_reducible refine Kd.C_alloc ?_ _) | (with_reducible refine Kd.C_drewN ?_ _) | (with_reducible refine Kd.C_drew ?_))); (case side2 => exact HC382_3.out); rintro e w33 ⟨rfl, hb⟩; have n0_ := Aside0.mk (blk_below (g := gb379) (o := .cells #[.int .i64 a0_0, .int .i64 a0_1, .string a0_2, .slice (some ad382) l0_3.length c0_3] 91 (0, 0)) (aW BK379.out) hb); have n1_ := Aside0.mk (below_step (aB1 GE379.out) hb); clear BK379; clear HB; have BK379 := n0_; have HB := n1_; clear n0_ n1_; (try clear hb); (try clear hb2); (try clear hk); (try clear hi))))
               go_ret
               exact ⟨by first | rfl | (simp [errW_none, errW_some] <;> rfl) | (simp [*, errW_none, errW_some] <;> rfl), by repeat (first | (with_reducible first | exact HB.out | apply below_alloc | apply pw_below_drewN | apply below_drew1 | refine below_set ?_ GE379.out) | exact HB.out)⟩
             ·rw [if_neg c27] at H
              exact absurd H (by simp)
            ·rw [if_neg c26] at H
             have c26b0 : decide (x5_4 < (l0_3.length : Int)) = false := decide_eq_false c26
             clear c26
             obtain rfl := Option.some.inj H
             have hcz34_0 : wr.cell? ⟨gb379, 0, none⟩ = some (.int .i64 a0_0) := (blk_cell BK379.out 0).trans rfl
             have hcz34_1 : wr.cell? ⟨gb379, 1, none⟩ = some (.int .i64 a0_1) := (blk_cell BK379.out 1).trans rfl
             have hcz34_2 : wr.cell? ⟨gb379, 2, none⟩ = some (.string a0_2) := (blk_cell BK379.out 2).trans rfl
             have hcz34_3 : wr.cell? ⟨gb379, 3, none⟩ = some (.slice A0_3 l0_3.length c0_3) := (blk_cell BK379.out 3).trans rfl
             have hfz34_0 := blk_frozen BK379.out 0
             have hfz34_1 := blk_frozen BK379.out 1
             have hfz34_2 := blk_frozen BK379.out 2
             have hfz34_3 := blk_frozen BK379.out 3
             go_wp2
             repeat (go_quiet (fail); try go_wp2)
             go_ret
             exact ⟨by first | rfl | (simp [errW_none, errW_some] <;> rfl) | (simp [*, errW_none, errW_some] <;> rfl), by repeat (first | (with_reducible first | exact HB.out | apply below_alloc | apply pw_below_drewN | apply below_drew1 | refine below_set ?_ GE379.out) | exact HB.out)⟩

end Go.Proofs.Ytkcpimhohadjkaa.PPb
