-- Written by a program of this session (xprint). -- COMPACT
import Derived.Test.YtkcpimhohadjkaaPPbx0
import Derived.Test.YtkcpimhohadjkaaPPbx9
import Derived.Test.YtkcpimhohadjkaaPPbx10
namespace Go.Proofs.Ytkcpimhohadjkaa.PPb
open Go.RowKit Go.Proofs.YtkcpimhohadjkaaW.PrintWords Go.Proofs.YtkcpimhohadjkaaW.PrintLast Go.Proofs.YtkcpimhohadjkaaW.PrintMore
attribute [local go_sem] max2_int min2_int max_two min_two max_three min_three max_four min_four   -- for this text's walks alone
set_option linter.unusedVariables false
set_option linter.unusedSimpArgs false

/-! ### spec_DocValid: function 100 -/
def spec_DocValid.f (k : Nat) (a0_0 : Int) (a0_1 : Int) (a0_2 : ByteArray) (l0_3 : List (S91)) : Option (Bool) := (spec_l1Is.f k a0_0 a0_1 a0_2 l0_3 40).bind fun t385 => (if t385 = true then ((spec_l1Count.f k a0_0 a0_1 a0_2 l0_3).bind fun t386 => (some (decide (t386 ≤ 80)))) else (some false))
set_option maxHeartbeats 8000000 in
set_option maxRecDepth 100000 in
theorem spec_DocValid.calls (k : Nat) (a0_0 : Int) (a0_1 : Int) (a0_2 : ByteArray) (A0_3 : Option Addr) (c0_3 : Nat) (l0_3 : List (S91)) (r : Bool) (w : World) (hr0_3 : Kd.C k91 w A0_3 l0_3.length l0_3) (hc0_3 : l0_3.length ≤ c0_3) (h : spec_DocValid.f k a0_0 a0_1 a0_2 l0_3 = some r) :
  Calls Try.prog 100 #[.agg #[.int .i64 a0_0, .int .i64 a0_1, .string a0_2, .slice A0_3 l0_3.length c0_3]] w fun e w' => e = .returned (.bool r) ∧ Below w.heap.size w w' := by
 have hu91 := Try.underlying91
 have HR0_3 := Aside0.mk hr0_3
 have HC0_3 := Aside0.mk hc0_3
 clear hr0_3 hc0_3
 have HB := Aside0.mk (Below.refl w.heap.size w)
 have H : ((spec_l1Is.f k a0_0 a0_1 a0_2 l0_3 40).bind fun t385 => (if t385 = true then ((spec_l1Count.f k a0_0 a0_1 a0_2 l0_3).bind fun t386 => (some (decide (t386 ≤ 80)))) else (some false))) = some r := h
 clear h
 replace H := Option.bind_eq_some_iff.mp H
 obtain ⟨t385, A20, H⟩ := H
 replace H : (if t385 = true then ((spec_l1Count.f k a0_0 a0_1 a0_2 l0_3).bind fun t386 => (some (decide (t386 ≤ 80)))) else (some false)) = some r := H
 have A2 := Aside0.mk A20
 clear A20
 by_cases c3 : t385 = true
 ·subst c3
  have H1 : ((spec_l1Count.f k a0_0 a0_1 a0_2 l0_3).bind fun t386 => (some (decide (t386 ≤ 80)))) = some r := by rw [if_pos rfl] at H; exact H
  clear H
  have H := H1
  clear H1
  replace H := Option.bind_eq_some_iff.mp H
  obtain ⟨t386, A40, H⟩ := H
  replace H : (some (decide (t386 ≤ 80))) = some r := H
  have A4 := Aside0.mk A40
  clear A40
  obtain rfl := Option.some.inj H
  go_enter Try.func100, Try.ntmps100
  go_wp2_with (first | ((with_reducible refine gate_dst (N := 1) rfl ?_); refine box_event ?hg (N := 1) ?hd (cs := #[.int .i64 a0_0, .int .i64 a0_1, .string a0_2, .slice A0_3 l0_3.length c0_3]) (t := 91) ?hr ?_; (case hd => rfl); (case hg => rfl); (case hr => first | (go_simp; done) | (go_simp; rfl)); intro gb384 hg w5 hbox hb; have n0_ := Aside0.mk (below_step aB hb); have n1_ := Aside0.mk (hbox); have n2_ := Aside0.mk ((by rw [hg]; exact (below_size aB) : w.heap.size ≤ gb384)); have n3_ := Aside0.mk ((by rw [hg]; exact (below_size aB) : w.heap.size ≤ gb384)); clear HB; have HB := n0_; have BK384 := n1_; have GW384 := n2_; have GE384 := n3_; clear n0_ n1_ n2_ n3_; clear hb hbox hg; have hcz6_0 : w5.cell? ⟨gb384, 0, none⟩ = some (.int .i64 a0_0) := (blk_cell BK384.out 0).trans rfl; have hcz6_1 : w5.cell? ⟨gb384, 1, none⟩ = some (.int .i64 a0_1) := (blk_cell BK384.out 1).trans rfl; have hcz6_2 : w5.cell? ⟨gb384, 2, none⟩ = some (.string a0_2) := (blk_cell BK384.out 2).trans rfl; have hcz6_3 : w5.cell? ⟨gb384, 3, none⟩ = some (.slice A0_3 l0_3.length c0_3) := (blk_cell BK384.out 3).trans rfl; have hfz6_0 := blk_frozen BK384.out 0; have hfz6_1 := blk_frozen BK384.out 1; have hfz6_2 := blk_frozen BK384.out 2; have hfz6_3 := blk_frozen BK384.out 3) | ((with_reducible refine gate_callee (f := 106) rfl ?_); refine goesL_ (some 4) rfl rfl Try.func106 aK rfl #[.agg #[.int .i64 a0_0, .int .i64 a0_1, .string a0_2, .slice A0_3 l0_3.length c0_3], .int .i64 40] rfl aL ?_; (with_reducible refine (spec_l1Is.calls k a0_0 a0_1 a0_2 _ _ l0_3 40 true _ ?side1 ?side2 A2.out).mono ?_); (case side1 => repeat (first | exact (Kd.C_below HR0_3.out HB.out) | (with_reducible refine Kd.C_alloc ?_ _) | (with_reducible refine Kd.C_drewN ?_ _) | (with_reducible refine Kd.C_drew ?_))); (case side2 => exact HC0_3.out); rintro e w7 ⟨rfl, hb⟩; refine ⟨_, rfl, ?_⟩; have n0_ := Aside0.mk (blk_below (g := gb384) (o := .cells #[.int .i64 a0_0, .int .i64 a0_1, .string a0_2, .slice A0_3 l0_3.length c0_3] 91 (0, 0)) (aW BK384.out) hb); have n1_ := Aside0.mk (below_step (aB1 GE384.out) hb); clear BK384; clear HB; have BK384 := n0_; have HB := n1_; clear n0_ n1_; (try clear hb); (try clear hb2); (try clear hk); (try clear hi); have hcz8_0 : w7.cell? ⟨gb384, 0, none⟩ = some (.int .i64 a0_0) := (blk_cell BK384.out 0).trans rfl; have hcz8_1 : w7.cell? ⟨gb384, 1, none⟩ = some (.int .i64 a0_1) := (blk_cell BK384.out 1).trans rfl; have hcz8_2 : w7.cell? ⟨gb384, 2, none⟩ = some (.string a0_2) := (blk_cell BK384.out 2).trans rfl; have hcz8_3 : w7.cell? ⟨gb384, 3, none⟩ = some (.slice A0_3 l0_3.length c0_3) := (blk_cell BK384.out 3).trans rfl; have hfz8_0 := blk_frozen BK384.out 0; have hfz8_1 := blk_frozen BK384.out 1; have hfz8_2 := blk_frozen BK384.out 2; have hfz8_3 := blk_frozen BK384.out 3) | (go_at_call 101; (with_reducible refine (spec_l1Count.calls k a0_0 a0_1 a0_2 _ _ l0_3 t386 _ ?side1 ?side2 A4.out).mono ?_); (case side1 => repeat (first | exact (Kd.C_below HR0_3.out HB.out) | (with_reducible refine Kd.C_alloc ?_ _) | (with_reducible refine Kd.C_drewN ?_ _) | (with_reducible refine Kd.C_drew ?_))); (case side2 => exact HC0_3.out); rintro e w9 ⟨rfl, hb⟩; have n0_ := Aside0.mk (blk_below (g := gb384) (o := .cells #[.int .i64 a0_0, .int .i64 a0_1, .string a0_2, .slice A0_3 l0_3.length c0_3] 91 (0, 0)) (aW BK384.out) hb); have n1_ := Aside0.mk (below_step (aB1 GE384.out) hb); clear BK384; clear HB; have BK384 := n0_; have HB := n1_; clear n0_ n1_; (try clear hb); (try clear hb2); (try clear hk); (try clear hi)))
  go_ret
  exact ⟨by first | rfl | (simp [errW_none, errW_some] <;> rfl) | (simp [*, errW_none, errW_some] <;> rfl), by repeat (first | (with_reducible first | exact HB.out | apply below_alloc | apply pw_below_drewN | apply below_drew1 | refine below_set ?_ GE384.out) | exact HB.out)⟩
 ·replace c3 := Bool.eq_false_iff.mpr c3
  subst c3
  have H1 : (some false) = some r := by rw [if_neg (show ¬ (false = true) by decide)] at H; exact H
  clear H
  have H := H1
  clear H1
  obtain rfl := Option.some.inj H
  go_enter Try.func100, Try.ntmps100
  go_wp2_with (first | ((with_reducible refine gate_dst (N := 1) rfl ?_); refine box_event ?hg (N := 1) ?hd (cs := #[.int .i64 a0_0, .int .i64 a0_1, .string a0_2, .slice A0_3 l0_3.length c0_3]) (t := 91) ?hr ?_; (case hd => rfl); (case hg => rfl); (case hr => first | (go_simp; done) | (go_simp; rfl)); intro gb384 hg w10 hbox hb; have n0_ := Aside0.mk (below_step aB hb); have n1_ := Aside0.mk (hbox); have n2_ := Aside0.mk ((by rw [hg]; exact (below_size aB) : w.heap.size ≤ gb384)); have n3_ := Aside0.mk ((by rw [hg]; exact (below_size aB) : w.heap.size ≤ gb384)); clear HB; have HB := n0_; have BK384 := n1_; have GW384 := n2_; have GE384 := n3_; clear n0_ n1_ n2_ n3_; clear hb hbox hg; have hcz11_0 : w10.cell? ⟨gb384, 0, none⟩ = some (.int .i64 a0_0) := (blk_cell BK384.out 0).trans rfl; have hcz11_1 : w10.cell? ⟨gb384, 1, none⟩ = some (.int .i64 a0_1) := (blk_cell BK384.out 1).trans rfl; have hcz11_2 : w10.cell? ⟨gb384, 2, none⟩ = some (.string a0_2) := (blk_cell BK384.out 2).trans rfl; have hcz11_3 : w10.cell? ⟨gb384, 3, none⟩ = some (.slice A0_3 l0_3.length c0_3) := (blk_cell BK384.out 3).trans rfl; have hfz11_0 := blk_frozen BK384.out 0; have hfz11_1 := blk_frozen BK384.out 1; have hfz11_2 := blk_frozen BK384.out 2; have hfz11_3 := blk_frozen BK384.out 3) | ((with_reducible refine gate_callee (f := 106) rfl ?_); refine goesL_ (some 4) rfl rfl Try.func106 aK rfl #[.agg #[.int .i64 a0_0, .int .i64 a0_1, .string a0_2, .slice A0_3 l0_3.length c0_3], .int .i64 40] rfl aL ?_; (with_reducible refine (spec_l1Is.calls k a0_0 a0_1 a0_2 _ _ l0_3 40 false _ ?side1 ?side2 A2.out).mono ?_); (case side1 => repeat (first | exact (Kd.C_below HR0_3.out HB.out) | (with_reducible refine Kd.C_alloc ?_ _) | (with_reducible refine Kd.C_drewN ?_ _) | (with_reducible refine Kd.C_drew ?_))); (case side2 => exact HC0_3.out); rintro e w12 ⟨rfl, hb⟩; refine ⟨_, rfl, ?_⟩; have n0_ := Aside0.mk (blk_below (g := gb384) (o := .cells #[.int .i64 a0_0, .int .i64 a0_1, .string a0_2, .slice A0_3 l0_3.length c0_3] 91 (0, 0)) (aW BK384.out) hb); have n1_ := Aside0.mk (below_step (aB1 GE384.out) hb); clear BK384; clear HB; have BK384 := n0_; have HB := n1_; clear n0_ n1_; (try clear hb); (try clear hb2); (try clear hk); (try clear hi)))
  go_ret
  exact ⟨by first | rfl | (simp [errW_none, errW_some] <;> rfl) | (simp [*, errW_none, errW_some] <;> rfl), by repeat (first | (with_reducible first | exact HB.out | apply below_alloc | apply pw_below_drewN | apply below_drew1 | refine below_set ?_ GE384.out) | exact HB.out)⟩

/-! ### spec_l1Word: function 108 -/
def spec_l1Word.l0 : Nat → ByteArray → Int → Int → Option (Int × Int × ByteArray × (List (S91)) × Int)
 | 0, _, _, _ => none
 | k + 1, x0, x1, x6 => if x6 < (x0.size : Int) then (if 0 ≤ x6 then (if (bt x0 x6) = 34 then (if x6 ≥ (x0.size : Int) then (some (0, 0, (⟨#[]⟩ : ByteArray), ([] : List (S91)), (-1))) else (if 0 ≤ (wrap64 (x1 + 1)) then (if (wrap64 (x1 + 1)) ≤ x6 then (if x6 ≤ (x0.size : Int) then (some (2, 0, x0.extract ((wrap64 (x1 + 1)) : Int).toNat (x6 : Int).toNat, ([] : List (S91)), wrap64 (x6 + 1))) else (none)) else (none)) else (none))) else (spec_l1Word.l0 k x0 x1 (wrap64 (x6 + 1)))) else (none)) else (if x6 ≥ (x0.size : Int) then (some (0, 0, (⟨#[]⟩ : ByteArray), ([] : List (S91)), (-1))) else (if 0 ≤ (wrap64 (x1 + 1)) then (if (wrap64 (x1 + 1)) ≤ x6 then (if x6 ≤ (x0.size : Int) then (some (2, 0, x0.extract ((wrap64 (x1 + 1)) : Int).toNat (x6 : Int).toNat, ([] : List (S91)), wrap64 (x6 + 1))) else (none)) else (none)) else (none)))
def spec_l1Word.f (k : Nat) (a0 : ByteArray) (a1 : Int) : Option (Int × Int × ByteArray × (List (S91)) × Int) := spec_l1Word.l0 k a0 a1 (wrap64 (a1 + 1))
set_option maxHeartbeats 8000000 in
set_option maxRecDepth 100000 in
theorem spec_l1Word.calls (k : Nat) (a0 : ByteArray) (a1 : Int) (r1 : Int) (r2 : Int) (r3 : ByteArray) (r4 : List (S91)) (r5 : Int) (w : World) (h : spec_l1Word.f k a0 a1 = some (r1, r2, r3, r4, r5)) :
  Calls Try.prog 108 #[.string a0, .int .i64 a1] w fun e w' => ∃ v3_ : Value, e = .returned (.tuple #[.agg #[.int .i64 r1, .int .i64 r2, .string r3, v3_], .int .i64 r5]) ∧ Kd.R k91 91 w' w.heap.size (fun _ => True) v3_ r4 ∧ Below w.heap.size w w' := by
 have hu91 := Try.underlying91
 have HB := Aside0.mk (Below.refl w.heap.size w)
 have H : (spec_l1Word.l0 k a0 a1 (wrap64 (a1 + 1))) = some (r1, r2, r3, r4, r5) := h
 clear h
 have H' := Aside0.mk H
 clear H
 go_enter Try.func108, Try.ntmps108
 go_wp2_with (first | ((with_reducible refine gate_dst (N := 4) rfl ?_); refine box_event ?hg (N := 4) ?hd (cs := #[.int .i64 0, .int .i64 0, .string (⟨#[]⟩ : ByteArray), .slice none 0 0]) (t := 91) ?hr ?_; (case hd => rfl); (case hg => rfl); (case hr => first | (go_simp; done) | (go_simp; rfl)); intro gb387 hg w3 hbox hb; have n0_ := Aside0.mk (below_step aB hb); have n1_ := Aside0.mk (hbox); have n2_ := Aside0.mk ((by rw [hg]; exact (below_size aB) : w.heap.size ≤ gb387)); have n3_ := Aside0.mk ((by rw [hg]; exact (below_size aB) : w.heap.size ≤ gb387)); clear HB; have HB := n0_; have BK387 := n1_; have GW387 := n2_; have GE387 := n3_; clear n0_ n1_ n2_ n3_; clear hb hbox hg))
 go_loopg [6] k (fun kq v6 w' => ∃ (x6_1 : Int), v6 = .int .i64 x6_1 ∧ Aside0 (spec_l1Word.l0 kq a0 a1 x6_1 = some (r1, r2, r3, r4, r5)) ∧ Aside0 (kq ≤ k) ∧ Aside0 (w'.heap[gb387]? = some (.cells #[.int .i64 0, .int .i64 0, .string (⟨#[]⟩ : ByteArray), (.slice none 0 0)] 91 (0, 0))) ∧ Aside0 (Below w.heap.size w w'))
 case atStart => exact ⟨(wrap64 (a1 + 1)), aR, H', ⟨Nat.le_refl _⟩, ⟨by refine aW ?_; exact BK387.out⟩, ⟨by repeat (first | (with_reducible first | exact HB.out | apply below_alloc | apply pw_below_drewN | apply below_drew1 | refine below_set ?_ GE387.out) | exact HB.out)⟩⟩
 case round =>
  clear H'
  try clear c1
  try clear p2
  obtain ⟨x6_1, rfl, HA, HK1, BK387, HB⟩ := hrel
  cases gk with
  | zero => exact absurd HA.out (by simp [spec_l1Word.l0])
  | succ k1 =>
   have H := HA.out
   clear HA
   simp only [spec_l1Word.l0] at H
   by_cases c4 : x6_1 < (a0.size : Int)
   ·rw [if_pos c4] at H
    have c4b0 : decide (x6_1 < (a0.size : Int)) = true := decide_eq_true c4
    clear c4
    by_cases c5 : 0 ≤ x6_1
    ·rw [if_pos c5] at H
     have c5b0 : decide (0 ≤ x6_1) = true := decide_eq_true c5
     clear c5
     by_cases c7 : (bt a0 x6_1) = 34
     ·rw [if_pos c7] at H
      have c7b0 : ((bt a0 x6_1) == 34) = true := beq_iff_eq.mpr c7
      have c7b1 : ((bt a0 x6_1) != 34) = false := bne_eq_false_iff_eq.mpr c7
      clear c7
      by_cases c8 : x6_1 ≥ (a0.size : Int)
      ·rw [if_pos c8] at H
       have c8b0 : decide ((a0.size : Int) ≤ x6_1) = true := decide_eq_true c8
       clear c8
       simp only [Option.some.injEq, Prod.mk.injEq] at H
       obtain ⟨rfl, rfl, rfl, rfl, rfl⟩ := H
       have p6 : 0 ≤ (x6_1 : Int) := of_decide_eq_true aQ
       have q6 : x6_1 < (a0.size : Int) := of_decide_eq_true aQ
       have hx6 := bt_at a0 x6_1
       replace p6 := eq_true p6
       replace q6 := eq_true q6
       have hcz9_0 : wr.cell? ⟨gb387, 0, none⟩ = some (.int .i64 0) := (blk_cell BK387.out 0).trans rfl
       have hcz9_1 : wr.cell? ⟨gb387, 1, none⟩ = some (.int .i64 0) := (blk_cell BK387.out 1).trans rfl
       have hcz9_2 : wr.cell? ⟨gb387, 2, none⟩ = some (.string (⟨#[]⟩ : ByteArray)) := (blk_cell BK387.out 2).trans rfl
       have hcz9_3 : wr.cell? ⟨gb387, 3, none⟩ = some (.slice none 0 0) := (blk_cell BK387.out 3).trans rfl
       have hfz9_0 := blk_frozen BK387.out 0
       have hfz9_1 := blk_frozen BK387.out 1
       have hfz9_2 := blk_frozen BK387.out 2
       have hfz9_3 := blk_frozen BK387.out 3
       go_wp2
       refine bodyPost_ret (results_ct rfl _ _ gb387 91 #[.int .i64 0, .int .i64 0, .string (⟨#[]⟩ : ByteArray), .slice none 0 0] (0, 0) _ rfl (by refine aW ?_; refine blk_put (cs := #[.int .i64 0, .int .i64 0, .string (⟨#[]⟩ : ByteArray), .slice none 0 0]) ?_ 3 _ rfl; refine aW ?_; refine blk_put (cs := #[.int .i64 0, .int .i64 0, .string (⟨#[]⟩ : ByteArray), .slice none 0 0]) ?_ 2 _ rfl; refine aW ?_; refine blk_put (cs := #[.int .i64 0, .int .i64 0, .string (⟨#[]⟩ : ByteArray), .slice none 0 0]) ?_ 1 _ rfl; refine aW ?_; refine blk_put (cs := #[.int .i64 0, .int .i64 0, .string (⟨#[]⟩ : ByteArray), .slice none 0 0]) ?_ 0 _ rfl; refine aW ?_; exact BK387.out) Try.underlying91 rfl aK) rfl ?_
       exact ⟨_, by first | rfl | (simp [errW_none, errW_some] <;> rfl) | (simp [*, errW_none, errW_some] <;> rfl), by first | exact Kd.R_nil _ _ _ _ _ | exact Kd.N_nil _ _ _ _ _ | exact Kd.V_nil _ _ _ _ _ | exact Kd.Q_nil _ _ _ _ _ | exact Kd.S_nil _ _ _ _ _, by repeat (first | (with_reducible first | exact HB.out | apply below_alloc | apply pw_below_drewN | apply below_drew1 | refine below_set ?_ GE387.out) | exact HB.out)⟩
      ·rw [if_neg c8] at H
       have c8b0 : decide ((a0.size : Int) ≤ x6_1) = false := decide_eq_false c8
       clear c8
       obtain ⟨ji10, hji10⟩ : ∃ j_ : Int, (wrap64 (a1 + 1)) = j_ := ⟨_, rfl⟩
       replace H : (if 0 ≤ (ji10) then (if (ji10) ≤ x6_1 then (if x6_1 ≤ (a0.size : Int) then (some (2, 0, a0.extract ((ji10) : Int).toNat (x6_1 : Int).toNat, ([] : List (S91)), wrap64 (x6_1 + 1))) else (none)) else (none)) else (none)) = some (r1, r2, r3, r4, r5) := by first | (rw [hji10] at H; exact H) | (simp only [hji10] at H ⊢; exact H)
       have hji10w : (IntKind.i64.wrap (a1 + 1)) = ji10 := (i64_w _).trans hji10
       by_cases c11 : 0 ≤ (ji10)
       ·rw [if_pos c11] at H
        have c11b0 := eq_true c11
        have c11b1 : decide (0 ≤ (ji10)) = true := decide_eq_true c11
        clear c11
        by_cases c12 : (ji10) ≤ x6_1
        ·rw [if_pos c12] at H
         have c12b0 := eq_true c12
         have c12b1 : decide ((ji10) ≤ x6_1) = true := decide_eq_true c12
         clear c12
         by_cases c13 : x6_1 ≤ (a0.size : Int)
         ·rw [if_pos c13] at H
          have c13b0 := eq_true c13
          have c13b1 : decide (x6_1 ≤ (a0.size : Int)) = true := decide_eq_true c13
          clear c13
          simp only [Option.some.injEq, Prod.mk.injEq] at H
          obtain ⟨rfl, rfl, rfl, rfl, rfl⟩ := H
          have p6 : 0 ≤ (x6_1 : Int) := of_decide_eq_true aQ
          have q6 : x6_1 < (a0.size : Int) := of_decide_eq_true aQ
          have hx6 := bt_at a0 x6_1
          replace p6 := eq_true p6
          replace q6 := eq_true q6
          have hcz14_0 : wr.cell? ⟨gb387, 0, none⟩ = some (.int .i64 0) := (blk_cell BK387.out 0).trans rfl
          have hcz14_1 : wr.cell? ⟨gb387, 1, none⟩ = some (.int .i64 0) := (blk_cell BK387.out 1).trans rfl
          have hcz14_2 : wr.cell? ⟨gb387, 2, none⟩ = some (.string (⟨#[]⟩ : ByteArray)) := (blk_cell BK387.out 2).trans rfl
          have hcz14_3 : wr.cell? ⟨gb387, 3, none⟩ = some (.slice none 0 0) := (blk_cell BK387.out 3).trans rfl
          have hfz14_0 := blk_frozen BK387.out 0
          have hfz14_1 := blk_frozen BK387.out 1
          have hfz14_2 := blk_frozen BK387.out 2
          have hfz14_3 := blk_frozen BK387.out 3
          go_wp2
          refine bodyPost_ret (results_ct rfl _ _ gb387 91 #[.int .i64 2, .int .i64 0, .string (a0.extract ((ji10) : Int).toNat (x6_1 : Int).toNat), .slice none 0 0] (0, 0) _ rfl (by refine aW ?_; refine blk_put (cs := #[.int .i64 2, .int .i64 0, .string (a0.extract ((ji10) : Int).toNat (x6_1 : Int).toNat), .slice none 0 0]) ?_ 3 _ rfl; refine aW ?_; refine blk_put (cs := #[.int .i64 2, .int .i64 0, .string (⟨#[]⟩ : ByteArray), .slice none 0 0]) ?_ 2 _ rfl; refine aW ?_; refine blk_put (cs := #[.int .i64 2, .int .i64 0, .string (⟨#[]⟩ : ByteArray), .slice none 0 0]) ?_ 1 _ rfl; refine aW ?_; refine blk_put (cs := #[.int .i64 0, .int .i64 0, .string (⟨#[]⟩ : ByteArray), .slice none 0 0]) ?_ 0 _ rfl; refine aW ?_; exact BK387.out) Try.underlying91 rfl aK) rfl ?_
          exact ⟨_, by first | rfl | (simp [errW_none, errW_some] <;> rfl) | (simp only [← hji10]; first | rfl | (simp [errW_none, errW_some] <;> rfl)) | (simp [*, errW_none, errW_some] <;> rfl), by first | exact Kd.R_nil _ _ _ _ _ | exact Kd.N_nil _ _ _ _ _ | exact Kd.V_nil _ _ _ _ _ | exact Kd.Q_nil _ _ _ _ _ | exact Kd.S_nil _ _ _ _ _, by repeat (first | (with_reducible first | exact HB.out | apply below_alloc | apply pw_below_drewN | apply below_drew1 | refine below_set ?_ GE387.out) | exact HB.out)⟩
         ·rw [if_neg c13] at H
          exact absurd H (by simp)
        ·rw [if_neg c12] at H
         exact absurd H (by simp)
       ·rw [if_neg c11] at H
        exact absurd H (by simp)
     ·rw [if_neg c7] at H
      have c7b0 : ((bt a0 x6_1) == 34) = false := beq_eq_false_iff_ne.mpr c7
      have c7b1 : ((bt a0 x6_1) != 34) = true := bne_iff_ne.mpr c7
      have H' := Aside0.mk H
      clear H
      have p6 : 0 ≤ (x6_1 : Int) := of_decide_eq_true aQ
      have q6 : x6_1 < (a0.size : Int) := of_decide_eq_true aQ
      have hx6 := bt_at a0 x6_1
      replace p6 := eq_true p6
      replace q6 := eq_true q6
      go_wp2
      go_roundg k1
      case measure => have := HK1.out; omega
      case rel => exact ⟨(wrap64 (x6_1 + 1)), aR, H', ⟨by have := HK1.out; omega⟩, ⟨by refine aW ?_; exact BK387.out⟩, ⟨by repeat (first | (with_reducible first | exact HB.out | apply below_alloc | apply pw_below_drewN | apply below_drew1 | refine below_set ?_ GE387.out) | exact HB.out)⟩⟩
    ·rw [if_neg c5] at H
     exact absurd H (by simp)
   ·rw [if_neg c4] at H
    have c4b0 : decide (x6_1 < (a0.size : Int)) = false := decide_eq_false c4
    clear c4
    by_cases c15 : x6_1 ≥ (a0.size : Int)
    ·rw [if_pos c15] at H
     have c15b0 : decide ((a0.size : Int) ≤ x6_1) = true := decide_eq_true c15
     clear c15
     simp only [Option.some.injEq, Prod.mk.injEq] at H
     obtain ⟨rfl, rfl, rfl, rfl, rfl⟩ := H
     have hcz16_0 : wr.cell? ⟨gb387, 0, none⟩ = some (.int .i64 0) := (blk_cell BK387.out 0).trans rfl
     have hcz16_1 : wr.cell? ⟨gb387, 1, none⟩ = some (.int .i64 0) := (blk_cell BK387.out 1).trans rfl
     have hcz16_2 : wr.cell? ⟨gb387, 2, none⟩ = some (.string (⟨#[]⟩ : ByteArray)) := (blk_cell BK387.out 2).trans rfl
     have hcz16_3 : wr.cell? ⟨gb387, 3, none⟩ = some (.slice none 0 0) := (blk_cell BK387.out 3).trans rfl
     have hfz16_0 := blk_frozen BK387.out 0
     have hfz16_1 := blk_frozen BK387.out 1
     have hfz16_2 := blk_frozen BK387.out 2
     have hfz16_3 := blk_frozen BK387.out 3
     go_wp2
     refine bodyPost_ret (results_ct rfl _ _ gb387 91 #[.int .i64 0, .int .i64 0, .string (⟨#[]⟩ : ByteArray), .slice none 0 0] (0, 0) _ rfl (by refine aW ?_; refine blk_put (cs := #[.int .i64 0, .int .i64 0, .string (⟨#[]⟩ : ByteArray), .slice none 0 0]) ?_ 3 _ rfl; refine aW ?_; refine blk_put (cs := #[.int .i64 0, .int .i64 0, .string (⟨#[]⟩ : ByteArray), .slice none 0 0]) ?_ 2 _ rfl; refine aW ?_; refine blk_put (cs := #[.int .i64 0, .int .i64 0, .string (⟨#[]⟩ : ByteArray), .slice none 0 0]) ?_ 1 _ rfl; refine aW ?_; refine blk_put (cs := #[.int .i64 0, .int .i64 0, .string (⟨#[]⟩ : ByteArray), .slice none 0 0]) ?_ 0 _ rfl; refine aW ?_; exact BK387.out) Try.underlying91 rfl aK) rfl ?_
     exact ⟨_, by first | rfl | (simp [errW_none, errW_some] <;> rfl) | (simp [*, errW_none, errW_some] <;> rfl), by first | exact Kd.R_nil _ _ _ _ _ | exact Kd.N_nil _ _ _ _ _ | exact Kd.V_nil _ _ _ _ _ | exact Kd.Q_nil _ _ _ _ _ | exact Kd.S_nil _ _ _ _ _, by repeat (first | (with_reducible first | exact HB.out | apply below_alloc | apply pw_below_drewN | apply below_drew1 | refine below_set ?_ GE387.out) | exact HB.out)⟩
    ·rw [if_neg c15] at H
     have c15b0 : decide ((a0.size : Int) ≤ x6_1) = false := decide_eq_false c15
     clear c15
     obtain ⟨ji17, hji17⟩ : ∃ j_ : Int, (wrap64 (a1 + 1)) = j_ := ⟨_, rfl⟩
     replace H : (if 0 ≤ (ji17) then (if (ji17) ≤ x6_1 then (if x6_1 ≤ (a0.size : Int) then (some (2, 0, a0.extract ((ji17) : Int).toNat (x6_1 : Int).toNat, ([] : List (S91)), wrap64 (x6_1 + 1))) else (none)) else (none)) else (none)) = some (r1, r2, r3, r4, r5) := by first | (rw [hji17] at H; exact H) | (simp only [hji17] at H ⊢; exact H)
     have hji17w : (IntKind.i64.wrap (a1 + 1)) = ji17 := (i64_w _).trans hji17
     by_cases c18 : 0 ≤ (ji17)
     ·rw [if_pos c18] at H
      have c18b0 := eq_true c18
      have c18b1 : decide (0 ≤ (ji17)) = true := decide_eq_true c18
      clear c18
      by_cases c19 : (ji17) ≤ x6_1
      ·rw [if_pos c19] at H
       have c19b0 := eq_true c19
       have c19b1 : decide ((ji17) ≤ x6_1) = true := decide_eq_true c19
       clear c19
       by_cases c20 : x6_1 ≤ (a0.size : Int)
       ·rw [if_pos c20] at H
        have c20b0 := eq_true c20
        have c20b1 : decide (x6_1 ≤ (a0.size : Int)) = true := decide_eq_true c20
        clear c20
        simp only [Option.some.injEq, Prod.mk.injEq] at H
        obtain ⟨rfl, rfl, rfl, rfl, rfl⟩ := H
        have hcz21_0 : wr.cell? ⟨gb387, 0, none⟩ = some (.int .i64 0) := (blk_cell BK387.out 0).trans rfl
        have hcz21_1 : wr.cell? ⟨gb387, 1, none⟩ = some (.int .i64 0) := (blk_cell BK387.out 1).trans rfl
        have hcz21_2 : wr.cell? ⟨gb387, 2, none⟩ = some (.string (⟨#[]⟩ : ByteArray)) := (blk_cell BK387.out 2).trans rfl
        have hcz21_3 : wr.cell? ⟨gb387, 3, none⟩ = some (.slice none 0 0) := (blk_cell BK387.out 3).trans rfl
        have hfz21_0 := blk_frozen BK387.out 0
        have hfz21_1 := blk_frozen BK387.out 1
        have hfz21_2 := blk_frozen BK387.out 2
        have hfz21_3 := blk_frozen BK387.out 3
        go_wp2
        refine bodyPost_ret (results_ct rfl _ _ gb387 91 #[.int .i64 2, .int .i64 0, .string (a0.extract ((ji17) : Int).toNat (x6_1 : Int).toNat), .slice none 0 0] (0, 0) _ rfl (by refine aW ?_; refine blk_put (cs := #[.int .i64 2, .int .i64 0, .string (a0.extract ((ji17) : Int).toNat (x6_1 : Int).toNat), .slice none 0 0]) ?_ 3 _ rfl; refine aW ?_; refine blk_put (cs := #[.int .i64 2, .int .i64 0, .string (⟨#[]⟩ : ByteArray), .slice none 0 0]) ?_ 2 _ rfl; refine aW ?_; refine blk_put (cs := #[.int .i64 2, .int .i64 0, .string (⟨#[]⟩ : ByteArray), .slice none 0 0]) ?_ 1 _ rfl; refine aW ?_; refine blk_put (cs := #[.int .i64 0, .int .i64 0, .string (⟨#[]⟩ : ByteArray), .slice none 0 0]) ?_ 0 _ rfl; refine aW ?_; exact BK387.out) Try.underlying91 rfl aK) rfl ?_
        exact ⟨_, by first | rfl | (simp [errW_none, errW_some] <;> rfl) | (simp only [← hji17]; first | rfl | (simp [errW_none, errW_some] <;> rfl)) | (simp [*, errW_none, errW_some] <;> rfl), by first | exact Kd.R_nil _ _ _ _ _ | exact Kd.N_nil _ _ _ _ _ | exact Kd.V_nil _ _ _ _ _ | exact Kd.Q_nil _ _ _ _ _ | exact Kd.S_nil _ _ _ _ _, by repeat (first | (with_reducible first | exact HB.out | apply below_alloc | apply pw_below_drewN | apply below_drew1 | refine below_set ?_ GE387.out) | exact HB.out)⟩
       ·rw [if_neg c20] at H
        exact absurd H (by simp)
      ·rw [if_neg c19] at H
       exact absurd H (by simp)
     ·rw [if_neg c18] at H
      exact absurd H (by simp)

-- spec_l1Inner: printed behind spec_l1Read

/-! ### spec_l1Inner: function 109 -/
def spec_l1Inner.l0 (rd_ : ByteArray → Int → Int → Option (Int × Int × ByteArray × (List (S91)) × Int)) : Nat → ByteArray → Int → Int → Int → Int → List (S91) → Int → Option ((List (S91)) × Int)
 | 0, _, _, _, _, _, _, _ => none
 | k + 1, x0, x1, x2, x3, x4, x12, x13 => if x13 < x2 then ((rd_ x0 x1 (wrap64 (x4 - 1))).bind fun bt391 => (if bt391.2.2.2.2 < 0 then (some (x12, (-1))) else (if x12.length < 2513169434916 then (spec_l1Inner.l0 rd_ k x0 bt391.2.2.2.2 x2 x3 x4 (x12 ++ [(⟨bt391.1, bt391.2.1, bt391.2.2.1, bt391.2.2.2.1⟩ : S91)]) (wrap64 (x13 + 1))) else (none)))) else (if x1 ≥ (x0.size : Int) then (some (x12, (-1))) else (if 0 ≤ x1 then (if x1 < (x0.size : Int) then (if (bt x0 x1) = x3 then (some (x12, wrap64 (x1 + 1))) else (some (x12, (-1)))) else (none)) else (none)))
def spec_l1Inner.f (rd_ : ByteArray → Int → Int → Option (Int × Int × ByteArray × (List (S91)) × Int)) (k : Nat) (a0 : ByteArray) (a1 : Int) (a2 : Int) (a3 : Int) (a4 : Int) : Option ((List (S91)) × Int) := spec_l1Inner.l0 rd_ k a0 a1 a2 a3 a4 (([] : List (S91))) 0
set_option maxHeartbeats 8000000 in
set_option maxRecDepth 100000 in
theorem spec_l1Inner.calls (rd_ : ByteArray → Int → Int → Option (Int × Int × ByteArray × (List (S91)) × Int)) (hrd_ : ∀ (a0 : ByteArray) (a1 : Int) (a2 : Int) (r1 : Int) (r2 : Int) (r3 : ByteArray) (r4 : List (S91)) (r5 : Int) (w : World) (h : rd_ a0 a1 a2 = some (r1, r2, r3, r4, r5)),
  Calls Try.prog 105 #[.string a0, .int .i64 a1, .int .i64 a2] w fun e w' => ∃ v3_ : Value, e = .returned (.tuple #[.agg #[.int .i64 r1, .int .i64 r2, .string r3, v3_], .int .i64 r5]) ∧ Kd.N k91 91 w' w.heap.size (fun k_ => (w.heap.size ≤ k_)) v3_ r4 ∧ Below w.heap.size w w') (k : Nat) (a0 : ByteArray) (a1 : Int) (a2 : Int) (a3 : Int) (a4 : Int) (r1 : List (S91)) (r2 : Int) (w : World) (h : spec_l1Inner.f rd_ k a0 a1 a2 a3 a4 = some (r1, r2)) :
  Calls Try.prog 109 #[.string a0, .int .i64 a1, .int .i64 a2, .int .u8 a3, .int .i64 a4] w fun e w' => ∃ v0_ : Value, e = .returned (.tuple #[v0_, .int .i64 r2]) ∧ Kd.N k91 91 w' w.heap.size (fun k_ => (w.heap.size ≤ k_)) v0_ r1 ∧ Below w.heap.size w w' := by
 have hu91 := Try.underlying91
 have HB := Aside0.mk (Below.refl w.heap.size w)
 have H : (spec_l1Inner.l0 rd_ k a0 a1 a2 a3 a4 (([] : List (S91))) 0) = some (r1, r2) := h
 clear h
 obtain ⟨y388, hy388⟩ : ∃ y_ : List (S91), y_ = (([] : List (S91))) := ⟨_, rfl⟩
 replace H : (spec_l1Inner.l0 rd_ k a0 a1 a2 a3 a4 y388 0) = some (r1, r2) := by first | (rw [hy388]; with_reducible exact H) | (have H2_ := (Option.bind_some _ _).symm.trans H; rw [hy388]; with_reducible exact H2_) | (have H2_ := (Option.bind_some _ _).symm.trans H; with_reducible exact H2_) | with_reducible exact H | (rw [hy388]; exact H) | exact H
 have Ny388 := Aside0.mk hy388
 clear hy388
 have H' := Aside0.mk H
 clear H
 go_enter Try.func109, Try.ntmps109
 go_wp2_with (first | ((with_reducible refine gate_dst (N := 16) rfl ?_); refine Kd.N_lit k91 _ 91 ?hg (N' := 16) ?hd (xs := ([] : List (S91))) (inner := []) (ok := (fun k_ => (w.heap.size ≤ k_))) (okp := (fun k_ => (w.heap.size ≤ k_))) ?hr ?hp (fun _ hk => hk) ((show ∀ k_, w.heap.size ≤ k_ → (fun k_ => (w.heap.size ≤ k_)) k_ from fun k_ hk => (Nat.le_trans (below_size aB) hk)) _ (Nat.le_refl _)) (Below.refl _ _) (Nat.le_refl _) (by simp) ?_; (case hd => rfl); (case hg => rfl); (case hr => first | (go_simp; done) | (go_simp; rfl)); (case hp => exact (Reps.none _ _)); intro v389 w6 ho7 hb hg_ hnew_; clear hg_ hnew_; (first | rw [← Ny388.out] at ho7 | (simp only [Int.reduceToNat] at ho7; rw [← Ny388.out] at ho7)); have n0_ := Aside0.mk (Kd.N_lower ho7 (below_size aB)); have n1_ := Aside0.mk (below_step aB hb); clear HB; have HO390 := n0_; have HB := n1_; clear n0_ n1_; clear hb ho7))
 go_loopg [1, 12, 13] k (fun kq v1 v12 v13 w' => ∃ (x1_1 : Int) (x12_1 : List (S91)) (x13_1 : Int), v1 = .int .i64 x1_1 ∧ v13 = .int .i64 x13_1 ∧ Aside0 (spec_l1Inner.l0 rd_ kq a0 x1_1 a2 a3 a4 x12_1 x13_1 = some (r1, r2)) ∧ Aside0 (kq ≤ k) ∧ Aside0 (Kd.N k91 91 w' w.heap.size (fun k_ => (w.heap.size ≤ k_)) v12 x12_1) ∧ Aside0 (Below w.heap.size w w'))
 case atStart => exact ⟨(a1), (y388), (0), aR, aR, H', ⟨Nat.le_refl _⟩, ⟨by (with_reducible repeat (first | apply Kd.N_alloc | apply Kd.N_drewN | apply Kd.N_drew)); exact HO390.out⟩, ⟨by repeat (first|(with_reducible first|exact HB.out|apply below_alloc|apply pw_below_drewN|apply below_drew1)|exact HB.out)⟩⟩
 case round =>
  clear H'
  try clear c1
  try clear p2
  obtain ⟨x1_1, x12_1, x13_1, rfl, rfl, HA, HK1, HO_12, HB⟩ := hrel
  cases gk with
  | zero => exact absurd HA.out (by simp [spec_l1Inner.l0])
  | succ k1 =>
   have H := HA.out
   clear HA
   simp only [spec_l1Inner.l0] at H
   by_cases c8 : x13_1 < a2
   ·rw [if_pos c8] at H
    have c8b0 : decide (x13_1 < a2) = true := decide_eq_true c8
    clear c8
    replace H := Option.bind_eq_some_iff.mp H
    obtain ⟨⟨t391, t392, t393, t394, t397⟩, A90, H⟩ := H
    replace H : (if t397 < 0 then (some (x12_1, (-1))) else (if x12_1.length < 2513169434916 then (spec_l1Inner.l0 rd_ k1 a0 t397 a2 a3 a4 (x12_1 ++ [(⟨t391, t392, t393, t394⟩ : S91)]) (wrap64 (x13_1 + 1))) else (none))) = some (r1, r2) := H
    have A9 := Aside0.mk A90
    clear A90
    by_cases c10 : t397 < 0
    ·rw [if_pos c10] at H
     have c10b0 : decide (t397 < 0) = true := decide_eq_true c10
     clear c10
     simp only [Option.some.injEq, Prod.mk.injEq] at H
     obtain ⟨rfl, rfl⟩ := H
     go_wp2_with (first | ((with_reducible refine gate_callee (f := 105) rfl ?_); refine goesL_ (some 27) rfl rfl Try.func105 aK rfl #[.string a0, .int .i64 x1_1, .int .i64 (wrap64 (a4 - 1))] rfl aL ?_; (with_reducible refine (hrd_ a0 x1_1 (wrap64 (a4 - 1)) t391 t392 t393 t394 t397 _ A9.out).mono ?_); rintro e w11 ⟨v395, rfl, ho0, hb⟩; refine ⟨_, rfl, ?_⟩; have n0_ := Aside0.mk (Kd.N_elder' (aN HO_12.out) (Kd.N_base ho0) hb); have n1_ := Aside0.mk (Kd.N_lower (Kd.N_mono (ok' := fun k_ => (w.heap.size ≤ k_) ∧ some k_ ≠ (u12 : Value).ownBlock) ho0 (fun k_ hk_ => ⟨(Nat.le_trans (below_size aB) hk_), (Kd.fresh' (Kd.N_lt (aN HO_12.out)) k_ hk_)⟩)) (below_size aB)); have n2_ := Aside0.mk (below_step aB hb); clear HO_12; clear HB; have HO_12 := n0_; have HO396 := n1_; have HB := n2_; clear n0_ n1_ n2_; (try clear hb); (try clear hb2); (try clear hk); (try clear hi); (try clear ho0)) | ((with_reducible refine gate_dst (N := 14) rfl ?_); refine box_event ?hg (N := 14) ?hd (cs := #[.int .i64 0, .int .i64 0, .string (⟨#[]⟩ : ByteArray), .slice none 0 0]) (t := 91) ?hr ?_; (case hd => rfl); (case hg => rfl); (case hr => first | (go_simp; done) | (go_simp; rfl)); intro gb398 hg w12 hbox hb; have n0_ := Aside0.mk (Kd.N_below (Kd.N_elderB (aN HO_12.out) gb398 (Nat.le_of_eq hg.symm)) hb); have n1_ := Aside0.mk (Kd.N_below (Kd.N_elderB (aN HO396.out) gb398 (Nat.le_of_eq hg.symm)) hb); have n2_ := Aside0.mk (below_step aB hb); have n3_ := Aside0.mk (hbox); have n4_ := Aside0.mk ((by rw [hg]; exact (below_size aB) : w.heap.size ≤ gb398)); have n5_ := Aside0.mk ((by rw [hg]; exact (below_size aB) : w.heap.size ≤ gb398)); clear HO_12; clear HO396; clear HB; have HO_12 := n0_; have HO396 := n1_; have HB := n2_; have BK398 := n3_; have GW398 := n4_; have GE398 := n5_; clear n0_ n1_ n2_ n3_ n4_ n5_; clear hb hbox hg; have hcz13_0 : w12.cell? ⟨gb398, 0, none⟩ = some (.int .i64 0) := (blk_cell BK398.out 0).trans rfl; have hcz13_1 : w12.cell? ⟨gb398, 1, none⟩ = some (.int .i64 0) := (blk_cell BK398.out 1).trans rfl; have hcz13_2 : w12.cell? ⟨gb398, 2, none⟩ = some (.string (⟨#[]⟩ : ByteArray)) := (blk_cell BK398.out 2).trans rfl; have hcz13_3 : w12.cell? ⟨gb398, 3, none⟩ = some (.slice none 0 0) := (blk_cell BK398.out 3).trans rfl; have hfz13_0 := blk_frozen BK398.out 0; have hfz13_1 := blk_frozen BK398.out 1; have hfz13_2 := blk_frozen BK398.out 2; have hfz13_3 := blk_frozen BK398.out 3; obtain ⟨Ao14, co14, eo14⟩ := Kd.N_slice HO396.out; subst eo14))
     go_ret2
     exact ⟨_, by first | rfl | (simp [errW_none, errW_some] <;> rfl) | (simp [*, errW_none, errW_some] <;> rfl), by (with_reducible repeat (first | apply Kd.N_alloc | apply Kd.N_drewN | apply Kd.N_drew)); exact Kd.N_mono (Kd.N_far (p := ⟨gb398, 3, none⟩) (Kd.N_far (p := ⟨gb398, 2, none⟩) (Kd.N_far (p := ⟨gb398, 1, none⟩) (Kd.N_far (p := ⟨gb398, 0, none⟩) (Kd.N_mono HO_12.out (fun k_ hk => (⟨hk, hk.2⟩ : _ ∧ k_ ≠ gb398))) (fun _ hk => hk.2) (.int .i64 t391)) (fun _ hk => hk.2) (.int .i64 t392)) (fun _ hk => hk.2) (.string t393)) (fun _ hk => hk.2) (.slice Ao14 t394.length co14)) (fun _ hk => hk.1.1.1), by repeat (first | (with_reducible first | exact HB.out | apply below_alloc | apply pw_below_drewN | apply below_drew1 | refine below_set ?_ GE398.out) | exact HB.out)⟩
    ·rw [if_neg c10] at H
     have c10b0 : decide (t397 < 0) = false := decide_eq_false c10
     clear c10
     by_cases c15 : x12_1.length < 2513169434916
     ·rw [if_pos c15] at H
      have LMc15 := Aside0.mk c15
      clear c15
      obtain ⟨y399, hy399⟩ : ∃ y_ : List (S91), y_ = (x12_1 ++ [(⟨t391, t392, t393, t394⟩ : S91)]) := ⟨_, rfl⟩
      replace H : (spec_l1Inner.l0 rd_ k1 a0 t397 a2 a3 a4 y399 (wrap64 (x13_1 + 1))) = some (r1, r2) := by first | (rw [hy399]; with_reducible exact H) | (have H2_ := (Option.bind_some _ _).symm.trans H; rw [hy399]; with_reducible exact H2_) | (have H2_ := (Option.bind_some _ _).symm.trans H; with_reducible exact H2_) | with_reducible exact H | (rw [hy399]; exact H) | exact H
      have Ny399 := Aside0.mk hy399
      clear hy399
      have H' := Aside0.mk H
      clear H
      go_wp2_with (first | ((with_reducible refine gate_callee (f := 105) rfl ?_); refine goesL_ (some 27) rfl rfl Try.func105 aK rfl #[.string a0, .int .i64 x1_1, .int .i64 (wrap64 (a4 - 1))] rfl aL ?_; (with_reducible refine (hrd_ a0 x1_1 (wrap64 (a4 - 1)) t391 t392 t393 t394 t397 _ A9.out).mono ?_); rintro e w16 ⟨v395, rfl, ho0, hb⟩; refine ⟨_, rfl, ?_⟩; have n0_ := Aside0.mk (Kd.N_elder' (aN HO_12.out) (Kd.N_base ho0) hb); have n1_ := Aside0.mk (Kd.N_lower (Kd.N_mono (ok' := fun k_ => (w.heap.size ≤ k_) ∧ some k_ ≠ (u12 : Value).ownBlock) ho0 (fun k_ hk_ => ⟨(Nat.le_trans (below_size aB) hk_), (Kd.fresh' (Kd.N_lt (aN HO_12.out)) k_ hk_)⟩)) (below_size aB)); have n2_ := Aside0.mk (below_step aB hb); clear HO_12; clear HB; have HO_12 := n0_; have HO396 := n1_; have HB := n2_; clear n0_ n1_ n2_; (try clear hb); (try clear hb2); (try clear hk); (try clear hi); (try clear ho0)) | ((with_reducible refine gate_dst (N := 14) rfl ?_); refine box_event ?hg (N := 14) ?hd (cs := #[.int .i64 0, .int .i64 0, .string (⟨#[]⟩ : ByteArray), .slice none 0 0]) (t := 91) ?hr ?_; (case hd => rfl); (case hg => rfl); (case hr => first | (go_simp; done) | (go_simp; rfl)); intro gb398 hg w17 hbox hb; have n0_ := Aside0.mk (Kd.N_below (Kd.N_elderB (aN HO_12.out) gb398 (Nat.le_of_eq hg.symm)) hb); have n1_ := Aside0.mk (Kd.N_below (Kd.N_elderB (aN HO396.out) gb398 (Nat.le_of_eq hg.symm)) hb); have n2_ := Aside0.mk (below_step aB hb); have n3_ := Aside0.mk (hbox); have n4_ := Aside0.mk ((by rw [hg]; exact (below_size aB) : w.heap.size ≤ gb398)); have n5_ := Aside0.mk ((by rw [hg]; exact (below_size aB) : w.heap.size ≤ gb398)); clear HO_12; clear HO396; clear HB; have HO_12 := n0_; have HO396 := n1_; have HB := n2_; have BK398 := n3_; have GW398 := n4_; have GE398 := n5_; clear n0_ n1_ n2_ n3_ n4_ n5_; clear hb hbox hg; have hcz18_0 : w17.cell? ⟨gb398, 0, none⟩ = some (.int .i64 0) := (blk_cell BK398.out 0).trans rfl; have hcz18_1 : w17.cell? ⟨gb398, 1, none⟩ = some (.int .i64 0) := (blk_cell BK398.out 1).trans rfl; have hcz18_2 : w17.cell? ⟨gb398, 2, none⟩ = some (.string (⟨#[]⟩ : ByteArray)) := (blk_cell BK398.out 2).trans rfl; have hcz18_3 : w17.cell? ⟨gb398, 3, none⟩ = some (.slice none 0 0) := (blk_cell BK398.out 3).trans rfl; have hfz18_0 := blk_frozen BK398.out 0; have hfz18_1 := blk_frozen BK398.out 1; have hfz18_2 := blk_frozen BK398.out 2; have hfz18_3 := blk_frozen BK398.out 3; obtain ⟨Ao19, co19, eo19⟩ := Kd.N_slice HO396.out; subst eo19) | ((with_reducible refine gate_store (t := 91) (p := 14) rfl ?_); refine store_event (t := 91) (p := 14) (v := ?vo_w20) (w1 := ((((w17.setCell ⟨gb398, 0, none⟩ (.int .i64 t391)).setCell ⟨gb398, 1, none⟩ (.int .i64 t392)).setCell ⟨gb398, 2, none⟩ (.string t393)).setCell ⟨gb398, 3, none⟩ (.slice Ao19 t394.length co19))) ?hg ?ho ?hn ?hr ?_; (case ho => rfl); (case hg => rfl); (case hn => rfl); (case hr => first | (go_simp; done) | (go_simp; rfl)); intro w20 hw; have n0_ : Aside0 (Kd.N k91 91 w20 w.heap.size (fun k_ => (w.heap.size ≤ k_) ∧ some k_ ≠ (.slice Ao19 t394.length co19 : Value).ownBlock ∧ k_ ≠ gb398) u12 x12_1) := ⟨(by rw [hw]; exact (by (with_reducible repeat (first | apply Kd.N_alloc | apply Kd.N_drewN | apply Kd.N_drew)); exact Kd.N_mono (Kd.N_far (p := ⟨gb398, 3, none⟩) (Kd.N_far (p := ⟨gb398, 2, none⟩) (Kd.N_far (p := ⟨gb398, 1, none⟩) (Kd.N_far (p := ⟨gb398, 0, none⟩) (Kd.N_mono HO_12.out (fun k_ hk => (⟨hk, hk.2⟩ : _ ∧ k_ ≠ gb398))) (fun _ hk => hk.2) (.int .i64 t391)) (fun _ hk => hk.2) (.int .i64 t392)) (fun _ hk => hk.2) (.string t393)) (fun _ hk => hk.2) (.slice Ao19 t394.length co19)) (fun _ hk => ⟨hk.1.1.1, ⟨hk.1.1.2, hk.1.2⟩⟩)))⟩; have n1_ : Aside0 (Kd.N k91 91 w20 w.heap.size (fun k_ => (w.heap.size ≤ k_) ∧ some k_ ≠ (u12 : Value).ownBlock ∧ k_ ≠ gb398) (.slice Ao19 t394.length co19) t394) := ⟨(by rw [hw]; exact (by (with_reducible repeat (first | apply Kd.N_alloc | apply Kd.N_drewN | apply Kd.N_drew)); exact Kd.N_mono (Kd.N_far (p := ⟨gb398, 3, none⟩) (Kd.N_far (p := ⟨gb398, 2, none⟩) (Kd.N_far (p := ⟨gb398, 1, none⟩) (Kd.N_far (p := ⟨gb398, 0, none⟩) (Kd.N_mono HO396.out (fun k_ hk => (⟨hk, hk.2⟩ : _ ∧ k_ ≠ gb398))) (fun _ hk => hk.2) (.int .i64 t391)) (fun _ hk => hk.2) (.int .i64 t392)) (fun _ hk => hk.2) (.string t393)) (fun _ hk => hk.2) (.slice Ao19 t394.length co19)) (fun _ hk => ⟨hk.1.1.1, ⟨hk.1.1.2, hk.1.2⟩⟩)))⟩; have n2_ : Aside0 (w20.heap[gb398]? = some (.cells #[.int .i64 t391, .int .i64 t392, .string t393, .slice Ao19 t394.length co19] 91 (0, 0))) := ⟨(by rw [hw]; exact (by refine aW ?_; refine blk_put (cs := #[.int .i64 t391, .int .i64 t392, .string t393, .slice none 0 0]) ?_ 3 _ rfl; refine aW ?_; refine blk_put (cs := #[.int .i64 t391, .int .i64 t392, .string (⟨#[]⟩ : ByteArray), .slice none 0 0]) ?_ 2 _ rfl; refine aW ?_; refine blk_put (cs := #[.int .i64 t391, .int .i64 0, .string (⟨#[]⟩ : ByteArray), .slice none 0 0]) ?_ 1 _ rfl; refine aW ?_; refine blk_put (cs := #[.int .i64 0, .int .i64 0, .string (⟨#[]⟩ : ByteArray), .slice none 0 0]) ?_ 0 _ rfl; refine aW ?_; exact BK398.out))⟩; have n3_ : Aside0 (Below w.heap.size w w20) := ⟨(by rw [hw]; exact (aB1 GE398.out))⟩; clear hw; clear HO_12; clear HO396; clear BK398; clear HB; have HO_12 := n0_; have HO396 := n1_; have BK398 := n2_; have HB := n3_; clear n0_ n1_ n2_ n3_; have hcz21_0 : w20.cell? ⟨gb398, 0, none⟩ = some (.int .i64 t391) := (blk_cell BK398.out 0).trans rfl; have hcz21_1 : w20.cell? ⟨gb398, 1, none⟩ = some (.int .i64 t392) := (blk_cell BK398.out 1).trans rfl; have hcz21_2 : w20.cell? ⟨gb398, 2, none⟩ = some (.string t393) := (blk_cell BK398.out 2).trans rfl; have hcz21_3 : w20.cell? ⟨gb398, 3, none⟩ = some (.slice Ao19 t394.length co19) := (blk_cell BK398.out 3).trans rfl; have hfz21_0 := blk_frozen BK398.out 0; have hfz21_1 := blk_frozen BK398.out 1; have hfz21_2 := blk_frozen BK398.out 2; have hfz21_3 := blk_frozen BK398.out 3) | ((with_reducible refine gate_builtin (b := .append) (xs := #[.tmp 33, .tmp 35]) rfl ?_); at_builtin; refine Kd.N_append k91 (w0 := w) w.heap.size rfl (.tmp 33) (.tmp 35) 89 91 (.agg #[(.int .i64 0), (.int .i64 0), (.string ⟨#[]⟩), (.slice none 0 0)]) 56 rfl Try.underlying89 info91 rfl (by decide) (by omega) u12 x12_1 (⟨t391, t392, t393, t394⟩ : S91) [.int .i64 t391, .int .i64 t392, .string t393, .slice Ao19 t394.length co19] (fun k_ => (w.heap.size ≤ k_) ∧ k_ ≠ gb398) (fun k_ => ((fun k_ => (w.heap.size ≤ k_) ∧ k_ ≠ gb398)) k_ ∧ some k_ ≠ (u12 : Value).ownBlock) rfl rfl ?aP (fun _ hk => hk) ?aF ?aO ?aB ?aS ?aL ?_; (case aP => exact (k91_mkF _ _ (⟨t391, t392, t393, t394⟩ : S91) (Kd.N_reads' (Kd.N_mono (ok' := (fun k_ => ((fun k_ => (w.heap.size ≤ k_) ∧ k_ ≠ gb398)) k_ ∧ some k_ ≠ (u12 : Value).ownBlock)) (HO396.out) (fun k_ hk => ⟨⟨hk.1, hk.2.2⟩, hk.2.1⟩))).2.1 (Kd.N_F (Kd.N_mono (ok' := (fun k_ => ((fun k_ => (w.heap.size ≤ k_) ∧ k_ ≠ gb398)) k_ ∧ some k_ ≠ (u12 : Value).ownBlock)) (HO396.out) (fun k_ hk => ⟨⟨hk.1, hk.2.2⟩, hk.2.1⟩))))); (case aB => exact (aB1 GE398.out)); (case aF => exact (fun k_ hk => ⟨(Nat.le_trans (below_size (aB1 GE398.out)) hk), Kd.freshB (g := gb398) (o := .cells #[.int .i64 t391, .int .i64 t392, .string t393, .slice Ao19 t394.length co19] 91 (0, 0)) (aW BK398.out) k_ hk⟩)); (case aO => exact (by (with_reducible repeat (first | apply Kd.N_alloc | apply Kd.N_drewN | apply Kd.N_drew)); exact Kd.N_mono HO_12.out (fun _ hk => ⟨hk.1, hk.2.2⟩))); (case aS => exact (below_size (aB1 GE398.out))); (case aL => have := LMc15.out; omega); intro v400 w22 ho hb hg hat; rw [← Ny399.out] at ho; have n0_ := Aside0.mk (blk_grown (g := gb398) (o := .cells #[.int .i64 t391, .int .i64 t392, .string t393, .slice Ao19 t394.length co19] 91 (0, 0)) (aW BK398.out) hg (Kd.N_away HO_12.out (fun _ hk => hk.2.2))); have n1_ := Aside0.mk (hb); have n2_ := Aside0.mk (ho); clear BK398; clear HB; clear HO_12; clear HO396; have BK398 := n0_; have HB := n1_; have HO401 := n2_; clear n0_ n1_ n2_; clear ho hb hg hat))
      go_roundg k1
      case measure => have := HK1.out; omega
      case rel => exact ⟨(t397), (y399), (wrap64 (x13_1 + 1)), aR, aR, H', ⟨by have := HK1.out; omega⟩, ⟨by (with_reducible repeat (first | apply Kd.N_alloc | apply Kd.N_drewN | apply Kd.N_drew)); exact Kd.N_mono HO401.out (fun _ hk => hk.1)⟩, ⟨by repeat (first | (with_reducible first | exact HB.out | apply below_alloc | apply pw_below_drewN | apply below_drew1 | refine below_set ?_ GE398.out) | exact HB.out)⟩⟩
     ·rw [if_neg c15] at H
      exact absurd H (by simp)
   ·rw [if_neg c8] at H
    have c8b0 : decide (x13_1 < a2) = false := decide_eq_false c8
    clear c8
    by_cases c23 : x1_1 ≥ (a0.size : Int)
    ·rw [if_pos c23] at H
     have c23b0 : decide ((a0.size : Int) ≤ x1_1) = true := decide_eq_true c23
     clear c23
     simp only [Option.some.injEq, Prod.mk.injEq] at H
     obtain ⟨rfl, rfl⟩ := H
     go_wp2
     go_ret2
     exact ⟨_, by first | rfl | (simp [errW_none, errW_some] <;> rfl) | (simp [*, errW_none, errW_some] <;> rfl), by (with_reducible repeat (first | apply Kd.N_alloc | apply Kd.N_drewN | apply Kd.N_drew)); exact HO_12.out, by repeat (first|(with_reducible first|exact HB.out|apply below_alloc|apply pw_below_drewN|apply below_drew1)|exact HB.out)⟩
    ·rw [if_neg c23] at H
     have c23b0 : decide ((a0.size : Int) ≤ x1_1) = false := decide_eq_false c23
     clear c23
     by_cases c24 : 0 ≤ x1_1
     ·rw [if_pos c24] at H
      have c24b0 : decide (0 ≤ x1_1) = true := decide_eq_true c24
      clear c24
      by_cases c25 : x1_1 < (a0.size : Int)
      ·rw [if_pos c25] at H
       have c25b0 : decide (x1_1 < (a0.size : Int)) = true := decide_eq_true c25
       clear c25
       by_cases c27 : (bt a0 x1_1) = a3
       ·rw [if_pos c27] at H
        have c27b0 : ((bt a0 x1_1) == a3) = true := beq_iff_eq.mpr c27
        have c27b1 : ((bt a0 x1_1) != a3) = false := bne_eq_false_iff_eq.mpr c27
        clear c27
        simp only [Option.some.injEq, Prod.mk.injEq] at H
        obtain ⟨rfl, rfl⟩ := H
        have p26 : 0 ≤ (x1_1 : Int) := of_decide_eq_true aQ
        have q26 : x1_1 < (a0.size : Int) := of_decide_eq_true aQ
        have hx26 := bt_at a0 x1_1
        replace p26 := eq_true p26
        replace q26 := eq_true q26
        go_wp2
        go_ret2
        exact ⟨_, by first | rfl | (simp [errW_none, errW_some] <;> rfl) | (simp [*, errW_none, errW_some] <;> rfl), by (with_reducible repeat (first | apply Kd.N_alloc | apply Kd.N_drewN | apply Kd.N_drew)); exact HO_12.out, by repeat (first|(with_reducible first|exact HB.out|apply below_alloc|apply pw_below_drewN|apply below_drew1)|exact HB.out)⟩
       ·rw [if_neg c27] at H
        have c27b0 : ((bt a0 x1_1) == a3) = false := beq_eq_false_iff_ne.mpr c27
        have c27b1 : ((bt a0 x1_1) != a3) = true := bne_iff_ne.mpr c27
        simp only [Option.some.injEq, Prod.mk.injEq] at H
        obtain ⟨rfl, rfl⟩ := H
        have p26 : 0 ≤ (x1_1 : Int) := of_decide_eq_true aQ
        have q26 : x1_1 < (a0.size : Int) := of_decide_eq_true aQ
        have hx26 := bt_at a0 x1_1
        replace p26 := eq_true p26
        replace q26 := eq_true q26
        go_wp2
        go_ret2
        exact ⟨_, by first | rfl | (simp [errW_none, errW_some] <;> rfl) | (simp [*, errW_none, errW_some] <;> rfl), by (with_reducible repeat (first | apply Kd.N_alloc | apply Kd.N_drewN | apply Kd.N_drew)); exact HO_12.out, by repeat (first|(with_reducible first|exact HB.out|apply below_alloc|apply pw_below_drewN|apply below_drew1)|exact HB.out)⟩
      ·rw [if_neg c25] at H
       exact absurd H (by simp)
     ·rw [if_neg c24] at H
      exact absurd H (by simp)

/-! ### spec_l1Read: function 105 -/
mutual
def spec_l1Read.j0 : Nat → ByteArray → Int → Int → Bool → Option (Int × Int × ByteArray × (List (S91)) × Int)
 | 0, _, _, _, _ => none
 | k + 1, x0, x1, x2, x21 => if x21 = true then (some (0, 0, (⟨#[]⟩ : ByteArray), ([] : List (S91)), (-1))) else (if 0 ≤ x1 then (if x1 < (x0.size : Int) then (if (bt x0 x1) = 126 then (some (1, 0, (⟨#[]⟩ : ByteArray), ([] : List (S91)), wrap64 (x1 + 1))) else (if (bt x0 x1) = 95 then (some (3, 0, (⟨#[]⟩ : ByteArray), ([] : List (S91)), wrap64 (x1 + 1))) else (if (bt x0 x1) = 46 then (some (4, 0, (⟨#[]⟩ : ByteArray), ([] : List (S91)), wrap64 (x1 + 1))) else (if (bt x0 x1) = 33 then (some (5, 0, (⟨#[]⟩ : ByteArray), ([] : List (S91)), wrap64 (x1 + 1))) else (if (bt x0 x1) = 34 then ((spec_l1Word.f k x0 x1).bind fun bt403 => (some (bt403.1, bt403.2.1, bt403.2.2.1, bt403.2.2.2.1, bt403.2.2.2.2))) else (if (bt x0 x1) = 40 then ((spec_l1Inner.f (spec_l1Read.f k) k x0 (wrap64 (x1 + 1)) 2 41 x2).bind fun bt410 => (some (7, 0, (⟨#[]⟩ : ByteArray), bt410.1, bt410.2))) else (if (bt x0 x1) = 91 then ((spec_l1Inner.f (spec_l1Read.f k) k x0 (wrap64 (x1 + 1)) 1 93 x2).bind fun bt414 => (some (8, 0, (⟨#[]⟩ : ByteArray), bt414.1, bt414.2))) else (if (bt x0 x1) ≥ 48 then (if (bt x0 x1) ≤ 57 then (if (wrap64 (x1 + 1)) < (x0.size : Int) then (if 0 ≤ (wrap64 (x1 + 1)) then (if (bt x0 (wrap64 (x1 + 1))) = 60 then ((spec_l1Inner.f (spec_l1Read.f k) k x0 (wrap64 (x1 + 2)) 1 62 x2).bind fun bt418 => (some (6, ((bt x0 x1) - 48) % 256, (⟨#[]⟩ : ByteArray), bt418.1, bt418.2))) else (some (0, 0, (⟨#[]⟩ : ByteArray), ([] : List (S91)), (-1)))) else (none)) else (some (0, 0, (⟨#[]⟩ : ByteArray), ([] : List (S91)), (-1)))) else (some (0, 0, (⟨#[]⟩ : ByteArray), ([] : List (S91)), (-1)))) else (some (0, 0, (⟨#[]⟩ : ByteArray), ([] : List (S91)), (-1))))))))))) else (none)) else (none))
def spec_l1Read.f : Nat → ByteArray → Int → Int → Option (Int × Int × ByteArray × (List (S91)) × Int)
 | 0, _, _, _ => none
 | k + 1, a0, a1, a2 => if a1 ≥ (a0.size : Int) then (spec_l1Read.j0 k a0 a1 a2 true) else (spec_l1Read.j0 k a0 a1 a2 (a2 == 0))
end
set_option maxHeartbeats 8000000 in
set_option maxRecDepth 100000 in
theorem spec_l1Read.calls (k : Nat) : ∀ (a0 : ByteArray) (a1 : Int) (a2 : Int) (r1 : Int) (r2 : Int) (r3 : ByteArray) (r4 : List (S91)) (r5 : Int) (w : World) (h : spec_l1Read.f k a0 a1 a2 = some (r1, r2, r3, r4, r5)),
  Calls Try.prog 105 #[.string a0, .int .i64 a1, .int .i64 a2] w fun e w' => ∃ v3_ : Value, e = .returned (.tuple #[.agg #[.int .i64 r1, .int .i64 r2, .string r3, v3_], .int .i64 r5]) ∧ Kd.N k91 91 w' w.heap.size (fun k_ => (w.heap.size ≤ k_)) v3_ r4 ∧ Below w.heap.size w w' := by
 induction k using Nat.strongRecOn with
 | _ k ih =>
 intro a0 a1 a2 r1 r2 r3 r4 r5 w h
 cases k with
 | zero => exact absurd h (by simp [spec_l1Read.f])
 | succ k =>
 simp only [spec_l1Read.f] at h
 have hu91 := Try.underlying91
 have HB := Aside0.mk (Below.refl w.heap.size w)
 have H : (if a1 ≥ (a0.size : Int) then (spec_l1Read.j0 k a0 a1 a2 true) else (spec_l1Read.j0 k a0 a1 a2 (a2 == 0))) = some (r1, r2, r3, r4, r5) := h
 clear h
 have HC4 := Aside0.mk H
 clear H
 go_enter Try.func105, Try.ntmps105
 go_upto_region 1 with (first | ((with_reducible refine gate_dst (N := 6) rfl ?_); (try (refine gate_guard (by rfl) ?_; dsimp only)); refine box_event ?hg (N := 6) ?hd (cs := #[.int .i64 0, .int .i64 0, .string (⟨#[]⟩ : ByteArray), .slice none 0 0]) (t := 91) ?hr ?_; (case hd => rfl); (case hg => rfl); (case hr => first | (go_simp; done) | (go_simp; rfl)); intro gb402 hg w5 hbox hb; have n0_ := Aside0.mk (below_step aB hb); have n1_ := Aside0.mk (hbox); have n2_ := Aside0.mk ((by rw [hg]; exact (below_size aB) : w.heap.size ≤ gb402)); have n3_ := Aside0.mk ((by rw [hg]; exact (below_size aB) : w.heap.size ≤ gb402)); clear HB; have HB := n0_; have BK402 := n1_; have GW402 := n2_; have GE402 := n3_; clear n0_ n1_ n2_ n3_; clear hb hbox hg))
 (try simp only [Act.put, List.setIfInBounds_toArray, List.set_cons_zero, List.set_cons_succ])
 go_cut [21] (fun v21 wc => ∃ (kq : Nat) (x21_3 : Bool), v21 = .bool x21_3 ∧ Aside0 (spec_l1Read.j0 kq a0 a1 a2 x21_3 = some (r1, r2, r3, r4, r5)) ∧ Aside0 (kq ≤ k) ∧ Aside0 (wc.heap[gb402]? = some (.cells #[.int .i64 0, .int .i64 0, .string (⟨#[]⟩ : ByteArray), (.slice none 0 0)] 91 (0, 0))) ∧ Aside0 (Below w.heap.size w wc))
 case first =>
  have H := HC4.out
  clear HC4
  by_cases c6 : a1 ≥ (a0.size : Int)
  ·rw [if_pos c6] at H
   have c6b0 : decide ((a0.size : Int) ≤ a1) = true := decide_eq_true c6
   clear c6
   (first | rw [c6b0] | (simp only [i64_w, i32_w]; rw [c6b0]) | skip)
   have H' := Aside0.mk H
   clear H
   go_wp2
   go_meet
   case rel => exact ⟨_, (true), aR, H', ⟨by first | omega | exact Nat.le_refl _⟩, ⟨by refine aW ?_; exact BK402.out⟩, ⟨by repeat (first | (with_reducible first | exact HB.out | apply below_alloc | apply pw_below_drewN | apply below_drew1 | refine below_set ?_ GE402.out) | exact HB.out)⟩⟩
  ·rw [if_neg c6] at H
   have c6b0 : decide ((a0.size : Int) ≤ a1) = false := decide_eq_false c6
   clear c6
   (first | rw [c6b0] | (simp only [i64_w, i32_w]; rw [c6b0]) | skip)
   have H' := Aside0.mk H
   clear H
   go_wp2
   go_meet
   case rel => exact ⟨_, ((a2 == 0)), aR, H', ⟨by first | omega | exact Nat.le_refl _⟩, ⟨by refine aW ?_; exact BK402.out⟩, ⟨by repeat (first | (with_reducible first | exact HB.out | apply below_alloc | apply pw_below_drewN | apply below_drew1 | refine below_set ?_ GE402.out) | exact HB.out)⟩⟩
 case rest =>
  clear HC4
  try clear c1
  try clear p2
  try clear c6
  try clear c6b0
  obtain ⟨kq, x21_3, rfl, HA, HJ3, BK402, HB⟩ := hcut
  cases kq with
  | zero => exact absurd HA.out (by simp [spec_l1Read.j0])
  | succ kj3 =>
   have H := HA.out
   clear HA
   simp only [spec_l1Read.j0] at H
   by_cases c7 : x21_3 = true
   ·subst c7
    have H1 : (some (0, 0, (⟨#[]⟩ : ByteArray), ([] : List (S91)), (-1))) = some (r1, r2, r3, r4, r5) := by rw [if_pos rfl] at H; exact H
    clear H
    have H := H1
    clear H1
    simp only [Option.some.injEq, Prod.mk.injEq] at H
    obtain ⟨rfl, rfl, rfl, rfl, rfl⟩ := H
    have hcz8_0 : wc.cell? ⟨gb402, 0, none⟩ = some (.int .i64 0) := (blk_cell BK402.out 0).trans rfl
    have hcz8_1 : wc.cell? ⟨gb402, 1, none⟩ = some (.int .i64 0) := (blk_cell BK402.out 1).trans rfl
    have hcz8_2 : wc.cell? ⟨gb402, 2, none⟩ = some (.string (⟨#[]⟩ : ByteArray)) := (blk_cell BK402.out 2).trans rfl
    have hcz8_3 : wc.cell? ⟨gb402, 3, none⟩ = some (.slice none 0 0) := (blk_cell BK402.out 3).trans rfl
    have hfz8_0 := blk_frozen BK402.out 0
    have hfz8_1 := blk_frozen BK402.out 1
    have hfz8_2 := blk_frozen BK402.out 2
    have hfz8_3 := blk_frozen BK402.out 3
    go_wp2
    refine bodyPost_ret (results_ct rfl _ _ gb402 91 #[.int .i64 0, .int .i64 0, .string (⟨#[]⟩ : ByteArray), .slice none 0 0] (0, 0) _ rfl (by refine aW ?_; refine blk_put (cs := #[.int .i64 0, .int .i64 0, .string (⟨#[]⟩ : ByteArray), .slice none 0 0]) ?_ 3 _ rfl; refine aW ?_; refine blk_put (cs := #[.int .i64 0, .int .i64 0, .string (⟨#[]⟩ : ByteArray), .slice none 0 0]) ?_ 2 _ rfl; refine aW ?_; refine blk_put (cs := #[.int .i64 0, .int .i64 0, .string (⟨#[]⟩ : ByteArray), .slice none 0 0]) ?_ 1 _ rfl; refine aW ?_; refine blk_put (cs := #[.int .i64 0, .int .i64 0, .string (⟨#[]⟩ : ByteArray), .slice none 0 0]) ?_ 0 _ rfl; refine aW ?_; exact BK402.out) Try.underlying91 rfl aK) rfl ?_
    exact ⟨_, by first | rfl | (simp [errW_none, errW_some] <;> rfl) | (simp [*, errW_none, errW_some] <;> rfl), by first | exact Kd.R_nil _ _ _ _ _ | exact Kd.N_nil _ _ _ _ _ | exact Kd.V_nil _ _ _ _ _ | exact Kd.Q_nil _ _ _ _ _ | exact Kd.S_nil _ _ _ _ _, by repeat (first | (with_reducible first | exact HB.out | apply below_alloc | apply pw_below_drewN | apply below_drew1 | refine below_set ?_ GE402.out) | exact HB.out)⟩
   ·replace c7 := Bool.eq_false_iff.mpr c7
    subst c7
    have H1 : (if 0 ≤ a1 then (if a1 < (a0.size : Int) then (if (bt a0 a1) = 126 then (some (1, 0, (⟨#[]⟩ : ByteArray), ([] : List (S91)), wrap64 (a1 + 1))) else (if (bt a0 a1) = 95 then (some (3, 0, (⟨#[]⟩ : ByteArray), ([] : List (S91)), wrap64 (a1 + 1))) else (if (bt a0 a1) = 46 then (some (4, 0, (⟨#[]⟩ : ByteArray), ([] : List (S91)), wrap64 (a1 + 1))) else (if (bt a0 a1) = 33 then (some (5, 0, (⟨#[]⟩ : ByteArray), ([] : List (S91)), wrap64 (a1 + 1))) else (if (bt a0 a1) = 34 then ((spec_l1Word.f kj3 a0 a1).bind fun bt403 => (some (bt403.1, bt403.2.1, bt403.2.2.1, bt403.2.2.2.1, bt403.2.2.2.2))) else (if (bt a0 a1) = 40 then ((spec_l1Inner.f (spec_l1Read.f kj3) kj3 a0 (wrap64 (a1 + 1)) 2 41 a2).bind fun bt410 => (some (7, 0, (⟨#[]⟩ : ByteArray), bt410.1, bt410.2))) else (if (bt a0 a1) = 91 then ((spec_l1Inner.f (spec_l1Read.f kj3) kj3 a0 (wrap64 (a1 + 1)) 1 93 a2).bind fun bt414 => (some (8, 0, (⟨#[]⟩ : ByteArray), bt414.1, bt414.2))) else (if (bt a0 a1) ≥ 48 then (if (bt a0 a1) ≤ 57 then (if (wrap64 (a1 + 1)) < (a0.size : Int) then (if 0 ≤ (wrap64 (a1 + 1)) then (if (bt a0 (wrap64 (a1 + 1))) = 60 then ((spec_l1Inner.f (spec_l1Read.f kj3) kj3 a0 (wrap64 (a1 + 2)) 1 62 a2).bind fun bt418 => (some (6, ((bt a0 a1) - 48) % 256, (⟨#[]⟩ : ByteArray), bt418.1, bt418.2))) else (some (0, 0, (⟨#[]⟩ : ByteArray), ([] : List (S91)), (-1)))) else (none)) else (some (0, 0, (⟨#[]⟩ : ByteArray), ([] : List (S91)), (-1)))) else (some (0, 0, (⟨#[]⟩ : ByteArray), ([] : List (S91)), (-1)))) else (some (0, 0, (⟨#[]⟩ : ByteArray), ([] : List (S91)), (-1))))))))))) else (none)) else (none)) = some (r1, r2, r3, r4, r5) := by rw [if_neg (show ¬ (false = true) by decide)] at H; exact H
    clear H
    have H := H1
    clear H1
    by_cases c9 : 0 ≤ a1
    ·rw [if_pos c9] at H
     have c9b0 : decide (0 ≤ a1) = true := decide_eq_true c9
     clear c9
     by_cases c10 : a1 < (a0.size : Int)
     ·rw [if_pos c10] at H
      have c10b0 : decide (a1 < (a0.size : Int)) = true := decide_eq_true c10
      clear c10
      by_cases c12 : (bt a0 a1) = 126
      ·rw [if_pos c12] at H
       have c12b0 : ((bt a0 a1) == 126) = true := beq_iff_eq.mpr c12
       have c12b1 : ((bt a0 a1) != 126) = false := bne_eq_false_iff_eq.mpr c12
       clear c12
       simp only [Option.some.injEq, Prod.mk.injEq] at H
       obtain ⟨rfl, rfl, rfl, rfl, rfl⟩ := H
       have p11 : 0 ≤ (a1 : Int) := of_decide_eq_true aQ
       have q11 : a1 < (a0.size : Int) := of_decide_eq_true aQ
       have hx11 := bt_at a0 a1
       replace p11 := eq_true p11
       replace q11 := eq_true q11
       have hcz13_0 : wc.cell? ⟨gb402, 0, none⟩ = some (.int .i64 0) := (blk_cell BK402.out 0).trans rfl
       have hcz13_1 : wc.cell? ⟨gb402, 1, none⟩ = some (.int .i64 0) := (blk_cell BK402.out 1).trans rfl
       have hcz13_2 : wc.cell? ⟨gb402, 2, none⟩ = some (.string (⟨#[]⟩ : ByteArray)) := (blk_cell BK402.out 2).trans rfl
       have hcz13_3 : wc.cell? ⟨gb402, 3, none⟩ = some (.slice none 0 0) := (blk_cell BK402.out 3).trans rfl
       have hfz13_0 := blk_frozen BK402.out 0
       have hfz13_1 := blk_frozen BK402.out 1
       have hfz13_2 := blk_frozen BK402.out 2
       have hfz13_3 := blk_frozen BK402.out 3
       go_wp2
       refine bodyPost_ret (results_ct rfl _ _ gb402 91 #[.int .i64 1, .int .i64 0, .string (⟨#[]⟩ : ByteArray), .slice none 0 0] (0, 0) _ rfl (by refine aW ?_; refine blk_put (cs := #[.int .i64 1, .int .i64 0, .string (⟨#[]⟩ : ByteArray), .slice none 0 0]) ?_ 3 _ rfl; refine aW ?_; refine blk_put (cs := #[.int .i64 1, .int .i64 0, .string (⟨#[]⟩ : ByteArray), .slice none 0 0]) ?_ 2 _ rfl; refine aW ?_; refine blk_put (cs := #[.int .i64 1, .int .i64 0, .string (⟨#[]⟩ : ByteArray), .slice none 0 0]) ?_ 1 _ rfl; refine aW ?_; refine blk_put (cs := #[.int .i64 0, .int .i64 0, .string (⟨#[]⟩ : ByteArray), .slice none 0 0]) ?_ 0 _ rfl; refine aW ?_; exact BK402.out) Try.underlying91 rfl aK) rfl ?_
       exact ⟨_, by first | rfl | (simp [errW_none, errW_some] <;> rfl) | (simp [*, errW_none, errW_some] <;> rfl), by first | exact Kd.R_nil _ _ _ _ _ | exact Kd.N_nil _ _ _ _ _ | exact Kd.V_nil _ _ _ _ _ | exact Kd.Q_nil _ _ _ _ _ | exact Kd.S_nil _ _ _ _ _, by repeat (first | (with_reducible first | exact HB.out | apply below_alloc | apply pw_below_drewN | apply below_drew1 | refine below_set ?_ GE402.out) | exact HB.out)⟩
      ·rw [if_neg c12] at H
       have c12b0 : ((bt a0 a1) == 126) = false := beq_eq_false_iff_ne.mpr c12
       have c12b1 : ((bt a0 a1) != 126) = true := bne_iff_ne.mpr c12
       by_cases c14 : (bt a0 a1) = 95
       ·rw [if_pos c14] at H
        have c14b0 : ((bt a0 a1) == 95) = true := beq_iff_eq.mpr c14
        have c14b1 : ((bt a0 a1) != 95) = false := bne_eq_false_iff_eq.mpr c14
        clear c14
        simp only [Option.some.injEq, Prod.mk.injEq] at H
        obtain ⟨rfl, rfl, rfl, rfl, rfl⟩ := H
        have p11 : 0 ≤ (a1 : Int) := of_decide_eq_true aQ
        have q11 : a1 < (a0.size : Int) := of_decide_eq_true aQ
        have hx11 := bt_at a0 a1
        replace p11 := eq_true p11
        replace q11 := eq_true q11
        have hcz15_0 : wc.cell? ⟨gb402, 0, none⟩ = some (.int .i64 0) := (blk_cell BK402.out 0).trans rfl
        have hcz15_1 : wc.cell? ⟨gb402, 1, none⟩ = some (.int .i64 0) := (blk_cell BK402.out 1).trans rfl
        have hcz15_2 : wc.cell? ⟨gb402, 2, none⟩ = some (.string (⟨#[]⟩ : ByteArray)) := (blk_cell BK402.out 2).trans rfl
        have hcz15_3 : wc.cell? ⟨gb402, 3, none⟩ = some (.slice none 0 0) := (blk_cell BK402.out 3).trans rfl
        have hfz15_0 := blk_frozen BK402.out 0
        have hfz15_1 := blk_frozen BK402.out 1
        have hfz15_2 := blk_frozen BK402.out 2
        have hfz15_3 := blk_frozen BK402.out 3
        go_wp2
        refine bodyPost_ret (results_ct rfl _ _ gb402 91 #[.int .i64 3, .int .i64 0, .string (⟨#[]⟩ : ByteArray), .slice none 0 0] (0, 0) _ rfl (by refine aW ?_; refine blk_put (cs := #[.int .i64 3, .int .i64 0, .string (⟨#[]⟩ : ByteArray), .slice none 0 0]) ?_ 3 _ rfl; refine aW ?_; refine blk_put (cs := #[.int .i64 3, .int .i64 0, .string (⟨#[]⟩ : ByteArray), .slice none 0 0]) ?_ 2 _ rfl; refine aW ?_; refine blk_put (cs := #[.int .i64 3, .int .i64 0, .string (⟨#[]⟩ : ByteArray), .slice none 0 0]) ?_ 1 _ rfl; refine aW ?_; refine blk_put (cs := #[.int .i64 0, .int .i64 0, .string (⟨#[]⟩ : ByteArray), .slice none 0 0]) ?_ 0 _ rfl; refine aW ?_; exact BK402.out) Try.underlying91 rfl aK) rfl ?_
        exact ⟨_, by first | rfl | (simp [errW_none, errW_some] <;> rfl) | (simp [*, errW_none, errW_some] <;> rfl), by first | exact Kd.R_nil _ _ _ _ _ | exact Kd.N_nil _ _ _ _ _ | exact Kd.V_nil _ _ _ _ _ | exact Kd.Q_nil _ _ _ _ _ | exact Kd.S_nil _ _ _ _ _, by repeat (first | (with_reducible first | exact HB.out | apply below_alloc | apply pw_below_drewN | apply below_drew1 | refine below_set ?_ GE402.out) | exact HB.out)⟩
       ·rw [if_neg c14] at H
        have c14b0 : ((bt a0 a1) == 95) = false := beq_eq_false_iff_ne.mpr c14
        have c14b1 : ((bt a0 a1) != 95) = true := bne_iff_ne.mpr c14
        by_cases c16 : (bt a0 a1) = 46
        ·rw [if_pos c16] at H
         have c16b0 : ((bt a0 a1) == 46) = true := beq_iff_eq.mpr c16
         have c16b1 : ((bt a0 a1) != 46) = false := bne_eq_false_iff_eq.mpr c16
         clear c16
         simp only [Option.some.injEq, Prod.mk.injEq] at H
         obtain ⟨rfl, rfl, rfl, rfl, rfl⟩ := H
         have p11 : 0 ≤ (a1 : Int) := of_decide_eq_true aQ
         have q11 : a1 < (a0.size : Int) := of_decide_eq_true aQ
         have hx11 := bt_at a0 a1
         replace p11 := eq_true p11
         replace q11 := eq_true q11
         have hcz17_0 : wc.cell? ⟨gb402, 0, none⟩ = some (.int .i64 0) := (blk_cell BK402.out 0).trans rfl
         have hcz17_1 : wc.cell? ⟨gb402, 1, none⟩ = some (.int .i64 0) := (blk_cell BK402.out 1).trans rfl
         have hcz17_2 : wc.cell? ⟨gb402, 2, none⟩ = some (.string (⟨#[]⟩ : ByteArray)) := (blk_cell BK402.out 2).trans rfl
         have hcz17_3 : wc.cell? ⟨gb402, 3, none⟩ = some (.slice none 0 0) := (blk_cell BK402.out 3).trans rfl
         have hfz17_0 := blk_frozen BK402.out 0
         have hfz17_1 := blk_frozen BK402.out 1
         have hfz17_2 := blk_frozen BK402.out 2
         have hfz17_3 := blk_frozen BK402.out 3
         go_wp2
         refine bodyPost_ret (results_ct rfl _ _ gb402 91 #[.int .i64 4, .int .i64 0, .string (⟨#[]⟩ : ByteArray), .slice none 0 0] (0, 0) _ rfl (by refine aW ?_; refine blk_put (cs := #[.int .i64 4, .int .i64 0, .string (⟨#[]⟩ : ByteArray), .slice none 0 0]) ?_ 3 _ rfl; refine aW ?_; refine blk_put (cs := #[.int .i64 4, .int .i64 0, .string (⟨#[]⟩ : ByteArray), .slice none 0 0]) ?_ 2 _ rfl; refine aW ?_; refine blk_put (cs := #[.int .i64 4, .int .i64 0, .string (⟨#[]⟩ : ByteArray), .slice none 0 0]) ?_ 1 _ rfl; refine aW ?_; refine blk_put (cs := #[.int .i64 0, .int .i64 0, .string (⟨#[]⟩ : ByteArray), .slice none 0 0]) ?_ 0 _ rfl; refine aW ?_; exact BK402.out) Try.underlying91 rfl aK) rfl ?_
         exact ⟨_, by first | rfl | (simp [errW_none, errW_some] <;> rfl) | (simp [*, errW_none, errW_some] <;> rfl), by first | exact Kd.R_nil _ _ _ _ _ | exact Kd.N_nil _ _ _ _ _ | exact Kd.V_nil _ _ _ _ _ | exact Kd.Q_nil _ _ _ _ _ | exact Kd.S_nil _ _ _ _ _, by repeat (first | (with_reducible first | exact HB.out | apply below_alloc | apply pw_below_drewN | apply below_drew1 | refine below_set ?_ GE402.out) | exact HB.out)⟩
        ·rw [if_neg c16] at H
         have c16b0 : ((bt a0 a1) == 46) = false := beq_eq_false_iff_ne.mpr c16
         have c16b1 : ((bt a0 a1) != 46) = true := bne_iff_ne.mpr c16
         by_cases c18 : (bt a0 a1) = 33
         ·rw [if_pos c18] at H
          have c18b0 : ((bt a0 a1) == 33) = true := beq_iff_eq.mpr c18
          have c18b1 : ((bt a0 a1) != 33) = false := bne_eq_false_iff_eq.mpr c18
          clear c18
          simp only [Option.some.injEq, Prod.mk.injEq] at H
          obtain ⟨rfl, rfl, rfl, rfl, rfl⟩ := H
          have p11 : 0 ≤ (a1 : Int) := of_decide_eq_true aQ
          have q11 : a1 < (a0.size : Int) := of_decide_eq_true aQ
          have hx11 := bt_at a0 a1
          replace p11 := eq_true p11
          replace q11 := eq_true q11
          have hcz19_0 : wc.cell? ⟨gb402, 0, none⟩ = some (.int .i64 0) := (blk_cell BK402.out 0).trans rfl
          have hcz19_1 : wc.cell? ⟨gb402, 1, none⟩ = some (.int .i64 0) := (blk_cell BK402.out 1).trans rfl
          have hcz19_2 : wc.cell? ⟨gb402, 2, none⟩ = some (.string (⟨#[]⟩ : ByteArray)) := (blk_cell BK402.out 2).trans rfl
          have hcz19_3 : wc.cell? ⟨gb402, 3, none⟩ = some (.slice none 0 0) := (blk_cell BK402.out 3).trans rfl
          have hfz19_0 := blk_frozen BK402.out 0
          have hfz19_1 := blk_frozen BK402.out 1
          have hfz19_2 := blk_frozen BK402.out 2
          have hfz19_3 := blk_frozen BK402.out 3
          go_wp2
          refine bodyPost_ret (results_ct rfl _ _ gb402 91 #[.int .i64 5, .int .i64 0, .string (⟨#[]⟩ : ByteArray), .slice none 0 0] (0, 0) _ rfl (by refine aW ?_; refine blk_put (cs := #[.int .i64 5, .int .i64 0, .string (⟨#[]⟩ : ByteArray), .slice none 0 0]) ?_ 3 _ rfl; refine aW ?_; refine blk_put (cs := #[.int .i64 5, .int .i64 0, .string (⟨#[]⟩ : ByteArray), .slice none 0 0]) ?_ 2 _ rfl; refine aW ?_; refine blk_put (cs := #[.int .i64 5, .int .i64 0, .string (⟨#[]⟩ : ByteArray), .slice none 0 0]) ?_ 1 _ rfl; refine aW ?_; refine blk_put (cs := #[.int .i64 0, .int .i64 0, .string (⟨#[]⟩ : ByteArray), .slice none 0 0]) ?_ 0 _ rfl; refine aW ?_; exact BK402.out) Try.underlying91 rfl aK) rfl ?_
          exact ⟨_, by first | rfl | (simp [errW_none, errW_some] <;> rfl) | (simp [*, errW_none, errW_some] <;> rfl), by first | exact Kd.R_nil _ _ _ _ _ | exact Kd.N_nil _ _ _ _ _ | exact Kd.V_nil _ _ _ _ _ | exact Kd.Q_nil _ _ _ _ _ | exact Kd.S_nil _ _ _ _ _, by repeat (first | (with_reducible first | exact HB.out | apply below_alloc | apply pw_below_drewN | apply below_drew1 | refine below_set ?_ GE402.out) | exact HB.out)⟩
         ·rw [if_neg c18] at H
          have c18b0 : ((bt a0 a1) == 33) = false := beq_eq_false_iff_ne.mpr c18
          have c18b1 : ((bt a0 a1) != 33) = true := bne_iff_ne.mpr c18
          by_cases c20 : (bt a0 a1) = 34
          ·rw [if_pos c20] at H
           have c20b0 : ((bt a0 a1) == 34) = true := beq_iff_eq.mpr c20
           have c20b1 : ((bt a0 a1) != 34) = false := bne_eq_false_iff_eq.mpr c20
           clear c20
           replace H := Option.bind_eq_some_iff.mp H
           obtain ⟨⟨t403, t404, t405, t406, t409⟩, A210, H⟩ := H
           replace H : (some (t403, t404, t405, t406, t409)) = some (r1, r2, r3, r4, r5) := H
           have A21 := Aside0.mk A210
           clear A210
           simp only [Option.some.injEq, Prod.mk.injEq] at H
           obtain ⟨rfl, rfl, rfl, rfl, rfl⟩ := H
           have p11 : 0 ≤ (a1 : Int) := of_decide_eq_true aQ
           have q11 : a1 < (a0.size : Int) := of_decide_eq_true aQ
           have hx11 := bt_at a0 a1
           replace p11 := eq_true p11
           replace q11 := eq_true q11
           go_wp2_with (first | ((with_reducible refine gate_callee (f := 108) rfl ?_); refine goesL_ (some 50) rfl rfl Try.func108 aK rfl #[.string a0, .int .i64 a1] rfl aL ?_; (with_reducible refine (spec_l1Word.calls kj3 a0 a1 t403 t404 t405 t406 t409 _ A21.out).mono ?_); rintro e w22 ⟨v407, rfl, ho0, hb⟩; refine ⟨_, rfl, ?_⟩; have n0_ := Aside0.mk (Kd.N_lower (Kd.N_mono (ok' := fun k_ => (w.heap.size ≤ k_) ∧ k_ ≠ gb402) (Kd.R_N (Kd.R_bound ho0)) (fun k_ hk_ => ⟨(Nat.le_trans (below_size (aB1 GE402.out)) hk_.2.1), (Kd.freshB (g := gb402) (o := .cells #[.int .i64 0, .int .i64 0, .string (⟨#[]⟩ : ByteArray), .slice none 0 0] 91 (0, 0)) (aW BK402.out) k_ hk_.2.1)⟩)) (below_size (aB1 GE402.out))); have n1_ := Aside0.mk (blk_below (g := gb402) (o := .cells #[.int .i64 0, .int .i64 0, .string (⟨#[]⟩ : ByteArray), .slice none 0 0] 91 (0, 0)) (aW BK402.out) hb); have n2_ := Aside0.mk (below_step (aB1 GE402.out) hb); clear BK402; clear HB; have HO408 := n0_; have BK402 := n1_; have HB := n2_; clear n0_ n1_ n2_; (try clear hb); (try clear hb2); (try clear hk); (try clear hi); (try clear ho0); have hcz23_0 : w22.cell? ⟨gb402, 0, none⟩ = some (.int .i64 0) := (blk_cell BK402.out 0).trans rfl; have hcz23_1 : w22.cell? ⟨gb402, 1, none⟩ = some (.int .i64 0) := (blk_cell BK402.out 1).trans rfl; have hcz23_2 : w22.cell? ⟨gb402, 2, none⟩ = some (.string (⟨#[]⟩ : ByteArray)) := (blk_cell BK402.out 2).trans rfl; have hcz23_3 : w22.cell? ⟨gb402, 3, none⟩ = some (.slice none 0 0) := (blk_cell BK402.out 3).trans rfl; have hfz23_0 := blk_frozen BK402.out 0; have hfz23_1 := blk_frozen BK402.out 1; have hfz23_2 := blk_frozen BK402.out 2; have hfz23_3 := blk_frozen BK402.out 3; obtain ⟨Ao24, co24, eo24⟩ := Kd.N_slice HO408.out; subst eo24))
           refine bodyPost_ret (results_ct rfl _ _ gb402 91 #[.int .i64 t403, .int .i64 t404, .string t405, .slice Ao24 t406.length co24] (0, 0) _ rfl (by refine aW ?_; refine blk_put (cs := #[.int .i64 t403, .int .i64 t404, .string t405, .slice none 0 0]) ?_ 3 _ rfl; refine aW ?_; refine blk_put (cs := #[.int .i64 t403, .int .i64 t404, .string (⟨#[]⟩ : ByteArray), .slice none 0 0]) ?_ 2 _ rfl; refine aW ?_; refine blk_put (cs := #[.int .i64 t403, .int .i64 0, .string (⟨#[]⟩ : ByteArray), .slice none 0 0]) ?_ 1 _ rfl; refine aW ?_; refine blk_put (cs := #[.int .i64 0, .int .i64 0, .string (⟨#[]⟩ : ByteArray), .slice none 0 0]) ?_ 0 _ rfl; refine aW ?_; exact BK402.out) Try.underlying91 rfl aK) rfl ?_
           exact ⟨_, by first | rfl | (simp [errW_none, errW_some] <;> rfl) | (simp [*, errW_none, errW_some] <;> rfl), by (with_reducible repeat (first | apply Kd.N_alloc | apply Kd.N_drewN | apply Kd.N_drew)); exact Kd.N_mono (Kd.N_far (p := ⟨gb402, 3, none⟩) (Kd.N_far (p := ⟨gb402, 2, none⟩) (Kd.N_far (p := ⟨gb402, 1, none⟩) (Kd.N_far (p := ⟨gb402, 0, none⟩) (Kd.N_mono HO408.out (fun k_ hk => (⟨hk, hk.2⟩ : _ ∧ k_ ≠ gb402))) (fun _ hk => hk.2) (.int .i64 t403)) (fun _ hk => hk.2) (.int .i64 t404)) (fun _ hk => hk.2) (.string t405)) (fun _ hk => hk.2) (.slice Ao24 t406.length co24)) (fun _ hk => hk.1.1), by repeat (first | (with_reducible first | exact HB.out | apply below_alloc | apply pw_below_drewN | apply below_drew1 | refine below_set ?_ GE402.out) | exact HB.out)⟩
          ·rw [if_neg c20] at H
           have c20b0 : ((bt a0 a1) == 34) = false := beq_eq_false_iff_ne.mpr c20
           have c20b1 : ((bt a0 a1) != 34) = true := bne_iff_ne.mpr c20
           by_cases c25 : (bt a0 a1) = 40
           ·rw [if_pos c25] at H
            have c25b0 : ((bt a0 a1) == 40) = true := beq_iff_eq.mpr c25
            have c25b1 : ((bt a0 a1) != 40) = false := bne_eq_false_iff_eq.mpr c25
            clear c25
            replace H := Option.bind_eq_some_iff.mp H
            obtain ⟨⟨t410, t413⟩, A260, H⟩ := H
            replace H : (some (7, 0, (⟨#[]⟩ : ByteArray), t410, t413)) = some (r1, r2, r3, r4, r5) := H
            have A26 := Aside0.mk A260
            clear A260
            simp only [Option.some.injEq, Prod.mk.injEq] at H
            obtain ⟨rfl, rfl, rfl, rfl, rfl⟩ := H
            have p11 : 0 ≤ (a1 : Int) := of_decide_eq_true aQ
            have q11 : a1 < (a0.size : Int) := of_decide_eq_true aQ
            have hx11 := bt_at a0 a1
            replace p11 := eq_true p11
            replace q11 := eq_true q11
            go_wp2_with (first | ((with_reducible refine gate_callee (f := 109) rfl ?_); refine goesL_ (some 60) rfl rfl Try.func109 aK rfl #[.string a0, .int .i64 (wrap64 (a1 + 1)), .int .i64 2, .int .u8 41, .int .i64 a2] rfl aL ?_; (with_reducible refine (spec_l1Inner.calls (spec_l1Read.f kj3) (ih kj3 (by have := HJ3.out; omega)) kj3 a0 (wrap64 (a1 + 1)) 2 41 a2 t410 t413 _ A26.out).mono ?_); rintro e w27 ⟨v411, rfl, ho0, hb⟩; refine ⟨_, rfl, ?_⟩; have n0_ := Aside0.mk (Kd.N_lower (Kd.N_mono (ok' := fun k_ => (w.heap.size ≤ k_) ∧ k_ ≠ gb402) ho0 (fun k_ hk_ => ⟨(Nat.le_trans (below_size (aB1 GE402.out)) hk_), (Kd.freshB (g := gb402) (o := .cells #[.int .i64 0, .int .i64 0, .string (⟨#[]⟩ : ByteArray), .slice none 0 0] 91 (0, 0)) (aW BK402.out) k_ hk_)⟩)) (below_size (aB1 GE402.out))); have n1_ := Aside0.mk (blk_below (g := gb402) (o := .cells #[.int .i64 0, .int .i64 0, .string (⟨#[]⟩ : ByteArray), .slice none 0 0] 91 (0, 0)) (aW BK402.out) hb); have n2_ := Aside0.mk (below_step (aB1 GE402.out) hb); clear BK402; clear HB; have HO412 := n0_; have BK402 := n1_; have HB := n2_; clear n0_ n1_ n2_; (try clear hb); (try clear hb2); (try clear hk); (try clear hi); (try clear ho0); obtain ⟨Ao28, co28, eo28⟩ := Kd.N_slice HO412.out; subst eo28; have hcz29_0 : w27.cell? ⟨gb402, 0, none⟩ = some (.int .i64 0) := (blk_cell BK402.out 0).trans rfl; have hcz29_1 : w27.cell? ⟨gb402, 1, none⟩ = some (.int .i64 0) := (blk_cell BK402.out 1).trans rfl; have hcz29_2 : w27.cell? ⟨gb402, 2, none⟩ = some (.string (⟨#[]⟩ : ByteArray)) := (blk_cell BK402.out 2).trans rfl; have hcz29_3 : w27.cell? ⟨gb402, 3, none⟩ = some (.slice none 0 0) := (blk_cell BK402.out 3).trans rfl; have hfz29_0 := blk_frozen BK402.out 0; have hfz29_1 := blk_frozen BK402.out 1; have hfz29_2 := blk_frozen BK402.out 2; have hfz29_3 := blk_frozen BK402.out 3))
            refine bodyPost_ret (results_ct rfl _ _ gb402 91 #[.int .i64 7, .int .i64 0, .string (⟨#[]⟩ : ByteArray), .slice Ao28 t410.length co28] (0, 0) _ rfl (by refine aW ?_; refine blk_put (cs := #[.int .i64 7, .int .i64 0, .string (⟨#[]⟩ : ByteArray), .slice none 0 0]) ?_ 3 _ rfl; refine aW ?_; refine blk_put (cs := #[.int .i64 7, .int .i64 0, .string (⟨#[]⟩ : ByteArray), .slice none 0 0]) ?_ 2 _ rfl; refine aW ?_; refine blk_put (cs := #[.int .i64 7, .int .i64 0, .string (⟨#[]⟩ : ByteArray), .slice none 0 0]) ?_ 1 _ rfl; refine aW ?_; refine blk_put (cs := #[.int .i64 0, .int .i64 0, .string (⟨#[]⟩ : ByteArray), .slice none 0 0]) ?_ 0 _ rfl; refine aW ?_; exact BK402.out) Try.underlying91 rfl aK) rfl ?_
            exact ⟨_, by first | rfl | (simp [errW_none, errW_some] <;> rfl) | (simp [*, errW_none, errW_some] <;> rfl), by (with_reducible repeat (first | apply Kd.N_alloc | apply Kd.N_drewN | apply Kd.N_drew)); exact Kd.N_mono (Kd.N_far (p := ⟨gb402, 3, none⟩) (Kd.N_far (p := ⟨gb402, 2, none⟩) (Kd.N_far (p := ⟨gb402, 1, none⟩) (Kd.N_far (p := ⟨gb402, 0, none⟩) (Kd.N_mono HO412.out (fun k_ hk => (⟨hk, hk.2⟩ : _ ∧ k_ ≠ gb402))) (fun _ hk => hk.2) (.int .i64 7)) (fun _ hk => hk.2) (.int .i64 0)) (fun _ hk => hk.2) (.string (⟨#[]⟩ : ByteArray))) (fun _ hk => hk.2) (.slice Ao28 t410.length co28)) (fun _ hk => hk.1.1), by repeat (first | (with_reducible first | exact HB.out | apply below_alloc | apply pw_below_drewN | apply below_drew1 | refine below_set ?_ GE402.out) | exact HB.out)⟩
           ·rw [if_neg c25] at H
            have c25b0 : ((bt a0 a1) == 40) = false := beq_eq_false_iff_ne.mpr c25
            have c25b1 : ((bt a0 a1) != 40) = true := bne_iff_ne.mpr c25
            by_cases c30 : (bt a0 a1) = 91
            ·rw [if_pos c30] at H
             have c30b0 : ((bt a0 a1) == 91) = true := beq_iff_eq.mpr c30
             have c30b1 : ((bt a0 a1) != 91) = false := bne_eq_false_iff_eq.mpr c30
             clear c30
             replace H := Option.bind_eq_some_iff.mp H
             obtain ⟨⟨t414, t417⟩, A310, H⟩ := H
             replace H : (some (8, 0, (⟨#[]⟩ : ByteArray), t414, t417)) = some (r1, r2, r3, r4, r5) := H
             have A31 := Aside0.mk A310
             clear A310
             simp only [Option.some.injEq, Prod.mk.injEq] at H
             obtain ⟨rfl, rfl, rfl, rfl, rfl⟩ := H
             have p11 : 0 ≤ (a1 : Int) := of_decide_eq_true aQ
             have q11 : a1 < (a0.size : Int) := of_decide_eq_true aQ
             have hx11 := bt_at a0 a1
             replace p11 := eq_true p11
             replace q11 := eq_true q11
             go_wp2_with (first | ((with_reducible refine gate_callee (f := 109) rfl ?_); refine goesL_ (some 73) rfl rfl Try.func109 aK rfl #[.string a0, .int .i64 (wrap64 (a1 + 1)), .int .i64 1, .int .u8 93, .int .i64 a2] rfl aL ?_; (with_reducible refine (spec_l1Inner.calls (spec_l1Read.f kj3) (ih kj3 (by have := HJ3.out; omega)) kj3 a0 (wrap64 (a1 + 1)) 1 93 a2 t414 t417 _ A31.out).mono ?_); rintro e w32 ⟨v415, rfl, ho0, hb⟩; refine ⟨_, rfl, ?_⟩; have n0_ := Aside0.mk (Kd.N_lower (Kd.N_mono (ok' := fun k_ => (w.heap.size ≤ k_) ∧ k_ ≠ gb402) ho0 (fun k_ hk_ => ⟨(Nat.le_trans (below_size (aB1 GE402.out)) hk_), (Kd.freshB (g := gb402) (o := .cells #[.int .i64 0, .int .i64 0, .string (⟨#[]⟩ : ByteArray), .slice none 0 0] 91 (0, 0)) (aW BK402.out) k_ hk_)⟩)) (below_size (aB1 GE402.out))); have n1_ := Aside0.mk (blk_below (g := gb402) (o := .cells #[.int .i64 0, .int .i64 0, .string (⟨#[]⟩ : ByteArray), .slice none 0 0] 91 (0, 0)) (aW BK402.out) hb); have n2_ := Aside0.mk (below_step (aB1 GE402.out) hb); clear BK402; clear HB; have HO416 := n0_; have BK402 := n1_; have HB := n2_; clear n0_ n1_ n2_; (try clear hb); (try clear hb2); (try clear hk); (try clear hi); (try clear ho0); obtain ⟨Ao33, co33, eo33⟩ := Kd.N_slice HO416.out; subst eo33; have hcz34_0 : w32.cell? ⟨gb402, 0, none⟩ = some (.int .i64 0) := (blk_cell BK402.out 0).trans rfl; have hcz34_1 : w32.cell? ⟨gb402, 1, none⟩ = some (.int .i64 0) := (blk_cell BK402.out 1).trans rfl; have hcz34_2 : w32.cell? ⟨gb402, 2, none⟩ = some (.string (⟨#[]⟩ : ByteArray)) := (blk_cell BK402.out 2).trans rfl; have hcz34_3 : w32.cell? ⟨gb402, 3, none⟩ = some (.slice none 0 0) := (blk_cell BK402.out 3).trans rfl; have hfz34_0 := blk_frozen BK402.out 0; have hfz34_1 := blk_frozen BK402.out 1; have hfz34_2 := blk_frozen BK402.out 2; have hfz34_3 := blk_frozen BK402.out 3))
             refine bodyPost_ret (results_ct rfl _ _ gb402 91 #[.int .i64 8, .int .i64 0, .string (⟨#[]⟩ : ByteArray), .slice Ao33 t414.length co33] (0, 0) _ rfl (by refine aW ?_; refine blk_put (cs := #[.int .i64 8, .int .i64 0, .string (⟨#[]⟩ : ByteArray), .slice none 0 0]) ?_ 3 _ rfl; refine aW ?_; refine blk_put (cs := #[.int .i64 8, .int .i64 0, .string (⟨#[]⟩ : ByteArray), .slice none 0 0]) ?_ 2 _ rfl; refine aW ?_; refine blk_put (cs := #[.int .i64 8, .int .i64 0, .string (⟨#[]⟩ : ByteArray), .slice none 0 0]) ?_ 1 _ rfl; refine aW ?_; refine blk_put (cs := #[.int .i64 0, .int .i64 0, .string (⟨#[]⟩ : ByteArray), .slice none 0 0]) ?_ 0 _ rfl; refine aW ?_; exact BK402.out) Try.underlying91 rfl aK) rfl ?_
             exact ⟨_, by first | rfl | (simp [errW_none, errW_some] <;> rfl) | (simp [*, errW_none, errW_some] <;> rfl), by (with_reducible repeat (first | apply Kd.N_alloc | apply Kd.N_drewN | apply Kd.N_drew)); exact Kd.N_mono (Kd.N_far (p := ⟨gb402, 3, none⟩) (Kd.N_far (p := ⟨gb402, 2, none⟩) (Kd.N_far (p := ⟨gb402, 1, none⟩) (Kd.N_far (p := ⟨gb402, 0, none⟩) (Kd.N_mono HO416.out (fun k_ hk => (⟨hk, hk.2⟩ : _ ∧ k_ ≠ gb402))) (fun _ hk => hk.2) (.int .i64 8)) (fun _ hk => hk.2) (.int .i64 0)) (fun _ hk => hk.2) (.string (⟨#[]⟩ : ByteArray))) (fun _ hk => hk.2) (.slice Ao33 t414.length co33)) (fun _ hk => hk.1.1), by repeat (first | (with_reducible first | exact HB.out | apply below_alloc | apply pw_below_drewN | apply below_drew1 | refine below_set ?_ GE402.out) | exact HB.out)⟩
            ·rw [if_neg c30] at H
             have c30b0 : ((bt a0 a1) == 91) = false := beq_eq_false_iff_ne.mpr c30
             have c30b1 : ((bt a0 a1) != 91) = true := bne_iff_ne.mpr c30
             by_cases c36 : (bt a0 a1) ≥ 48
             ·rw [if_pos c36] at H
              have c36b0 : decide (48 ≤ (bt a0 a1)) = true := decide_eq_true c36
              clear c36
              by_cases c38 : (bt a0 a1) ≤ 57
              ·rw [if_pos c38] at H
               have c38b0 : decide ((bt a0 a1) ≤ 57) = true := decide_eq_true c38
               clear c38
               by_cases c39 : (wrap64 (a1 + 1)) < (a0.size : Int)
               ·rw [if_pos c39] at H
                have c39b0 : decide ((wrap64 (a1 + 1)) < (a0.size : Int)) = true := decide_eq_true c39
                clear c39
                obtain ⟨ji40, hji40⟩ : ∃ j_ : Int, (wrap64 (a1 + 1)) = j_ := ⟨_, rfl⟩
                replace H : (if 0 ≤ (ji40) then (if (bt a0 (ji40)) = 60 then ((spec_l1Inner.f (spec_l1Read.f kj3) kj3 a0 (wrap64 (a1 + 2)) 1 62 a2).bind fun bt418 => (some (6, ((bt a0 a1) - 48) % 256, (⟨#[]⟩ : ByteArray), bt418.1, bt418.2))) else (some (0, 0, (⟨#[]⟩ : ByteArray), ([] : List (S91)), (-1)))) else (none)) = some (r1, r2, r3, r4, r5) := by first | (rw [hji40] at H; exact H) | (simp only [hji40] at H ⊢; exact H)
                (try rw [hji40] at c39b0)
                have hji40w : (IntKind.i64.wrap (a1 + 1)) = ji40 := (i64_w _).trans hji40
                by_cases c41 : 0 ≤ (ji40)
                ·rw [if_pos c41] at H
                 have c41b0 : decide (0 ≤ (ji40)) = true := decide_eq_true c41
                 clear c41
                 by_cases c43 : (bt a0 (ji40)) = 60
                 ·rw [if_pos c43] at H
                  have c43b0 : ((bt a0 (ji40)) == 60) = true := beq_iff_eq.mpr c43
                  have c43b1 : ((bt a0 (ji40)) != 60) = false := bne_eq_false_iff_eq.mpr c43
                  clear c43
                  replace H := Option.bind_eq_some_iff.mp H
                  obtain ⟨⟨t418, t421⟩, A440, H⟩ := H
                  replace H : (some (6, ((bt a0 a1) - 48) % 256, (⟨#[]⟩ : ByteArray), t418, t421)) = some (r1, r2, r3, r4, r5) := H
                  have A44 := Aside0.mk A440
                  clear A440
                  simp only [Option.some.injEq, Prod.mk.injEq] at H
                  obtain ⟨rfl, rfl, rfl, rfl, rfl⟩ := H
                  have p11 : 0 ≤ (a1 : Int) := of_decide_eq_true aQ
                  have q11 : a1 < (a0.size : Int) := of_decide_eq_true aQ
                  have hx11 := bt_at a0 a1
                  replace p11 := eq_true p11
                  replace q11 := eq_true q11
                  have p35 : 0 ≤ (a1 : Int) := of_decide_eq_true aQ
                  have q35 : a1 < (a0.size : Int) := of_decide_eq_true aQ
                  have hx35 := bt_at a0 a1
                  replace p35 := eq_true p35
                  replace q35 := eq_true q35
                  have p37 : 0 ≤ (a1 : Int) := of_decide_eq_true aQ
                  have q37 : a1 < (a0.size : Int) := of_decide_eq_true aQ
                  have hx37 := bt_at a0 a1
                  replace p37 := eq_true p37
                  replace q37 := eq_true q37
                  have p42 : 0 ≤ ((ji40) : Int) := of_decide_eq_true aQ
                  have q42 : (ji40) < (a0.size : Int) := of_decide_eq_true aQ
                  have hx42 := bt_at a0 (ji40)
                  replace p42 := eq_true p42
                  replace q42 := eq_true q42
                  go_wp2_with (first | ((with_reducible refine gate_callee (f := 109) rfl ?_); refine goesL_ (some 108) rfl rfl Try.func109 aK rfl #[.string a0, .int .i64 (wrap64 (a1 + 2)), .int .i64 1, .int .u8 62, .int .i64 a2] rfl aL ?_; (with_reducible refine (spec_l1Inner.calls (spec_l1Read.f kj3) (ih kj3 (by have := HJ3.out; omega)) kj3 a0 (wrap64 (a1 + 2)) 1 62 a2 t418 t421 _ A44.out).mono ?_); rintro e w46 ⟨v419, rfl, ho0, hb⟩; refine ⟨_, rfl, ?_⟩; have n0_ := Aside0.mk (Kd.N_lower (Kd.N_mono (ok' := fun k_ => (w.heap.size ≤ k_) ∧ k_ ≠ gb402) ho0 (fun k_ hk_ => ⟨(Nat.le_trans (below_size (aB1 GE402.out)) hk_), (Kd.freshB (g := gb402) (o := .cells #[.int .i64 0, .int .i64 0, .string (⟨#[]⟩ : ByteArray), .slice none 0 0] 91 (0, 0)) (aW BK402.out) k_ hk_)⟩)) (below_size (aB1 GE402.out))); have n1_ := Aside0.mk (blk_below (g := gb402) (o := .cells #[.int .i64 0, .int .i64 0, .string (⟨#[]⟩ : ByteArray), .slice none 0 0] 91 (0, 0)) (aW BK402.out) hb); have n2_ := Aside0.mk (below_step (aB1 GE402.out) hb); clear BK402; clear HB; have HO420 := n0_; have BK402 := n1_; have HB := n2_; clear n0_ n1_ n2_; (try clear hb); (try clear hb2); (try clear hk); (try clear hi); (try clear ho0); have p45 : 0 ≤ (a1 : Int) := of_decide_eq_true aQ; have q45 : a1 < (a0.size : Int) := of_decide_eq_true aQ; have hx45 := bt_at a0 a1; replace p45 := eq_true p45; replace q45 := eq_true q45; obtain ⟨Ao47, co47, eo47⟩ := Kd.N_slice HO420.out; subst eo47; have hcz48_0 : w46.cell? ⟨gb402, 0, none⟩ = some (.int .i64 0) := (blk_cell BK402.out 0).trans rfl; have hcz48_1 : w46.cell? ⟨gb402, 1, none⟩ = some (.int .i64 0) := (blk_cell BK402.out 1).trans rfl; have hcz48_2 : w46.cell? ⟨gb402, 2, none⟩ = some (.string (⟨#[]⟩ : ByteArray)) := (blk_cell BK402.out 2).trans rfl; have hcz48_3 : w46.cell? ⟨gb402, 3, none⟩ = some (.slice none 0 0) := (blk_cell BK402.out 3).trans rfl; have hfz48_0 := blk_frozen BK402.out 0; have hfz48_1 := blk_frozen BK402.out 1; have hfz48_2 := blk_frozen BK402.out 2; have hfz48_3 := blk_frozen BK402.out 3))
                  refine bodyPost_ret (results_ct rfl _ _ gb402 91 #[.int .i64 6, .int .i64 (((bt a0 a1) - 48) % 256), .string (⟨#[]⟩ : ByteArray), .slice Ao47 t418.length co47] (0, 0) _ rfl (by refine aW ?_; refine blk_put (cs := #[.int .i64 6, .int .i64 (((bt a0 a1) - 48) % 256), .string (⟨#[]⟩ : ByteArray), .slice none 0 0]) ?_ 3 _ rfl; refine aW ?_; refine blk_put (cs := #[.int .i64 6, .int .i64 (((bt a0 a1) - 48) % 256), .string (⟨#[]⟩ : ByteArray), .slice none 0 0]) ?_ 2 _ rfl; refine aW ?_; refine blk_put (cs := #[.int .i64 6, .int .i64 0, .string (⟨#[]⟩ : ByteArray), .slice none 0 0]) ?_ 1 _ rfl; refine aW ?_; refine blk_put (cs := #[.int .i64 0, .int .i64 0, .string (⟨#[]⟩ : ByteArray), .slice none 0 0]) ?_ 0 _ rfl; refine aW ?_; exact BK402.out) Try.underlying91 rfl aK) rfl ?_
                  exact ⟨_, by first | rfl | (simp [errW_none, errW_some] <;> rfl) | (simp only [← hji40]; first | rfl | (simp [errW_none, errW_some] <;> rfl)) | (simp [*, errW_none, errW_some] <;> rfl), by (with_reducible repeat (first | apply Kd.N_alloc | apply Kd.N_drewN | apply Kd.N_drew)); exact Kd.N_mono (Kd.N_far (p := ⟨gb402, 3, none⟩) (Kd.N_far (p := ⟨gb402, 2, none⟩) (Kd.N_far (p := ⟨gb402, 1, none⟩) (Kd.N_far (p := ⟨gb402, 0, none⟩) (Kd.N_mono HO420.out (fun k_ hk => (⟨hk, hk.2⟩ : _ ∧ k_ ≠ gb402))) (fun _ hk => hk.2) (.int .i64 6)) (fun _ hk => hk.2) (.int .i64 (((bt a0 a1) - 48) % 256))) (fun _ hk => hk.2) (.string (⟨#[]⟩ : ByteArray))) (fun _ hk => hk.2) (.slice Ao47 t418.length co47)) (fun _ hk => hk.1.1), by repeat (first | (with_reducible first | exact HB.out | apply below_alloc | apply pw_below_drewN | apply below_drew1 | refine below_set ?_ GE402.out) | exact HB.out)⟩
                 ·rw [if_neg c43] at H
                  have c43b0 : ((bt a0 (ji40)) == 60) = false := beq_eq_false_iff_ne.mpr c43
                  have c43b1 : ((bt a0 (ji40)) != 60) = true := bne_iff_ne.mpr c43
                  simp only [Option.some.injEq, Prod.mk.injEq] at H
                  obtain ⟨rfl, rfl, rfl, rfl, rfl⟩ := H
                  have p11 : 0 ≤ (a1 : Int) := of_decide_eq_true aQ
                  have q11 : a1 < (a0.size : Int) := of_decide_eq_true aQ
                  have hx11 := bt_at a0 a1
                  replace p11 := eq_true p11
                  replace q11 := eq_true q11
                  have p35 : 0 ≤ (a1 : Int) := of_decide_eq_true aQ
                  have q35 : a1 < (a0.size : Int) := of_decide_eq_true aQ
                  have hx35 := bt_at a0 a1
                  replace p35 := eq_true p35
                  replace q35 := eq_true q35
                  have p37 : 0 ≤ (a1 : Int) := of_decide_eq_true aQ
                  have q37 : a1 < (a0.size : Int) := of_decide_eq_true aQ
                  have hx37 := bt_at a0 a1
                  replace p37 := eq_true p37
                  replace q37 := eq_true q37
                  have p42 : 0 ≤ ((ji40) : Int) := of_decide_eq_true aQ
                  have q42 : (ji40) < (a0.size : Int) := of_decide_eq_true aQ
                  have hx42 := bt_at a0 (ji40)
                  replace p42 := eq_true p42
                  replace q42 := eq_true q42
                  have hcz49_0 : wc.cell? ⟨gb402, 0, none⟩ = some (.int .i64 0) := (blk_cell BK402.out 0).trans rfl
                  have hcz49_1 : wc.cell? ⟨gb402, 1, none⟩ = some (.int .i64 0) := (blk_cell BK402.out 1).trans rfl
                  have hcz49_2 : wc.cell? ⟨gb402, 2, none⟩ = some (.string (⟨#[]⟩ : ByteArray)) := (blk_cell BK402.out 2).trans rfl
                  have hcz49_3 : wc.cell? ⟨gb402, 3, none⟩ = some (.slice none 0 0) := (blk_cell BK402.out 3).trans rfl
                  have hfz49_0 := blk_frozen BK402.out 0
                  have hfz49_1 := blk_frozen BK402.out 1
                  have hfz49_2 := blk_frozen BK402.out 2
                  have hfz49_3 := blk_frozen BK402.out 3
                  go_wp2
                  refine bodyPost_ret (results_ct rfl _ _ gb402 91 #[.int .i64 0, .int .i64 0, .string (⟨#[]⟩ : ByteArray), .slice none 0 0] (0, 0) _ rfl (by refine aW ?_; refine blk_put (cs := #[.int .i64 0, .int .i64 0, .string (⟨#[]⟩ : ByteArray), .slice none 0 0]) ?_ 3 _ rfl; refine aW ?_; refine blk_put (cs := #[.int .i64 0, .int .i64 0, .string (⟨#[]⟩ : ByteArray), .slice none 0 0]) ?_ 2 _ rfl; refine aW ?_; refine blk_put (cs := #[.int .i64 0, .int .i64 0, .string (⟨#[]⟩ : ByteArray), .slice none 0 0]) ?_ 1 _ rfl; refine aW ?_; refine blk_put (cs := #[.int .i64 0, .int .i64 0, .string (⟨#[]⟩ : ByteArray), .slice none 0 0]) ?_ 0 _ rfl; refine aW ?_; exact BK402.out) Try.underlying91 rfl aK) rfl ?_
                  exact ⟨_, by first | rfl | (simp [errW_none, errW_some] <;> rfl) | (simp only [← hji40]; first | rfl | (simp [errW_none, errW_some] <;> rfl)) | (simp [*, errW_none, errW_some] <;> rfl), by first | exact Kd.R_nil _ _ _ _ _ | exact Kd.N_nil _ _ _ _ _ | exact Kd.V_nil _ _ _ _ _ | exact Kd.Q_nil _ _ _ _ _ | exact Kd.S_nil _ _ _ _ _, by repeat (first | (with_reducible first | exact HB.out | apply below_alloc | apply pw_below_drewN | apply below_drew1 | refine below_set ?_ GE402.out) | exact HB.out)⟩
                ·rw [if_neg c41] at H
                 exact absurd H (by simp)
               ·rw [if_neg c39] at H
                have c39b0 : decide ((wrap64 (a1 + 1)) < (a0.size : Int)) = false := decide_eq_false c39
                clear c39
                simp only [Option.some.injEq, Prod.mk.injEq] at H
                obtain ⟨rfl, rfl, rfl, rfl, rfl⟩ := H
                have p11 : 0 ≤ (a1 : Int) := of_decide_eq_true aQ
                have q11 : a1 < (a0.size : Int) := of_decide_eq_true aQ
                have hx11 := bt_at a0 a1
                replace p11 := eq_true p11
                replace q11 := eq_true q11
                have p35 : 0 ≤ (a1 : Int) := of_decide_eq_true aQ
                have q35 : a1 < (a0.size : Int) := of_decide_eq_true aQ
                have hx35 := bt_at a0 a1
                replace p35 := eq_true p35
                replace q35 := eq_true q35
                have p37 : 0 ≤ (a1 : Int) := of_decide_eq_true aQ
                have q37 : a1 < (a0.size : Int) := of_decide_eq_true aQ
                have hx37 := bt_at a0 a1
                replace p37 := eq_true p37
                replace q37 := eq_true q37
                have hcz50_0 : wc.cell? ⟨gb402, 0, none⟩ = some (.int .i64 0) := (blk_cell BK402.out 0).trans rfl
                have hcz50_1 : wc.cell? ⟨gb402, 1, none⟩ = some (.int .i64 0) := (blk_cell BK402.out 1).trans rfl
                have hcz50_2 : wc.cell? ⟨gb402, 2, none⟩ = some (.string (⟨#[]⟩ : ByteArray)) := (blk_cell BK402.out 2).trans rfl
                have hcz50_3 : wc.cell? ⟨gb402, 3, none⟩ = some (.slice none 0 0) := (blk_cell BK402.out 3).trans rfl
                have hfz50_0 := blk_frozen BK402.out 0
                have hfz50_1 := blk_frozen BK402.out 1
                have hfz50_2 := blk_frozen BK402.out 2
                have hfz50_3 := blk_frozen BK402.out 3
                go_wp2
                refine bodyPost_ret (results_ct rfl _ _ gb402 91 #[.int .i64 0, .int .i64 0, .string (⟨#[]⟩ : ByteArray), .slice none 0 0] (0, 0) _ rfl (by refine aW ?_; refine blk_put (cs := #[.int .i64 0, .int .i64 0, .string (⟨#[]⟩ : ByteArray), .slice none 0 0]) ?_ 3 _ rfl; refine aW ?_; refine blk_put (cs := #[.int .i64 0, .int .i64 0, .string (⟨#[]⟩ : ByteArray), .slice none 0 0]) ?_ 2 _ rfl; refine aW ?_; refine blk_put (cs := #[.int .i64 0, .int .i64 0, .string (⟨#[]⟩ : ByteArray), .slice none 0 0]) ?_ 1 _ rfl; refine aW ?_; refine blk_put (cs := #[.int .i64 0, .int .i64 0, .string (⟨#[]⟩ : ByteArray), .slice none 0 0]) ?_ 0 _ rfl; refine aW ?_; exact BK402.out) Try.underlying91 rfl aK) rfl ?_
                exact ⟨_, by first | rfl | (simp [errW_none, errW_some] <;> rfl) | (simp [*, errW_none, errW_some] <;> rfl), by first | exact Kd.R_nil _ _ _ _ _ | exact Kd.N_nil _ _ _ _ _ | exact Kd.V_nil _ _ _ _ _ | exact Kd.Q_nil _ _ _ _ _ | exact Kd.S_nil _ _ _ _ _, by repeat (first | (with_reducible first | exact HB.out | apply below_alloc | apply pw_below_drewN | apply below_drew1 | refine below_set ?_ GE402.out) | exact HB.out)⟩
              ·rw [if_neg c38] at H
               have c38b0 : decide ((bt a0 a1) ≤ 57) = false := decide_eq_false c38
               clear c38
               simp only [Option.some.injEq, Prod.mk.injEq] at H
               obtain ⟨rfl, rfl, rfl, rfl, rfl⟩ := H
               have p11 : 0 ≤ (a1 : Int) := of_decide_eq_true aQ
               have q11 : a1 < (a0.size : Int) := of_decide_eq_true aQ
               have hx11 := bt_at a0 a1
               replace p11 := eq_true p11
               replace q11 := eq_true q11
               have p35 : 0 ≤ (a1 : Int) := of_decide_eq_true aQ
               have q35 : a1 < (a0.size : Int) := of_decide_eq_true aQ
               have hx35 := bt_at a0 a1
               replace p35 := eq_true p35
               replace q35 := eq_true q35
               have p37 : 0 ≤ (a1 : Int) := of_decide_eq_true aQ
               have q37 : a1 < (a0.size : Int) := of_decide_eq_true aQ
               have hx37 := bt_at a0 a1
               replace p37 := eq_true p37
               replace q37 := eq_true q37
               have hcz51_0 : wc.cell? ⟨gb402, 0, none⟩ = some (.int .i64 0) := (blk_cell BK402.out 0).trans rfl
               have hcz51_1 : wc.cell? ⟨gb402, 1, none⟩ = some (.int .i64 0) := (blk_cell BK402.out 1).trans rfl
               have hcz51_2 : wc.cell? ⟨gb402, 2, none⟩ = some (.string (⟨#[]⟩ : ByteArray)) := (blk_cell BK402.out 2).trans rfl
               have hcz51_3 : wc.cell? ⟨gb402, 3, none⟩ = some (.slice none 0 0) := (blk_cell BK402.out 3).trans rfl
               have hfz51_0 := blk_frozen BK402.out 0
               have hfz51_1 := blk_frozen BK402.out 1
               have hfz51_2 := blk_frozen BK402.out 2
               have hfz51_3 := blk_frozen BK402.out 3
               go_wp2
               refine bodyPost_ret (results_ct rfl _ _ gb402 91 #[.int .i64 0, .int .i64 0, .string (⟨#[]⟩ : ByteArray), .slice none 0 0] (0, 0) _ rfl (by refine aW ?_; refine blk_put (cs := #[.int .i64 0, .int .i64 0, .string (⟨#[]⟩ : ByteArray), .slice none 0 0]) ?_ 3 _ rfl; refine aW ?_; refine blk_put (cs := #[.int .i64 0, .int .i64 0, .string (⟨#[]⟩ : ByteArray), .slice none 0 0]) ?_ 2 _ rfl; refine aW ?_; refine blk_put (cs := #[.int .i64 0, .int .i64 0, .string (⟨#[]⟩ : ByteArray), .slice none 0 0]) ?_ 1 _ rfl; refine aW ?_; refine blk_put (cs := #[.int .i64 0, .int .i64 0, .string (⟨#[]⟩ : ByteArray), .slice none 0 0]) ?_ 0 _ rfl; refine aW ?_; exact BK402.out) Try.underlying91 rfl aK) rfl ?_
               exact ⟨_, by first | rfl | (simp [errW_none, errW_some] <;> rfl) | (simp [*, errW_none, errW_some] <;> rfl), by first | exact Kd.R_nil _ _ _ _ _ | exact Kd.N_nil _ _ _ _ _ | exact Kd.V_nil _ _ _ _ _ | exact Kd.Q_nil _ _ _ _ _ | exact Kd.S_nil _ _ _ _ _, by repeat (first | (with_reducible first | exact HB.out | apply below_alloc | apply pw_below_drewN | apply below_drew1 | refine below_set ?_ GE402.out) | exact HB.out)⟩
             ·rw [if_neg c36] at H
              have c36b0 : decide (48 ≤ (bt a0 a1)) = false := decide_eq_false c36
              clear c36
              simp only [Option.some.injEq, Prod.mk.injEq] at H
              obtain ⟨rfl, rfl, rfl, rfl, rfl⟩ := H
              have p11 : 0 ≤ (a1 : Int) := of_decide_eq_true aQ
              have q11 : a1 < (a0.size : Int) := of_decide_eq_true aQ
              have hx11 := bt_at a0 a1
              replace p11 := eq_true p11
              replace q11 := eq_true q11
              have p35 : 0 ≤ (a1 : Int) := of_decide_eq_true aQ
              have q35 : a1 < (a0.size : Int) := of_decide_eq_true aQ
              have hx35 := bt_at a0 a1
              replace p35 := eq_true p35
              replace q35 := eq_true q35
              have hcz52_0 : wc.cell? ⟨gb402, 0, none⟩ = some (.int .i64 0) := (blk_cell BK402.out 0).trans rfl
              have hcz52_1 : wc.cell? ⟨gb402, 1, none⟩ = some (.int .i64 0) := (blk_cell BK402.out 1).trans rfl
              have hcz52_2 : wc.cell? ⟨gb402, 2, none⟩ = some (.string (⟨#[]⟩ : ByteArray)) := (blk_cell BK402.out 2).trans rfl
              have hcz52_3 : wc.cell? ⟨gb402, 3, none⟩ = some (.slice none 0 0) := (blk_cell BK402.out 3).trans rfl
              have hfz52_0 := blk_frozen BK402.out 0
              have hfz52_1 := blk_frozen BK402.out 1
              have hfz52_2 := blk_frozen BK402.out 2
              have hfz52_3 := blk_frozen BK402.out 3
              go_wp2
              refine bodyPost_ret (results_ct rfl _ _ gb402 91 #[.int .i64 0, .int .i64 0, .string (⟨#[]⟩ : ByteArray), .slice none 0 0] (0, 0) _ rfl (by refine aW ?_; refine blk_put (cs := #[.int .i64 0, .int .i64 0, .string (⟨#[]⟩ : ByteArray), .slice none 0 0]) ?_ 3 _ rfl; refine aW ?_; refine blk_put (cs := #[.int .i64 0, .int .i64 0, .string (⟨#[]⟩ : ByteArray), .slice none 0 0]) ?_ 2 _ rfl; refine aW ?_; refine blk_put (cs := #[.int .i64 0, .int .i64 0, .string (⟨#[]⟩ : ByteArray), .slice none 0 0]) ?_ 1 _ rfl; refine aW ?_; refine blk_put (cs := #[.int .i64 0, .int .i64 0, .string (⟨#[]⟩ : ByteArray), .slice none 0 0]) ?_ 0 _ rfl; refine aW ?_; exact BK402.out) Try.underlying91 rfl aK) rfl ?_
              exact ⟨_, by first | rfl | (simp [errW_none, errW_some] <;> rfl) | (simp [*, errW_none, errW_some] <;> rfl), by first | exact Kd.R_nil _ _ _ _ _ | exact Kd.N_nil _ _ _ _ _ | exact Kd.V_nil _ _ _ _ _ | exact Kd.Q_nil _ _ _ _ _ | exact Kd.S_nil _ _ _ _ _, by repeat (first | (with_reducible first | exact HB.out | apply below_alloc | apply pw_below_drewN | apply below_drew1 | refine below_set ?_ GE402.out) | exact HB.out)⟩
     ·rw [if_neg c10] at H
      exact absurd H (by simp)
    ·rw [if_neg c9] at H
     exact absurd H (by simp)

/-! ### spec_ParseDoc: function 99 -/
def spec_ParseDoc.f (k : Nat) (a0 : ByteArray) : Option (Int × Int × ByteArray × (List (S91)) × Bool) := (spec_l1Read.f k a0 0 40).bind fun bt423 => (if bt423.2.2.2.2 = (a0.size : Int) then ((spec_DocValid.f k bt423.1 bt423.2.1 bt423.2.2.1 bt423.2.2.2.1).bind fun t431 => (if t431 = true then (some (bt423.1, bt423.2.1, bt423.2.2.1, bt423.2.2.2.1, true)) else (some (0, 0, (⟨#[]⟩ : ByteArray), ([] : List (S91)), false)))) else (some (0, 0, (⟨#[]⟩ : ByteArray), ([] : List (S91)), false)))
set_option maxHeartbeats 8000000 in
set_option maxRecDepth 100000 in
theorem spec_ParseDoc.calls (k : Nat) (a0 : ByteArray) (r1 : Int) (r2 : Int) (r3 : ByteArray) (r4 : List (S91)) (r5 : Bool) (w : World) (h : spec_ParseDoc.f k a0 = some (r1, r2, r3, r4, r5)) :
  Calls Try.prog 99 #[.string a0] w fun e w' => ∃ v3_ : Value, e = .returned (.tuple #[.agg #[.int .i64 r1, .int .i64 r2, .string r3, v3_], .bool r5]) ∧ Kd.N k91 91 w' w.heap.size (fun k_ => (w.heap.size ≤ k_)) v3_ r4 ∧ Below w.heap.size w w' := by
 have hu91 := Try.underlying91
 have HB := Aside0.mk (Below.refl w.heap.size w)
 have H : ((spec_l1Read.f k a0 0 40).bind fun bt423 => (if bt423.2.2.2.2 = (a0.size : Int) then ((spec_DocValid.f k bt423.1 bt423.2.1 bt423.2.2.1 bt423.2.2.2.1).bind fun t431 => (if t431 = true then (some (bt423.1, bt423.2.1, bt423.2.2.1, bt423.2.2.2.1, true)) else (some (0, 0, (⟨#[]⟩ : ByteArray), ([] : List (S91)), false)))) else (some (0, 0, (⟨#[]⟩ : ByteArray), ([] : List (S91)), false)))) = some (r1, r2, r3, r4, r5) := h
 clear h
 replace H := Option.bind_eq_some_iff.mp H
 obtain ⟨⟨t423, t424, t425, t426, t429⟩, A20, H⟩ := H
 replace H : (if t429 = (a0.size : Int) then ((spec_DocValid.f k t423 t424 t425 t426).bind fun t431 => (if t431 = true then (some (t423, t424, t425, t426, true)) else (some (0, 0, (⟨#[]⟩ : ByteArray), ([] : List (S91)), false)))) else (some (0, 0, (⟨#[]⟩ : ByteArray), ([] : List (S91)), false))) = some (r1, r2, r3, r4, r5) := H
 have A2 := Aside0.mk A20
 clear A20
 by_cases c3 : t429 = (a0.size : Int)
 ·rw [if_pos c3] at H
  have c3b0 : (t429 == (a0.size : Int)) = true := beq_iff_eq.mpr c3
  have c3b1 : (t429 != (a0.size : Int)) = false := bne_eq_false_iff_eq.mpr c3
  clear c3
  replace H := Option.bind_eq_some_iff.mp H
  obtain ⟨t431, A40, H⟩ := H
  replace H : (if t431 = true then (some (t423, t424, t425, t426, true)) else (some (0, 0, (⟨#[]⟩ : ByteArray), ([] : List (S91)), false))) = some (r1, r2, r3, r4, r5) := H
  have A4 := Aside0.mk A40
  clear A40
  by_cases c5 : t431 = true
  ·subst c5
   have H1 : (some (t423, t424, t425, t426, true)) = some (r1, r2, r3, r4, r5) := by rw [if_pos rfl] at H; exact H
   clear H
   have H := H1
   clear H1
   simp only [Option.some.injEq, Prod.mk.injEq] at H
   obtain ⟨rfl, rfl, rfl, rfl, rfl⟩ := H
   go_enter Try.func99, Try.ntmps99
   go_wp2_with (first | ((with_reducible refine gate_dst (N := 2) rfl ?_); refine box_event ?hg (N := 2) ?hd (cs := #[.int .i64 0, .int .i64 0, .string (⟨#[]⟩ : ByteArray), .slice none 0 0]) (t := 91) ?hr ?_; (case hd => rfl); (case hg => rfl); (case hr => first | (go_simp; done) | (go_simp; rfl)); intro gb422 hg w6 hbox hb; have n0_ := Aside0.mk (below_step aB hb); have n1_ := Aside0.mk (hbox); have n2_ := Aside0.mk ((by rw [hg]; exact (below_size aB) : w.heap.size ≤ gb422)); have n3_ := Aside0.mk ((by rw [hg]; exact (below_size aB) : w.heap.size ≤ gb422)); clear HB; have HB := n0_; have BK422 := n1_; have GW422 := n2_; have GE422 := n3_; clear n0_ n1_ n2_ n3_; clear hb hbox hg) | ((with_reducible refine gate_callee (f := 105) rfl ?_); refine goesL_ (some 8) rfl rfl Try.func105 aK rfl #[.string a0, .int .i64 0, .int .i64 40] rfl aL ?_; (with_reducible refine (spec_l1Read.calls k a0 0 40 t423 t424 t425 t426 t429 _ A2.out).mono ?_); rintro e w7 ⟨v427, rfl, ho0, hb⟩; refine ⟨_, rfl, ?_⟩; have n0_ := Aside0.mk (Kd.N_lower (Kd.N_mono (ok' := fun k_ => (w.heap.size ≤ k_) ∧ k_ ≠ gb422) ho0 (fun k_ hk_ => ⟨(Nat.le_trans (below_size (aB1 GE422.out)) hk_), (Kd.freshB (g := gb422) (o := .cells #[.int .i64 0, .int .i64 0, .string (⟨#[]⟩ : ByteArray), .slice none 0 0] 91 (0, 0)) (aW BK422.out) k_ hk_)⟩)) (below_size (aB1 GE422.out))); have n1_ := Aside0.mk (blk_below (g := gb422) (o := .cells #[.int .i64 0, .int .i64 0, .string (⟨#[]⟩ : ByteArray), .slice none 0 0] 91 (0, 0)) (aW BK422.out) hb); have n2_ := Aside0.mk (below_step (aB1 GE422.out) hb); clear BK422; clear HB; have HO428 := n0_; have BK422 := n1_; have HB := n2_; clear n0_ n1_ n2_; (try clear hb); (try clear hb2); (try clear hk); (try clear hi); (try clear ho0)) | ((with_reducible refine gate_dst (N := 4) rfl ?_); refine box_event ?hg (N := 4) ?hd (cs := #[.int .i64 0, .int .i64 0, .string (⟨#[]⟩ : ByteArray), .slice none 0 0]) (t := 91) ?hr ?_; (case hd => rfl); (case hg => rfl); (case hr => first | (go_simp; done) | (go_simp; rfl)); intro gb430 hg w8 hbox hb; have n0_ := Aside0.mk (Kd.N_below (Kd.N_elderB (aN HO428.out) gb430 (Nat.le_of_eq hg.symm)) hb); have n1_ := Aside0.mk (blk_below (g := gb422) (o := .cells #[.int .i64 0, .int .i64 0, .string (⟨#[]⟩ : ByteArray), .slice none 0 0] 91 (0, 0)) (aW BK422.out) hb); have n2_ := Aside0.mk (below_step (aB1 GE422.out) hb); have n3_ := Aside0.mk (hbox); have n4_ := Aside0.mk ((by rw [hg]; exact (below_size (aB1 GE422.out)) : w.heap.size ≤ gb430)); have n5_ := Aside0.mk ((by rw [hg]; exact (below_size (aB1 GE422.out)) : w.heap.size ≤ gb430)); have n6_ := Aside0.mk ((by rw [hg]; exact Nat.ne_of_lt (blk_lt (g := gb422) (o := .cells #[.int .i64 0, .int .i64 0, .string (⟨#[]⟩ : ByteArray), .slice none 0 0] 91 (0, 0)) (aW BK422.out)) : gb422 ≠ gb430)); have n7_ := Aside0.mk ((by rw [hg]; exact Nat.ne_of_gt (blk_lt (g := gb422) (o := .cells #[.int .i64 0, .int .i64 0, .string (⟨#[]⟩ : ByteArray), .slice none 0 0] 91 (0, 0)) (aW BK422.out)) : gb430 ≠ gb422)); clear HO428; clear BK422; clear HB; have HO428 := n0_; have BK422 := n1_; have HB := n2_; have BK430 := n3_; have GW430 := n4_; have GE430 := n5_; have NB422_430 := n6_; have NB430_422 := n7_; clear n0_ n1_ n2_ n3_ n4_ n5_ n6_ n7_; clear hb hbox hg; have hnb9 := NB430_422.out; have hnc9 := NB422_430.out; have hcz10_0 : w8.cell? ⟨gb430, 0, none⟩ = some (.int .i64 0) := (blk_cell BK430.out 0).trans rfl; have hcz10_1 : w8.cell? ⟨gb430, 1, none⟩ = some (.int .i64 0) := (blk_cell BK430.out 1).trans rfl; have hcz10_2 : w8.cell? ⟨gb430, 2, none⟩ = some (.string (⟨#[]⟩ : ByteArray)) := (blk_cell BK430.out 2).trans rfl; have hcz10_3 : w8.cell? ⟨gb430, 3, none⟩ = some (.slice none 0 0) := (blk_cell BK430.out 3).trans rfl; have hfz10_0 := blk_frozen BK430.out 0; have hfz10_1 := blk_frozen BK430.out 1; have hfz10_2 := blk_frozen BK430.out 2; have hfz10_3 := blk_frozen BK430.out 3; obtain ⟨Ao11, co11, eo11⟩ := Kd.N_slice HO428.out; subst eo11) | (go_at_call 100; (with_reducible refine (spec_DocValid.calls k t423 t424 t425 _ _ t426 true _ ?side1 ?side2 A4.out).mono ?_); (case side1 => refine (Kd.N_reads' (e := 91) (base := w.heap.size) (ok := fun k_ => (((w.heap.size ≤ k_) ∧ k_ ≠ gb422) ∧ k_ ≠ gb430)) (n := t426.length) (c := co11) ?_).2.2; exact (by (with_reducible repeat (first | apply Kd.N_alloc | apply Kd.N_drewN | apply Kd.N_drew)); exact (Kd.N_mono (Kd.N_far (p := ⟨gb430, 3, none⟩) (Kd.N_far (p := ⟨gb430, 2, none⟩) (Kd.N_far (p := ⟨gb430, 1, none⟩) (Kd.N_far (p := ⟨gb430, 0, none⟩) (Kd.N_mono HO428.out (fun k_ hk => (⟨hk, hk.2⟩ : _ ∧ k_ ≠ gb430))) (fun _ hk => hk.2) (.int .i64 t423)) (fun _ hk => hk.2) (.int .i64 t424)) (fun _ hk => hk.2) (.string t425)) (fun _ hk => hk.2) (.slice Ao11 t426.length co11)) (fun _ h_ => h_.1)))); (case side2 => exact (Kd.N_reads' HO428.out).2.1); rintro e w12 ⟨rfl, hb⟩; have n0_ := Aside0.mk (Kd.N_below (by (with_reducible repeat (first | apply Kd.N_alloc | apply Kd.N_drewN | apply Kd.N_drew)); exact (Kd.N_mono (Kd.N_far (p := ⟨gb430, 3, none⟩) (Kd.N_far (p := ⟨gb430, 2, none⟩) (Kd.N_far (p := ⟨gb430, 1, none⟩) (Kd.N_far (p := ⟨gb430, 0, none⟩) (Kd.N_mono HO428.out (fun k_ hk => (⟨hk, hk.2⟩ : _ ∧ k_ ≠ gb430))) (fun _ hk => hk.2) (.int .i64 t423)) (fun _ hk => hk.2) (.int .i64 t424)) (fun _ hk => hk.2) (.string t425)) (fun _ hk => hk.2) (.slice Ao11 t426.length co11)) (fun _ h_ => h_.1))) hb); have n1_ := Aside0.mk (blk_below (g := gb422) (o := .cells #[.int .i64 0, .int .i64 0, .string (⟨#[]⟩ : ByteArray), .slice none 0 0] 91 (0, 0)) (by refine aW ?_; refine blk_far ?_ NB422_430.out _; refine aW ?_; refine blk_far ?_ NB422_430.out _; refine aW ?_; refine blk_far ?_ NB422_430.out _; refine aW ?_; refine blk_far ?_ NB422_430.out _; refine aW ?_; exact BK422.out) hb); have n2_ := Aside0.mk (blk_below (g := gb430) (o := .cells #[.int .i64 t423, .int .i64 t424, .string t425, .slice Ao11 t426.length co11] 91 (0, 0)) (by refine aW ?_; refine blk_put (cs := #[.int .i64 t423, .int .i64 t424, .string t425, .slice none 0 0]) ?_ 3 _ rfl; refine aW ?_; refine blk_put (cs := #[.int .i64 t423, .int .i64 t424, .string (⟨#[]⟩ : ByteArray), .slice none 0 0]) ?_ 2 _ rfl; refine aW ?_; refine blk_put (cs := #[.int .i64 t423, .int .i64 0, .string (⟨#[]⟩ : ByteArray), .slice none 0 0]) ?_ 1 _ rfl; refine aW ?_; refine blk_put (cs := #[.int .i64 0, .int .i64 0, .string (⟨#[]⟩ : ByteArray), .slice none 0 0]) ?_ 0 _ rfl; refine aW ?_; exact BK430.out) hb); have n3_ := Aside0.mk (below_step (aB2 GE422.out GE430.out) hb); clear HO428; clear BK422; clear BK430; clear HB; have HO428 := n0_; have BK422 := n1_; have BK430 := n2_; have HB := n3_; clear n0_ n1_ n2_ n3_; (try clear hb); (try clear hb2); (try clear hk); (try clear hi); have hcz13_0 : w12.cell? ⟨gb430, 0, none⟩ = some (.int .i64 t423) := (blk_cell BK430.out 0).trans rfl; have hcz13_1 : w12.cell? ⟨gb430, 1, none⟩ = some (.int .i64 t424) := (blk_cell BK430.out 1).trans rfl; have hcz13_2 : w12.cell? ⟨gb430, 2, none⟩ = some (.string t425) := (blk_cell BK430.out 2).trans rfl; have hcz13_3 : w12.cell? ⟨gb430, 3, none⟩ = some (.slice Ao11 t426.length co11) := (blk_cell BK430.out 3).trans rfl; have hfz13_0 := blk_frozen BK430.out 0; have hfz13_1 := blk_frozen BK430.out 1; have hfz13_2 := blk_frozen BK430.out 2; have hfz13_3 := blk_frozen BK430.out 3; have hcz14_0 : w12.cell? ⟨gb422, 0, none⟩ = some (.int .i64 0) := (blk_cell BK422.out 0).trans rfl; have hcz14_1 : w12.cell? ⟨gb422, 1, none⟩ = some (.int .i64 0) := (blk_cell BK422.out 1).trans rfl; have hcz14_2 : w12.cell? ⟨gb422, 2, none⟩ = some (.string (⟨#[]⟩ : ByteArray)) := (blk_cell BK422.out 2).trans rfl; have hcz14_3 : w12.cell? ⟨gb422, 3, none⟩ = some (.slice none 0 0) := (blk_cell BK422.out 3).trans rfl; have hfz14_0 := blk_frozen BK422.out 0; have hfz14_1 := blk_frozen BK422.out 1; have hfz14_2 := blk_frozen BK422.out 2; have hfz14_3 := blk_frozen BK422.out 3))
   refine bodyPost_ret (results_ct rfl _ _ gb422 91 #[.int .i64 t423, .int .i64 t424, .string t425, .slice Ao11 t426.length co11] (0, 0) _ rfl (by refine aW ?_; refine blk_put (cs := #[.int .i64 t423, .int .i64 t424, .string t425, .slice none 0 0]) ?_ 3 _ rfl; refine aW ?_; refine blk_put (cs := #[.int .i64 t423, .int .i64 t424, .string (⟨#[]⟩ : ByteArray), .slice none 0 0]) ?_ 2 _ rfl; refine aW ?_; refine blk_put (cs := #[.int .i64 t423, .int .i64 0, .string (⟨#[]⟩ : ByteArray), .slice none 0 0]) ?_ 1 _ rfl; refine aW ?_; refine blk_put (cs := #[.int .i64 0, .int .i64 0, .string (⟨#[]⟩ : ByteArray), .slice none 0 0]) ?_ 0 _ rfl; refine aW ?_; exact BK422.out) Try.underlying91 rfl aK) rfl ?_
   exact ⟨_, by first | rfl | (simp [errW_none, errW_some] <;> rfl) | (simp [*, errW_none, errW_some] <;> rfl), by (with_reducible repeat (first | apply Kd.N_alloc | apply Kd.N_drewN | apply Kd.N_drew)); exact Kd.N_mono (Kd.N_far (p := ⟨gb422, 3, none⟩) (Kd.N_far (p := ⟨gb422, 2, none⟩) (Kd.N_far (p := ⟨gb422, 1, none⟩) (Kd.N_far (p := ⟨gb422, 0, none⟩) (Kd.N_mono HO428.out (fun k_ hk => (⟨hk, hk.1.2⟩ : _ ∧ k_ ≠ gb422))) (fun _ hk => hk.2) (.int .i64 t423)) (fun _ hk => hk.2) (.int .i64 t424)) (fun _ hk => hk.2) (.string t425)) (fun _ hk => hk.2) (.slice Ao11 t426.length co11)) (fun _ hk => hk.1.1.1), by repeat (first | (with_reducible first | exact HB.out | apply below_alloc | apply pw_below_drewN | apply below_drew1 | refine below_set ?_ GE422.out | refine below_set ?_ GE430.out) | exact HB.out)⟩
  ·replace c5 := Bool.eq_false_iff.mpr c5
   subst c5
   have H1 : (some (0, 0, (⟨#[]⟩ : ByteArray), ([] : List (S91)), false)) = some (r1, r2, r3, r4, r5) := by rw [if_neg (show ¬ (false = true) by decide)] at H; exact H
   clear H
   have H := H1
   clear H1
   simp only [Option.some.injEq, Prod.mk.injEq] at H
   obtain ⟨rfl, rfl, rfl, rfl, rfl⟩ := H
   go_enter Try.func99, Try.ntmps99
   go_wp2_with (first | ((with_reducible refine gate_dst (N := 2) rfl ?_); refine box_event ?hg (N := 2) ?hd (cs := #[.int .i64 0, .int .i64 0, .string (⟨#[]⟩ : ByteArray), .slice none 0 0]) (t := 91) ?hr ?_; (case hd => rfl); (case hg => rfl); (case hr => first | (go_simp; done) | (go_simp; rfl)); intro gb422 hg w15 hbox hb; have n0_ := Aside0.mk (below_step aB hb); have n1_ := Aside0.mk (hbox); have n2_ := Aside0.mk ((by rw [hg]; exact (below_size aB) : w.heap.size ≤ gb422)); have n3_ := Aside0.mk ((by rw [hg]; exact (below_size aB) : w.heap.size ≤ gb422)); clear HB; have HB := n0_; have BK422 := n1_; have GW422 := n2_; have GE422 := n3_; clear n0_ n1_ n2_ n3_; clear hb hbox hg) | ((with_reducible refine gate_callee (f := 105) rfl ?_); refine goesL_ (some 8) rfl rfl Try.func105 aK rfl #[.string a0, .int .i64 0, .int .i64 40] rfl aL ?_; (with_reducible refine (spec_l1Read.calls k a0 0 40 t423 t424 t425 t426 t429 _ A2.out).mono ?_); rintro e w16 ⟨v427, rfl, ho0, hb⟩; refine ⟨_, rfl, ?_⟩; have n0_ := Aside0.mk (Kd.N_lower (Kd.N_mono (ok' := fun k_ => (w.heap.size ≤ k_) ∧ k_ ≠ gb422) ho0 (fun k_ hk_ => ⟨(Nat.le_trans (below_size (aB1 GE422.out)) hk_), (Kd.freshB (g := gb422) (o := .cells #[.int .i64 0, .int .i64 0, .string (⟨#[]⟩ : ByteArray), .slice none 0 0] 91 (0, 0)) (aW BK422.out) k_ hk_)⟩)) (below_size (aB1 GE422.out))); have n1_ := Aside0.mk (blk_below (g := gb422) (o := .cells #[.int .i64 0, .int .i64 0, .string (⟨#[]⟩ : ByteArray), .slice none 0 0] 91 (0, 0)) (aW BK422.out) hb); have n2_ := Aside0.mk (below_step (aB1 GE422.out) hb); clear BK422; clear HB; have HO428 := n0_; have BK422 := n1_; have HB := n2_; clear n0_ n1_ n2_; (try clear hb); (try clear hb2); (try clear hk); (try clear hi); (try clear ho0)) | ((with_reducible refine gate_dst (N := 4) rfl ?_); refine box_event ?hg (N := 4) ?hd (cs := #[.int .i64 0, .int .i64 0, .string (⟨#[]⟩ : ByteArray), .slice none 0 0]) (t := 91) ?hr ?_; (case hd => rfl); (case hg => rfl); (case hr => first | (go_simp; done) | (go_simp; rfl)); intro gb430 hg w17 hbox hb; have n0_ := Aside0.mk (Kd.N_below (Kd.N_elderB (aN HO428.out) gb430 (Nat.le_of_eq hg.symm)) hb); have n1_ := Aside0.mk (blk_below (g := gb422) (o := .cells #[.int .i64 0, .int .i64 0, .string (⟨#[]⟩ : ByteArray), .slice none 0 0] 91 (0, 0)) (aW BK422.out) hb); have n2_ := Aside0.mk (below_step (aB1 GE422.out) hb); have n3_ := Aside0.mk (hbox); have n4_ := Aside0.mk ((by rw [hg]; exact (below_size (aB1 GE422.out)) : w.heap.size ≤ gb430)); have n5_ := Aside0.mk ((by rw [hg]; exact (below_size (aB1 GE422.out)) : w.heap.size ≤ gb430)); have n6_ := Aside0.mk ((by rw [hg]; exact Nat.ne_of_lt (blk_lt (g := gb422) (o := .cells #[.int .i64 0, .int .i64 0, .string (⟨#[]⟩ : ByteArray), .slice none 0 0] 91 (0, 0)) (aW BK422.out)) : gb422 ≠ gb430)); have n7_ := Aside0.mk ((by rw [hg]; exact Nat.ne_of_gt (blk_lt (g := gb422) (o := .cells #[.int .i64 0, .int .i64 0, .string (⟨#[]⟩ : ByteArray), .slice none 0 0] 91 (0, 0)) (aW BK422.out)) : gb430 ≠ gb422)); clear HO428; clear BK422; clear HB; have HO428 := n0_; have BK422 := n1_; have HB := n2_; have BK430 := n3_; have GW430 := n4_; have GE430 := n5_; have NB422_430 := n6_; have NB430_422 := n7_; clear n0_ n1_ n2_ n3_ n4_ n5_ n6_ n7_; clear hb hbox hg; have hnb18 := NB430_422.out; have hnc18 := NB422_430.out; have hcz19_0 : w17.cell? ⟨gb430, 0, none⟩ = some (.int .i64 0) := (blk_cell BK430.out 0).trans rfl; have hcz19_1 : w17.cell? ⟨gb430, 1, none⟩ = some (.int .i64 0) := (blk_cell BK430.out 1).trans rfl; have hcz19_2 : w17.cell? ⟨gb430, 2, none⟩ = some (.string (⟨#[]⟩ : ByteArray)) := (blk_cell BK430.out 2).trans rfl; have hcz19_3 : w17.cell? ⟨gb430, 3, none⟩ = some (.slice none 0 0) := (blk_cell BK430.out 3).trans rfl; have hfz19_0 := blk_frozen BK430.out 0; have hfz19_1 := blk_frozen BK430.out 1; have hfz19_2 := blk_frozen BK430.out 2; have hfz19_3 := blk_frozen BK430.out 3; obtain ⟨Ao20, co20, eo20⟩ := Kd.N_slice HO428.out; subst eo20) | (go_at_call 100; (with_reducible refine (spec_DocValid.calls k t423 t424 t425 _ _ t426 false _ ?side1 ?side2 A4.out).mono ?_); (case side1 => refine (Kd.N_reads' (e := 91) (base := w.heap.size) (ok := fun k_ => (((w.heap.size ≤ k_) ∧ k_ ≠ gb422) ∧ k_ ≠ gb430)) (n := t426.length) (c := co20) ?_).2.2; exact (by (with_reducible repeat (first | apply Kd.N_alloc | apply Kd.N_drewN | apply Kd.N_drew)); exact (Kd.N_mono (Kd.N_far (p := ⟨gb430, 3, none⟩) (Kd.N_far (p := ⟨gb430, 2, none⟩) (Kd.N_far (p := ⟨gb430, 1, none⟩) (Kd.N_far (p := ⟨gb430, 0, none⟩) (Kd.N_mono HO428.out (fun k_ hk => (⟨hk, hk.2⟩ : _ ∧ k_ ≠ gb430))) (fun _ hk => hk.2) (.int .i64 t423)) (fun _ hk => hk.2) (.int .i64 t424)) (fun _ hk => hk.2) (.string t425)) (fun _ hk => hk.2) (.slice Ao20 t426.length co20)) (fun _ h_ => h_.1)))); (case side2 => exact (Kd.N_reads' HO428.out).2.1); rintro e w21 ⟨rfl, hb⟩; have n0_ := Aside0.mk (Kd.N_below (by (with_reducible repeat (first | apply Kd.N_alloc | apply Kd.N_drewN | apply Kd.N_drew)); exact (Kd.N_mono (Kd.N_far (p := ⟨gb430, 3, none⟩) (Kd.N_far (p := ⟨gb430, 2, none⟩) (Kd.N_far (p := ⟨gb430, 1, none⟩) (Kd.N_far (p := ⟨gb430, 0, none⟩) (Kd.N_mono HO428.out (fun k_ hk => (⟨hk, hk.2⟩ : _ ∧ k_ ≠ gb430))) (fun _ hk => hk.2) (.int .i64 t423)) (fun _ hk => hk.2) (.int .i64 t424)) (fun _ hk => hk.2) (.string t425)) (fun _ hk => hk.2) (.slice Ao20 t426.length co20)) (fun _ h_ => h_.1))) hb); have n1_ := Aside0.mk (blk_below (g := gb422) (o := .cells #[.int .i64 0, .int .i64 0, .string (⟨#[]⟩ : ByteArray), .slice none 0 0] 91 (0, 0)) (by refine aW ?_; refine blk_far ?_ NB422_430.out _; refine aW ?_; refine blk_far ?_ NB422_430.out _; refine aW ?_; refine blk_far ?_ NB422_430.out _; refine aW ?_; refine blk_far ?_ NB422_430.out _; refine aW ?_; exact BK422.out) hb); have n2_ := Aside0.mk (blk_below (g := gb430) (o := .cells #[.int .i64 t423, .int .i64 t424, .string t425, .slice Ao20 t426.length co20] 91 (0, 0)) (by refine aW ?_; refine blk_put (cs := #[.int .i64 t423, .int .i64 t424, .string t425, .slice none 0 0]) ?_ 3 _ rfl; refine aW ?_; refine blk_put (cs := #[.int .i64 t423, .int .i64 t424, .string (⟨#[]⟩ : ByteArray), .slice none 0 0]) ?_ 2 _ rfl; refine aW ?_; refine blk_put (cs := #[.int .i64 t423, .int .i64 0, .string (⟨#[]⟩ : ByteArray), .slice none 0 0]) ?_ 1 _ rfl; refine aW ?_; refine blk_put (cs := #[.int .i64 0, .int .i64 0, .string (⟨#[]⟩ : ByteArray), .slice none 0 0]) ?_ 0 _ rfl; refine aW ?_; exact BK430.out) hb); have n3_ := Aside0.mk (below_step (aB2 GE422.out GE430.out) hb); clear HO428; clear BK422; clear BK430; clear HB; have HO428 := n0_; have BK422 := n1_; have BK430 := n2_; have HB := n3_; clear n0_ n1_ n2_ n3_; (try clear hb); (try clear hb2); (try clear hk); (try clear hi); have hcz22_0 : w21.cell? ⟨gb422, 0, none⟩ = some (.int .i64 0) := (blk_cell BK422.out 0).trans rfl; have hcz22_1 : w21.cell? ⟨gb422, 1, none⟩ = some (.int .i64 0) := (blk_cell BK422.out 1).trans rfl; have hcz22_2 : w21.cell? ⟨gb422, 2, none⟩ = some (.string (⟨#[]⟩ : ByteArray)) := (blk_cell BK422.out 2).trans rfl; have hcz22_3 : w21.cell? ⟨gb422, 3, none⟩ = some (.slice none 0 0) := (blk_cell BK422.out 3).trans rfl; have hfz22_0 := blk_frozen BK422.out 0; have hfz22_1 := blk_frozen BK422.out 1; have hfz22_2 := blk_frozen BK422.out 2; have hfz22_3 := blk_frozen BK422.out 3))
   refine bodyPost_ret (results_ct rfl _ _ gb422 91 #[.int .i64 0, .int .i64 0, .string (⟨#[]⟩ : ByteArray), .slice none 0 0] (0, 0) _ rfl (by refine aW ?_; refine blk_put (cs := #[.int .i64 0, .int .i64 0, .string (⟨#[]⟩ : ByteArray), .slice none 0 0]) ?_ 3 _ rfl; refine aW ?_; refine blk_put (cs := #[.int .i64 0, .int .i64 0, .string (⟨#[]⟩ : ByteArray), .slice none 0 0]) ?_ 2 _ rfl; refine aW ?_; refine blk_put (cs := #[.int .i64 0, .int .i64 0, .string (⟨#[]⟩ : ByteArray), .slice none 0 0]) ?_ 1 _ rfl; refine aW ?_; refine blk_put (cs := #[.int .i64 0, .int .i64 0, .string (⟨#[]⟩ : ByteArray), .slice none 0 0]) ?_ 0 _ rfl; refine aW ?_; exact BK422.out) Try.underlying91 rfl aK) rfl ?_
   exact ⟨_, by first | rfl | (simp [errW_none, errW_some] <;> rfl) | (simp [*, errW_none, errW_some] <;> rfl), by first | exact Kd.R_nil _ _ _ _ _ | exact Kd.N_nil _ _ _ _ _ | exact Kd.V_nil _ _ _ _ _ | exact Kd.Q_nil _ _ _ _ _ | exact Kd.S_nil _ _ _ _ _, by repeat (first | (with_reducible first | exact HB.out | apply below_alloc | apply pw_below_drewN | apply below_drew1 | refine below_set ?_ GE422.out | refine below_set ?_ GE430.out) | exact HB.out)⟩
 ·rw [if_neg c3] at H
  have c3b0 : (t429 == (a0.size : Int)) = false := beq_eq_false_iff_ne.mpr c3
  have c3b1 : (t429 != (a0.size : Int)) = true := bne_iff_ne.mpr c3
  simp only [Option.some.injEq, Prod.mk.injEq] at H
  obtain ⟨rfl, rfl, rfl, rfl, rfl⟩ := H
  go_enter Try.func99, Try.ntmps99
  go_wp2_with (first | ((with_reducible refine gate_dst (N := 2) rfl ?_); refine box_event ?hg (N := 2) ?hd (cs := #[.int .i64 0, .int .i64 0, .string (⟨#[]⟩ : ByteArray), .slice none 0 0]) (t := 91) ?hr ?_; (case hd => rfl); (case hg => rfl); (case hr => first | (go_simp; done) | (go_simp; rfl)); intro gb422 hg w23 hbox hb; have n0_ := Aside0.mk (below_step aB hb); have n1_ := Aside0.mk (hbox); have n2_ := Aside0.mk ((by rw [hg]; exact (below_size aB) : w.heap.size ≤ gb422)); have n3_ := Aside0.mk ((by rw [hg]; exact (below_size aB) : w.heap.size ≤ gb422)); clear HB; have HB := n0_; have BK422 := n1_; have GW422 := n2_; have GE422 := n3_; clear n0_ n1_ n2_ n3_; clear hb hbox hg) | ((with_reducible refine gate_callee (f := 105) rfl ?_); refine goesL_ (some 8) rfl rfl Try.func105 aK rfl #[.string a0, .int .i64 0, .int .i64 40] rfl aL ?_; (with_reducible refine (spec_l1Read.calls k a0 0 40 t423 t424 t425 t426 t429 _ A2.out).mono ?_); rintro e w24 ⟨v427, rfl, ho0, hb⟩; refine ⟨_, rfl, ?_⟩; have n0_ := Aside0.mk (Kd.N_lower (Kd.N_mono (ok' := fun k_ => (w.heap.size ≤ k_) ∧ k_ ≠ gb422) ho0 (fun k_ hk_ => ⟨(Nat.le_trans (below_size (aB1 GE422.out)) hk_), (Kd.freshB (g := gb422) (o := .cells #[.int .i64 0, .int .i64 0, .string (⟨#[]⟩ : ByteArray), .slice none 0 0] 91 (0, 0)) (aW BK422.out) k_ hk_)⟩)) (below_size (aB1 GE422.out))); have n1_ := Aside0.mk (blk_below (g := gb422) (o := .cells #[.int .i64 0, .int .i64 0, .string (⟨#[]⟩ : ByteArray), .slice none 0 0] 91 (0, 0)) (aW BK422.out) hb); have n2_ := Aside0.mk (below_step (aB1 GE422.out) hb); clear BK422; clear HB; have HO428 := n0_; have BK422 := n1_; have HB := n2_; clear n0_ n1_ n2_; (try clear hb); (try clear hb2); (try clear hk); (try clear hi); (try clear ho0)) | ((with_reducible refine gate_dst (N := 4) rfl ?_); refine box_event ?hg (N := 4) ?hd (cs := #[.int .i64 0, .int .i64 0, .string (⟨#[]⟩ : ByteArray), .slice none 0 0]) (t := 91) ?hr ?_; (case hd => rfl); (case hg => rfl); (case hr => first | (go_simp; done) | (go_simp; rfl)); intro gb430 hg w25 hbox hb; have n0_ := Aside0.mk (Kd.N_below (Kd.N_elderB (aN HO428.out) gb430 (Nat.le_of_eq hg.symm)) hb); have n1_ := Aside0.mk (blk_below (g := gb422) (o := .cells #[.int .i64 0, .int .i64 0, .string (⟨#[]⟩ : ByteArray), .slice none 0 0] 91 (0, 0)) (aW BK422.out) hb); have n2_ := Aside0.mk (below_step (aB1 GE422.out) hb); have n3_ := Aside0.mk (hbox); have n4_ := Aside0.mk ((by rw [hg]; exact (below_size (aB1 GE422.out)) : w.heap.size ≤ gb430)); have n5_ := Aside0.mk ((by rw [hg]; exact (below_size (aB1 GE422.out)) : w.heap.size ≤ gb430)); have n6_ := Aside0.mk ((by rw [hg]; exact Nat.ne_of_lt (blk_lt (g := gb422) (o := .cells #[.int .i64 0, .int .i64 0, .string (⟨#[]⟩ : ByteArray), .slice none 0 0] 91 (0, 0)) (aW BK422.out)) : gb422 ≠ gb430)); have n7_ := Aside0.mk ((by rw [hg]; exact Nat.ne_of_gt (blk_lt (g := gb422) (o := .cells #[.int .i64 0, .int .i64 0, .string (⟨#[]⟩ : ByteArray), .slice none 0 0] 91 (0, 0)) (aW BK422.out)) : gb430 ≠ gb422)); clear HO428; clear BK422; clear HB; have HO428 := n0_; have BK422 := n1_; have HB := n2_; have BK430 := n3_; have GW430 := n4_; have GE430 := n5_; have NB422_430 := n6_; have NB430_422 := n7_; clear n0_ n1_ n2_ n3_ n4_ n5_ n6_ n7_; clear hb hbox hg; have hnb26 := NB430_422.out; have hnc26 := NB422_430.out; have hcz27_0 : w25.cell? ⟨gb430, 0, none⟩ = some (.int .i64 0) := (blk_cell BK430.out 0).trans rfl; have hcz27_1 : w25.cell? ⟨gb430, 1, none⟩ = some (.int .i64 0) := (blk_cell BK430.out 1).trans rfl; have hcz27_2 : w25.cell? ⟨gb430, 2, none⟩ = some (.string (⟨#[]⟩ : ByteArray)) := (blk_cell BK430.out 2).trans rfl; have hcz27_3 : w25.cell? ⟨gb430, 3, none⟩ = some (.slice none 0 0) := (blk_cell BK430.out 3).trans rfl; have hfz27_0 := blk_frozen BK430.out 0; have hfz27_1 := blk_frozen BK430.out 1; have hfz27_2 := blk_frozen BK430.out 2; have hfz27_3 := blk_frozen BK430.out 3; obtain ⟨Ao28, co28, eo28⟩ := Kd.N_slice HO428.out; subst eo28; have hcz29_0 : w25.cell? ⟨gb422, 0, none⟩ = some (.int .i64 0) := (blk_cell BK422.out 0).trans rfl; have hcz29_1 : w25.cell? ⟨gb422, 1, none⟩ = some (.int .i64 0) := (blk_cell BK422.out 1).trans rfl; have hcz29_2 : w25.cell? ⟨gb422, 2, none⟩ = some (.string (⟨#[]⟩ : ByteArray)) := (blk_cell BK422.out 2).trans rfl; have hcz29_3 : w25.cell? ⟨gb422, 3, none⟩ = some (.slice none 0 0) := (blk_cell BK422.out 3).trans rfl; have hfz29_0 := blk_frozen BK422.out 0; have hfz29_1 := blk_frozen BK422.out 1; have hfz29_2 := blk_frozen BK422.out 2; have hfz29_3 := blk_frozen BK422.out 3))
  refine bodyPost_ret (results_ct rfl _ _ gb422 91 #[.int .i64 0, .int .i64 0, .string (⟨#[]⟩ : ByteArray), .slice none 0 0] (0, 0) _ rfl (by refine aW ?_; refine blk_put (cs := #[.int .i64 0, .int .i64 0, .string (⟨#[]⟩ : ByteArray), .slice none 0 0]) ?_ 3 _ rfl; refine aW ?_; refine blk_put (cs := #[.int .i64 0, .int .i64 0, .string (⟨#[]⟩ : ByteArray), .slice none 0 0]) ?_ 2 _ rfl; refine aW ?_; refine blk_put (cs := #[.int .i64 0, .int .i64 0, .string (⟨#[]⟩ : ByteArray), .slice none 0 0]) ?_ 1 _ rfl; refine aW ?_; refine blk_put (cs := #[.int .i64 0, .int .i64 0, .string (⟨#[]⟩ : ByteArray), .slice none 0 0]) ?_ 0 _ rfl; refine aW ?_; refine blk_far ?_ NB422_430.out _; refine aW ?_; refine blk_far ?_ NB422_430.out _; refine aW ?_; refine blk_far ?_ NB422_430.out _; refine aW ?_; refine blk_far ?_ NB422_430.out _; refine aW ?_; exact BK422.out) Try.underlying91 rfl aK) rfl ?_
  exact ⟨_, by first | rfl | (simp [errW_none, errW_some] <;> rfl) | (simp [*, errW_none, errW_some] <;> rfl), by first | exact Kd.R_nil _ _ _ _ _ | exact Kd.N_nil _ _ _ _ _ | exact Kd.V_nil _ _ _ _ _ | exact Kd.Q_nil _ _ _ _ _ | exact Kd.S_nil _ _ _ _ _, by repeat (first | (with_reducible first | exact HB.out | apply below_alloc | apply pw_below_drewN | apply below_drew1 | refine below_set ?_ GE422.out | refine below_set ?_ GE430.out) | exact HB.out)⟩

end Go.Proofs.Ytkcpimhohadjkaa.PPb
