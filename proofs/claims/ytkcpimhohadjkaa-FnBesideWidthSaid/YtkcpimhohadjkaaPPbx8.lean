-- Written by a program of this session (xprint). -- COMPACT
import Derived.Test.YtkcpimhohadjkaaPPbx0
import Derived.Test.YtkcpimhohadjkaaPPbx7
namespace Go.Proofs.Ytkcpimhohadjkaa.PPb
open Go.RowKit Go.Proofs.YtkcpimhohadjkaaW.PrintWords Go.Proofs.YtkcpimhohadjkaaW.PrintLast Go.Proofs.YtkcpimhohadjkaaW.PrintMore
attribute [local go_sem] max2_int min2_int max_two min_two max_three min_three max_four min_four   -- for this text's walks alone
set_option linter.unusedVariables false
set_option linter.unusedSimpArgs false

/-! ### spec_l2Open: function 77 -/
mutual
def spec_l2Open.j0 : Nat → Int → Bool → Int → Int → ByteArray → List (S91) → Option ((List (S59)))
 | 0, _, _, _, _, _, _ => none
 | k + 1, x4, x11, x218000, x218001, x218002, x218003 => if x11 = true then (some (([(⟨0, (⟨#[]⟩ : ByteArray)⟩ : S59), (⟨0, (⟨#[]⟩ : ByteArray)⟩ : S59)] : List (S59)))) else (if x4 = 6 then (if 0 < (x218003.length : Int) then ((spec_l2Open.f k ((rd_T91 x218003 0).f0) ((rd_T91 x218003 0).f1) ((rd_T91 x218003 0).f2) ((rd_T91 x218003 0).f3)).bind fun t225 => ((spec_l2Nest.f k x218001 t225).bind fun t228 => (some t228))) else (none)) else (if x4 = 7 then (if 0 < (x218003.length : Int) then ((spec_l2Open.f k ((rd_T91 x218003 0).f0) ((rd_T91 x218003 0).f1) ((rd_T91 x218003 0).f2) ((rd_T91 x218003 0).f3)).bind fun t232 => (if 1 < (x218003.length : Int) then ((spec_l2Open.f k ((rd_T91 x218003 1).f0) ((rd_T91 x218003 1).f1) ((rd_T91 x218003 1).f2) ((rd_T91 x218003 1).f3)).bind fun t236 => ((spec_l2Cat.f t232 t236).bind fun t239 => (some t239))) else (none))) else (none)) else (if x4 = 8 then (if 0 < (x218003.length : Int) then ((spec_l2Open.f k ((rd_T91 x218003 0).f0) ((rd_T91 x218003 0).f1) ((rd_T91 x218003 0).f2) ((rd_T91 x218003 0).f3)).bind fun t243 => (some t243)) else (none)) else (some (([(⟨0, (⟨#[]⟩ : ByteArray)⟩ : S59)] : List (S59)))))))
def spec_l2Open.f : Nat → Int → Int → ByteArray → List (S91) → Option ((List (S59)))
 | 0, _, _, _, _ => none
 | k + 1, a0_0, a0_1, a0_2, l0_3 => if a0_0 = 2 then (some (([(⟨0, a0_2⟩ : S59)] : List (S59)))) else (if a0_0 = 3 then (spec_l2Open.j0 k a0_0 (a0_0 == 3) a0_0 a0_1 a0_2 l0_3) else (if a0_0 = 4 then (spec_l2Open.j0 k a0_0 (a0_0 == 4) a0_0 a0_1 a0_2 l0_3) else (spec_l2Open.j0 k a0_0 (a0_0 == 5) a0_0 a0_1 a0_2 l0_3)))
end
def spec_l2Open.T9 : Bool × List (List Nat × List Nat) := (true, [([], []), ([0], [0]), ([], []), ([2], [2]), ([3], [3]), ([4], [4]), ([5], [5]), ([1, 6, 6], [1, 6]), ([7, 7, 0, 1, 2, 3, 4, 5, 6, 7], [7])])
def spec_l2Open.B9 : List Nat := [0, 1, 0, 4, 12, 28, 60, 127, 255]
theorem spec_l2Open.tab9 : rtab .any (opsOf Try.f77 9) = spec_l2Open.T9 := by kernel_rfl
theorem spec_l2Open.bits9 : waitsOk spec_l2Open.T9.2 spec_l2Open.B9 = true := by kernel_rfl
def spec_l2Open.T11 : Bool × List (List Nat × List Nat) := (true, [([], []), ([0], [0]), ([1], [1]), ([2], [2]), ([3], [3]), ([], []), ([5], [5]), ([6], [6]), ([7], [7]), ([8, 4], [8]), ([4, 9, 9], [4, 9]), ([10, 10, 0, 1, 2, 3, 4, 5, 6, 7, 8, 9, 10], [10])])
def spec_l2Open.B11 : List Nat := [0, 1, 3, 7, 15, 0, 32, 96, 224, 511, 1023, 2047]
theorem spec_l2Open.tab11 : rtab .any (opsOf Try.f77 11) = spec_l2Open.T11 := by kernel_rfl
theorem spec_l2Open.bits11 : waitsOk spec_l2Open.T11.2 spec_l2Open.B11 = true := by kernel_rfl
set_option maxHeartbeats 8000000 in
set_option maxRecDepth 100000 in
theorem spec_l2Open.calls (k : Nat) : ∀ (a0_0 : Int) (a0_1 : Int) (a0_2 : ByteArray) (A0_3 : Option Addr) (c0_3 : Nat) (l0_3 : List (S91)) (r : List (S59)) (w : World) (hr0_3 : Kd.C k91 w A0_3 l0_3.length l0_3) (hc0_3 : l0_3.length ≤ c0_3) (h : spec_l2Open.f k a0_0 a0_1 a0_2 l0_3 = some r),
  Calls Try.prog 77 #[.agg #[.int .i64 a0_0, .int .i64 a0_1, .string a0_2, .slice A0_3 l0_3.length c0_3]] w fun e w' => ∃ v0_ : Value, e = .returned (v0_) ∧ Kd.R k59 59 w' w.heap.size (fun _ => True) v0_ r ∧ Below w.heap.size w w' := by
 induction k using Nat.strongRecOn with
 | _ k ih =>
 intro a0_0 a0_1 a0_2 A0_3 c0_3 l0_3 r w hr0_3 hc0_3 h
 cases k with
 | zero => exact absurd h (by simp [spec_l2Open.f])
 | succ k =>
 simp only [spec_l2Open.f] at h
 have hu91 := Try.underlying91
 have hu59 := Try.underlying59
 have HR0_3 := Aside0.mk hr0_3
 have HC0_3 := Aside0.mk hc0_3
 clear hr0_3 hc0_3
 have HB := Aside0.mk (Below.refl w.heap.size w)
 have H : (if a0_0 = 2 then (some (([(⟨0, a0_2⟩ : S59)] : List (S59)))) else (if a0_0 = 3 then (spec_l2Open.j0 k a0_0 (a0_0 == 3) a0_0 a0_1 a0_2 l0_3) else (if a0_0 = 4 then (spec_l2Open.j0 k a0_0 (a0_0 == 4) a0_0 a0_1 a0_2 l0_3) else (spec_l2Open.j0 k a0_0 (a0_0 == 5) a0_0 a0_1 a0_2 l0_3)))) = some r := h
 clear h
 by_cases c2 : a0_0 = 2
 ·rw [if_pos c2] at H
  have c2b0 : (a0_0 == 2) = true := beq_iff_eq.mpr c2
  have c2b1 : (a0_0 != 2) = false := bne_eq_false_iff_eq.mpr c2
  clear c2
  obtain ⟨y218, hy218⟩ : ∃ y_ : List (S59), y_ = (([(⟨0, a0_2⟩ : S59)] : List (S59))) := ⟨_, rfl⟩
  replace H : (some y218) = some r := by first | (rw [hy218]; with_reducible exact H) | (have H2_ := (Option.bind_some _ _).symm.trans H; rw [hy218]; with_reducible exact H2_) | (have H2_ := (Option.bind_some _ _).symm.trans H; with_reducible exact H2_) | with_reducible exact H | (rw [hy218]; exact H) | exact H
  have Ny218 := Aside0.mk hy218
  clear hy218
  obtain rfl := Option.some.inj H
  go_enter Try.func77, Try.ntmps77
  go_wp2_with (first | ((with_reducible refine gate_dst (N := 1) rfl ?_); refine box_event ?hg (N := 1) ?hd (cs := #[.int .i64 a0_0, .int .i64 a0_1, .string a0_2, .slice A0_3 l0_3.length c0_3]) (t := 91) ?hr ?_; (case hd => rfl); (case hg => rfl); (case hr => first | (go_simp; done) | (go_simp; rfl)); intro gb217 hg w3 hbox hb; have n0_ := Aside0.mk (below_step aB hb); have n1_ := Aside0.mk (hbox); have n2_ := Aside0.mk ((by rw [hg]; exact (below_size aB) : w.heap.size ≤ gb217)); have n3_ := Aside0.mk ((by rw [hg]; exact (below_size aB) : w.heap.size ≤ gb217)); clear HB; have HB := n0_; have BK217 := n1_; have GW217 := n2_; have GE217 := n3_; clear n0_ n1_ n2_ n3_; clear hb hbox hg; have hcz4_0 : w3.cell? ⟨gb217, 0, none⟩ = some (.int .i64 a0_0) := (blk_cell BK217.out 0).trans rfl; have hcz4_1 : w3.cell? ⟨gb217, 1, none⟩ = some (.int .i64 a0_1) := (blk_cell BK217.out 1).trans rfl; have hcz4_2 : w3.cell? ⟨gb217, 2, none⟩ = some (.string a0_2) := (blk_cell BK217.out 2).trans rfl; have hcz4_3 : w3.cell? ⟨gb217, 3, none⟩ = some (.slice A0_3 l0_3.length c0_3) := (blk_cell BK217.out 3).trans rfl; have hfz4_0 := blk_frozen BK217.out 0; have hfz4_1 := blk_frozen BK217.out 1; have hfz4_2 := blk_frozen BK217.out 2; have hfz4_3 := blk_frozen BK217.out 3) | ((with_reducible refine gate_dst (N := 10) rfl ?_); refine Kd.R_lit k59 _ 59 ?hg (N := 10) ?hd (xs := ([(⟨0, a0_2⟩ : S59)] : List (S59))) (inner := [.int .i64 0, .string a0_2]) (ok := fun _ => True) (okp := fun _ => True) ?hr ?hp (fun _ hk => hk) trivial (Below.refl _ _) (Nat.le_refl _) (by simp) ?_; (case hd => rfl); (case hg => rfl); (case hr => first | (go_simp; done) | (go_simp; rfl)); (case hp => exact (Reps.c2 (show Kd.M k59 _ _ _ (⟨0, a0_2⟩ : S59) [.int .i64 0, .string a0_2] from (k59_mkM _ _ _ (⟨0, a0_2⟩ : S59) )) (Reps.none _ _))); intro v219 w5 ho6 hb hg_ hnew_; clear hg_ hnew_; (first | rw [← Ny218.out] at ho6 | (simp only [Int.reduceToNat] at ho6; rw [← Ny218.out] at ho6)); have n0_ := Aside0.mk (Kd.R_lower ho6 (below_size (aB1 GE217.out))); have n1_ := Aside0.mk (blk_below (g := gb217) (o := .cells #[.int .i64 a0_0, .int .i64 a0_1, .string a0_2, .slice A0_3 l0_3.length c0_3] 91 (0, 0)) (aW BK217.out) hb); have n2_ := Aside0.mk (below_step (aB1 GE217.out) hb); clear BK217; clear HB; have HO220 := n0_; have BK217 := n1_; have HB := n2_; clear n0_ n1_ n2_; clear hb ho6))
  go_ret
  exact ⟨_, by first | rfl | (simp [errW_none, errW_some] <;> rfl) | (simp [*, errW_none, errW_some] <;> rfl), by (with_reducible repeat (first|apply Kd.R_alloc|apply Kd.R_drewN|apply Kd.R_drew)); exact HO220.out, by repeat (first | (with_reducible first | exact HB.out | apply below_alloc | apply pw_below_drewN | apply below_drew1 | refine below_set ?_ GE217.out) | exact HB.out)⟩
 ·rw [if_neg c2] at H
  have c2b0 : (a0_0 == 2) = false := beq_eq_false_iff_ne.mpr c2
  have c2b1 : (a0_0 != 2) = true := bne_iff_ne.mpr c2
  have HC7 := Aside0.mk H
  clear H
  go_enter Try.func77, Try.ntmps77
  go_upto_if 11 with (first | ((with_reducible refine gate_dst (N := 1) rfl ?_); refine box_event ?hg (N := 1) ?hd (cs := #[.int .i64 a0_0, .int .i64 a0_1, .string a0_2, .slice A0_3 l0_3.length c0_3]) (t := 91) ?hr ?_; (case hd => rfl); (case hg => rfl); (case hr => first | (go_simp; done) | (go_simp; rfl)); intro gb217 hg w8 hbox hb; have n0_ := Aside0.mk (below_step aB hb); have n1_ := Aside0.mk (hbox); have n2_ := Aside0.mk ((by rw [hg]; exact (below_size aB) : w.heap.size ≤ gb217)); have n3_ := Aside0.mk ((by rw [hg]; exact (below_size aB) : w.heap.size ≤ gb217)); clear HB; have HB := n0_; have BK217 := n1_; have GW217 := n2_; have GE217 := n3_; clear n0_ n1_ n2_ n3_; clear hb hbox hg; have hcz9_0 : w8.cell? ⟨gb217, 0, none⟩ = some (.int .i64 a0_0) := (blk_cell BK217.out 0).trans rfl; have hcz9_1 : w8.cell? ⟨gb217, 1, none⟩ = some (.int .i64 a0_1) := (blk_cell BK217.out 1).trans rfl; have hcz9_2 : w8.cell? ⟨gb217, 2, none⟩ = some (.string a0_2) := (blk_cell BK217.out 2).trans rfl; have hcz9_3 : w8.cell? ⟨gb217, 3, none⟩ = some (.slice A0_3 l0_3.length c0_3) := (blk_cell BK217.out 3).trans rfl; have hfz9_0 := blk_frozen BK217.out 0; have hfz9_1 := blk_frozen BK217.out 1; have hfz9_2 := blk_frozen BK217.out 2; have hfz9_3 := blk_frozen BK217.out 3))
  (try simp only [Act.put, List.setIfInBounds_toArray, List.set_cons_zero, List.set_cons_succ])
  go_cut [11] (fun v11 wc => ∃ (kq : Nat) (x11_6 : Bool), v11 = .bool x11_6 ∧ Aside0 (spec_l2Open.j0 kq a0_0 x11_6 a0_0 a0_1 a0_2 l0_3 = some r) ∧ Aside0 (kq ≤ k) ∧ Aside0 (wc.heap[gb217]? = some (.cells #[.int .i64 a0_0, .int .i64 a0_1, .string a0_2, (.slice A0_3 l0_3.length c0_3)] 91 (0, 0))) ∧ Aside0 (Below w.heap.size w wc))
  case first =>
   have H := HC7.out
   clear HC7
   by_cases c10 : a0_0 = 3
   ·rw [if_pos c10] at H
    have c10b0 : (a0_0 == 3) = true := beq_iff_eq.mpr c10
    have c10b1 : (a0_0 != 3) = false := bne_eq_false_iff_eq.mpr c10
    clear c10
    (first | rw [c10b0] | (simp only [i64_w, i32_w]; rw [c10b0]) | skip)
    have H' := Aside0.mk H
    clear H
    go_wp2
    go_meet
    case rel => exact ⟨_, ((a0_0 == 3)), aR, H', ⟨by first | omega | exact Nat.le_refl _⟩, ⟨by refine aW ?_; exact BK217.out⟩, ⟨by repeat (first | (with_reducible first | exact HB.out | apply below_alloc | apply pw_below_drewN | apply below_drew1 | refine below_set ?_ GE217.out) | exact HB.out)⟩⟩
   ·rw [if_neg c10] at H
    have c10b0 : (a0_0 == 3) = false := beq_eq_false_iff_ne.mpr c10
    have c10b1 : (a0_0 != 3) = true := bne_iff_ne.mpr c10
    (first | rw [c10b0] | (simp only [i64_w, i32_w]; rw [c10b0]) | skip)
    by_cases c11 : a0_0 = 4
    ·rw [if_pos c11] at H
     have c11b0 : (a0_0 == 4) = true := beq_iff_eq.mpr c11
     have c11b1 : (a0_0 != 4) = false := bne_eq_false_iff_eq.mpr c11
     clear c11
     have H' := Aside0.mk H
     clear H
     go_wp2
     go_meet
     case rel => exact ⟨_, ((a0_0 == 4)), aR, H', ⟨by first | omega | exact Nat.le_refl _⟩, ⟨by refine aW ?_; exact BK217.out⟩, ⟨by repeat (first | (with_reducible first | exact HB.out | apply below_alloc | apply pw_below_drewN | apply below_drew1 | refine below_set ?_ GE217.out) | exact HB.out)⟩⟩
    ·rw [if_neg c11] at H
     have c11b0 : (a0_0 == 4) = false := beq_eq_false_iff_ne.mpr c11
     have c11b1 : (a0_0 != 4) = true := bne_iff_ne.mpr c11
     have H' := Aside0.mk H
     clear H
     go_wp2
     go_meet
     case rel => exact ⟨_, ((a0_0 == 5)), aR, H', ⟨by first | omega | exact Nat.le_refl _⟩, ⟨by refine aW ?_; exact BK217.out⟩, ⟨by repeat (first | (with_reducible first | exact HB.out | apply below_alloc | apply pw_below_drewN | apply below_drew1 | refine below_set ?_ GE217.out) | exact HB.out)⟩⟩
  case rest =>
   clear HC7
   try clear c1
   try clear c2
   try clear c2b0
   try clear c2b1
   try clear p2
   try clear c7
   try clear c10
   try clear c10b0
   try clear c10b1
   try clear c11
   try clear c11b0
   try clear c11b1
   try clear hcz4_0
   try clear hcz4_1
   try clear hcz4_2
   try clear hcz4_3
   try clear hcz9_0
   try clear hcz9_1
   try clear hcz9_2
   try clear hcz9_3
   try clear hfz4_0
   try clear hfz4_1
   try clear hfz4_2
   try clear hfz4_3
   try clear hfz9_0
   try clear hfz9_1
   try clear hfz9_2
   try clear hfz9_3
   obtain ⟨kq, x11_6, rfl, HA, HJ6, BK217, HB⟩ := hcut
   cases kq with
   | zero => exact absurd HA.out (by simp [spec_l2Open.j0])
   | succ kj6 =>
    have H := HA.out
    clear HA
    simp only [spec_l2Open.j0] at H
    by_cases c12 : x11_6 = true
    ·subst c12
     have H1 : (some (([(⟨0, (⟨#[]⟩ : ByteArray)⟩ : S59), (⟨0, (⟨#[]⟩ : ByteArray)⟩ : S59)] : List (S59)))) = some r := by rw [if_pos rfl] at H; exact H
     clear H
     have H := H1
     clear H1
     obtain ⟨y221, hy221⟩ : ∃ y_ : List (S59), y_ = (([(⟨0, (⟨#[]⟩ : ByteArray)⟩ : S59), (⟨0, (⟨#[]⟩ : ByteArray)⟩ : S59)] : List (S59))) := ⟨_, rfl⟩
     replace H : (some y221) = some r := by first | (rw [hy221]; with_reducible exact H) | (have H2_ := (Option.bind_some _ _).symm.trans H; rw [hy221]; with_reducible exact H2_) | (have H2_ := (Option.bind_some _ _).symm.trans H; with_reducible exact H2_) | with_reducible exact H | (rw [hy221]; exact H) | exact H
     have Ny221 := Aside0.mk hy221
     clear hy221
     obtain rfl := Option.some.inj H
     go_wp2_with (first | ((with_reducible refine gate_dst (N := 17) rfl ?_); refine Kd.R_lit k59 _ 59 ?hg (N := 17) ?hd (xs := ([(⟨0, (⟨#[]⟩ : ByteArray)⟩ : S59), (⟨0, (⟨#[]⟩ : ByteArray)⟩ : S59)] : List (S59))) (inner := [.int .i64 0, .string (⟨#[]⟩ : ByteArray), .int .i64 0, .string (⟨#[]⟩ : ByteArray)]) (ok := fun _ => True) (okp := fun _ => True) ?hr ?hp (fun _ hk => hk) trivial (Below.refl _ _) (Nat.le_refl _) (by simp) ?_; (case hd => rfl); (case hg => rfl); (case hr => first | (go_simp; done) | (go_simp; rfl)); (case hp => exact (Reps.c2 (show Kd.M k59 _ _ _ (⟨0, (⟨#[]⟩ : ByteArray)⟩ : S59) [.int .i64 0, .string (⟨#[]⟩ : ByteArray)] from (k59_mkM _ _ _ (⟨0, (⟨#[]⟩ : ByteArray)⟩ : S59) )) (Reps.c2 (show Kd.M k59 _ _ _ (⟨0, (⟨#[]⟩ : ByteArray)⟩ : S59) [.int .i64 0, .string (⟨#[]⟩ : ByteArray)] from (k59_mkM _ _ _ (⟨0, (⟨#[]⟩ : ByteArray)⟩ : S59) )) (Reps.none _ _)))); intro v222 w13 ho14 hb hg_ hnew_; clear hg_ hnew_; (first | rw [← Ny221.out] at ho14 | (simp only [Int.reduceToNat] at ho14; rw [← Ny221.out] at ho14)); have n0_ := Aside0.mk (Kd.R_lower ho14 (below_size (aB1 GE217.out))); have n1_ := Aside0.mk (blk_below (g := gb217) (o := .cells #[.int .i64 a0_0, .int .i64 a0_1, .string a0_2, .slice A0_3 l0_3.length c0_3] 91 (0, 0)) (aW BK217.out) hb); have n2_ := Aside0.mk (below_step (aB1 GE217.out) hb); clear BK217; clear HB; have HO223 := n0_; have BK217 := n1_; have HB := n2_; clear n0_ n1_ n2_; clear hb ho14))
     go_ret
     exact ⟨_, by first | rfl | (simp [errW_none, errW_some] <;> rfl) | (simp [*, errW_none, errW_some] <;> rfl), by (with_reducible repeat (first|apply Kd.R_alloc|apply Kd.R_drewN|apply Kd.R_drew)); exact HO223.out, by repeat (first | (with_reducible first | exact HB.out | apply below_alloc | apply pw_below_drewN | apply below_drew1 | refine below_set ?_ GE217.out) | exact HB.out)⟩
    ·replace c12 := Bool.eq_false_iff.mpr c12
     subst c12
     have H1 : (if a0_0 = 6 then (if 0 < (l0_3.length : Int) then ((spec_l2Open.f kj6 ((rd_T91 l0_3 0).f0) ((rd_T91 l0_3 0).f1) ((rd_T91 l0_3 0).f2) ((rd_T91 l0_3 0).f3)).bind fun t225 => ((spec_l2Nest.f kj6 a0_1 t225).bind fun t228 => (some t228))) else (none)) else (if a0_0 = 7 then (if 0 < (l0_3.length : Int) then ((spec_l2Open.f kj6 ((rd_T91 l0_3 0).f0) ((rd_T91 l0_3 0).f1) ((rd_T91 l0_3 0).f2) ((rd_T91 l0_3 0).f3)).bind fun t232 => (if 1 < (l0_3.length : Int) then ((spec_l2Open.f kj6 ((rd_T91 l0_3 1).f0) ((rd_T91 l0_3 1).f1) ((rd_T91 l0_3 1).f2) ((rd_T91 l0_3 1).f3)).bind fun t236 => ((spec_l2Cat.f t232 t236).bind fun t239 => (some t239))) else (none))) else (none)) else (if a0_0 = 8 then (if 0 < (l0_3.length : Int) then ((spec_l2Open.f kj6 ((rd_T91 l0_3 0).f0) ((rd_T91 l0_3 0).f1) ((rd_T91 l0_3 0).f2) ((rd_T91 l0_3 0).f3)).bind fun t243 => (some t243)) else (none)) else (some (([(⟨0, (⟨#[]⟩ : ByteArray)⟩ : S59)] : List (S59))))))) = some r := by rw [if_neg (show ¬ (false = true) by decide)] at H; exact H
     clear H
     have H := H1
     clear H1
     by_cases c15 : a0_0 = 6
     ·rw [if_pos c15] at H
      have c15b0 : (a0_0 == 6) = true := beq_iff_eq.mpr c15
      have c15b1 : (a0_0 != 6) = false := bne_eq_false_iff_eq.mpr c15
      clear c15
      by_cases c16 : 0 < (l0_3.length : Int)
      ·rw [if_pos c16] at H
       have c16b0 : decide (0 < (l0_3.length : Int)) = true := decide_eq_true c16
       have c16b1 : decide (0 < l0_3.length) = true := decide_eq_true (by omega)
       clear c16
       replace H := Option.bind_eq_some_iff.mp H
       obtain ⟨t225, A170, H⟩ := H
       replace H : ((spec_l2Nest.f kj6 a0_1 t225).bind fun t228 => (some t228)) = some r := H
       have A17 := Aside0.mk A170
       clear A170
       replace H := Option.bind_eq_some_iff.mp H
       obtain ⟨t228, A180, H⟩ := H
       replace H : (some t228) = some r := H
       have A18 := Aside0.mk A180
       clear A180
       obtain rfl := Option.some.inj H
       try go_wp2
       have n0_ := Aside0.mk (blk_drew BK217.out)
       have n1_ := Aside0.mk (below_drew1 HB.out)
       clear BK217
       clear HB
       have BK217 := n0_
       have HB := n1_
       clear n0_ n1_
       have p224 : 0 ≤ (0 : Int) := (by omega)
       have q224 : 0 < (l0_3.length : Int) := of_decide_eq_true aQ
       obtain ⟨ad224, A224_3, c224_3, e224, hx224_0, hx224_1, hx224_2, hx224_3, hl224_3, hi224_3⟩ := at_T91 HR0_3.out 0 p224 q224
       have hw224_3 := hx224_3
       (try rw [show ((0 : Int)).toNat = 0 from rfl] at hw224_3)
       (try rw [show 0 * 4 = 0 from rfl] at hw224_3)
       (try rw [Addr.add_zero'] at hw224_3)
       have hw224_2 := hx224_2
       (try rw [show ((0 : Int)).toNat = 0 from rfl] at hw224_2)
       (try rw [show 0 * 4 = 0 from rfl] at hw224_2)
       (try rw [Addr.add_zero'] at hw224_2)
       have hw224_1 := hx224_1
       (try rw [show ((0 : Int)).toNat = 0 from rfl] at hw224_1)
       (try rw [show 0 * 4 = 0 from rfl] at hw224_1)
       (try rw [Addr.add_zero'] at hw224_1)
       have hw224_0 := hx224_0
       (try rw [show ((0 : Int)).toNat = 0 from rfl] at hw224_0)
       (try rw [show 0 * 4 = 0 from rfl] at hw224_0)
       (try rw [Addr.add_zero'] at hw224_0)
       cases e224
       have qi224 : (0 < l0_3.length) = True := eq_true (by omega)
       (try rw [show ((0 : Int)).toNat = 0 from rfl] at hx224_0)
       (try rw [show 0 * 4 = 0 from rfl] at hx224_0)
       (try rw [Addr.add_zero'] at hx224_0)
       (try rw [show ((0 : Int)).toNat = 0 from rfl] at hx224_1)
       (try rw [show 0 * 4 = 0 from rfl] at hx224_1)
       (try rw [Addr.add_zero'] at hx224_1)
       (try rw [show ((0 : Int)).toNat = 0 from rfl] at hx224_2)
       (try rw [show 0 * 4 = 0 from rfl] at hx224_2)
       (try rw [Addr.add_zero'] at hx224_2)
       (try rw [show ((0 : Int)).toNat = 0 from rfl] at hx224_3)
       (try rw [show 0 * 4 = 0 from rfl] at hx224_3)
       (try rw [Addr.add_zero'] at hx224_3)
       replace hx224_0 := (HB.out.cell (World.block_lt_of_cell? w _ hx224_0)).trans hx224_0
       replace hx224_1 := (HB.out.cell (World.block_lt_of_cell? w _ hx224_1)).trans hx224_1
       replace hx224_2 := (HB.out.cell (World.block_lt_of_cell? w _ hx224_2)).trans hx224_2
       replace hx224_3 := (HB.out.cell (World.block_lt_of_cell? w _ hx224_3)).trans hx224_3
       have HR224_3 := Aside0.mk hi224_3
       have HC224_3 := Aside0.mk hl224_3
       clear hi224_3 hl224_3
       replace p224 := eq_true p224
       replace q224 := eq_true q224
       refine start_ (n := 9) (S := fun w' => w'.cell? ⟨gb217, 0, none⟩ = some (.int .i64 a0_0) ∧ w'.cell? ⟨gb217, 1, none⟩ = some (.int .i64 a0_1) ∧ w'.cell? ⟨gb217, 2, none⟩ = some (.string a0_2) ∧ w'.cell? ⟨gb217, 3, none⟩ = some (.slice (some ad224) l0_3.length c0_3) ∧ w'.cell? ad224 = some (.int .i64 ((rd_T91 l0_3 0).f0)) ∧ w'.cell? ⟨ad224.block, ad224.off + 1, none⟩ = some (.int .i64 ((rd_T91 l0_3 0).f1)) ∧ w'.cell? ⟨ad224.block, ad224.off + 2, none⟩ = some (.string ((rd_T91 l0_3 0).f2)) ∧ w'.cell? ⟨ad224.block, ad224.off + 3, none⟩ = some (.slice A224_3 ((rd_T91 l0_3 0).f3).length c224_3)) (ds := []) #[false, false, false, false, false, false, false, false, false] aK rfl rfl ⟨(blk_cell BK217.out 0).trans rfl, (blk_cell BK217.out 1).trans rfl, (blk_cell BK217.out 2).trans rfl, (blk_cell BK217.out 3).trans rfl, ((HB.out.cell (World.block_lt_of_cell? w _ hw224_0)).trans hw224_0), ((HB.out.cell (World.block_lt_of_cell? w _ hw224_1)).trans hw224_1), ((HB.out.cell (World.block_lt_of_cell? w _ hw224_2)).trans hw224_2), ((HB.out.cell (World.block_lt_of_cell? w _ hw224_3)).trans hw224_3)⟩ (fun hHeld => ?_); refine with_tabW spec_l2Open.tab9 spec_l2Open.bits9 (fun HT_ HW_ => ?_)
       generalize wc.drew = w19 at BK217 HB HR224_3 hx224_0 hx224_1 hx224_2 hx224_3 hHeld ⊢
       refine pure_ (i := 0) (N := some 20) (v := ?_) (a' := ?_) #[true, false, false, false, false, false, false, false, false] rfl rfl (any_of HT_.out aK) (fun _ _ _ h => h) (Or.inl ⟨by rfl, ?_⟩) ?_ ?_
       rotate_left
       ·exact aV
       rotate_left
       ·exact aA
       refine pure_ (i := 2) (N := some 22) (v := ?_) (a' := ?_) #[true, false, true, false, false, false, false, false, false] rfl rfl (any_of HT_.out aK) (fun _ _ _ h => h) (Or.inl ⟨by rfl, ?_⟩) ?_ ?_
       rotate_left
       ·exact aV
       rotate_left
       ·exact aA
       refine take_ (i := 1) (N := some 21) (v := ?_) (a' := ?_) #[true, true, true, false, false, false, false, false, false] rfl rfl (take_ofW HT_.out HW_.out aK) (fun _ _ _ h => h) (Or.inl ⟨by rfl, ?_⟩) hHeld ?_ ?_
       rotate_left
       ·rintro w' ⟨s0, s1, s2, s3, s4, s5, s6, s7⟩
        go_simp
        with_reducible rfl
       rotate_left
       ·exact aA
       refine take_ (i := 3) (N := some 23) (v := ?_) (a' := ?_) #[true, true, true, true, false, false, false, false, false] rfl rfl (take_ofW HT_.out HW_.out aK) (fun _ _ _ h => h) (Or.inl ⟨by rfl, ?_⟩) hHeld ?_ ?_
       rotate_left
       ·rintro w' ⟨s0, s1, s2, s3, s4, s5, s6, s7⟩
        go_simp
        with_reducible rfl
       rotate_left
       ·exact aA
       refine pure_ (i := 4) (N := some 24) (v := ?_) (a' := ?_) #[true, true, true, true, true, false, false, false, false] rfl rfl (any_of HT_.out aK) (fun _ _ _ h => h) (Or.inl ⟨by rfl, ?_⟩) ?_ ?_
       rotate_left
       ·exact aV
       rotate_left
       ·exact aA
       refine take_ (i := 5) (N := some 25) (v := ?_) (a' := ?_) #[true, true, true, true, true, true, false, false, false] rfl rfl (take_ofW HT_.out HW_.out aK) (fun _ _ _ h => h) (Or.inl ⟨by rfl, ?_⟩) hHeld ?_ ?_
       rotate_left
       ·rintro w' ⟨s0, s1, s2, s3, s4, s5, s6, s7⟩
        go_simp
        with_reducible rfl
       rotate_left
       ·exact aA
       refine one_ (i := 6) (N := some 26) #[true, true, true, true, true, true, true, false, false] rfl rfl (one_of HT_.out aK) (by decide) (fun K hK => ?_)
       refine goes_ Try.func77 aK rfl #[.agg #[.int .i64 ((rd_T91 l0_3 0).f0), .int .i64 ((rd_T91 l0_3 0).f1), .string ((rd_T91 l0_3 0).f2), .slice A224_3 ((rd_T91 l0_3 0).f3).length c224_3]] (by rfl) rfl rfl aL ?_
       with_reducible refine (ih kj6 (by have := HJ6.out; omega) ((rd_T91 l0_3 0).f0) ((rd_T91 l0_3 0).f1) ((rd_T91 l0_3 0).f2) _ _ ((rd_T91 l0_3 0).f3) t225 _ ?side1 ?side2 A17.out).mono ?_
       (case side1 => repeat (first | exact (Kd.C_below HR224_3.out HB.out) | (with_reducible refine Kd.C_alloc ?_ _) | (with_reducible refine Kd.C_drewN ?_ _) | (with_reducible refine Kd.C_drew ?_)))
       (case side2 => exact HC224_3.out)
       rintro e w20 ⟨v226, rfl, ho0, hb⟩
       refine ⟨_, rfl, ?_⟩
       have n0_ := Aside0.mk (Kd.R_lower ho0 (below_size (aB1 GE217.out)))
       have n1_ := Aside0.mk (blk_below (g := gb217) (o := .cells #[.int .i64 a0_0, .int .i64 a0_1, .string a0_2, .slice (some ad224) l0_3.length c0_3] 91 (0, 0)) (aW BK217.out) hb)
       have n2_ := Aside0.mk (below_step (aB1 GE217.out) hb)
       clear BK217
       clear HB
       have HO227 := n0_
       have BK217 := n1_
       have HB := n2_
       clear n0_ n1_ n2_
       (try clear hb)
       (try clear hb2)
       (try clear hk)
       (try clear hi)
       (try clear ho0)
       obtain ⟨Ao21, co21, eo21⟩ := Kd.R_slice HO227.out
       (first | subst eo21 | (injection eo21 with f1_ f2_ f3_; have f4_ := f1_.symm; have f5_ := f3_.symm; clear f1_ f2_ f3_; subst f4_; subst f5_))
       refine hK.out _ _ ⟨(blk_cell BK217.out 0).trans rfl, (blk_cell BK217.out 1).trans rfl, (blk_cell BK217.out 2).trans rfl, (blk_cell BK217.out 3).trans rfl, ((HB.out.cell (World.block_lt_of_cell? w _ hw224_0)).trans hw224_0), ((HB.out.cell (World.block_lt_of_cell? w _ hw224_1)).trans hw224_1), ((HB.out.cell (World.block_lt_of_cell? w _ hw224_2)).trans hw224_2), ((HB.out.cell (World.block_lt_of_cell? w _ hw224_3)).trans hw224_3)⟩ (fun hHeld => ?_)
       clear hK K
       refine norm_ (a' := ?_) ?_ ?_
       rotate_left
       ·show Act.put _ (some 26) _ = _
        simp only [Act.put, List.setIfInBounds_toArray, List.set_cons_zero, List.set_cons_succ, i64_w, i32_w]
        rfl
       refine one_ (i := 7) (N := some 27) #[true, true, true, true, true, true, true, true, false] rfl rfl (one_of HT_.out aK) (by decide) (fun K hK => ?_)
       refine goes_ Try.func90 aK rfl #[.int .i64 a0_1, .slice Ao21 t225.length co21] (by rfl) rfl rfl aL ?_
       with_reducible refine (spec_l2Nest.calls kj6 a0_1 _ _ t225 t228 _ ?side1 ?side2 A18.out).mono ?_
       (case side1 => repeat (first | exact (Kd.R_reads' HO227.out).2.2 | (with_reducible refine Kd.C_alloc ?_ _) | (with_reducible refine Kd.C_drewN ?_ _) | (with_reducible refine Kd.C_drew ?_)))
       (case side2 => exact (Kd.R_reads' HO227.out).2.1)
       rintro e w22 ⟨v229, rfl, ho0, hb⟩
       refine ⟨_, rfl, ?_⟩
       have n0_ := Aside0.mk (Kd.R_elder' (aP HO227.out) (Kd.R_base ho0) hb)
       have n1_ := Aside0.mk (Kd.R_lower (Kd.R_new' ho0 (Kd.R_lt (aP HO227.out))) (below_size (aB1 GE217.out)))
       have n2_ := Aside0.mk (blk_below (g := gb217) (o := .cells #[.int .i64 a0_0, .int .i64 a0_1, .string a0_2, .slice (some ad224) l0_3.length c0_3] 91 (0, 0)) (aW BK217.out) hb)
       have n3_ := Aside0.mk (below_step (aB1 GE217.out) hb)
       clear HO227
       clear BK217
       clear HB
       have HO227 := n0_
       have HO230 := n1_
       have BK217 := n2_
       have HB := n3_
       clear n0_ n1_ n2_ n3_
       (try clear hb)
       (try clear hb2)
       (try clear hk)
       (try clear hi)
       (try clear ho0)
       refine hK.out _ _ ⟨(blk_cell BK217.out 0).trans rfl, (blk_cell BK217.out 1).trans rfl, (blk_cell BK217.out 2).trans rfl, (blk_cell BK217.out 3).trans rfl, ((HB.out.cell (World.block_lt_of_cell? w _ hw224_0)).trans hw224_0), ((HB.out.cell (World.block_lt_of_cell? w _ hw224_1)).trans hw224_1), ((HB.out.cell (World.block_lt_of_cell? w _ hw224_2)).trans hw224_2), ((HB.out.cell (World.block_lt_of_cell? w _ hw224_3)).trans hw224_3)⟩ (fun hHeld => ?_)
       clear hK K
       refine norm_ (a' := ?_) ?_ ?_
       rotate_left
       ·show Act.put _ (some 27) _ = _
        simp only [Act.put, List.setIfInBounds_toArray, List.set_cons_zero, List.set_cons_succ, i64_w, i32_w]
        rfl
       refine pure_ (i := 8) (N := some 2) (v := ?_) (a' := ?_) #[true, true, true, true, true, true, true, true, true] rfl rfl (any_of HT_.out aK) (fun _ _ _ h => h) (Or.inl ⟨by rfl, ?_⟩) ?_ ?_
       rotate_left
       ·exact aV
       rotate_left
       ·exact aA
       refine done_ (done_of HT_.out aK) ?_
       try go_wp2
       go_ret
       exact ⟨_, by first | rfl | (simp [errW_none, errW_some] <;> rfl) | (simp [*, errW_none, errW_some] <;> rfl), by (with_reducible repeat (first|apply Kd.R_alloc|apply Kd.R_drewN|apply Kd.R_drew)); exact Kd.R_mono HO230.out (fun _ hk => trivial), by repeat (first | (with_reducible first | exact HB.out | apply below_alloc | apply pw_below_drewN | apply below_drew1 | refine below_set ?_ GE217.out) | exact HB.out)⟩
      ·rw [if_neg c16] at H
       exact absurd H (by simp)
     ·rw [if_neg c15] at H
      have c15b0 : (a0_0 == 6) = false := beq_eq_false_iff_ne.mpr c15
      have c15b1 : (a0_0 != 6) = true := bne_iff_ne.mpr c15
      by_cases c23 : a0_0 = 7
      ·rw [if_pos c23] at H
       have c23b0 : (a0_0 == 7) = true := beq_iff_eq.mpr c23
       have c23b1 : (a0_0 != 7) = false := bne_eq_false_iff_eq.mpr c23
       clear c23
       by_cases c24 : 0 < (l0_3.length : Int)
       ·rw [if_pos c24] at H
        have c24b0 : decide (0 < (l0_3.length : Int)) = true := decide_eq_true c24
        have c24b1 : decide (0 < l0_3.length) = true := decide_eq_true (by omega)
        clear c24
        replace H := Option.bind_eq_some_iff.mp H
        obtain ⟨t232, A250, H⟩ := H
        replace H : (if 1 < (l0_3.length : Int) then ((spec_l2Open.f kj6 ((rd_T91 l0_3 1).f0) ((rd_T91 l0_3 1).f1) ((rd_T91 l0_3 1).f2) ((rd_T91 l0_3 1).f3)).bind fun t236 => ((spec_l2Cat.f t232 t236).bind fun t239 => (some t239))) else (none)) = some r := H
        have A25 := Aside0.mk A250
        clear A250
        by_cases c26 : 1 < (l0_3.length : Int)
        ·rw [if_pos c26] at H
         have c26b0 : decide (1 < (l0_3.length : Int)) = true := decide_eq_true c26
         have c26b1 : decide (1 < l0_3.length) = true := decide_eq_true (by omega)
         clear c26
         replace H := Option.bind_eq_some_iff.mp H
         obtain ⟨t236, A270, H⟩ := H
         replace H : ((spec_l2Cat.f t232 t236).bind fun t239 => (some t239)) = some r := H
         have A27 := Aside0.mk A270
         clear A270
         replace H := Option.bind_eq_some_iff.mp H
         obtain ⟨t239, A280, H⟩ := H
         replace H : (some t239) = some r := H
         have A28 := Aside0.mk A280
         clear A280
         obtain rfl := Option.some.inj H
         try go_wp2
         have n0_ := Aside0.mk (blk_drew BK217.out)
         have n1_ := Aside0.mk (below_drew1 HB.out)
         clear BK217
         clear HB
         have BK217 := n0_
         have HB := n1_
         clear n0_ n1_
         have p231 : 0 ≤ (0 : Int) := (by omega)
         have q231 : 0 < (l0_3.length : Int) := of_decide_eq_true aQ
         obtain ⟨ad231, A231_3, c231_3, e231, hx231_0, hx231_1, hx231_2, hx231_3, hl231_3, hi231_3⟩ := at_T91 HR0_3.out 0 p231 q231
         have hw231_3 := hx231_3
         (try rw [show ((0 : Int)).toNat = 0 from rfl] at hw231_3)
         (try rw [show 0 * 4 = 0 from rfl] at hw231_3)
         (try rw [Addr.add_zero'] at hw231_3)
         have hw231_2 := hx231_2
         (try rw [show ((0 : Int)).toNat = 0 from rfl] at hw231_2)
         (try rw [show 0 * 4 = 0 from rfl] at hw231_2)
         (try rw [Addr.add_zero'] at hw231_2)
         have hw231_1 := hx231_1
         (try rw [show ((0 : Int)).toNat = 0 from rfl] at hw231_1)
         (try rw [show 0 * 4 = 0 from rfl] at hw231_1)
         (try rw [Addr.add_zero'] at hw231_1)
         have hw231_0 := hx231_0
         (try rw [show ((0 : Int)).toNat = 0 from rfl] at hw231_0)
         (try rw [show 0 * 4 = 0 from rfl] at hw231_0)
         (try rw [Addr.add_zero'] at hw231_0)
         cases e231
         have qi231 : (0 < l0_3.length) = True := eq_true (by omega)
         (try rw [show ((0 : Int)).toNat = 0 from rfl] at hx231_0)
         (try rw [show 0 * 4 = 0 from rfl] at hx231_0)
         (try rw [Addr.add_zero'] at hx231_0)
         (try rw [show ((0 : Int)).toNat = 0 from rfl] at hx231_1)
         (try rw [show 0 * 4 = 0 from rfl] at hx231_1)
         (try rw [Addr.add_zero'] at hx231_1)
         (try rw [show ((0 : Int)).toNat = 0 from rfl] at hx231_2)
         (try rw [show 0 * 4 = 0 from rfl] at hx231_2)
         (try rw [Addr.add_zero'] at hx231_2)
         (try rw [show ((0 : Int)).toNat = 0 from rfl] at hx231_3)
         (try rw [show 0 * 4 = 0 from rfl] at hx231_3)
         (try rw [Addr.add_zero'] at hx231_3)
         replace hx231_0 := (HB.out.cell (World.block_lt_of_cell? w _ hx231_0)).trans hx231_0
         replace hx231_1 := (HB.out.cell (World.block_lt_of_cell? w _ hx231_1)).trans hx231_1
         replace hx231_2 := (HB.out.cell (World.block_lt_of_cell? w _ hx231_2)).trans hx231_2
         replace hx231_3 := (HB.out.cell (World.block_lt_of_cell? w _ hx231_3)).trans hx231_3
         have HR231_3 := Aside0.mk hi231_3
         have HC231_3 := Aside0.mk hl231_3
         clear hi231_3 hl231_3
         replace p231 := eq_true p231
         replace q231 := eq_true q231
         have p235 : 0 ≤ (1 : Int) := (by omega)
         have q235 : 1 < (l0_3.length : Int) := of_decide_eq_true aQ
         obtain ⟨ad235, A235_3, c235_3, e235, hx235_0, hx235_1, hx235_2, hx235_3, hl235_3, hi235_3⟩ := at_T91 HR0_3.out 1 p235 q235
         have hw235_3 := hx235_3
         (try rw [show ((1 : Int)).toNat = 1 from rfl] at hw235_3)
         (try rw [show 1 * 4 = 4 from rfl] at hw235_3)
         (try simp only [Nat.reduceMul, Nat.reduceEqDiff, Go.Addr.add, ↓reduceIte] at hw235_3)
         have hw235_2 := hx235_2
         (try rw [show ((1 : Int)).toNat = 1 from rfl] at hw235_2)
         (try rw [show 1 * 4 = 4 from rfl] at hw235_2)
         (try simp only [Nat.reduceMul, Nat.reduceEqDiff, Go.Addr.add, ↓reduceIte] at hw235_2)
         have hw235_1 := hx235_1
         (try rw [show ((1 : Int)).toNat = 1 from rfl] at hw235_1)
         (try rw [show 1 * 4 = 4 from rfl] at hw235_1)
         (try simp only [Nat.reduceMul, Nat.reduceEqDiff, Go.Addr.add, ↓reduceIte] at hw235_1)
         have hw235_0 := hx235_0
         (try rw [show ((1 : Int)).toNat = 1 from rfl] at hw235_0)
         (try rw [show 1 * 4 = 4 from rfl] at hw235_0)
         (try simp only [Nat.reduceMul, Nat.reduceEqDiff, Go.Addr.add, ↓reduceIte] at hw235_0)
         obtain rfl : ad231 = ad235 := (by injection e235)
         (try simp only [show (1 : Int).toNat = 1 from rfl, Nat.reduceMul, Nat.reduceEqDiff, Go.Addr.add, ↓reduceIte] at hx235_0)
         (try simp only [show (1 : Int).toNat = 1 from rfl, Nat.reduceMul, Nat.reduceEqDiff, Go.Addr.add, ↓reduceIte] at hx235_1)
         (try simp only [show (1 : Int).toNat = 1 from rfl, Nat.reduceMul, Nat.reduceEqDiff, Go.Addr.add, ↓reduceIte] at hx235_2)
         (try simp only [show (1 : Int).toNat = 1 from rfl, Nat.reduceMul, Nat.reduceEqDiff, Go.Addr.add, ↓reduceIte] at hx235_3)
         have qi235 : (1 < l0_3.length) = True := eq_true (by omega)
         (try rw [show ((1 : Int)).toNat = 1 from rfl] at hx235_0)
         (try rw [show 1 * 4 = 4 from rfl] at hx235_0)
         (try rw [show ((1 : Int)).toNat = 1 from rfl] at hx235_1)
         (try rw [show 1 * 4 = 4 from rfl] at hx235_1)
         (try rw [show ((1 : Int)).toNat = 1 from rfl] at hx235_2)
         (try rw [show 1 * 4 = 4 from rfl] at hx235_2)
         (try rw [show ((1 : Int)).toNat = 1 from rfl] at hx235_3)
         (try rw [show 1 * 4 = 4 from rfl] at hx235_3)
         replace hx235_0 := (HB.out.cell (World.block_lt_of_cell? w _ hx235_0)).trans hx235_0
         replace hx235_1 := (HB.out.cell (World.block_lt_of_cell? w _ hx235_1)).trans hx235_1
         replace hx235_2 := (HB.out.cell (World.block_lt_of_cell? w _ hx235_2)).trans hx235_2
         replace hx235_3 := (HB.out.cell (World.block_lt_of_cell? w _ hx235_3)).trans hx235_3
         have HR235_3 := Aside0.mk hi235_3
         have HC235_3 := Aside0.mk hl235_3
         clear hi235_3 hl235_3
         replace p235 := eq_true p235
         replace q235 := eq_true q235
         refine start_ (n := 12) (S := fun w' => w'.cell? ⟨gb217, 0, none⟩ = some (.int .i64 a0_0) ∧ w'.cell? ⟨gb217, 1, none⟩ = some (.int .i64 a0_1) ∧ w'.cell? ⟨gb217, 2, none⟩ = some (.string a0_2) ∧ w'.cell? ⟨gb217, 3, none⟩ = some (.slice (some ad231) l0_3.length c0_3) ∧ w'.cell? ad231 = some (.int .i64 ((rd_T91 l0_3 0).f0)) ∧ w'.cell? ⟨ad231.block, ad231.off + 1, none⟩ = some (.int .i64 ((rd_T91 l0_3 0).f1)) ∧ w'.cell? ⟨ad231.block, ad231.off + 2, none⟩ = some (.string ((rd_T91 l0_3 0).f2)) ∧ w'.cell? ⟨ad231.block, ad231.off + 3, none⟩ = some (.slice A231_3 ((rd_T91 l0_3 0).f3).length c231_3) ∧ w'.cell? ⟨ad231.block, ad231.off + 4, none⟩ = some (.int .i64 ((rd_T91 l0_3 1).f0)) ∧ w'.cell? ⟨ad231.block, ad231.off + 4 + 1, none⟩ = some (.int .i64 ((rd_T91 l0_3 1).f1)) ∧ w'.cell? ⟨ad231.block, ad231.off + 4 + 2, none⟩ = some (.string ((rd_T91 l0_3 1).f2)) ∧ w'.cell? ⟨ad231.block, ad231.off + 4 + 3, none⟩ = some (.slice A235_3 ((rd_T91 l0_3 1).f3).length c235_3)) (ds := []) #[false, false, false, false, false, false, false, false, false, false, false, false] aK rfl rfl ⟨(blk_cell BK217.out 0).trans rfl, (blk_cell BK217.out 1).trans rfl, (blk_cell BK217.out 2).trans rfl, (blk_cell BK217.out 3).trans rfl, ((HB.out.cell (World.block_lt_of_cell? w _ hw231_0)).trans hw231_0), ((HB.out.cell (World.block_lt_of_cell? w _ hw231_1)).trans hw231_1), ((HB.out.cell (World.block_lt_of_cell? w _ hw231_2)).trans hw231_2), ((HB.out.cell (World.block_lt_of_cell? w _ hw231_3)).trans hw231_3), ((HB.out.cell (World.block_lt_of_cell? w _ hw235_0)).trans hw235_0), ((HB.out.cell (World.block_lt_of_cell? w _ hw235_1)).trans hw235_1), ((HB.out.cell (World.block_lt_of_cell? w _ hw235_2)).trans hw235_2), ((HB.out.cell (World.block_lt_of_cell? w _ hw235_3)).trans hw235_3)⟩ (fun hHeld => ?_); refine with_tabW spec_l2Open.tab11 spec_l2Open.bits11 (fun HT_ HW_ => ?_)
         generalize wc.drew = w29 at BK217 HB HR231_3 HR235_3 hx231_0 hx231_1 hx231_2 hx231_3 hx235_0 hx235_1 hx235_2 hx235_3 hHeld ⊢
         refine pure_ (i := 0) (N := some 30) (v := ?_) (a' := ?_) #[true, false, false, false, false, false, false, false, false, false, false, false] rfl rfl (any_of HT_.out aK) (fun _ _ _ h => h) (Or.inl ⟨by rfl, ?_⟩) ?_ ?_
         rotate_left
         ·exact aV
         rotate_left
         ·exact aA
         refine pure_ (i := 5) (N := some 35) (v := ?_) (a' := ?_) #[true, false, false, false, false, true, false, false, false, false, false, false] rfl rfl (any_of HT_.out aK) (fun _ _ _ h => h) (Or.inl ⟨by rfl, ?_⟩) ?_ ?_
         rotate_left
         ·exact aV
         rotate_left
         ·exact aA
         refine take_ (i := 1) (N := some 31) (v := ?_) (a' := ?_) #[true, true, false, false, false, true, false, false, false, false, false, false] rfl rfl (take_ofW HT_.out HW_.out aK) (fun _ _ _ h => h) (Or.inl ⟨by rfl, ?_⟩) hHeld ?_ ?_
         rotate_left
         ·rintro w' ⟨s0, s1, s2, s3, s4, s5, s6, s7, s8, s9, s10, s11⟩
          go_simp
          with_reducible rfl
         rotate_left
         ·exact aA
         refine pure_ (i := 2) (N := some 32) (v := ?_) (a' := ?_) #[true, true, true, false, false, true, false, false, false, false, false, false] rfl rfl (any_of HT_.out aK) (fun _ _ _ h => h) (Or.inl ⟨by rfl, ?_⟩) ?_ ?_
         rotate_left
         ·exact aV
         rotate_left
         ·exact aA
         refine take_ (i := 3) (N := some 33) (v := ?_) (a' := ?_) #[true, true, true, true, false, true, false, false, false, false, false, false] rfl rfl (take_ofW HT_.out HW_.out aK) (fun _ _ _ h => h) (Or.inl ⟨by rfl, ?_⟩) hHeld ?_ ?_
         rotate_left
         ·rintro w' ⟨s0, s1, s2, s3, s4, s5, s6, s7, s8, s9, s10, s11⟩
          go_simp
          with_reducible rfl
         rotate_left
         ·exact aA
         refine take_ (i := 6) (N := some 36) (v := ?_) (a' := ?_) #[true, true, true, true, false, true, true, false, false, false, false, false] rfl rfl (take_ofW HT_.out HW_.out aK) (fun _ _ _ h => h) (Or.inl ⟨by rfl, ?_⟩) hHeld ?_ ?_
         rotate_left
         ·rintro w' ⟨s0, s1, s2, s3, s4, s5, s6, s7, s8, s9, s10, s11⟩
          go_simp
          with_reducible rfl
         rotate_left
         ·exact aA
         refine pure_ (i := 7) (N := some 37) (v := ?_) (a' := ?_) #[true, true, true, true, false, true, true, true, false, false, false, false] rfl rfl (any_of HT_.out aK) (fun _ _ _ h => h) (Or.inl ⟨by rfl, ?_⟩) ?_ ?_
         rotate_left
         ·exact aV
         rotate_left
         ·exact aA
         refine take_ (i := 8) (N := some 38) (v := ?_) (a' := ?_) #[true, true, true, true, false, true, true, true, true, false, false, false] rfl rfl (take_ofW HT_.out HW_.out aK) (fun _ _ _ h => h) (Or.inl ⟨by rfl, ?_⟩) hHeld ?_ ?_
         rotate_left
         ·rintro w' ⟨s0, s1, s2, s3, s4, s5, s6, s7, s8, s9, s10, s11⟩
          go_simp
          with_reducible rfl
         rotate_left
         ·exact aA
         refine one_ (i := 4) (N := some 34) #[true, true, true, true, true, true, true, true, true, false, false, false] rfl rfl (one_of HT_.out aK) (by decide) (fun K hK => ?_)
         refine goes_ Try.func77 aK rfl #[.agg #[.int .i64 ((rd_T91 l0_3 0).f0), .int .i64 ((rd_T91 l0_3 0).f1), .string ((rd_T91 l0_3 0).f2), .slice A231_3 ((rd_T91 l0_3 0).f3).length c231_3]] (by rfl) rfl rfl aL ?_
         with_reducible refine (ih kj6 (by have := HJ6.out; omega) ((rd_T91 l0_3 0).f0) ((rd_T91 l0_3 0).f1) ((rd_T91 l0_3 0).f2) _ _ ((rd_T91 l0_3 0).f3) t232 _ ?side1 ?side2 A25.out).mono ?_
         (case side1 => repeat (first | exact (Kd.C_below HR231_3.out HB.out) | (with_reducible refine Kd.C_alloc ?_ _) | (with_reducible refine Kd.C_drewN ?_ _) | (with_reducible refine Kd.C_drew ?_)))
         (case side2 => exact HC231_3.out)
         rintro e w30 ⟨v233, rfl, ho0, hb⟩
         refine ⟨_, rfl, ?_⟩
         have n0_ := Aside0.mk (Kd.R_lower ho0 (below_size (aB1 GE217.out)))
         have n1_ := Aside0.mk (blk_below (g := gb217) (o := .cells #[.int .i64 a0_0, .int .i64 a0_1, .string a0_2, .slice (some ad231) l0_3.length c0_3] 91 (0, 0)) (aW BK217.out) hb)
         have n2_ := Aside0.mk (below_step (aB1 GE217.out) hb)
         clear BK217
         clear HB
         have HO234 := n0_
         have BK217 := n1_
         have HB := n2_
         clear n0_ n1_ n2_
         (try clear hb)
         (try clear hb2)
         (try clear hk)
         (try clear hi)
         (try clear ho0)
         refine hK.out _ _ ⟨(blk_cell BK217.out 0).trans rfl, (blk_cell BK217.out 1).trans rfl, (blk_cell BK217.out 2).trans rfl, (blk_cell BK217.out 3).trans rfl, ((HB.out.cell (World.block_lt_of_cell? w _ hw231_0)).trans hw231_0), ((HB.out.cell (World.block_lt_of_cell? w _ hw231_1)).trans hw231_1), ((HB.out.cell (World.block_lt_of_cell? w _ hw231_2)).trans hw231_2), ((HB.out.cell (World.block_lt_of_cell? w _ hw231_3)).trans hw231_3), ((HB.out.cell (World.block_lt_of_cell? w _ hw235_0)).trans hw235_0), ((HB.out.cell (World.block_lt_of_cell? w _ hw235_1)).trans hw235_1), ((HB.out.cell (World.block_lt_of_cell? w _ hw235_2)).trans hw235_2), ((HB.out.cell (World.block_lt_of_cell? w _ hw235_3)).trans hw235_3)⟩ (fun hHeld => ?_)
         clear hK K
         refine norm_ (a' := ?_) ?_ ?_
         rotate_left
         ·show Act.put _ (some 34) _ = _
          simp only [Act.put, List.setIfInBounds_toArray, List.set_cons_zero, List.set_cons_succ, i64_w, i32_w]
          rfl
         refine one_ (i := 9) (N := some 39) #[true, true, true, true, true, true, true, true, true, true, false, false] rfl rfl (one_of HT_.out aK) (by decide) (fun K hK => ?_)
         refine goes_ Try.func77 aK rfl #[.agg #[.int .i64 ((rd_T91 l0_3 1).f0), .int .i64 ((rd_T91 l0_3 1).f1), .string ((rd_T91 l0_3 1).f2), .slice A235_3 ((rd_T91 l0_3 1).f3).length c235_3]] (by rfl) rfl rfl aL ?_
         with_reducible refine (ih kj6 (by have := HJ6.out; omega) ((rd_T91 l0_3 1).f0) ((rd_T91 l0_3 1).f1) ((rd_T91 l0_3 1).f2) _ _ ((rd_T91 l0_3 1).f3) t236 _ ?side1 ?side2 A27.out).mono ?_
         (case side1 => repeat (first | exact (Kd.C_below HR235_3.out HB.out) | (with_reducible refine Kd.C_alloc ?_ _) | (with_reducible refine Kd.C_drewN ?_ _) | (with_reducible refine Kd.C_drew ?_)))
         (case side2 => exact HC235_3.out)
         rintro e w31 ⟨v237, rfl, ho0, hb⟩
         refine ⟨_, rfl, ?_⟩
         have n0_ := Aside0.mk (Kd.R_elder' (aP HO234.out) (Kd.R_base ho0) hb)
         have n1_ := Aside0.mk (Kd.R_lower (Kd.R_new' ho0 (Kd.R_lt (aP HO234.out))) (below_size (aB1 GE217.out)))
         have n2_ := Aside0.mk (blk_below (g := gb217) (o := .cells #[.int .i64 a0_0, .int .i64 a0_1, .string a0_2, .slice (some ad231) l0_3.length c0_3] 91 (0, 0)) (aW BK217.out) hb)
         have n3_ := Aside0.mk (below_step (aB1 GE217.out) hb)
         clear HO234
         clear BK217
         clear HB
         have HO234 := n0_
         have HO238 := n1_
         have BK217 := n2_
         have HB := n3_
         clear n0_ n1_ n2_ n3_
         (try clear hb)
         (try clear hb2)
         (try clear hk)
         (try clear hi)
         (try clear ho0)
         obtain ⟨Ao32, co32, eo32⟩ := Kd.R_slice HO234.out
         (first | subst eo32 | (injection eo32 with f1_ f2_ f3_; have f4_ := f1_.symm; have f5_ := f3_.symm; clear f1_ f2_ f3_; subst f4_; subst f5_))
         obtain ⟨Ao33, co33, eo33⟩ := Kd.R_slice HO238.out
         (first | subst eo33 | (injection eo33 with f1_ f2_ f3_; have f4_ := f1_.symm; have f5_ := f3_.symm; clear f1_ f2_ f3_; subst f4_; subst f5_))
         refine hK.out _ _ ⟨(blk_cell BK217.out 0).trans rfl, (blk_cell BK217.out 1).trans rfl, (blk_cell BK217.out 2).trans rfl, (blk_cell BK217.out 3).trans rfl, ((HB.out.cell (World.block_lt_of_cell? w _ hw231_0)).trans hw231_0), ((HB.out.cell (World.block_lt_of_cell? w _ hw231_1)).trans hw231_1), ((HB.out.cell (World.block_lt_of_cell? w _ hw231_2)).trans hw231_2), ((HB.out.cell (World.block_lt_of_cell? w _ hw231_3)).trans hw231_3), ((HB.out.cell (World.block_lt_of_cell? w _ hw235_0)).trans hw235_0), ((HB.out.cell (World.block_lt_of_cell? w _ hw235_1)).trans hw235_1), ((HB.out.cell (World.block_lt_of_cell? w _ hw235_2)).trans hw235_2), ((HB.out.cell (World.block_lt_of_cell? w _ hw235_3)).trans hw235_3)⟩ (fun hHeld => ?_)
         clear hK K
         refine norm_ (a' := ?_) ?_ ?_
         rotate_left
         ·show Act.put _ (some 39) _ = _
          simp only [Act.put, List.setIfInBounds_toArray, List.set_cons_zero, List.set_cons_succ, i64_w, i32_w]
          rfl
         refine one_ (i := 10) (N := some 40) #[true, true, true, true, true, true, true, true, true, true, true, false] rfl rfl (one_of HT_.out aK) (by decide) (fun K hK => ?_)
         refine goes_ Try.func91 aK rfl #[.slice Ao32 t232.length co32, .slice Ao33 t236.length co33] (by rfl) rfl rfl aL ?_
         with_reducible refine (spec_l2Cat.calls _ _ t232 _ _ t236 t239 _ ?side1 ?side2 ?side3 ?side4 A28.out).mono ?_
         (case side1 => repeat (first | exact (Kd.R_reads' HO234.out).2.2 | (with_reducible refine Kd.C_alloc ?_ _) | (with_reducible refine Kd.C_drewN ?_ _) | (with_reducible refine Kd.C_drew ?_)))
         (case side2 => exact (Kd.R_reads' HO234.out).2.1)
         (case side3 => repeat (first | exact (Kd.R_reads' HO238.out).2.2 | (with_reducible refine Kd.C_alloc ?_ _) | (with_reducible refine Kd.C_drewN ?_ _) | (with_reducible refine Kd.C_drew ?_)))
         (case side4 => exact (Kd.R_reads' HO238.out).2.1)
         rintro e w34 ⟨v240, rfl, ho0, hb⟩
         refine ⟨_, rfl, ?_⟩
         have n0_ := Aside0.mk (Kd.R_elder' (aP HO234.out) (Kd.R_base ho0) hb)
         have n1_ := Aside0.mk (Kd.R_elder' (aP HO238.out) (Kd.R_base ho0) hb)
         have n2_ := Aside0.mk (Kd.R_lower (Kd.R_new' (Kd.R_new' ho0 (Kd.R_lt (aP HO234.out))) (Kd.R_lt (aP HO238.out))) (below_size (aB1 GE217.out)))
         have n3_ := Aside0.mk (blk_below (g := gb217) (o := .cells #[.int .i64 a0_0, .int .i64 a0_1, .string a0_2, .slice (some ad231) l0_3.length c0_3] 91 (0, 0)) (aW BK217.out) hb)
         have n4_ := Aside0.mk (below_step (aB1 GE217.out) hb)
         clear HO234
         clear HO238
         clear BK217
         clear HB
         have HO234 := n0_
         have HO238 := n1_
         have HO241 := n2_
         have BK217 := n3_
         have HB := n4_
         clear n0_ n1_ n2_ n3_ n4_
         (try clear hb)
         (try clear hb2)
         (try clear hk)
         (try clear hi)
         (try clear ho0)
         refine hK.out _ _ ⟨(blk_cell BK217.out 0).trans rfl, (blk_cell BK217.out 1).trans rfl, (blk_cell BK217.out 2).trans rfl, (blk_cell BK217.out 3).trans rfl, ((HB.out.cell (World.block_lt_of_cell? w _ hw231_0)).trans hw231_0), ((HB.out.cell (World.block_lt_of_cell? w _ hw231_1)).trans hw231_1), ((HB.out.cell (World.block_lt_of_cell? w _ hw231_2)).trans hw231_2), ((HB.out.cell (World.block_lt_of_cell? w _ hw231_3)).trans hw231_3), ((HB.out.cell (World.block_lt_of_cell? w _ hw235_0)).trans hw235_0), ((HB.out.cell (World.block_lt_of_cell? w _ hw235_1)).trans hw235_1), ((HB.out.cell (World.block_lt_of_cell? w _ hw235_2)).trans hw235_2), ((HB.out.cell (World.block_lt_of_cell? w _ hw235_3)).trans hw235_3)⟩ (fun hHeld => ?_)
         clear hK K
         refine norm_ (a' := ?_) ?_ ?_
         rotate_left
         ·show Act.put _ (some 40) _ = _
          simp only [Act.put, List.setIfInBounds_toArray, List.set_cons_zero, List.set_cons_succ, i64_w, i32_w]
          rfl
         refine pure_ (i := 11) (N := some 2) (v := ?_) (a' := ?_) #[true, true, true, true, true, true, true, true, true, true, true, true] rfl rfl (any_of HT_.out aK) (fun _ _ _ h => h) (Or.inl ⟨by rfl, ?_⟩) ?_ ?_
         rotate_left
         ·exact aV
         rotate_left
         ·exact aA
         refine done_ (done_of HT_.out aK) ?_
         try go_wp2
         go_ret
         exact ⟨_, by first | rfl | (simp [errW_none, errW_some] <;> rfl) | (simp [*, errW_none, errW_some] <;> rfl), by (with_reducible repeat (first|apply Kd.R_alloc|apply Kd.R_drewN|apply Kd.R_drew)); exact Kd.R_mono HO241.out (fun _ hk => trivial), by repeat (first | (with_reducible first | exact HB.out | apply below_alloc | apply pw_below_drewN | apply below_drew1 | refine below_set ?_ GE217.out) | exact HB.out)⟩
        ·rw [if_neg c26] at H
         exact absurd H (by simp)
       ·rw [if_neg c24] at H
        exact absurd H (by simp)
      ·rw [if_neg c23] at H
       have c23b0 : (a0_0 == 7) = false := beq_eq_false_iff_ne.mpr c23
       have c23b1 : (a0_0 != 7) = true := bne_iff_ne.mpr c23
       by_cases c35 : a0_0 = 8
       ·rw [if_pos c35] at H
        have c35b0 : (a0_0 == 8) = true := beq_iff_eq.mpr c35
        have c35b1 : (a0_0 != 8) = false := bne_eq_false_iff_eq.mpr c35
        clear c35
        by_cases c36 : 0 < (l0_3.length : Int)
        ·rw [if_pos c36] at H
         have c36b0 : decide (0 < (l0_3.length : Int)) = true := decide_eq_true c36
         have c36b1 : decide (0 < l0_3.length) = true := decide_eq_true (by omega)
         clear c36
         replace H := Option.bind_eq_some_iff.mp H
         obtain ⟨t243, A370, H⟩ := H
         replace H : (some t243) = some r := H
         have A37 := Aside0.mk A370
         clear A370
         obtain rfl := Option.some.inj H
         have hcz38_0 : wc.cell? ⟨gb217, 0, none⟩ = some (.int .i64 a0_0) := (blk_cell BK217.out 0).trans rfl
         have hcz38_1 : wc.cell? ⟨gb217, 1, none⟩ = some (.int .i64 a0_1) := (blk_cell BK217.out 1).trans rfl
         have hcz38_2 : wc.cell? ⟨gb217, 2, none⟩ = some (.string a0_2) := (blk_cell BK217.out 2).trans rfl
         have hcz38_3 : wc.cell? ⟨gb217, 3, none⟩ = some (.slice A0_3 l0_3.length c0_3) := (blk_cell BK217.out 3).trans rfl
         have hfz38_0 := blk_frozen BK217.out 0
         have hfz38_1 := blk_frozen BK217.out 1
         have hfz38_2 := blk_frozen BK217.out 2
         have hfz38_3 := blk_frozen BK217.out 3
         have p242 : 0 ≤ (0 : Int) := (by omega)
         have q242 : 0 < (l0_3.length : Int) := of_decide_eq_true aQ
         obtain ⟨ad242, A242_3, c242_3, e242, hx242_0, hx242_1, hx242_2, hx242_3, hl242_3, hi242_3⟩ := at_T91 HR0_3.out 0 p242 q242
         cases e242
         have qi242 : (0 < l0_3.length) = True := eq_true (by omega)
         (try rw [show ((0 : Int)).toNat = 0 from rfl] at hx242_0)
         (try rw [show 0 * 4 = 0 from rfl] at hx242_0)
         (try rw [Addr.add_zero'] at hx242_0)
         (try rw [show ((0 : Int)).toNat = 0 from rfl] at hx242_1)
         (try rw [show 0 * 4 = 0 from rfl] at hx242_1)
         (try rw [Addr.add_zero'] at hx242_1)
         (try rw [show ((0 : Int)).toNat = 0 from rfl] at hx242_2)
         (try rw [show 0 * 4 = 0 from rfl] at hx242_2)
         (try rw [Addr.add_zero'] at hx242_2)
         (try rw [show ((0 : Int)).toNat = 0 from rfl] at hx242_3)
         (try rw [show 0 * 4 = 0 from rfl] at hx242_3)
         (try rw [Addr.add_zero'] at hx242_3)
         replace hx242_0 := (HB.out.cell (World.block_lt_of_cell? w _ hx242_0)).trans hx242_0
         replace hx242_1 := (HB.out.cell (World.block_lt_of_cell? w _ hx242_1)).trans hx242_1
         replace hx242_2 := (HB.out.cell (World.block_lt_of_cell? w _ hx242_2)).trans hx242_2
         replace hx242_3 := (HB.out.cell (World.block_lt_of_cell? w _ hx242_3)).trans hx242_3
         have HR242_3 := Aside0.mk hi242_3
         have HC242_3 := Aside0.mk hl242_3
         clear hi242_3 hl242_3
         replace p242 := eq_true p242
         replace q242 := eq_true q242
         go_wp2_with (first | ((with_reducible refine gate_callee (f := 77) rfl ?_); refine goesL_ (some 47) rfl rfl Try.func77 aK rfl #[.agg #[.int .i64 ((rd_T91 l0_3 0).f0), .int .i64 ((rd_T91 l0_3 0).f1), .string ((rd_T91 l0_3 0).f2), .slice A242_3 ((rd_T91 l0_3 0).f3).length c242_3]] rfl aL ?_; (with_reducible refine (ih kj6 (by have := HJ6.out; omega) ((rd_T91 l0_3 0).f0) ((rd_T91 l0_3 0).f1) ((rd_T91 l0_3 0).f2) _ _ ((rd_T91 l0_3 0).f3) t243 _ ?side1 ?side2 A37.out).mono ?_); (case side1 => repeat (first | exact (Kd.C_below HR242_3.out HB.out) | (with_reducible refine Kd.C_alloc ?_ _) | (with_reducible refine Kd.C_drewN ?_ _) | (with_reducible refine Kd.C_drew ?_))); (case side2 => exact HC242_3.out); rintro e w39 ⟨v244, rfl, ho0, hb⟩; refine ⟨_, rfl, ?_⟩; have n0_ := Aside0.mk (Kd.R_lower ho0 (below_size (aB1 GE217.out))); have n1_ := Aside0.mk (blk_below (g := gb217) (o := .cells #[.int .i64 a0_0, .int .i64 a0_1, .string a0_2, .slice (some ad242) l0_3.length c0_3] 91 (0, 0)) (aW BK217.out) hb); have n2_ := Aside0.mk (below_step (aB1 GE217.out) hb); clear BK217; clear HB; have HO245 := n0_; have BK217 := n1_; have HB := n2_; clear n0_ n1_ n2_; (try clear hb); (try clear hb2); (try clear hk); (try clear hi); (try clear ho0)))
         go_ret
         exact ⟨_, by first | rfl | (simp [errW_none, errW_some] <;> rfl) | (simp [*, errW_none, errW_some] <;> rfl), by (with_reducible repeat (first|apply Kd.R_alloc|apply Kd.R_drewN|apply Kd.R_drew)); exact HO245.out, by repeat (first | (with_reducible first | exact HB.out | apply below_alloc | apply pw_below_drewN | apply below_drew1 | refine below_set ?_ GE217.out) | exact HB.out)⟩
        ·rw [if_neg c36] at H
         exact absurd H (by simp)
       ·rw [if_neg c35] at H
        have c35b0 : (a0_0 == 8) = false := beq_eq_false_iff_ne.mpr c35
        have c35b1 : (a0_0 != 8) = true := bne_iff_ne.mpr c35
        obtain ⟨y246, hy246⟩ : ∃ y_ : List (S59), y_ = (([(⟨0, (⟨#[]⟩ : ByteArray)⟩ : S59)] : List (S59))) := ⟨_, rfl⟩
        replace H : (some y246) = some r := by first | (rw [hy246]; with_reducible exact H) | (have H2_ := (Option.bind_some _ _).symm.trans H; rw [hy246]; with_reducible exact H2_) | (have H2_ := (Option.bind_some _ _).symm.trans H; with_reducible exact H2_) | with_reducible exact H | (rw [hy246]; exact H) | exact H
        have Ny246 := Aside0.mk hy246
        clear hy246
        obtain rfl := Option.some.inj H
        go_wp2_with (first | ((with_reducible refine gate_dst (N := 49) rfl ?_); refine Kd.R_lit k59 _ 59 ?hg (N := 49) ?hd (xs := ([(⟨0, (⟨#[]⟩ : ByteArray)⟩ : S59)] : List (S59))) (inner := [.int .i64 0, .string (⟨#[]⟩ : ByteArray)]) (ok := fun _ => True) (okp := fun _ => True) ?hr ?hp (fun _ hk => hk) trivial (Below.refl _ _) (Nat.le_refl _) (by simp) ?_; (case hd => rfl); (case hg => rfl); (case hr => first | (go_simp; done) | (go_simp; rfl)); (case hp => exact (Reps.c2 (show Kd.M k59 _ _ _ (⟨0, (⟨#[]⟩ : ByteArray)⟩ : S59) [.int .i64 0, .string (⟨#[]⟩ : ByteArray)] from (k59_mkM _ _ _ (⟨0, (⟨#[]⟩ : ByteArray)⟩ : S59) )) (Reps.none _ _))); intro v247 w40 ho41 hb hg_ hnew_; clear hg_ hnew_; (first | rw [← Ny246.out] at ho41 | (simp only [Int.reduceToNat] at ho41; rw [← Ny246.out] at ho41)); have n0_ := Aside0.mk (Kd.R_lower ho41 (below_size (aB1 GE217.out))); have n1_ := Aside0.mk (blk_below (g := gb217) (o := .cells #[.int .i64 a0_0, .int .i64 a0_1, .string a0_2, .slice A0_3 l0_3.length c0_3] 91 (0, 0)) (aW BK217.out) hb); have n2_ := Aside0.mk (below_step (aB1 GE217.out) hb); clear BK217; clear HB; have HO248 := n0_; have BK217 := n1_; have HB := n2_; clear n0_ n1_ n2_; clear hb ho41))
        go_ret
        exact ⟨_, by first | rfl | (simp [errW_none, errW_some] <;> rfl) | (simp [*, errW_none, errW_some] <;> rfl), by (with_reducible repeat (first|apply Kd.R_alloc|apply Kd.R_drewN|apply Kd.R_drew)); exact HO248.out, by repeat (first | (with_reducible first | exact HB.out | apply below_alloc | apply pw_below_drewN | apply below_drew1 | refine below_set ?_ GE217.out) | exact HB.out)⟩

/-! ### spec_l15Rd_of: function 88 -/
def spec_l15Rd_of.f (k : Nat) (s0_0 : List Int) (s0_1 : Int) (l1 : List ByteArray) : Option (ByteArray × Int) := (spec_l15Rd_pick.f k s0_0 s0_1 (l1.length : Int)).bind fun bt249 => (if 0 ≤ bt249.1 then (if bt249.1 < (l1.length : Int) then (some (rdOf ByteArray.empty l1 bt249.1, bt249.2)) else (none)) else (none))
set_option maxHeartbeats 8000000 in
set_option maxRecDepth 100000 in
theorem spec_l15Rd_of.calls (k : Nat) (g : Nat) (s0_0 : List Int) (s0_1 : Int) (A1 : Option Addr) (c1 : Nat) (l1 : List ByteArray) (r1 : ByteArray) (r2 : Int) (w0 w : World) (hI : IsS87 w0 w g s0_0 s0_1) (hB : Below w0.heap.size w0 w) (hr1 : Kd.C Kd.string w A1 l1.length l1) (hc1 : l1.length ≤ c1) (hf1 : ∀ ad, A1 = some ad → 0 < l1.length → ad.block ≠ g) (h : spec_l15Rd_of.f k s0_0 s0_1 l1 = some (r1, r2)) :
  Calls Try.prog 88 #[.pointer (some ⟨g, 0, none⟩), .slice A1 l1.length c1] w fun e w' => e = .returned (.string r1) ∧ IsS87 w0 w' g s0_0 r2 ∧ Below w0.heap.size w0 w' ∧ KeepBut w w' g none := by
 have HR1 := Aside0.mk hr1
 have HC1 := Aside0.mk hc1
 clear hr1 hc1
 have HI0 := Aside0.mk hI
 have HK := Aside0.mk (KeepBut.refl w g none)
 have HL := Aside0.mk hB.size
 clear hI
 have HW0 := Aside0.mk hB.size
 have HB := Aside0.mk hB
 clear hB
 have H : ((spec_l15Rd_pick.f k s0_0 s0_1 (l1.length : Int)).bind fun bt249 => (if 0 ≤ bt249.1 then (if bt249.1 < (l1.length : Int) then (some (rdOf ByteArray.empty l1 bt249.1, bt249.2)) else (none)) else (none))) = some (r1, r2) := h
 clear h
 replace H := Option.bind_eq_some_iff.mp H
 obtain ⟨⟨t249, t250⟩, A30, H⟩ := H
 replace H : (if 0 ≤ t249 then (if t249 < (l1.length : Int) then (some (rdOf ByteArray.empty l1 t249, t250)) else (none)) else (none)) = some (r1, r2) := H
 have A3 := Aside0.mk A30
 clear A30
 by_cases c4 : 0 ≤ t249
 ·rw [if_pos c4] at H
  have c4b0 : decide (0 ≤ t249) = true := decide_eq_true c4
  clear c4
  by_cases c5 : t249 < (l1.length : Int)
  ·rw [if_pos c5] at H
   have c5b0 : decide (t249 < (l1.length : Int)) = true := decide_eq_true c5
   clear c5
   simp only [Option.some.injEq, Prod.mk.injEq] at H
   obtain ⟨rfl, rfl⟩ := H
   go_enter Try.func88, Try.ntmps88
   go_wp2_with (first | ((with_reducible refine gate_callee (f := 79) rfl ?_); refine goesL_ (some 9) rfl rfl Try.func79 aK rfl #[.pointer (some ⟨g, 0, none⟩), .int .i64 (l1.length : Int)] rfl aL ?_; (with_reducible refine (spec_l15Rd_pick.calls k g s0_0 s0_1 (l1.length : Int) t249 t250 w0 _ ?side1 ?side2 A3.out).mono ?_); (case side1 => repeat (first | (with_reducible first | exact HI0.out | apply IsS87.alloc | apply IsS87.drewN | apply IsS87.drew | apply IsS87.set_1) | exact HI0.out)); (case side2 => repeat (first | (with_reducible first | exact HB.out | apply below_alloc | apply pw_below_drewN | apply below_drew1 | refine below_set ?_ (IsS87.ge HI0.out)) | exact HB.out)); rintro e w6 ⟨rfl, hi, hb, hk⟩; refine ⟨_, rfl, ?_⟩; have n0_ := Aside0.mk (KeepBut.trans aH hk (.inl rfl)); have n1_ := Aside0.mk (hb); have n2_ := Aside0.mk (hi); clear HK; clear HB; clear HI0; have HK := n0_; have HB := n1_; have HI0 := n2_; clear n0_ n1_ n2_; (try clear hb); (try clear hb2); (try clear hk); (try clear hi); have p251 : 0 ≤ (t249 : Int) := of_decide_eq_true aQ; have q251 : t249 < (l1.length : Int) := of_decide_eq_true aQ; obtain ⟨ad251, e251, hx251_0⟩ := Kd.at_string HR1.out t249 p251 q251; cases e251; replace hx251_0 := keep_cell HK.out hx251_0 (by first | (rw [add_block]; exact hf1 _ rfl (by omega)) | exact hf1 _ rfl (by omega) | exact hf1 ad251 rfl (by omega)); replace p251 := eq_true p251; replace q251 := eq_true q251))
   go_ret
   exact ⟨by first | rfl | (simp [errW_none, errW_some] <;> rfl) | (simp [*, errW_none, errW_some] <;> rfl), by repeat (first | (with_reducible first | exact HI0.out | apply IsS87.alloc | apply IsS87.drewN | apply IsS87.drew | apply IsS87.set_1) | exact HI0.out), by repeat (first | (with_reducible first | exact HB.out | apply below_alloc | apply pw_below_drewN | apply below_drew1 | refine below_set ?_ (IsS87.ge HI0.out)) | exact HB.out), by repeat (first | (with_reducible first | exact HK.out | apply KeepBut.set_ | apply keep_drewN | apply keep_drew | apply keep_alloc) | exact HK.out)⟩
  ·rw [if_neg c5] at H
   exact absurd H (by simp)
 ·rw [if_neg c4] at H
  exact absurd H (by simp)

/-! ### spec_l1Word2: function 92 -/
def spec_l1Word2.f (k : Nat) (s0_0 : List Int) (s0_1 : Int) : Option (ByteArray × Int) := (spec_l15Rd_of.f k s0_0 s0_1 (([(⟨#[97]⟩ : ByteArray), (⟨#[98, 98]⟩ : ByteArray), (⟨#[99, 99, 99]⟩ : ByteArray), (⟨#[100, 100, 100, 100]⟩ : ByteArray), (⟨#[102, 40]⟩ : ByteArray), (⟨#[41]⟩ : ByteArray), (⟨#[44]⟩ : ByteArray), (⟨#[120, 61, 49]⟩ : ByteArray), (⟨#[97, 98, 99, 100, 101, 102, 103, 104]⟩ : ByteArray), (⟨#[101]⟩ : ByteArray)] : List ByteArray))).bind fun bt255 => (some (bt255.1, bt255.2))
set_option maxHeartbeats 8000000 in
set_option maxRecDepth 100000 in
theorem spec_l1Word2.calls (k : Nat) (g : Nat) (s0_0 : List Int) (s0_1 : Int) (r1 : ByteArray) (r2 : Int) (w0 w : World) (hI : IsS87 w0 w g s0_0 s0_1) (hB : Below w0.heap.size w0 w) (h : spec_l1Word2.f k s0_0 s0_1 = some (r1, r2)) :
  Calls Try.prog 92 #[.pointer (some ⟨g, 0, none⟩)] w fun e w' => e = .returned (.string r1) ∧ IsS87 w0 w' g s0_0 r2 ∧ Below w0.heap.size w0 w' ∧ KeepBut w w' g none := by
 have HI0 := Aside0.mk hI
 have HK := Aside0.mk (KeepBut.refl w g none)
 have HL := Aside0.mk hB.size
 clear hI
 have HW0 := Aside0.mk hB.size
 have HB := Aside0.mk hB
 clear hB
 have H : ((spec_l15Rd_of.f k s0_0 s0_1 (([(⟨#[97]⟩ : ByteArray), (⟨#[98, 98]⟩ : ByteArray), (⟨#[99, 99, 99]⟩ : ByteArray), (⟨#[100, 100, 100, 100]⟩ : ByteArray), (⟨#[102, 40]⟩ : ByteArray), (⟨#[41]⟩ : ByteArray), (⟨#[44]⟩ : ByteArray), (⟨#[120, 61, 49]⟩ : ByteArray), (⟨#[97, 98, 99, 100, 101, 102, 103, 104]⟩ : ByteArray), (⟨#[101]⟩ : ByteArray)] : List ByteArray))).bind fun bt255 => (some (bt255.1, bt255.2))) = some (r1, r2) := h
 clear h
 obtain ⟨y252, hy252⟩ : ∃ y_ : List ByteArray, y_ = (([(⟨#[97]⟩ : ByteArray), (⟨#[98, 98]⟩ : ByteArray), (⟨#[99, 99, 99]⟩ : ByteArray), (⟨#[100, 100, 100, 100]⟩ : ByteArray), (⟨#[102, 40]⟩ : ByteArray), (⟨#[41]⟩ : ByteArray), (⟨#[44]⟩ : ByteArray), (⟨#[120, 61, 49]⟩ : ByteArray), (⟨#[97, 98, 99, 100, 101, 102, 103, 104]⟩ : ByteArray), (⟨#[101]⟩ : ByteArray)] : List ByteArray)) := ⟨_, rfl⟩
 replace H : ((spec_l15Rd_of.f k s0_0 s0_1 y252).bind fun bt255 => (some (bt255.1, bt255.2))) = some (r1, r2) := by first | (rw [hy252]; with_reducible exact H) | (have H2_ := (Option.bind_some _ _).symm.trans H; rw [hy252]; with_reducible exact H2_) | (have H2_ := (Option.bind_some _ _).symm.trans H; with_reducible exact H2_) | with_reducible exact H | (rw [hy252]; exact H) | exact H
 have Ny252 := Aside0.mk hy252
 clear hy252
 replace H := Option.bind_eq_some_iff.mp H
 obtain ⟨⟨t255, t256⟩, A20, H⟩ := H
 replace H : (some (t255, t256)) = some (r1, r2) := H
 have A2 := Aside0.mk A20
 clear A20
 simp only [Option.some.injEq, Prod.mk.injEq] at H
 obtain ⟨rfl, rfl⟩ := H
 go_enter Try.func92, Try.ntmps92
 go_wp2_with (first | ((with_reducible refine gate_dst (N := 4) rfl ?_); refine Kd.R_lit Kd.string _ 9 ?hg (N := 4) ?hd (xs := ([(⟨#[97]⟩ : ByteArray), (⟨#[98, 98]⟩ : ByteArray), (⟨#[99, 99, 99]⟩ : ByteArray), (⟨#[100, 100, 100, 100]⟩ : ByteArray), (⟨#[102, 40]⟩ : ByteArray), (⟨#[41]⟩ : ByteArray), (⟨#[44]⟩ : ByteArray), (⟨#[120, 61, 49]⟩ : ByteArray), (⟨#[97, 98, 99, 100, 101, 102, 103, 104]⟩ : ByteArray), (⟨#[101]⟩ : ByteArray)] : List ByteArray)) (inner := [.string (⟨#[97]⟩ : ByteArray), .string (⟨#[98, 98]⟩ : ByteArray), .string (⟨#[99, 99, 99]⟩ : ByteArray), .string (⟨#[100, 100, 100, 100]⟩ : ByteArray), .string (⟨#[102, 40]⟩ : ByteArray), .string (⟨#[41]⟩ : ByteArray), .string (⟨#[44]⟩ : ByteArray), .string (⟨#[120, 61, 49]⟩ : ByteArray), .string (⟨#[97, 98, 99, 100, 101, 102, 103, 104]⟩ : ByteArray), .string (⟨#[101]⟩ : ByteArray)]) (ok := fun _ => True) (okp := fun _ => True) ?hr ?hp (fun _ hk => hk) trivial (Below.refl _ _) (Nat.le_refl _) (by simp) ?_; (case hd => rfl); (case hg => rfl); (case hr => first | (go_simp; done) | (go_simp; rfl)); (case hp => exact (Reps.one (show Kd.M Kd.string _ _ _ (⟨#[97]⟩ : ByteArray) [.string (⟨#[97]⟩ : ByteArray)] from rfl) (Reps.one (show Kd.M Kd.string _ _ _ (⟨#[98, 98]⟩ : ByteArray) [.string (⟨#[98, 98]⟩ : ByteArray)] from rfl) (Reps.one (show Kd.M Kd.string _ _ _ (⟨#[99, 99, 99]⟩ : ByteArray) [.string (⟨#[99, 99, 99]⟩ : ByteArray)] from rfl) (Reps.one (show Kd.M Kd.string _ _ _ (⟨#[100, 100, 100, 100]⟩ : ByteArray) [.string (⟨#[100, 100, 100, 100]⟩ : ByteArray)] from rfl) (Reps.one (show Kd.M Kd.string _ _ _ (⟨#[102, 40]⟩ : ByteArray) [.string (⟨#[102, 40]⟩ : ByteArray)] from rfl) (Reps.one (show Kd.M Kd.string _ _ _ (⟨#[41]⟩ : ByteArray) [.string (⟨#[41]⟩ : ByteArray)] from rfl) (Reps.one (show Kd.M Kd.string _ _ _ (⟨#[44]⟩ : ByteArray) [.string (⟨#[44]⟩ : ByteArray)] from rfl) (Reps.one (show Kd.M Kd.string _ _ _ (⟨#[120, 61, 49]⟩ : ByteArray) [.string (⟨#[120, 61, 49]⟩ : ByteArray)] from rfl) (Reps.one (show Kd.M Kd.string _ _ _ (⟨#[97, 98, 99, 100, 101, 102, 103, 104]⟩ : ByteArray) [.string (⟨#[97, 98, 99, 100, 101, 102, 103, 104]⟩ : ByteArray)] from rfl) (Reps.one (show Kd.M Kd.string _ _ _ (⟨#[101]⟩ : ByteArray) [.string (⟨#[101]⟩ : ByteArray)] from rfl) (Reps.none _ _)))))))))))); intro v253 w3 ho4 hb hg_ hnew_; clear hg_ hnew_; (first | rw [← Ny252.out] at ho4 | (simp only [Int.reduceToNat] at ho4; rw [← Ny252.out] at ho4)); have n0_ := Aside0.mk (Kd.R_lower ho4 (keep_size (w := w) (g := g) (row := none) aH)); have n1_ := Aside0.mk (IsS87.below (by repeat (first | (with_reducible first | exact HI0.out | apply IsS87.alloc | apply IsS87.drewN | apply IsS87.drew | apply IsS87.set_1) | exact HI0.out)) hb); have n2_ := Aside0.mk (KeepBut.trans aH (KeepBut.of_below hb g none) (.inl rfl)); have n3_ := Aside0.mk (below_step (aB1 (IsS87.ge HI0.out)) hb); clear HI0; clear HK; clear HB; have HO254 := n0_; have HI0 := n1_; have HK := n2_; have HB := n3_; clear n0_ n1_ n2_ n3_; clear hb ho4; obtain ⟨Ao5, co5, eo5⟩ := Kd.R_slice HO254.out; subst eo5) | ((with_reducible refine gate_callee (f := 88) rfl ?_); refine goesL_ (some 5) rfl rfl Try.func88 aK rfl #[.pointer (some ⟨g, 0, none⟩), .slice Ao5 y252.length co5] rfl aL ?_; (with_reducible refine (spec_l15Rd_of.calls k g s0_0 s0_1 _ _ y252 t255 t256 w0 _ ?side1 ?side2 ?side3 ?side4 ?side5 A2.out).mono ?_); (case side1 => repeat (first | (with_reducible first | exact HI0.out | apply IsS87.alloc | apply IsS87.drewN | apply IsS87.drew | apply IsS87.set_1) | exact HI0.out)); (case side2 => repeat (first | (with_reducible first | exact HB.out | apply below_alloc | apply pw_below_drewN | apply below_drew1 | refine below_set ?_ (IsS87.ge HI0.out)) | exact HB.out)); (case side3 => repeat (first | exact (Kd.R_reads' HO254.out).2.2 | (with_reducible refine Kd.C_alloc ?_ _) | (with_reducible refine Kd.C_drewN ?_ _) | (with_reducible refine Kd.C_drew ?_))); (case side4 => exact (Kd.R_reads' HO254.out).2.1); (case side5 => exact far_slice (IsS87.own_ne HI0.out HO254.out (by decide))); rintro e w6 ⟨rfl, hi, hb, hk⟩; refine ⟨_, rfl, ?_⟩; have n0_ := Aside0.mk (Kd.R_mono (Kd.R_keep (IsS87.apart (show IsS87 w0 _ g s0_0 s0_1 from by repeat (first | (with_reducible first | exact HI0.out | apply IsS87.alloc | apply IsS87.drewN | apply IsS87.drew | apply IsS87.set_1) | exact HI0.out)) (aP HO254.out) (by decide)) hk (fun _ h => h.2)) (fun _ h => h.1)); have n1_ := Aside0.mk (KeepBut.trans aH hk (.inl rfl)); have n2_ := Aside0.mk (hb); have n3_ := Aside0.mk (hi); clear HO254; clear HK; clear HB; clear HI0; have HO254 := n0_; have HK := n1_; have HB := n2_; have HI0 := n3_; clear n0_ n1_ n2_ n3_; (try clear hb); (try clear hb2); (try clear hk); (try clear hi)))
 go_ret
 exact ⟨by first | rfl | (simp [errW_none, errW_some] <;> rfl) | (simp [*, errW_none, errW_some] <;> rfl), by repeat (first | (with_reducible first | exact HI0.out | apply IsS87.alloc | apply IsS87.drewN | apply IsS87.drew | apply IsS87.set_1) | exact HI0.out), by repeat (first | (with_reducible first | exact HB.out | apply below_alloc | apply pw_below_drewN | apply below_drew1 | refine below_set ?_ (IsS87.ge HI0.out)) | exact HB.out), by repeat (first | (with_reducible first | exact HK.out | apply KeepBut.set_ | apply keep_drewN | apply keep_drew | apply keep_alloc) | exact HK.out)⟩

/-! ### spec_l1Cat: function 93 -/
def spec_l1Cat.f (a0_0 : Int) (a0_1 : Int) (a0_2 : ByteArray) (l0_3 : List (S91)) (a1_0 : Int) (a1_1 : Int) (a1_2 : ByteArray) (l1_3 : List (S91)) : Option (Int × Int × ByteArray × (List (S91))) := some (7, 0, (⟨#[]⟩ : ByteArray), (([(⟨a0_0, a0_1, a0_2, l0_3⟩ : S91), (⟨a1_0, a1_1, a1_2, l1_3⟩ : S91)] : List (S91))))
set_option maxHeartbeats 8000000 in
set_option maxRecDepth 100000 in
theorem spec_l1Cat.calls (a0_0 : Int) (a0_1 : Int) (a0_2 : ByteArray) (P0_3_ : Nat → Prop) (A0_3 : Option Addr) (c0_3 : Nat) (l0_3 : List (S91)) (a1_0 : Int) (a1_1 : Int) (a1_2 : ByteArray) (P1_3_ : Nat → Prop) (A1_3 : Option Addr) (c1_3 : Nat) (l1_3 : List (S91)) (r1 : Int) (r2 : Int) (r3 : ByteArray) (r4 : List (S91)) (w : World) (hs0_3 : Kd.V k91 91 w w.heap.size (fun k_ => P0_3_ k_) (.slice A0_3 l0_3.length c0_3) l0_3) (hs1_3 : Kd.V k91 91 w w.heap.size (fun k_ => P1_3_ k_) (.slice A1_3 l1_3.length c1_3) l1_3) (h : spec_l1Cat.f a0_0 a0_1 a0_2 l0_3 a1_0 a1_1 a1_2 l1_3 = some (r1, r2, r3, r4)) :
  Calls Try.prog 93 #[.agg #[.int .i64 a0_0, .int .i64 a0_1, .string a0_2, .slice A0_3 l0_3.length c0_3], .agg #[.int .i64 a1_0, .int .i64 a1_1, .string a1_2, .slice A1_3 l1_3.length c1_3]] w fun e w' => ∃ v3_ : Value, e = .returned (.agg #[.int .i64 r1, .int .i64 r2, .string r3, v3_]) ∧ Kd.N k91 91 w' w.heap.size (fun k_ => ((P0_3_ k_ ∨ P1_3_ k_) ∨ w.heap.size ≤ k_)) v3_ r4 ∧ Below w.heap.size w w' := by
 have hu91 := Try.underlying91
 have HO0_3 := Aside0.mk (show Kd.V k91 91 w w.heap.size (fun k_ => ((P0_3_ k_ ∨ P1_3_ k_) ∨ w.heap.size ≤ k_)) (.slice A0_3 l0_3.length c0_3) l0_3 from Kd.V_mono hs0_3 (fun k_ hk => .inl (.inl hk)))
 have HO1_3 := Aside0.mk (show Kd.V k91 91 w w.heap.size (fun k_ => ((P0_3_ k_ ∨ P1_3_ k_) ∨ w.heap.size ≤ k_)) (.slice A1_3 l1_3.length c1_3) l1_3 from Kd.V_mono hs1_3 (fun k_ hk => .inl (.inr hk)))
 have HB := Aside0.mk (Below.refl w.heap.size w)
 have H : (some (7, 0, (⟨#[]⟩ : ByteArray), (([(⟨a0_0, a0_1, a0_2, l0_3⟩ : S91), (⟨a1_0, a1_1, a1_2, l1_3⟩ : S91)] : List (S91))))) = some (r1, r2, r3, r4) := h
 clear h
 obtain ⟨y260, hy260⟩ : ∃ y_ : List (S91), y_ = (([(⟨a0_0, a0_1, a0_2, l0_3⟩ : S91), (⟨a1_0, a1_1, a1_2, l1_3⟩ : S91)] : List (S91))) := ⟨_, rfl⟩
 replace H : (some (7, 0, (⟨#[]⟩ : ByteArray), y260)) = some (r1, r2, r3, r4) := by first | (rw [hy260]; with_reducible exact H) | (have H2_ := (Option.bind_some _ _).symm.trans H; rw [hy260]; with_reducible exact H2_) | (have H2_ := (Option.bind_some _ _).symm.trans H; with_reducible exact H2_) | with_reducible exact H | (rw [hy260]; exact H) | exact H
 have Ny260 := Aside0.mk hy260
 clear hy260
 simp only [Option.some.injEq, Prod.mk.injEq] at H
 obtain ⟨rfl, rfl, rfl, rfl⟩ := H
 go_enter Try.func93, Try.ntmps93
 go_wp2_with (first | ((with_reducible refine gate_dst (N := 2) rfl ?_); refine box_event ?hg (N := 2) ?hd (cs := #[.int .i64 a0_0, .int .i64 a0_1, .string a0_2, .slice A0_3 l0_3.length c0_3]) (t := 91) ?hr ?_; (case hd => rfl); (case hg => rfl); (case hr => first | (go_simp; done) | (go_simp; rfl)); intro gb257 hg w3 hbox hb; have n0_ := Aside0.mk (Kd.V_below (Kd.V_elderB (by (with_reducible repeat (first | apply Kd.V_alloc | apply Kd.V_drewN | apply Kd.V_drew)); exact HO0_3.out) gb257 (Nat.le_of_eq hg.symm)) hb); have n1_ := Aside0.mk (Kd.V_below (Kd.V_elderB (by (with_reducible repeat (first | apply Kd.V_alloc | apply Kd.V_drewN | apply Kd.V_drew)); exact HO1_3.out) gb257 (Nat.le_of_eq hg.symm)) hb); have n2_ := Aside0.mk (below_step aB hb); have n3_ := Aside0.mk (hbox); have n4_ := Aside0.mk ((by rw [hg]; exact (below_size aB) : w.heap.size ≤ gb257)); have n5_ := Aside0.mk ((by rw [hg]; exact (below_size aB) : w.heap.size ≤ gb257)); clear HO0_3; clear HO1_3; clear HB; have HO0_3 := n0_; have HO1_3 := n1_; have HB := n2_; have BK257 := n3_; have GW257 := n4_; have GE257 := n5_; clear n0_ n1_ n2_ n3_ n4_ n5_; clear hb hbox hg) | ((with_reducible refine gate_dst (N := 3) rfl ?_); refine box_event ?hg (N := 3) ?hd (cs := #[.int .i64 a1_0, .int .i64 a1_1, .string a1_2, .slice A1_3 l1_3.length c1_3]) (t := 91) ?hr ?_; (case hd => rfl); (case hg => rfl); (case hr => first | (go_simp; done) | (go_simp; rfl)); intro gb258 hg w4 hbox hb; have n0_ := Aside0.mk (Kd.V_below (Kd.V_elderB (by (with_reducible repeat (first | apply Kd.V_alloc | apply Kd.V_drewN | apply Kd.V_drew)); exact HO0_3.out) gb258 (Nat.le_of_eq hg.symm)) hb); have n1_ := Aside0.mk (Kd.V_below (Kd.V_elderB (by (with_reducible repeat (first | apply Kd.V_alloc | apply Kd.V_drewN | apply Kd.V_drew)); exact HO1_3.out) gb258 (Nat.le_of_eq hg.symm)) hb); have n2_ := Aside0.mk (blk_below (g := gb257) (o := .cells #[.int .i64 a0_0, .int .i64 a0_1, .string a0_2, .slice A0_3 l0_3.length c0_3] 91 (0, 0)) (aW BK257.out) hb); have n3_ := Aside0.mk (below_step (aB1 GE257.out) hb); have n4_ := Aside0.mk (hbox); have n5_ := Aside0.mk ((by rw [hg]; exact (below_size (aB1 GE257.out)) : w.heap.size ≤ gb258)); have n6_ := Aside0.mk ((by rw [hg]; exact (below_size (aB1 GE257.out)) : w.heap.size ≤ gb258)); have n7_ := Aside0.mk ((by rw [hg]; exact Nat.ne_of_lt (blk_lt (g := gb257) (o := .cells #[.int .i64 a0_0, .int .i64 a0_1, .string a0_2, .slice A0_3 l0_3.length c0_3] 91 (0, 0)) (aW BK257.out)) : gb257 ≠ gb258)); have n8_ := Aside0.mk ((by rw [hg]; exact Nat.ne_of_gt (blk_lt (g := gb257) (o := .cells #[.int .i64 a0_0, .int .i64 a0_1, .string a0_2, .slice A0_3 l0_3.length c0_3] 91 (0, 0)) (aW BK257.out)) : gb258 ≠ gb257)); clear HO0_3; clear HO1_3; clear BK257; clear HB; have HO0_3 := n0_; have HO1_3 := n1_; have BK257 := n2_; have HB := n3_; have BK258 := n4_; have GW258 := n5_; have GE258 := n6_; have NB257_258 := n7_; have NB258_257 := n8_; clear n0_ n1_ n2_ n3_ n4_ n5_ n6_ n7_ n8_; clear hb hbox hg) | ((with_reducible refine gate_dst (N := 4) rfl ?_); refine box_event ?hg (N := 4) ?hd (cs := #[.int .i64 0, .int .i64 0, .string (⟨#[]⟩ : ByteArray), .slice none 0 0]) (t := 91) ?hr ?_; (case hd => rfl); (case hg => rfl); (case hr => first | (go_simp; done) | (go_simp; rfl)); intro gb259 hg w5 hbox hb; have n0_ := Aside0.mk (Kd.V_below (Kd.V_elderB (by (with_reducible repeat (first | apply Kd.V_alloc | apply Kd.V_drewN | apply Kd.V_drew)); exact HO0_3.out) gb259 (Nat.le_of_eq hg.symm)) hb); have n1_ := Aside0.mk (Kd.V_below (Kd.V_elderB (by (with_reducible repeat (first | apply Kd.V_alloc | apply Kd.V_drewN | apply Kd.V_drew)); exact HO1_3.out) gb259 (Nat.le_of_eq hg.symm)) hb); have n2_ := Aside0.mk (blk_below (g := gb257) (o := .cells #[.int .i64 a0_0, .int .i64 a0_1, .string a0_2, .slice A0_3 l0_3.length c0_3] 91 (0, 0)) (aW BK257.out) hb); have n3_ := Aside0.mk (blk_below (g := gb258) (o := .cells #[.int .i64 a1_0, .int .i64 a1_1, .string a1_2, .slice A1_3 l1_3.length c1_3] 91 (0, 0)) (aW BK258.out) hb); have n4_ := Aside0.mk (below_step (aB2 GE257.out GE258.out) hb); have n5_ := Aside0.mk (hbox); have n6_ := Aside0.mk ((by rw [hg]; exact (below_size (aB2 GE257.out GE258.out)) : w.heap.size ≤ gb259)); have n7_ := Aside0.mk ((by rw [hg]; exact (below_size (aB2 GE257.out GE258.out)) : w.heap.size ≤ gb259)); have n8_ := Aside0.mk ((by rw [hg]; exact Nat.ne_of_lt (blk_lt (g := gb257) (o := .cells #[.int .i64 a0_0, .int .i64 a0_1, .string a0_2, .slice A0_3 l0_3.length c0_3] 91 (0, 0)) (aW BK257.out)) : gb257 ≠ gb259)); have n9_ := Aside0.mk ((by rw [hg]; exact Nat.ne_of_gt (blk_lt (g := gb257) (o := .cells #[.int .i64 a0_0, .int .i64 a0_1, .string a0_2, .slice A0_3 l0_3.length c0_3] 91 (0, 0)) (aW BK257.out)) : gb259 ≠ gb257)); have n10_ := Aside0.mk ((by rw [hg]; exact Nat.ne_of_lt (blk_lt (g := gb258) (o := .cells #[.int .i64 a1_0, .int .i64 a1_1, .string a1_2, .slice A1_3 l1_3.length c1_3] 91 (0, 0)) (aW BK258.out)) : gb258 ≠ gb259)); have n11_ := Aside0.mk ((by rw [hg]; exact Nat.ne_of_gt (blk_lt (g := gb258) (o := .cells #[.int .i64 a1_0, .int .i64 a1_1, .string a1_2, .slice A1_3 l1_3.length c1_3] 91 (0, 0)) (aW BK258.out)) : gb259 ≠ gb258)); clear HO0_3; clear HO1_3; clear BK257; clear BK258; clear HB; have HO0_3 := n0_; have HO1_3 := n1_; have BK257 := n2_; have BK258 := n3_; have HB := n4_; have BK259 := n5_; have GW259 := n6_; have GE259 := n7_; have NB257_259 := n8_; have NB259_257 := n9_; have NB258_259 := n10_; have NB259_258 := n11_; clear n0_ n1_ n2_ n3_ n4_ n5_ n6_ n7_ n8_ n9_ n10_ n11_; clear hb hbox hg; have hnb6 := NB257_258.out; have hnc6 := NB258_257.out; have hnb7 := NB257_259.out; have hnc7 := NB259_257.out; have hcz8_0 : w5.cell? ⟨gb257, 0, none⟩ = some (.int .i64 a0_0) := (blk_cell BK257.out 0).trans rfl; have hcz8_1 : w5.cell? ⟨gb257, 1, none⟩ = some (.int .i64 a0_1) := (blk_cell BK257.out 1).trans rfl; have hcz8_2 : w5.cell? ⟨gb257, 2, none⟩ = some (.string a0_2) := (blk_cell BK257.out 2).trans rfl; have hcz8_3 : w5.cell? ⟨gb257, 3, none⟩ = some (.slice A0_3 l0_3.length c0_3) := (blk_cell BK257.out 3).trans rfl; have hfz8_0 := blk_frozen BK257.out 0; have hfz8_1 := blk_frozen BK257.out 1; have hfz8_2 := blk_frozen BK257.out 2; have hfz8_3 := blk_frozen BK257.out 3; have hnb9 := NB258_259.out; have hnc9 := NB259_258.out; have hcz10_0 : w5.cell? ⟨gb258, 0, none⟩ = some (.int .i64 a1_0) := (blk_cell BK258.out 0).trans rfl; have hcz10_1 : w5.cell? ⟨gb258, 1, none⟩ = some (.int .i64 a1_1) := (blk_cell BK258.out 1).trans rfl; have hcz10_2 : w5.cell? ⟨gb258, 2, none⟩ = some (.string a1_2) := (blk_cell BK258.out 2).trans rfl; have hcz10_3 : w5.cell? ⟨gb258, 3, none⟩ = some (.slice A1_3 l1_3.length c1_3) := (blk_cell BK258.out 3).trans rfl; have hfz10_0 := blk_frozen BK258.out 0; have hfz10_1 := blk_frozen BK258.out 1; have hfz10_2 := blk_frozen BK258.out 2; have hfz10_3 := blk_frozen BK258.out 3) | ((with_reducible refine gate_dst (N := 7) rfl ?_); refine Kd.N_lit k91 _ 91 ?hg (N' := 7) ?hd (xs := ([(⟨a0_0, a0_1, a0_2, l0_3⟩ : S91), (⟨a1_0, a1_1, a1_2, l1_3⟩ : S91)] : List (S91))) (inner := [.int .i64 a0_0, .int .i64 a0_1, .string a0_2, .slice A0_3 l0_3.length c0_3, .int .i64 a1_0, .int .i64 a1_1, .string a1_2, .slice A1_3 l1_3.length c1_3]) (ok := (fun k_ => ((P0_3_ k_ ∨ P1_3_ k_) ∨ w.heap.size ≤ k_) ∧ k_ ≠ gb257 ∧ k_ ≠ gb258 ∧ k_ ≠ gb259)) (okp := (fun k_ => ((P0_3_ k_ ∨ P1_3_ k_) ∨ w.heap.size ≤ k_) ∧ k_ ≠ gb257 ∧ k_ ≠ gb258 ∧ k_ ≠ gb259)) ?hr ?hp (fun _ hk => hk) ((show ∀ k_, w5.heap.size ≤ k_ → (fun k_ => ((P0_3_ k_ ∨ P1_3_ k_) ∨ w.heap.size ≤ k_) ∧ k_ ≠ gb257 ∧ k_ ≠ gb258 ∧ k_ ≠ gb259) k_ from fun k_ hk => ⟨(.inr (Nat.le_trans (below_size (aB3 GE257.out GE258.out GE259.out)) hk)), Kd.freshB (g := gb257) (o := .cells #[.int .i64 a0_0, .int .i64 a0_1, .string a0_2, .slice A0_3 l0_3.length c0_3] 91 (0, 0)) (aW BK257.out) k_ hk, Kd.freshB (g := gb258) (o := .cells #[.int .i64 a1_0, .int .i64 a1_1, .string a1_2, .slice A1_3 l1_3.length c1_3] 91 (0, 0)) (aW BK258.out) k_ hk, Kd.freshB (g := gb259) (o := .cells #[.int .i64 0, .int .i64 0, .string (⟨#[]⟩ : ByteArray), .slice none 0 0] 91 (0, 0)) (aW BK259.out) k_ hk⟩) _ (Nat.le_refl _)) (Below.refl _ _) (Nat.le_refl _) (by simp) ?_; (case hd => rfl); (case hg => rfl); (case hr => first | (go_simp; done) | (go_simp; rfl)); (case hp => exact (Reps.c4 (show Kd.FK k91 _ _ (⟨a0_0, a0_1, a0_2, l0_3⟩ : S91) [.int .i64 a0_0, .int .i64 a0_1, .string a0_2, .slice A0_3 l0_3.length c0_3] from (k91_mkF _ _ (⟨a0_0, a0_1, a0_2, l0_3⟩ : S91) (Kd.V_reads' (Kd.V_mono (ok' := (fun k_ => ((P0_3_ k_ ∨ P1_3_ k_) ∨ w.heap.size ≤ k_) ∧ k_ ≠ gb257 ∧ k_ ≠ gb258 ∧ k_ ≠ gb259)) (HO0_3.out) (fun k_ hk => ⟨hk.1.1.1, ⟨hk.1.1.2, ⟨hk.1.2, hk.2⟩⟩⟩))).2.1 (Kd.V_F (Kd.V_mono (ok' := (fun k_ => ((P0_3_ k_ ∨ P1_3_ k_) ∨ w.heap.size ≤ k_) ∧ k_ ≠ gb257 ∧ k_ ≠ gb258 ∧ k_ ≠ gb259)) (HO0_3.out) (fun k_ hk => ⟨hk.1.1.1, ⟨hk.1.1.2, ⟨hk.1.2, hk.2⟩⟩⟩))))) (Reps.c4 (show Kd.FK k91 _ _ (⟨a1_0, a1_1, a1_2, l1_3⟩ : S91) [.int .i64 a1_0, .int .i64 a1_1, .string a1_2, .slice A1_3 l1_3.length c1_3] from (k91_mkF _ _ (⟨a1_0, a1_1, a1_2, l1_3⟩ : S91) (Kd.V_reads' (Kd.V_mono (ok' := (fun k_ => ((P0_3_ k_ ∨ P1_3_ k_) ∨ w.heap.size ≤ k_) ∧ k_ ≠ gb257 ∧ k_ ≠ gb258 ∧ k_ ≠ gb259)) (HO1_3.out) (fun k_ hk => ⟨hk.1.1.1, ⟨hk.1.1.2, ⟨hk.1.2, hk.2⟩⟩⟩))).2.1 (Kd.V_F (Kd.V_mono (ok' := (fun k_ => ((P0_3_ k_ ∨ P1_3_ k_) ∨ w.heap.size ≤ k_) ∧ k_ ≠ gb257 ∧ k_ ≠ gb258 ∧ k_ ≠ gb259)) (HO1_3.out) (fun k_ hk => ⟨hk.1.1.1, ⟨hk.1.1.2, ⟨hk.1.2, hk.2⟩⟩⟩))))) (Reps.none _ _)))); intro v261 w11 ho12 hb hg_ hnew_; clear hg_ hnew_; (first | rw [← Ny260.out] at ho12 | (simp only [Int.reduceToNat] at ho12; rw [← Ny260.out] at ho12)); have n0_ := Aside0.mk (Kd.V_elder' (by (with_reducible repeat (first | apply Kd.V_alloc | apply Kd.V_drewN | apply Kd.V_drew)); exact HO0_3.out) (Kd.N_base ho12) hb); have n1_ := Aside0.mk (Kd.V_elder' (by (with_reducible repeat (first | apply Kd.V_alloc | apply Kd.V_drewN | apply Kd.V_drew)); exact HO1_3.out) (Kd.N_base ho12) hb); have n2_ := Aside0.mk (Kd.N_lower ho12 (below_size (aB3 GE257.out GE258.out GE259.out))); have n3_ := Aside0.mk (blk_below (g := gb257) (o := .cells #[.int .i64 a0_0, .int .i64 a0_1, .string a0_2, .slice A0_3 l0_3.length c0_3] 91 (0, 0)) (aW BK257.out) hb); have n4_ := Aside0.mk (blk_below (g := gb258) (o := .cells #[.int .i64 a1_0, .int .i64 a1_1, .string a1_2, .slice A1_3 l1_3.length c1_3] 91 (0, 0)) (aW BK258.out) hb); have n5_ := Aside0.mk (blk_below (g := gb259) (o := .cells #[.int .i64 0, .int .i64 0, .string (⟨#[]⟩ : ByteArray), .slice none 0 0] 91 (0, 0)) (aW BK259.out) hb); have n6_ := Aside0.mk (below_step (aB3 GE257.out GE258.out GE259.out) hb); clear HO0_3; clear HO1_3; clear BK257; clear BK258; clear BK259; clear HB; have HO0_3 := n0_; have HO1_3 := n1_; have HO262 := n2_; have BK257 := n3_; have BK258 := n4_; have BK259 := n5_; have HB := n6_; clear n0_ n1_ n2_ n3_ n4_ n5_ n6_; clear hb ho12; obtain ⟨Ao13, co13, eo13⟩ := Kd.N_slice HO262.out; subst eo13; have hcz14_0 : w11.cell? ⟨gb259, 0, none⟩ = some (.int .i64 0) := (blk_cell BK259.out 0).trans rfl; have hcz14_1 : w11.cell? ⟨gb259, 1, none⟩ = some (.int .i64 0) := (blk_cell BK259.out 1).trans rfl; have hcz14_2 : w11.cell? ⟨gb259, 2, none⟩ = some (.string (⟨#[]⟩ : ByteArray)) := (blk_cell BK259.out 2).trans rfl; have hcz14_3 : w11.cell? ⟨gb259, 3, none⟩ = some (.slice none 0 0) := (blk_cell BK259.out 3).trans rfl; have hfz14_0 := blk_frozen BK259.out 0; have hfz14_1 := blk_frozen BK259.out 1; have hfz14_2 := blk_frozen BK259.out 2; have hfz14_3 := blk_frozen BK259.out 3))
 refine bodyPost_ret (results_cell_row rfl _ _ gb259 91 #[.int .i64 7, .int .i64 0, .string (⟨#[]⟩ : ByteArray), .slice Ao13 y260.length co13] (0, 0) _ rfl (by refine aW ?_; refine blk_put (cs := #[.int .i64 7, .int .i64 0, .string (⟨#[]⟩ : ByteArray), .slice none 0 0]) ?_ 3 _ rfl; refine aW ?_; refine blk_put (cs := #[.int .i64 7, .int .i64 0, .string (⟨#[]⟩ : ByteArray), .slice none 0 0]) ?_ 2 _ rfl; refine aW ?_; refine blk_put (cs := #[.int .i64 7, .int .i64 0, .string (⟨#[]⟩ : ByteArray), .slice none 0 0]) ?_ 1 _ rfl; refine aW ?_; refine blk_put (cs := #[.int .i64 0, .int .i64 0, .string (⟨#[]⟩ : ByteArray), .slice none 0 0]) ?_ 0 _ rfl; refine aW ?_; exact BK259.out) Try.underlying91 rfl aK) rfl ?_
 exact ⟨_, by first | rfl | (simp [errW_none, errW_some] <;> rfl) | (simp [*, errW_none, errW_some] <;> rfl), by (with_reducible repeat (first | apply Kd.N_alloc | apply Kd.N_drewN | apply Kd.N_drew)); exact Kd.N_mono (Kd.N_far (p := ⟨gb259, 3, none⟩) (Kd.N_far (p := ⟨gb259, 2, none⟩) (Kd.N_far (p := ⟨gb259, 1, none⟩) (Kd.N_far (p := ⟨gb259, 0, none⟩) (Kd.N_mono HO262.out (fun k_ hk => (⟨hk, hk.2.2.2⟩ : _ ∧ k_ ≠ gb259))) (fun _ hk => hk.2) (.int .i64 7)) (fun _ hk => hk.2) (.int .i64 0)) (fun _ hk => hk.2) (.string (⟨#[]⟩ : ByteArray))) (fun _ hk => hk.2) (.slice Ao13 y260.length co13)) (fun _ hk => hk.1.1), by repeat (first | (with_reducible first | exact HB.out | apply below_alloc | apply pw_below_drewN | apply below_drew1 | refine below_set ?_ GE257.out | refine below_set ?_ GE258.out | refine below_set ?_ GE259.out) | exact HB.out)⟩

end Go.Proofs.Ytkcpimhohadjkaa.PPb
