-- Written by a program of this session (xprint). -- COMPACT
import Derived.Test.YtkcpimhohadjkaaPPbx0
import Derived.Test.YtkcpimhohadjkaaPPbx7
import Derived.Test.YtkcpimhohadjkaaPPbx8
namespace Go.Proofs.Ytkcpimhohadjkaa.PPb
open Go.RowKit Go.Proofs.YtkcpimhohadjkaaW.PrintWords Go.Proofs.YtkcpimhohadjkaaW.PrintLast Go.Proofs.YtkcpimhohadjkaaW.PrintMore
attribute [local go_sem] max2_int min2_int max_two min_two max_three min_three max_four min_four   -- for this text's walks alone
set_option linter.unusedVariables false
set_option linter.unusedSimpArgs false

/-! ### spec_l1Some: function 78 -/
mutual
def spec_l1Some.j0 : Nat → Int → Bool → List Int → Int → Option (Int × Int × ByteArray × (List (S91)) × Int)
 | 0, _, _, _, _ => none
 | k + 1, x8, x12, x1000, x1001 => if x12 = true then (some (3, 0, (⟨#[]⟩ : ByteArray), ([] : List (S91)), x1001)) else (if x8 = 3 then (some (4, 0, (⟨#[]⟩ : ByteArray), ([] : List (S91)), x1001)) else ((spec_l1Word2.f k x1000 x1001).bind fun bt266 => (some (2, 0, bt266.1, ([] : List (S91)), bt266.2))))
def spec_l1Some.j1 : Nat → Int → Int → Bool → List Int → Int → Option (Int × Int × ByteArray × (List (S91)) × Int)
 | 0, _, _, _, _, _ => none
 | k + 1, x1, x23, x28, x1000, x1001 => if x28 = true then ((spec_l15Rd_num.f k x1000 x1001 (([2, 1, 4, 0, 9] : List Int))).bind fun bt280 => ((spec_l1Some.f k x1000 bt280.2 (wrap64 (x1 - 1))).bind fun bt282 => (some (6, bt280.1, (⟨#[]⟩ : ByteArray), (([(⟨bt282.1, bt282.2.1, bt282.2.2.1, bt282.2.2.2.1⟩ : S91)] : List (S91))), bt282.2.2.2.2)))) else (if x23 = 3 then (spec_l1Some.j2 k x1 x23 (x23 == 3) x1000 x1001) else (if x23 = 4 then (spec_l1Some.j2 k x1 x23 (x23 == 4) x1000 x1001) else (spec_l1Some.j2 k x1 x23 (x23 == 5) x1000 x1001)))
def spec_l1Some.j2 : Nat → Int → Int → Bool → List Int → Int → Option (Int × Int × ByteArray × (List (S91)) × Int)
 | 0, _, _, _, _, _ => none
 | k + 1, x1, x23, x40, x1000, x1001 => if x40 = true then ((spec_l1Some.f k x1000 x1001 (wrap64 (x1 - 1))).bind fun bt292 => (some (8, 0, (⟨#[]⟩ : ByteArray), (([(⟨bt292.1, bt292.2.1, bt292.2.2.1, bt292.2.2.2.1⟩ : S91)] : List (S91))), bt292.2.2.2.2))) else (if x23 = 6 then ((spec_l15Rd_pick.f k x1000 x1001 3).bind fun bt302 => (if bt302.1 = 0 then ((spec_l1Some.f k x1000 bt302.2 (wrap64 (x1 - 1))).bind fun bt304 => ((spec_l1Some.f k x1000 bt304.2.2.2.2 0).bind fun bt311 => ((spec_l1Cat.f 5 0 (⟨#[]⟩ : ByteArray) ([] : List (S91)) bt311.1 bt311.2.1 bt311.2.2.1 bt311.2.2.2.1).bind fun bt318 => ((spec_l1Cat.f bt304.1 bt304.2.1 bt304.2.2.1 bt304.2.2.2.1 bt318.1 bt318.2.1 bt318.2.2.1 bt318.2.2.2).bind fun bt324 => (some (bt324.1, bt324.2.1, bt324.2.2.1, bt324.2.2.2, bt311.2.2.2.2)))))) else ((spec_l1Some.f k x1000 bt302.2 (wrap64 (x1 - 1))).bind fun bt330 => ((spec_l1Some.f k x1000 bt330.2.2.2.2 0).bind fun bt337 => ((spec_l1Cat.f 3 0 (⟨#[]⟩ : ByteArray) ([] : List (S91)) bt337.1 bt337.2.1 bt337.2.2.1 bt337.2.2.2.1).bind fun bt344 => ((spec_l1Cat.f bt330.1 bt330.2.1 bt330.2.2.1 bt330.2.2.2.1 bt344.1 bt344.2.1 bt344.2.2.1 bt344.2.2.2).bind fun bt350 => (some (bt350.1, bt350.2.1, bt350.2.2.1, bt350.2.2.2, bt337.2.2.2.2)))))))) else ((spec_l1Some.f k x1000 x1001 (wrap64 (x1 - 1))).bind fun bt356 => ((spec_l1Some.f k x1000 bt356.2.2.2.2 (wrap64 (x1 - 1))).bind fun bt363 => ((spec_l1Cat.f bt356.1 bt356.2.1 bt356.2.2.1 bt356.2.2.2.1 bt363.1 bt363.2.1 bt363.2.2.1 bt363.2.2.2.1).bind fun bt370 => (some (bt370.1, bt370.2.1, bt370.2.2.1, bt370.2.2.2, bt363.2.2.2.2))))))
def spec_l1Some.f : Nat → List Int → Int → Int → Option (Int × Int × ByteArray × (List (S91)) × Int)
 | 0, _, _, _ => none
 | k + 1, s0_0, s0_1, a1 => if a1 = 0 then ((spec_l15Rd_pick.f k s0_0 s0_1 8).bind fun bt264 => (if bt264.1 = 0 then (some (1, 0, (⟨#[]⟩ : ByteArray), ([] : List (S91)), bt264.2)) else (if bt264.1 = 1 then (spec_l1Some.j0 k bt264.1 (bt264.1 == 1) s0_0 bt264.2) else (spec_l1Some.j0 k bt264.1 (bt264.1 == 2) s0_0 bt264.2)))) else ((spec_l15Rd_pick.f k s0_0 s0_1 12).bind fun bt268 => (if bt268.1 = 0 then ((spec_l1Some.f k s0_0 bt268.2 0).bind fun bt270 => (some (bt270.1, bt270.2.1, bt270.2.2.1, bt270.2.2.2.1, bt270.2.2.2.2))) else (if bt268.1 = 1 then (spec_l1Some.j1 k a1 bt268.1 (bt268.1 == 1) s0_0 bt268.2) else (spec_l1Some.j1 k a1 bt268.1 (bt268.1 == 2) s0_0 bt268.2))))
end
set_option maxHeartbeats 8000000 in
set_option maxRecDepth 100000 in
theorem spec_l1Some.calls (k : Nat) : ∀ (g : Nat) (s0_0 : List Int) (s0_1 : Int) (a1 : Int) (r1 : Int) (r2 : Int) (r3 : ByteArray) (r4 : List (S91)) (r5 : Int) (w0 w : World) (hI : IsS87 w0 w g s0_0 s0_1) (hB : Below w0.heap.size w0 w) (h : spec_l1Some.f k s0_0 s0_1 a1 = some (r1, r2, r3, r4, r5)),
  Calls Try.prog 78 #[.pointer (some ⟨g, 0, none⟩), .int .i64 a1] w fun e w' => ∃ v3_ : Value, e = .returned (.agg #[.int .i64 r1, .int .i64 r2, .string r3, v3_]) ∧ Kd.N k91 91 w' w.heap.size (fun k_ => (w.heap.size ≤ k_)) v3_ r4 ∧ IsS87 w0 w' g s0_0 r5 ∧ Below w0.heap.size w0 w' ∧ KeepBut w w' g none := by
 induction k using Nat.strongRecOn with
 | _ k ih =>
 intro g s0_0 s0_1 a1 r1 r2 r3 r4 r5 w0 w hI hB h
 cases k with
 | zero => exact absurd h (by simp [spec_l1Some.f])
 | succ k =>
 simp only [spec_l1Some.f] at h
 have hu91 := Try.underlying91
 have HI0 := Aside0.mk hI
 have HK := Aside0.mk (KeepBut.refl w g none)
 have HL := Aside0.mk hB.size
 clear hI
 have HW0 := Aside0.mk hB.size
 have HB := Aside0.mk hB
 clear hB
 have H : (if a1 = 0 then ((spec_l15Rd_pick.f k s0_0 s0_1 8).bind fun bt264 => (if bt264.1 = 0 then (some (1, 0, (⟨#[]⟩ : ByteArray), ([] : List (S91)), bt264.2)) else (if bt264.1 = 1 then (spec_l1Some.j0 k bt264.1 (bt264.1 == 1) s0_0 bt264.2) else (spec_l1Some.j0 k bt264.1 (bt264.1 == 2) s0_0 bt264.2)))) else ((spec_l15Rd_pick.f k s0_0 s0_1 12).bind fun bt268 => (if bt268.1 = 0 then ((spec_l1Some.f k s0_0 bt268.2 0).bind fun bt270 => (some (bt270.1, bt270.2.1, bt270.2.2.1, bt270.2.2.2.1, bt270.2.2.2.2))) else (if bt268.1 = 1 then (spec_l1Some.j1 k a1 bt268.1 (bt268.1 == 1) s0_0 bt268.2) else (spec_l1Some.j1 k a1 bt268.1 (bt268.1 == 2) s0_0 bt268.2))))) = some (r1, r2, r3, r4, r5) := h
 clear h
 by_cases c3 : a1 = 0
 ·rw [if_pos c3] at H
  have c3b0 : (a1 == 0) = true := beq_iff_eq.mpr c3
  have c3b1 : (a1 != 0) = false := bne_eq_false_iff_eq.mpr c3
  clear c3
  replace H := Option.bind_eq_some_iff.mp H
  obtain ⟨⟨t264, t265⟩, A40, H⟩ := H
  replace H : (if t264 = 0 then (some (1, 0, (⟨#[]⟩ : ByteArray), ([] : List (S91)), t265)) else (if t264 = 1 then (spec_l1Some.j0 k t264 (t264 == 1) s0_0 t265) else (spec_l1Some.j0 k t264 (t264 == 2) s0_0 t265))) = some (r1, r2, r3, r4, r5) := H
  have A4 := Aside0.mk A40
  clear A40
  by_cases c5 : t264 = 0
  ·rw [if_pos c5] at H
   have c5b0 : (t264 == 0) = true := beq_iff_eq.mpr c5
   have c5b1 : (t264 != 0) = false := bne_eq_false_iff_eq.mpr c5
   clear c5
   simp only [Option.some.injEq, Prod.mk.injEq] at H
   obtain ⟨rfl, rfl, rfl, rfl, rfl⟩ := H
   go_enter Try.func78, Try.ntmps78
   go_wp2_with (first | ((with_reducible refine gate_dst (N := 4) rfl ?_); refine box_event ?hg (N := 4) ?hd (cs := #[.int .i64 0, .int .i64 0, .string (⟨#[]⟩ : ByteArray), .slice none 0 0]) (t := 91) ?hr ?_; (case hd => rfl); (case hg => rfl); (case hr => first | (go_simp; done) | (go_simp; rfl)); intro gb263 hg w6 hbox hb; have n0_ := Aside0.mk (IsS87.below (by repeat (first | (with_reducible first | exact HI0.out | apply IsS87.alloc | apply IsS87.drewN | apply IsS87.drew | apply IsS87.set_1) | exact HI0.out)) hb); have n1_ := Aside0.mk (KeepBut.trans aH (KeepBut.of_below hb g none) (.inl rfl)); have n2_ := Aside0.mk (below_step (aB1 (IsS87.ge HI0.out)) hb); have n3_ := Aside0.mk (hbox); have n4_ := Aside0.mk ((by rw [hg]; exact (keep_size (w := w) (g := g) (row := none) aH) : w.heap.size ≤ gb263)); have n5_ := Aside0.mk ((Nat.le_trans HW0.out (by rw [hg]; exact (keep_size (w := w) (g := g) (row := none) aH) : w.heap.size ≤ gb263) : w0.heap.size ≤ gb263)); have n6_ := Aside0.mk ((by rw [hg]; exact Nat.ne_of_lt (IsS87.lt (show IsS87 w0 _ g s0_0 s0_1 from by repeat (first | (with_reducible first | exact HI0.out | apply IsS87.alloc | apply IsS87.drewN | apply IsS87.drew | apply IsS87.set_1) | exact HI0.out))) : g ≠ gb263)); have n7_ := Aside0.mk ((by rw [hg]; exact Nat.ne_of_gt (IsS87.lt (show IsS87 w0 _ g s0_0 s0_1 from by repeat (first | (with_reducible first | exact HI0.out | apply IsS87.alloc | apply IsS87.drewN | apply IsS87.drew | apply IsS87.set_1) | exact HI0.out))) : gb263 ≠ g)); clear HI0; clear HK; clear HB; have HI0 := n0_; have HK := n1_; have HB := n2_; have BK263 := n3_; have GW263 := n4_; have GE263 := n5_; have NB0_263 := n6_; have NB263_0 := n7_; clear n0_ n1_ n2_ n3_ n4_ n5_ n6_ n7_; clear hb hbox hg) | ((with_reducible refine gate_callee (f := 79) rfl ?_); refine goesL_ (some 8) rfl rfl Try.func79 aK rfl #[.pointer (some ⟨g, 0, none⟩), .int .i64 8] rfl aL ?_; (with_reducible refine (spec_l15Rd_pick.calls k g s0_0 s0_1 8 t264 t265 w0 _ ?side1 ?side2 A4.out).mono ?_); (case side1 => repeat (first | (with_reducible first | exact HI0.out | apply IsS87.alloc | apply IsS87.drewN | apply IsS87.drew | apply IsS87.set_1 | refine IsS87.far ?_ NB0_263.out _) | exact HI0.out)); (case side2 => repeat (first | (with_reducible first | exact HB.out | apply below_alloc | apply pw_below_drewN | apply below_drew1 | refine below_set ?_ (IsS87.ge HI0.out) | refine below_set ?_ GE263.out) | exact HB.out)); rintro e w7 ⟨rfl, hi, hb, hk⟩; refine ⟨_, rfl, ?_⟩; have n0_ := Aside0.mk (KeepBut.blk hk (g' := gb263) (o := .cells #[.int .i64 0, .int .i64 0, .string (⟨#[]⟩ : ByteArray), .slice none 0 0] 91 (0, 0)) (aW BK263.out) NB263_0.out (by simp)); have n1_ := Aside0.mk (KeepBut.trans (aH1 GW263.out) hk (.inl rfl)); have n2_ := Aside0.mk (hb); have n3_ := Aside0.mk (hi); clear BK263; clear HK; clear HB; clear HI0; have BK263 := n0_; have HK := n1_; have HB := n2_; have HI0 := n3_; clear n0_ n1_ n2_ n3_; (try clear hb); (try clear hb2); (try clear hk); (try clear hi); have hnb8 := NB263_0.out; have hnc8 := NB0_263.out; have hcz9_0 : w7.cell? ⟨gb263, 0, none⟩ = some (.int .i64 0) := (blk_cell BK263.out 0).trans rfl; have hcz9_1 : w7.cell? ⟨gb263, 1, none⟩ = some (.int .i64 0) := (blk_cell BK263.out 1).trans rfl; have hcz9_2 : w7.cell? ⟨gb263, 2, none⟩ = some (.string (⟨#[]⟩ : ByteArray)) := (blk_cell BK263.out 2).trans rfl; have hcz9_3 : w7.cell? ⟨gb263, 3, none⟩ = some (.slice none 0 0) := (blk_cell BK263.out 3).trans rfl; have hfz9_0 := blk_frozen BK263.out 0; have hfz9_1 := blk_frozen BK263.out 1; have hfz9_2 := blk_frozen BK263.out 2; have hfz9_3 := blk_frozen BK263.out 3))
   refine bodyPost_ret (results_cell_row rfl _ _ gb263 91 #[.int .i64 1, .int .i64 0, .string (⟨#[]⟩ : ByteArray), .slice none 0 0] (0, 0) _ rfl (by refine aW ?_; refine blk_put (cs := #[.int .i64 1, .int .i64 0, .string (⟨#[]⟩ : ByteArray), .slice none 0 0]) ?_ 3 _ rfl; refine aW ?_; refine blk_put (cs := #[.int .i64 1, .int .i64 0, .string (⟨#[]⟩ : ByteArray), .slice none 0 0]) ?_ 2 _ rfl; refine aW ?_; refine blk_put (cs := #[.int .i64 1, .int .i64 0, .string (⟨#[]⟩ : ByteArray), .slice none 0 0]) ?_ 1 _ rfl; refine aW ?_; refine blk_put (cs := #[.int .i64 0, .int .i64 0, .string (⟨#[]⟩ : ByteArray), .slice none 0 0]) ?_ 0 _ rfl; refine aW ?_; exact BK263.out) Try.underlying91 rfl aK) rfl ?_
   exact ⟨_, by first | rfl | (simp [errW_none, errW_some] <;> rfl) | (simp [*, errW_none, errW_some] <;> rfl), by first | exact Kd.R_nil _ _ _ _ _ | exact Kd.N_nil _ _ _ _ _ | exact Kd.V_nil _ _ _ _ _ | exact Kd.Q_nil _ _ _ _ _ | exact Kd.S_nil _ _ _ _ _, by repeat (first | (with_reducible first | exact HI0.out | apply IsS87.alloc | apply IsS87.drewN | apply IsS87.drew | apply IsS87.set_1 | refine IsS87.far ?_ NB0_263.out _) | exact HI0.out), by repeat (first | (with_reducible first | exact HB.out | apply below_alloc | apply pw_below_drewN | apply below_drew1 | refine below_set ?_ (IsS87.ge HI0.out) | refine below_set ?_ GE263.out) | exact HB.out), by repeat (first | (with_reducible first | exact HK.out | apply KeepBut.set_ | apply keep_drewN | apply keep_drew | apply keep_alloc | refine keep_far ?_ GW263.out _) | exact HK.out)⟩
  ·rw [if_neg c5] at H
   have c5b0 : (t264 == 0) = false := beq_eq_false_iff_ne.mpr c5
   have c5b1 : (t264 != 0) = true := bne_iff_ne.mpr c5
   have HC10 := Aside0.mk H
   clear H
   go_enter Try.func78, Try.ntmps78
   go_upto_if 12 with (first | ((with_reducible refine gate_dst (N := 4) rfl ?_); refine box_event ?hg (N := 4) ?hd (cs := #[.int .i64 0, .int .i64 0, .string (⟨#[]⟩ : ByteArray), .slice none 0 0]) (t := 91) ?hr ?_; (case hd => rfl); (case hg => rfl); (case hr => first | (go_simp; done) | (go_simp; rfl)); intro gb263 hg w11 hbox hb; have n0_ := Aside0.mk (IsS87.below (by repeat (first | (with_reducible first | exact HI0.out | apply IsS87.alloc | apply IsS87.drewN | apply IsS87.drew | apply IsS87.set_1) | exact HI0.out)) hb); have n1_ := Aside0.mk (KeepBut.trans aH (KeepBut.of_below hb g none) (.inl rfl)); have n2_ := Aside0.mk (below_step (aB1 (IsS87.ge HI0.out)) hb); have n3_ := Aside0.mk (hbox); have n4_ := Aside0.mk ((by rw [hg]; exact (keep_size (w := w) (g := g) (row := none) aH) : w.heap.size ≤ gb263)); have n5_ := Aside0.mk ((Nat.le_trans HW0.out (by rw [hg]; exact (keep_size (w := w) (g := g) (row := none) aH) : w.heap.size ≤ gb263) : w0.heap.size ≤ gb263)); have n6_ := Aside0.mk ((by rw [hg]; exact Nat.ne_of_lt (IsS87.lt (show IsS87 w0 _ g s0_0 s0_1 from by repeat (first | (with_reducible first | exact HI0.out | apply IsS87.alloc | apply IsS87.drewN | apply IsS87.drew | apply IsS87.set_1) | exact HI0.out))) : g ≠ gb263)); have n7_ := Aside0.mk ((by rw [hg]; exact Nat.ne_of_gt (IsS87.lt (show IsS87 w0 _ g s0_0 s0_1 from by repeat (first | (with_reducible first | exact HI0.out | apply IsS87.alloc | apply IsS87.drewN | apply IsS87.drew | apply IsS87.set_1) | exact HI0.out))) : gb263 ≠ g)); clear HI0; clear HK; clear HB; have HI0 := n0_; have HK := n1_; have HB := n2_; have BK263 := n3_; have GW263 := n4_; have GE263 := n5_; have NB0_263 := n6_; have NB263_0 := n7_; clear n0_ n1_ n2_ n3_ n4_ n5_ n6_ n7_; clear hb hbox hg) | ((with_reducible refine gate_callee (f := 79) rfl ?_); refine goesL_ (some 8) rfl rfl Try.func79 aK rfl #[.pointer (some ⟨g, 0, none⟩), .int .i64 8] rfl aL ?_; (with_reducible refine (spec_l15Rd_pick.calls k g s0_0 s0_1 8 t264 t265 w0 _ ?side1 ?side2 A4.out).mono ?_); (case side1 => repeat (first | (with_reducible first | exact HI0.out | apply IsS87.alloc | apply IsS87.drewN | apply IsS87.drew | apply IsS87.set_1 | refine IsS87.far ?_ NB0_263.out _) | exact HI0.out)); (case side2 => repeat (first | (with_reducible first | exact HB.out | apply below_alloc | apply pw_below_drewN | apply below_drew1 | refine below_set ?_ (IsS87.ge HI0.out) | refine below_set ?_ GE263.out) | exact HB.out)); rintro e w12 ⟨rfl, hi, hb, hk⟩; refine ⟨_, rfl, ?_⟩; have n0_ := Aside0.mk (KeepBut.blk hk (g' := gb263) (o := .cells #[.int .i64 0, .int .i64 0, .string (⟨#[]⟩ : ByteArray), .slice none 0 0] 91 (0, 0)) (aW BK263.out) NB263_0.out (by simp)); have n1_ := Aside0.mk (KeepBut.trans (aH1 GW263.out) hk (.inl rfl)); have n2_ := Aside0.mk (hb); have n3_ := Aside0.mk (hi); clear BK263; clear HK; clear HB; clear HI0; have BK263 := n0_; have HK := n1_; have HB := n2_; have HI0 := n3_; clear n0_ n1_ n2_ n3_; (try clear hb); (try clear hb2); (try clear hk); (try clear hi)))
   (try simp only [Act.put, List.setIfInBounds_toArray, List.set_cons_zero, List.set_cons_succ])
   go_cut [12] (fun v12 wc => ∃ (kq : Nat) (x12_9 : Bool), v12 = .bool x12_9 ∧ Aside0 (spec_l1Some.j0 kq t264 x12_9 s0_0 t265 = some (r1, r2, r3, r4, r5)) ∧ Aside0 (kq ≤ k) ∧ Aside0 (wc.heap[gb263]? = some (.cells #[.int .i64 0, .int .i64 0, .string (⟨#[]⟩ : ByteArray), (.slice none 0 0)] 91 (0, 0))) ∧ Aside0 (IsS87 w0 wc g s0_0 t265) ∧ Aside0 (KeepBut w wc g none) ∧ Aside0 (Below w0.heap.size w0 wc))
   case first =>
    have H := HC10.out
    clear HC10
    by_cases c13 : t264 = 1
    ·rw [if_pos c13] at H
     have c13b0 : (t264 == 1) = true := beq_iff_eq.mpr c13
     have c13b1 : (t264 != 1) = false := bne_eq_false_iff_eq.mpr c13
     clear c13
     (first | rw [c13b0] | (simp only [i64_w, i32_w]; rw [c13b0]) | skip)
     have H' := Aside0.mk H
     clear H
     go_wp2
     go_meet
     case rel => exact ⟨_, ((t264 == 1)), aR, H', ⟨by first | omega | exact Nat.le_refl _⟩, ⟨by refine aW ?_; exact BK263.out⟩, ⟨by repeat (first | (with_reducible first | exact HI0.out | apply IsS87.alloc | apply IsS87.drewN | apply IsS87.drew | apply IsS87.set_1 | refine IsS87.far ?_ NB0_263.out _) | exact HI0.out)⟩, ⟨by repeat (first | (with_reducible first | exact HK.out | apply KeepBut.set_ | apply keep_drewN | apply keep_drew | apply keep_alloc | refine keep_far ?_ GW263.out _) | exact HK.out)⟩, ⟨by repeat (first | (with_reducible first | exact HB.out | apply below_alloc | apply pw_below_drewN | apply below_drew1 | refine below_set ?_ (IsS87.ge HI0.out) | refine below_set ?_ GE263.out) | exact HB.out)⟩⟩
    ·rw [if_neg c13] at H
     have c13b0 : (t264 == 1) = false := beq_eq_false_iff_ne.mpr c13
     have c13b1 : (t264 != 1) = true := bne_iff_ne.mpr c13
     (first | rw [c13b0] | (simp only [i64_w, i32_w]; rw [c13b0]) | skip)
     have H' := Aside0.mk H
     clear H
     go_wp2
     go_meet
     case rel => exact ⟨_, ((t264 == 2)), aR, H', ⟨by first | omega | exact Nat.le_refl _⟩, ⟨by refine aW ?_; exact BK263.out⟩, ⟨by repeat (first | (with_reducible first | exact HI0.out | apply IsS87.alloc | apply IsS87.drewN | apply IsS87.drew | apply IsS87.set_1 | refine IsS87.far ?_ NB0_263.out _) | exact HI0.out)⟩, ⟨by repeat (first | (with_reducible first | exact HK.out | apply KeepBut.set_ | apply keep_drewN | apply keep_drew | apply keep_alloc | refine keep_far ?_ GW263.out _) | exact HK.out)⟩, ⟨by repeat (first | (with_reducible first | exact HB.out | apply below_alloc | apply pw_below_drewN | apply below_drew1 | refine below_set ?_ (IsS87.ge HI0.out) | refine below_set ?_ GE263.out) | exact HB.out)⟩⟩
   case rest =>
    clear HC10
    try clear c1
    try clear p2
    try clear c3
    try clear c3b0
    try clear c3b1
    try clear c5
    try clear c5b0
    try clear c5b1
    try clear c7
    try clear c8
    try clear c13
    try clear c13b0
    try clear c13b1
    try clear hcz9_0
    try clear hcz9_1
    try clear hcz9_2
    try clear hcz9_3
    try clear hfz9_0
    try clear hfz9_1
    try clear hfz9_2
    try clear hfz9_3
    obtain ⟨kq, x12_9, rfl, HA, HJ9, BK263, HI0, HK, HB⟩ := hcut
    cases kq with
    | zero => exact absurd HA.out (by simp [spec_l1Some.j0])
    | succ kj9 =>
     have H := HA.out
     clear HA
     simp only [spec_l1Some.j0] at H
     by_cases c14 : x12_9 = true
     ·subst c14
      have H1 : (some (3, 0, (⟨#[]⟩ : ByteArray), ([] : List (S91)), t265)) = some (r1, r2, r3, r4, r5) := by rw [if_pos rfl] at H; exact H
      clear H
      have H := H1
      clear H1
      simp only [Option.some.injEq, Prod.mk.injEq] at H
      obtain ⟨rfl, rfl, rfl, rfl, rfl⟩ := H
      have hnb15 := NB263_0.out
      have hnc15 := NB0_263.out
      have hcz16_0 : wc.cell? ⟨gb263, 0, none⟩ = some (.int .i64 0) := (blk_cell BK263.out 0).trans rfl
      have hcz16_1 : wc.cell? ⟨gb263, 1, none⟩ = some (.int .i64 0) := (blk_cell BK263.out 1).trans rfl
      have hcz16_2 : wc.cell? ⟨gb263, 2, none⟩ = some (.string (⟨#[]⟩ : ByteArray)) := (blk_cell BK263.out 2).trans rfl
      have hcz16_3 : wc.cell? ⟨gb263, 3, none⟩ = some (.slice none 0 0) := (blk_cell BK263.out 3).trans rfl
      have hfz16_0 := blk_frozen BK263.out 0
      have hfz16_1 := blk_frozen BK263.out 1
      have hfz16_2 := blk_frozen BK263.out 2
      have hfz16_3 := blk_frozen BK263.out 3
      go_wp2
      refine bodyPost_ret (results_cell_row rfl _ _ gb263 91 #[.int .i64 3, .int .i64 0, .string (⟨#[]⟩ : ByteArray), .slice none 0 0] (0, 0) _ rfl (by refine aW ?_; refine blk_put (cs := #[.int .i64 3, .int .i64 0, .string (⟨#[]⟩ : ByteArray), .slice none 0 0]) ?_ 3 _ rfl; refine aW ?_; refine blk_put (cs := #[.int .i64 3, .int .i64 0, .string (⟨#[]⟩ : ByteArray), .slice none 0 0]) ?_ 2 _ rfl; refine aW ?_; refine blk_put (cs := #[.int .i64 3, .int .i64 0, .string (⟨#[]⟩ : ByteArray), .slice none 0 0]) ?_ 1 _ rfl; refine aW ?_; refine blk_put (cs := #[.int .i64 0, .int .i64 0, .string (⟨#[]⟩ : ByteArray), .slice none 0 0]) ?_ 0 _ rfl; refine aW ?_; exact BK263.out) Try.underlying91 rfl aK) rfl ?_
      exact ⟨_, by first | rfl | (simp [errW_none, errW_some] <;> rfl) | (simp [*, errW_none, errW_some] <;> rfl), by first | exact Kd.R_nil _ _ _ _ _ | exact Kd.N_nil _ _ _ _ _ | exact Kd.V_nil _ _ _ _ _ | exact Kd.Q_nil _ _ _ _ _ | exact Kd.S_nil _ _ _ _ _, by repeat (first | (with_reducible first | exact HI0.out | apply IsS87.alloc | apply IsS87.drewN | apply IsS87.drew | apply IsS87.set_1 | refine IsS87.far ?_ NB0_263.out _) | exact HI0.out), by repeat (first | (with_reducible first | exact HB.out | apply below_alloc | apply pw_below_drewN | apply below_drew1 | refine below_set ?_ (IsS87.ge HI0.out) | refine below_set ?_ GE263.out) | exact HB.out), by repeat (first | (with_reducible first | exact HK.out | apply KeepBut.set_ | apply keep_drewN | apply keep_drew | apply keep_alloc | refine keep_far ?_ GW263.out _) | exact HK.out)⟩
     ·replace c14 := Bool.eq_false_iff.mpr c14
      subst c14
      have H1 : (if t264 = 3 then (some (4, 0, (⟨#[]⟩ : ByteArray), ([] : List (S91)), t265)) else ((spec_l1Word2.f kj9 s0_0 t265).bind fun bt266 => (some (2, 0, bt266.1, ([] : List (S91)), bt266.2)))) = some (r1, r2, r3, r4, r5) := by rw [if_neg (show ¬ (false = true) by decide)] at H; exact H
      clear H
      have H := H1
      clear H1
      by_cases c17 : t264 = 3
      ·rw [if_pos c17] at H
       have c17b0 : (t264 == 3) = true := beq_iff_eq.mpr c17
       have c17b1 : (t264 != 3) = false := bne_eq_false_iff_eq.mpr c17
       clear c17
       simp only [Option.some.injEq, Prod.mk.injEq] at H
       obtain ⟨rfl, rfl, rfl, rfl, rfl⟩ := H
       have hnb18 := NB263_0.out
       have hnc18 := NB0_263.out
       have hcz19_0 : wc.cell? ⟨gb263, 0, none⟩ = some (.int .i64 0) := (blk_cell BK263.out 0).trans rfl
       have hcz19_1 : wc.cell? ⟨gb263, 1, none⟩ = some (.int .i64 0) := (blk_cell BK263.out 1).trans rfl
       have hcz19_2 : wc.cell? ⟨gb263, 2, none⟩ = some (.string (⟨#[]⟩ : ByteArray)) := (blk_cell BK263.out 2).trans rfl
       have hcz19_3 : wc.cell? ⟨gb263, 3, none⟩ = some (.slice none 0 0) := (blk_cell BK263.out 3).trans rfl
       have hfz19_0 := blk_frozen BK263.out 0
       have hfz19_1 := blk_frozen BK263.out 1
       have hfz19_2 := blk_frozen BK263.out 2
       have hfz19_3 := blk_frozen BK263.out 3
       go_wp2
       refine bodyPost_ret (results_cell_row rfl _ _ gb263 91 #[.int .i64 4, .int .i64 0, .string (⟨#[]⟩ : ByteArray), .slice none 0 0] (0, 0) _ rfl (by refine aW ?_; refine blk_put (cs := #[.int .i64 4, .int .i64 0, .string (⟨#[]⟩ : ByteArray), .slice none 0 0]) ?_ 3 _ rfl; refine aW ?_; refine blk_put (cs := #[.int .i64 4, .int .i64 0, .string (⟨#[]⟩ : ByteArray), .slice none 0 0]) ?_ 2 _ rfl; refine aW ?_; refine blk_put (cs := #[.int .i64 4, .int .i64 0, .string (⟨#[]⟩ : ByteArray), .slice none 0 0]) ?_ 1 _ rfl; refine aW ?_; refine blk_put (cs := #[.int .i64 0, .int .i64 0, .string (⟨#[]⟩ : ByteArray), .slice none 0 0]) ?_ 0 _ rfl; refine aW ?_; exact BK263.out) Try.underlying91 rfl aK) rfl ?_
       exact ⟨_, by first | rfl | (simp [errW_none, errW_some] <;> rfl) | (simp [*, errW_none, errW_some] <;> rfl), by first | exact Kd.R_nil _ _ _ _ _ | exact Kd.N_nil _ _ _ _ _ | exact Kd.V_nil _ _ _ _ _ | exact Kd.Q_nil _ _ _ _ _ | exact Kd.S_nil _ _ _ _ _, by repeat (first | (with_reducible first | exact HI0.out | apply IsS87.alloc | apply IsS87.drewN | apply IsS87.drew | apply IsS87.set_1 | refine IsS87.far ?_ NB0_263.out _) | exact HI0.out), by repeat (first | (with_reducible first | exact HB.out | apply below_alloc | apply pw_below_drewN | apply below_drew1 | refine below_set ?_ (IsS87.ge HI0.out) | refine below_set ?_ GE263.out) | exact HB.out), by repeat (first | (with_reducible first | exact HK.out | apply KeepBut.set_ | apply keep_drewN | apply keep_drew | apply keep_alloc | refine keep_far ?_ GW263.out _) | exact HK.out)⟩
      ·rw [if_neg c17] at H
       have c17b0 : (t264 == 3) = false := beq_eq_false_iff_ne.mpr c17
       have c17b1 : (t264 != 3) = true := bne_iff_ne.mpr c17
       replace H := Option.bind_eq_some_iff.mp H
       obtain ⟨⟨t266, t267⟩, A200, H⟩ := H
       replace H : (some (2, 0, t266, ([] : List (S91)), t267)) = some (r1, r2, r3, r4, r5) := H
       have A20 := Aside0.mk A200
       clear A200
       simp only [Option.some.injEq, Prod.mk.injEq] at H
       obtain ⟨rfl, rfl, rfl, rfl, rfl⟩ := H
       go_wp2_with (first | ((with_reducible refine gate_callee (f := 92) rfl ?_); refine goesL_ (some 20) rfl rfl Try.func92 aK rfl #[.pointer (some ⟨g, 0, none⟩)] rfl aL ?_; (with_reducible refine (spec_l1Word2.calls kj9 g s0_0 t265 t266 t267 w0 _ ?side1 ?side2 A20.out).mono ?_); (case side1 => repeat (first | (with_reducible first | exact HI0.out | apply IsS87.alloc | apply IsS87.drewN | apply IsS87.drew | apply IsS87.set_1 | refine IsS87.far ?_ NB0_263.out _) | exact HI0.out)); (case side2 => repeat (first | (with_reducible first | exact HB.out | apply below_alloc | apply pw_below_drewN | apply below_drew1 | refine below_set ?_ (IsS87.ge HI0.out) | refine below_set ?_ GE263.out) | exact HB.out)); rintro e w21 ⟨rfl, hi, hb, hk⟩; refine ⟨_, rfl, ?_⟩; have n0_ := Aside0.mk (KeepBut.blk hk (g' := gb263) (o := .cells #[.int .i64 0, .int .i64 0, .string (⟨#[]⟩ : ByteArray), .slice none 0 0] 91 (0, 0)) (aW BK263.out) NB263_0.out (by simp)); have n1_ := Aside0.mk (KeepBut.trans (aH1 GW263.out) hk (.inl rfl)); have n2_ := Aside0.mk (hb); have n3_ := Aside0.mk (hi); clear BK263; clear HK; clear HB; clear HI0; have BK263 := n0_; have HK := n1_; have HB := n2_; have HI0 := n3_; clear n0_ n1_ n2_ n3_; (try clear hb); (try clear hb2); (try clear hk); (try clear hi); have hnb22 := NB263_0.out; have hnc22 := NB0_263.out; have hcz23_0 : w21.cell? ⟨gb263, 0, none⟩ = some (.int .i64 0) := (blk_cell BK263.out 0).trans rfl; have hcz23_1 : w21.cell? ⟨gb263, 1, none⟩ = some (.int .i64 0) := (blk_cell BK263.out 1).trans rfl; have hcz23_2 : w21.cell? ⟨gb263, 2, none⟩ = some (.string (⟨#[]⟩ : ByteArray)) := (blk_cell BK263.out 2).trans rfl; have hcz23_3 : w21.cell? ⟨gb263, 3, none⟩ = some (.slice none 0 0) := (blk_cell BK263.out 3).trans rfl; have hfz23_0 := blk_frozen BK263.out 0; have hfz23_1 := blk_frozen BK263.out 1; have hfz23_2 := blk_frozen BK263.out 2; have hfz23_3 := blk_frozen BK263.out 3))
       refine bodyPost_ret (results_cell_row rfl _ _ gb263 91 #[.int .i64 2, .int .i64 0, .string t266, .slice none 0 0] (0, 0) _ rfl (by refine aW ?_; refine blk_put (cs := #[.int .i64 2, .int .i64 0, .string t266, .slice none 0 0]) ?_ 3 _ rfl; refine aW ?_; refine blk_put (cs := #[.int .i64 2, .int .i64 0, .string (⟨#[]⟩ : ByteArray), .slice none 0 0]) ?_ 2 _ rfl; refine aW ?_; refine blk_put (cs := #[.int .i64 2, .int .i64 0, .string (⟨#[]⟩ : ByteArray), .slice none 0 0]) ?_ 1 _ rfl; refine aW ?_; refine blk_put (cs := #[.int .i64 0, .int .i64 0, .string (⟨#[]⟩ : ByteArray), .slice none 0 0]) ?_ 0 _ rfl; refine aW ?_; exact BK263.out) Try.underlying91 rfl aK) rfl ?_
       exact ⟨_, by first | rfl | (simp [errW_none, errW_some] <;> rfl) | (simp [*, errW_none, errW_some] <;> rfl), by first | exact Kd.R_nil _ _ _ _ _ | exact Kd.N_nil _ _ _ _ _ | exact Kd.V_nil _ _ _ _ _ | exact Kd.Q_nil _ _ _ _ _ | exact Kd.S_nil _ _ _ _ _, by repeat (first | (with_reducible first | exact HI0.out | apply IsS87.alloc | apply IsS87.drewN | apply IsS87.drew | apply IsS87.set_1 | refine IsS87.far ?_ NB0_263.out _) | exact HI0.out), by repeat (first | (with_reducible first | exact HB.out | apply below_alloc | apply pw_below_drewN | apply below_drew1 | refine below_set ?_ (IsS87.ge HI0.out) | refine below_set ?_ GE263.out) | exact HB.out), by repeat (first | (with_reducible first | exact HK.out | apply KeepBut.set_ | apply keep_drewN | apply keep_drew | apply keep_alloc | refine keep_far ?_ GW263.out _) | exact HK.out)⟩
 ·rw [if_neg c3] at H
  have c3b0 : (a1 == 0) = false := beq_eq_false_iff_ne.mpr c3
  have c3b1 : (a1 != 0) = true := bne_iff_ne.mpr c3
  replace H := Option.bind_eq_some_iff.mp H
  obtain ⟨⟨t268, t269⟩, A240, H⟩ := H
  replace H : (if t268 = 0 then ((spec_l1Some.f k s0_0 t269 0).bind fun bt270 => (some (bt270.1, bt270.2.1, bt270.2.2.1, bt270.2.2.2.1, bt270.2.2.2.2))) else (if t268 = 1 then (spec_l1Some.j1 k a1 t268 (t268 == 1) s0_0 t269) else (spec_l1Some.j1 k a1 t268 (t268 == 2) s0_0 t269))) = some (r1, r2, r3, r4, r5) := H
  have A24 := Aside0.mk A240
  clear A240
  by_cases c25 : t268 = 0
  ·rw [if_pos c25] at H
   have c25b0 : (t268 == 0) = true := beq_iff_eq.mpr c25
   have c25b1 : (t268 != 0) = false := bne_eq_false_iff_eq.mpr c25
   clear c25
   replace H := Option.bind_eq_some_iff.mp H
   obtain ⟨⟨t270, t271, t272, t273, t276⟩, A260, H⟩ := H
   replace H : (some (t270, t271, t272, t273, t276)) = some (r1, r2, r3, r4, r5) := H
   have A26 := Aside0.mk A260
   clear A260
   simp only [Option.some.injEq, Prod.mk.injEq] at H
   obtain ⟨rfl, rfl, rfl, rfl, rfl⟩ := H
   go_enter Try.func78, Try.ntmps78
   go_wp2_with (first | ((with_reducible refine gate_dst (N := 4) rfl ?_); refine box_event ?hg (N := 4) ?hd (cs := #[.int .i64 0, .int .i64 0, .string (⟨#[]⟩ : ByteArray), .slice none 0 0]) (t := 91) ?hr ?_; (case hd => rfl); (case hg => rfl); (case hr => first | (go_simp; done) | (go_simp; rfl)); intro gb263 hg w27 hbox hb; have n0_ := Aside0.mk (IsS87.below (by repeat (first | (with_reducible first | exact HI0.out | apply IsS87.alloc | apply IsS87.drewN | apply IsS87.drew | apply IsS87.set_1) | exact HI0.out)) hb); have n1_ := Aside0.mk (KeepBut.trans aH (KeepBut.of_below hb g none) (.inl rfl)); have n2_ := Aside0.mk (below_step (aB1 (IsS87.ge HI0.out)) hb); have n3_ := Aside0.mk (hbox); have n4_ := Aside0.mk ((by rw [hg]; exact (keep_size (w := w) (g := g) (row := none) aH) : w.heap.size ≤ gb263)); have n5_ := Aside0.mk ((Nat.le_trans HW0.out (by rw [hg]; exact (keep_size (w := w) (g := g) (row := none) aH) : w.heap.size ≤ gb263) : w0.heap.size ≤ gb263)); have n6_ := Aside0.mk ((by rw [hg]; exact Nat.ne_of_lt (IsS87.lt (show IsS87 w0 _ g s0_0 s0_1 from by repeat (first | (with_reducible first | exact HI0.out | apply IsS87.alloc | apply IsS87.drewN | apply IsS87.drew | apply IsS87.set_1) | exact HI0.out))) : g ≠ gb263)); have n7_ := Aside0.mk ((by rw [hg]; exact Nat.ne_of_gt (IsS87.lt (show IsS87 w0 _ g s0_0 s0_1 from by repeat (first | (with_reducible first | exact HI0.out | apply IsS87.alloc | apply IsS87.drewN | apply IsS87.drew | apply IsS87.set_1) | exact HI0.out))) : gb263 ≠ g)); clear HI0; clear HK; clear HB; have HI0 := n0_; have HK := n1_; have HB := n2_; have BK263 := n3_; have GW263 := n4_; have GE263 := n5_; have NB0_263 := n6_; have NB263_0 := n7_; clear n0_ n1_ n2_ n3_ n4_ n5_ n6_ n7_; clear hb hbox hg) | ((with_reducible refine gate_callee (f := 79) rfl ?_); refine goesL_ (some 23) rfl rfl Try.func79 aK rfl #[.pointer (some ⟨g, 0, none⟩), .int .i64 12] rfl aL ?_; (with_reducible refine (spec_l15Rd_pick.calls k g s0_0 s0_1 12 t268 t269 w0 _ ?side1 ?side2 A24.out).mono ?_); (case side1 => repeat (first | (with_reducible first | exact HI0.out | apply IsS87.alloc | apply IsS87.drewN | apply IsS87.drew | apply IsS87.set_1 | refine IsS87.far ?_ NB0_263.out _) | exact HI0.out)); (case side2 => repeat (first | (with_reducible first | exact HB.out | apply below_alloc | apply pw_below_drewN | apply below_drew1 | refine below_set ?_ (IsS87.ge HI0.out) | refine below_set ?_ GE263.out) | exact HB.out)); rintro e w28 ⟨rfl, hi, hb, hk⟩; refine ⟨_, rfl, ?_⟩; have n0_ := Aside0.mk (KeepBut.blk hk (g' := gb263) (o := .cells #[.int .i64 0, .int .i64 0, .string (⟨#[]⟩ : ByteArray), .slice none 0 0] 91 (0, 0)) (aW BK263.out) NB263_0.out (by simp)); have n1_ := Aside0.mk (KeepBut.trans (aH1 GW263.out) hk (.inl rfl)); have n2_ := Aside0.mk (hb); have n3_ := Aside0.mk (hi); clear BK263; clear HK; clear HB; clear HI0; have BK263 := n0_; have HK := n1_; have HB := n2_; have HI0 := n3_; clear n0_ n1_ n2_ n3_; (try clear hb); (try clear hb2); (try clear hk); (try clear hi)) | ((with_reducible refine gate_callee (f := 78) rfl ?_); refine goesL_ (some 27) rfl rfl Try.func78 aK rfl #[.pointer (some ⟨g, 0, none⟩), .int .i64 0] rfl aL ?_; (with_reducible refine (ih k (by omega) g s0_0 t269 0 t270 t271 t272 t273 t276 w0 _ ?side1 ?side2 A26.out).mono ?_); (case side1 => repeat (first | (with_reducible first | exact HI0.out | apply IsS87.alloc | apply IsS87.drewN | apply IsS87.drew | apply IsS87.set_1 | refine IsS87.far ?_ NB0_263.out _) | exact HI0.out)); (case side2 => repeat (first | (with_reducible first | exact HB.out | apply below_alloc | apply pw_below_drewN | apply below_drew1 | refine below_set ?_ (IsS87.ge HI0.out) | refine below_set ?_ GE263.out) | exact HB.out)); rintro e w29 ⟨v274, rfl, ho0, hi, hb, hk⟩; refine ⟨_, rfl, ?_⟩; have n0_ := Aside0.mk (KeepBut.blk hk (g' := gb263) (o := .cells #[.int .i64 0, .int .i64 0, .string (⟨#[]⟩ : ByteArray), .slice none 0 0] 91 (0, 0)) (aW BK263.out) NB263_0.out (by simp)); have n1_ := Aside0.mk (Kd.N_lower (Kd.N_mono (ok' := fun k_ => (w.heap.size ≤ k_) ∧ k_ ≠ gb263 ∧ k_ ≠ g) ho0 (fun k_ hk_ => ⟨(Nat.le_trans (keep_size (w := w) (g := g) (row := none) (aH1 GW263.out)) hk_), (Kd.freshB (g := gb263) (o := .cells #[.int .i64 0, .int .i64 0, .string (⟨#[]⟩ : ByteArray), .slice none 0 0] 91 (0, 0)) (aW BK263.out) k_ hk_), (IsS87.fresh (by repeat (first | (with_reducible first | exact HI0.out | apply IsS87.alloc | apply IsS87.drewN | apply IsS87.drew | apply IsS87.set_1 | refine IsS87.far ?_ NB0_263.out _) | exact HI0.out)) k_ hk_)⟩)) (keep_size (w := w) (g := g) (row := none) (aH1 GW263.out))); have n2_ := Aside0.mk (KeepBut.trans (aH1 GW263.out) hk (.inl rfl)); have n3_ := Aside0.mk (hb); have n4_ := Aside0.mk (hi); clear BK263; clear HK; clear HB; clear HI0; have BK263 := n0_; have HO275 := n1_; have HK := n2_; have HB := n3_; have HI0 := n4_; clear n0_ n1_ n2_ n3_ n4_; (try clear hb); (try clear hb2); (try clear hk); (try clear hi); (try clear ho0); have hnb30 := NB263_0.out; have hnc30 := NB0_263.out; have hcz31_0 : w29.cell? ⟨gb263, 0, none⟩ = some (.int .i64 0) := (blk_cell BK263.out 0).trans rfl; have hcz31_1 : w29.cell? ⟨gb263, 1, none⟩ = some (.int .i64 0) := (blk_cell BK263.out 1).trans rfl; have hcz31_2 : w29.cell? ⟨gb263, 2, none⟩ = some (.string (⟨#[]⟩ : ByteArray)) := (blk_cell BK263.out 2).trans rfl; have hcz31_3 : w29.cell? ⟨gb263, 3, none⟩ = some (.slice none 0 0) := (blk_cell BK263.out 3).trans rfl; have hfz31_0 := blk_frozen BK263.out 0; have hfz31_1 := blk_frozen BK263.out 1; have hfz31_2 := blk_frozen BK263.out 2; have hfz31_3 := blk_frozen BK263.out 3; obtain ⟨Ao32, co32, eo32⟩ := Kd.N_slice HO275.out; subst eo32))
   refine bodyPost_ret (results_cell_row rfl _ _ gb263 91 #[.int .i64 t270, .int .i64 t271, .string t272, .slice Ao32 t273.length co32] (0, 0) _ rfl (by refine aW ?_; refine blk_put (cs := #[.int .i64 t270, .int .i64 t271, .string t272, .slice none 0 0]) ?_ 3 _ rfl; refine aW ?_; refine blk_put (cs := #[.int .i64 t270, .int .i64 t271, .string (⟨#[]⟩ : ByteArray), .slice none 0 0]) ?_ 2 _ rfl; refine aW ?_; refine blk_put (cs := #[.int .i64 t270, .int .i64 0, .string (⟨#[]⟩ : ByteArray), .slice none 0 0]) ?_ 1 _ rfl; refine aW ?_; refine blk_put (cs := #[.int .i64 0, .int .i64 0, .string (⟨#[]⟩ : ByteArray), .slice none 0 0]) ?_ 0 _ rfl; refine aW ?_; exact BK263.out) Try.underlying91 rfl aK) rfl ?_
   exact ⟨_, by first | rfl | (simp [errW_none, errW_some] <;> rfl) | (simp [*, errW_none, errW_some] <;> rfl), by (with_reducible repeat (first | apply Kd.N_alloc | apply Kd.N_drewN | apply Kd.N_drew)); exact Kd.N_mono (Kd.N_far (p := ⟨gb263, 3, none⟩) (Kd.N_far (p := ⟨gb263, 2, none⟩) (Kd.N_far (p := ⟨gb263, 1, none⟩) (Kd.N_far (p := ⟨gb263, 0, none⟩) (Kd.N_mono HO275.out (fun k_ hk => (⟨hk, hk.2.1⟩ : _ ∧ k_ ≠ gb263))) (fun _ hk => hk.2) (.int .i64 t270)) (fun _ hk => hk.2) (.int .i64 t271)) (fun _ hk => hk.2) (.string t272)) (fun _ hk => hk.2) (.slice Ao32 t273.length co32)) (fun _ hk => hk.1.1), by repeat (first | (with_reducible first | exact HI0.out | apply IsS87.alloc | apply IsS87.drewN | apply IsS87.drew | apply IsS87.set_1 | refine IsS87.far ?_ NB0_263.out _) | exact HI0.out), by repeat (first | (with_reducible first | exact HB.out | apply below_alloc | apply pw_below_drewN | apply below_drew1 | refine below_set ?_ (IsS87.ge HI0.out) | refine below_set ?_ GE263.out) | exact HB.out), by repeat (first | (with_reducible first | exact HK.out | apply KeepBut.set_ | apply keep_drewN | apply keep_drew | apply keep_alloc | refine keep_far ?_ GW263.out _) | exact HK.out)⟩
  ·rw [if_neg c25] at H
   have c25b0 : (t268 == 0) = false := beq_eq_false_iff_ne.mpr c25
   have c25b1 : (t268 != 0) = true := bne_iff_ne.mpr c25
   have HC33 := Aside0.mk H
   clear H
   go_enter Try.func78, Try.ntmps78
   go_upto_if 28 with (first | ((with_reducible refine gate_dst (N := 4) rfl ?_); refine box_event ?hg (N := 4) ?hd (cs := #[.int .i64 0, .int .i64 0, .string (⟨#[]⟩ : ByteArray), .slice none 0 0]) (t := 91) ?hr ?_; (case hd => rfl); (case hg => rfl); (case hr => first | (go_simp; done) | (go_simp; rfl)); intro gb263 hg w34 hbox hb; have n0_ := Aside0.mk (IsS87.below (by repeat (first | (with_reducible first | exact HI0.out | apply IsS87.alloc | apply IsS87.drewN | apply IsS87.drew | apply IsS87.set_1) | exact HI0.out)) hb); have n1_ := Aside0.mk (KeepBut.trans aH (KeepBut.of_below hb g none) (.inl rfl)); have n2_ := Aside0.mk (below_step (aB1 (IsS87.ge HI0.out)) hb); have n3_ := Aside0.mk (hbox); have n4_ := Aside0.mk ((by rw [hg]; exact (keep_size (w := w) (g := g) (row := none) aH) : w.heap.size ≤ gb263)); have n5_ := Aside0.mk ((Nat.le_trans HW0.out (by rw [hg]; exact (keep_size (w := w) (g := g) (row := none) aH) : w.heap.size ≤ gb263) : w0.heap.size ≤ gb263)); have n6_ := Aside0.mk ((by rw [hg]; exact Nat.ne_of_lt (IsS87.lt (show IsS87 w0 _ g s0_0 s0_1 from by repeat (first | (with_reducible first | exact HI0.out | apply IsS87.alloc | apply IsS87.drewN | apply IsS87.drew | apply IsS87.set_1) | exact HI0.out))) : g ≠ gb263)); have n7_ := Aside0.mk ((by rw [hg]; exact Nat.ne_of_gt (IsS87.lt (show IsS87 w0 _ g s0_0 s0_1 from by repeat (first | (with_reducible first | exact HI0.out | apply IsS87.alloc | apply IsS87.drewN | apply IsS87.drew | apply IsS87.set_1) | exact HI0.out))) : gb263 ≠ g)); clear HI0; clear HK; clear HB; have HI0 := n0_; have HK := n1_; have HB := n2_; have BK263 := n3_; have GW263 := n4_; have GE263 := n5_; have NB0_263 := n6_; have NB263_0 := n7_; clear n0_ n1_ n2_ n3_ n4_ n5_ n6_ n7_; clear hb hbox hg) | ((with_reducible refine gate_callee (f := 79) rfl ?_); refine goesL_ (some 23) rfl rfl Try.func79 aK rfl #[.pointer (some ⟨g, 0, none⟩), .int .i64 12] rfl aL ?_; (with_reducible refine (spec_l15Rd_pick.calls k g s0_0 s0_1 12 t268 t269 w0 _ ?side1 ?side2 A24.out).mono ?_); (case side1 => repeat (first | (with_reducible first | exact HI0.out | apply IsS87.alloc | apply IsS87.drewN | apply IsS87.drew | apply IsS87.set_1 | refine IsS87.far ?_ NB0_263.out _) | exact HI0.out)); (case side2 => repeat (first | (with_reducible first | exact HB.out | apply below_alloc | apply pw_below_drewN | apply below_drew1 | refine below_set ?_ (IsS87.ge HI0.out) | refine below_set ?_ GE263.out) | exact HB.out)); rintro e w35 ⟨rfl, hi, hb, hk⟩; refine ⟨_, rfl, ?_⟩; have n0_ := Aside0.mk (KeepBut.blk hk (g' := gb263) (o := .cells #[.int .i64 0, .int .i64 0, .string (⟨#[]⟩ : ByteArray), .slice none 0 0] 91 (0, 0)) (aW BK263.out) NB263_0.out (by simp)); have n1_ := Aside0.mk (KeepBut.trans (aH1 GW263.out) hk (.inl rfl)); have n2_ := Aside0.mk (hb); have n3_ := Aside0.mk (hi); clear BK263; clear HK; clear HB; clear HI0; have BK263 := n0_; have HK := n1_; have HB := n2_; have HI0 := n3_; clear n0_ n1_ n2_ n3_; (try clear hb); (try clear hb2); (try clear hk); (try clear hi)))
   (try simp only [Act.put, List.setIfInBounds_toArray, List.set_cons_zero, List.set_cons_succ])
   go_cut [28] (fun v28 wc => ∃ (kq : Nat) (x28_32 : Bool), v28 = .bool x28_32 ∧ Aside0 (spec_l1Some.j1 kq a1 t268 x28_32 s0_0 t269 = some (r1, r2, r3, r4, r5)) ∧ Aside0 (kq ≤ k) ∧ Aside0 (wc.heap[gb263]? = some (.cells #[.int .i64 0, .int .i64 0, .string (⟨#[]⟩ : ByteArray), (.slice none 0 0)] 91 (0, 0))) ∧ Aside0 (IsS87 w0 wc g s0_0 t269) ∧ Aside0 (KeepBut w wc g none) ∧ Aside0 (Below w0.heap.size w0 wc))
   case first =>
    have H := HC33.out
    clear HC33
    by_cases c36 : t268 = 1
    ·rw [if_pos c36] at H
     have c36b0 : (t268 == 1) = true := beq_iff_eq.mpr c36
     have c36b1 : (t268 != 1) = false := bne_eq_false_iff_eq.mpr c36
     clear c36
     (first | rw [c36b0] | (simp only [i64_w, i32_w]; rw [c36b0]) | skip)
     have H' := Aside0.mk H
     clear H
     go_wp2
     go_meet
     case rel => exact ⟨_, ((t268 == 1)), aR, H', ⟨by first | omega | exact Nat.le_refl _⟩, ⟨by refine aW ?_; exact BK263.out⟩, ⟨by repeat (first | (with_reducible first | exact HI0.out | apply IsS87.alloc | apply IsS87.drewN | apply IsS87.drew | apply IsS87.set_1 | refine IsS87.far ?_ NB0_263.out _) | exact HI0.out)⟩, ⟨by repeat (first | (with_reducible first | exact HK.out | apply KeepBut.set_ | apply keep_drewN | apply keep_drew | apply keep_alloc | refine keep_far ?_ GW263.out _) | exact HK.out)⟩, ⟨by repeat (first | (with_reducible first | exact HB.out | apply below_alloc | apply pw_below_drewN | apply below_drew1 | refine below_set ?_ (IsS87.ge HI0.out) | refine below_set ?_ GE263.out) | exact HB.out)⟩⟩
    ·rw [if_neg c36] at H
     have c36b0 : (t268 == 1) = false := beq_eq_false_iff_ne.mpr c36
     have c36b1 : (t268 != 1) = true := bne_iff_ne.mpr c36
     (first | rw [c36b0] | (simp only [i64_w, i32_w]; rw [c36b0]) | skip)
     have H' := Aside0.mk H
     clear H
     go_wp2
     go_meet
     case rel => exact ⟨_, ((t268 == 2)), aR, H', ⟨by first | omega | exact Nat.le_refl _⟩, ⟨by refine aW ?_; exact BK263.out⟩, ⟨by repeat (first | (with_reducible first | exact HI0.out | apply IsS87.alloc | apply IsS87.drewN | apply IsS87.drew | apply IsS87.set_1 | refine IsS87.far ?_ NB0_263.out _) | exact HI0.out)⟩, ⟨by repeat (first | (with_reducible first | exact HK.out | apply KeepBut.set_ | apply keep_drewN | apply keep_drew | apply keep_alloc | refine keep_far ?_ GW263.out _) | exact HK.out)⟩, ⟨by repeat (first | (with_reducible first | exact HB.out | apply below_alloc | apply pw_below_drewN | apply below_drew1 | refine below_set ?_ (IsS87.ge HI0.out) | refine below_set ?_ GE263.out) | exact HB.out)⟩⟩
   case rest =>
    clear HC33
    try clear c1
    try clear c2
    try clear p2
    try clear c3
    try clear c3b0
    try clear c3b1
    try clear c5
    try clear c5b0
    try clear c5b1
    try clear c7
    try clear c8
    try clear c9
    try clear c13
    try clear c13b0
    try clear c13b1
    try clear c14
    try clear c15
    try clear c17
    try clear c17b0
    try clear c17b1
    try clear c18
    try clear c22
    try clear c25
    try clear c25b0
    try clear c25b1
    try clear c30
    try clear c36
    try clear c36b0
    try clear c36b1
    try clear hcz16_0
    try clear hcz16_1
    try clear hcz16_2
    try clear hcz16_3
    try clear hcz19_0
    try clear hcz19_1
    try clear hcz19_2
    try clear hcz19_3
    try clear hcz23_0
    try clear hcz23_1
    try clear hcz23_2
    try clear hcz23_3
    try clear hcz31_0
    try clear hcz31_1
    try clear hcz31_2
    try clear hcz31_3
    try clear hcz9_0
    try clear hcz9_1
    try clear hcz9_2
    try clear hcz9_3
    try clear hfz16_0
    try clear hfz16_1
    try clear hfz16_2
    try clear hfz16_3
    try clear hfz19_0
    try clear hfz19_1
    try clear hfz19_2
    try clear hfz19_3
    try clear hfz23_0
    try clear hfz23_1
    try clear hfz23_2
    try clear hfz23_3
    try clear hfz31_0
    try clear hfz31_1
    try clear hfz31_2
    try clear hfz31_3
    try clear hfz9_0
    try clear hfz9_1
    try clear hfz9_2
    try clear hfz9_3
    try clear p2
    obtain ⟨kq, x28_32, rfl, HA, HJ32, BK263, HI0, HK, HB⟩ := hcut
    cases kq with
    | zero => exact absurd HA.out (by simp [spec_l1Some.j1])
    | succ kj32 =>
     have H := HA.out
     clear HA
     simp only [spec_l1Some.j1] at H
     by_cases c37 : x28_32 = true
     ·subst c37
      have H1 : ((spec_l15Rd_num.f kj32 s0_0 t269 (([2, 1, 4, 0, 9] : List Int))).bind fun bt280 => ((spec_l1Some.f kj32 s0_0 bt280.2 (wrap64 (a1 - 1))).bind fun bt282 => (some (6, bt280.1, (⟨#[]⟩ : ByteArray), (([(⟨bt282.1, bt282.2.1, bt282.2.2.1, bt282.2.2.2.1⟩ : S91)] : List (S91))), bt282.2.2.2.2)))) = some (r1, r2, r3, r4, r5) := by rw [if_pos rfl] at H; exact H
      clear H
      have H := H1
      clear H1
      obtain ⟨y277, hy277⟩ : ∃ y_ : List Int, y_ = (([2, 1, 4, 0, 9] : List Int)) := ⟨_, rfl⟩
      replace H : ((spec_l15Rd_num.f kj32 s0_0 t269 y277).bind fun bt280 => ((spec_l1Some.f kj32 s0_0 bt280.2 (wrap64 (a1 - 1))).bind fun bt282 => (some (6, bt280.1, (⟨#[]⟩ : ByteArray), (([(⟨bt282.1, bt282.2.1, bt282.2.2.1, bt282.2.2.2.1⟩ : S91)] : List (S91))), bt282.2.2.2.2)))) = some (r1, r2, r3, r4, r5) := by first | (rw [hy277]; with_reducible exact H) | (have H2_ := (Option.bind_some _ _).symm.trans H; rw [hy277]; with_reducible exact H2_) | (have H2_ := (Option.bind_some _ _).symm.trans H; with_reducible exact H2_) | with_reducible exact H | (rw [hy277]; exact H) | exact H
      have Ny277 := Aside0.mk hy277
      clear hy277
      replace H := Option.bind_eq_some_iff.mp H
      obtain ⟨⟨t280, t281⟩, A380, H⟩ := H
      replace H : ((spec_l1Some.f kj32 s0_0 t281 (wrap64 (a1 - 1))).bind fun bt282 => (some (6, t280, (⟨#[]⟩ : ByteArray), (([(⟨bt282.1, bt282.2.1, bt282.2.2.1, bt282.2.2.2.1⟩ : S91)] : List (S91))), bt282.2.2.2.2))) = some (r1, r2, r3, r4, r5) := H
      have A38 := Aside0.mk A380
      clear A380
      replace H := Option.bind_eq_some_iff.mp H
      obtain ⟨⟨t282, t283, t284, t285, t288⟩, A390, H⟩ := H
      replace H : (some (6, t280, (⟨#[]⟩ : ByteArray), (([(⟨t282, t283, t284, t285⟩ : S91)] : List (S91))), t288)) = some (r1, r2, r3, r4, r5) := H
      have A39 := Aside0.mk A390
      clear A390
      obtain ⟨y289, hy289⟩ : ∃ y_ : List (S91), y_ = (([(⟨t282, t283, t284, t285⟩ : S91)] : List (S91))) := ⟨_, rfl⟩
      replace H : (some (6, t280, (⟨#[]⟩ : ByteArray), y289, t288)) = some (r1, r2, r3, r4, r5) := by first | (rw [hy289]; with_reducible exact H) | (have H2_ := (Option.bind_some _ _).symm.trans H; rw [hy289]; with_reducible exact H2_) | (have H2_ := (Option.bind_some _ _).symm.trans H; with_reducible exact H2_) | with_reducible exact H | (rw [hy289]; exact H) | exact H
      have Ny289 := Aside0.mk hy289
      clear hy289
      simp only [Option.some.injEq, Prod.mk.injEq] at H
      obtain ⟨rfl, rfl, rfl, rfl, rfl⟩ := H
      go_wp2_with (first | ((with_reducible refine gate_dst (N := 32) rfl ?_); refine Kd.R_lit (Kd.int .i64) _ 3 ?hg (N := 32) ?hd (xs := ([2, 1, 4, 0, 9] : List Int)) (inner := [.int .i64 2, .int .i64 1, .int .i64 4, .int .i64 0, .int .i64 9]) (ok := fun _ => True) (okp := fun _ => True) ?hr ?hp (fun _ hk => hk) trivial (Below.refl _ _) (Nat.le_refl _) (by simp) ?_; (case hd => rfl); (case hg => rfl); (case hr => first | (go_simp; done) | (go_simp; rfl)); (case hp => exact (Reps.one (show Kd.M (Kd.int .i64) _ _ _ 2 [.int .i64 2] from rfl) (Reps.one (show Kd.M (Kd.int .i64) _ _ _ 1 [.int .i64 1] from rfl) (Reps.one (show Kd.M (Kd.int .i64) _ _ _ 4 [.int .i64 4] from rfl) (Reps.one (show Kd.M (Kd.int .i64) _ _ _ 0 [.int .i64 0] from rfl) (Reps.one (show Kd.M (Kd.int .i64) _ _ _ 9 [.int .i64 9] from rfl) (Reps.none _ _))))))); intro v278 w40 ho41 hb hg_ hnew_; clear hg_ hnew_; (first | rw [← Ny277.out] at ho41 | (simp only [Int.reduceToNat] at ho41; rw [← Ny277.out] at ho41)); have n0_ := Aside0.mk (Kd.R_lower (Kd.R_newM (M := fun k_ => (w.heap.size ≤ k_)) ho41 (keep_size (w := w) (g := g) (row := none) (aH1 GW263.out)) (fun k_ h_ => h_)) (keep_size (w := w) (g := g) (row := none) (aH1 GW263.out))); have n1_ := Aside0.mk (blk_below (g := gb263) (o := .cells #[.int .i64 0, .int .i64 0, .string (⟨#[]⟩ : ByteArray), .slice none 0 0] 91 (0, 0)) (aW BK263.out) hb); have n2_ := Aside0.mk (IsS87.below (by repeat (first | (with_reducible first | exact HI0.out | apply IsS87.alloc | apply IsS87.drewN | apply IsS87.drew | apply IsS87.set_1 | refine IsS87.far ?_ NB0_263.out _) | exact HI0.out)) hb); have n3_ := Aside0.mk (KeepBut.trans (aH1 GW263.out) (KeepBut.of_below hb g none) (.inl rfl)); have n4_ := Aside0.mk (below_step (aB2 (IsS87.ge HI0.out) GE263.out) hb); clear BK263; clear HI0; clear HK; clear HB; have HO279 := n0_; have BK263 := n1_; have HI0 := n2_; have HK := n3_; have HB := n4_; clear n0_ n1_ n2_ n3_ n4_; clear hb ho41; obtain ⟨Ao42, co42, eo42⟩ := Kd.R_slice HO279.out; subst eo42) | ((with_reducible refine gate_callee (f := 63) rfl ?_); refine goesL_ (some 33) rfl rfl Try.func63 aK rfl #[.pointer (some ⟨g, 0, none⟩), .slice Ao42 y277.length co42] rfl aL ?_; (with_reducible refine (spec_l15Rd_num.calls kj32 g s0_0 t269 _ _ y277 t280 t281 w0 _ ?side1 ?side2 ?side3 ?side4 ?side5 A38.out).mono ?_); (case side1 => repeat (first | (with_reducible first | exact HI0.out | apply IsS87.alloc | apply IsS87.drewN | apply IsS87.drew | apply IsS87.set_1 | refine IsS87.far ?_ NB0_263.out _) | exact HI0.out)); (case side2 => repeat (first | (with_reducible first | exact HB.out | apply below_alloc | apply pw_below_drewN | apply below_drew1 | refine below_set ?_ (IsS87.ge HI0.out) | refine below_set ?_ GE263.out) | exact HB.out)); (case side3 => repeat (first | exact (Kd.R_reads' HO279.out).2.2 | (with_reducible refine Kd.C_alloc ?_ _) | (with_reducible refine Kd.C_drewN ?_ _) | (with_reducible refine Kd.C_drew ?_))); (case side4 => exact (Kd.R_reads' HO279.out).2.1); (case side5 => exact far_slice (IsS87.own_ne HI0.out HO279.out (by decide))); rintro e w43 ⟨rfl, hi, hb, hk⟩; refine ⟨_, rfl, ?_⟩; have n0_ := Aside0.mk (KeepBut.blk hk (g' := gb263) (o := .cells #[.int .i64 0, .int .i64 0, .string (⟨#[]⟩ : ByteArray), .slice none 0 0] 91 (0, 0)) (aW BK263.out) NB263_0.out (by simp)); have n1_ := Aside0.mk (Kd.R_mono (Kd.R_keep (IsS87.apart (show IsS87 w0 _ g s0_0 t269 from by repeat (first | (with_reducible first | exact HI0.out | apply IsS87.alloc | apply IsS87.drewN | apply IsS87.drew | apply IsS87.set_1 | refine IsS87.far ?_ NB0_263.out _) | exact HI0.out)) (aP HO279.out) (by decide)) hk (fun _ h => h.2)) (fun _ h => h.1)); have n2_ := Aside0.mk (KeepBut.trans (aH1 GW263.out) hk (.inl rfl)); have n3_ := Aside0.mk (hb); have n4_ := Aside0.mk (hi); clear BK263; clear HO279; clear HK; clear HB; clear HI0; have BK263 := n0_; have HO279 := n1_; have HK := n2_; have HB := n3_; have HI0 := n4_; clear n0_ n1_ n2_ n3_ n4_; (try clear hb); (try clear hb2); (try clear hk); (try clear hi)) | ((with_reducible refine gate_callee (f := 78) rfl ?_); refine goesL_ (some 37) rfl rfl Try.func78 aK rfl #[.pointer (some ⟨g, 0, none⟩), .int .i64 (wrap64 (a1 - 1))] rfl aL ?_; (with_reducible refine (ih kj32 (by have := HJ32.out; omega) g s0_0 t281 (wrap64 (a1 - 1)) t282 t283 t284 t285 t288 w0 _ ?side1 ?side2 A39.out).mono ?_); (case side1 => repeat (first | (with_reducible first | exact HI0.out | apply IsS87.alloc | apply IsS87.drewN | apply IsS87.drew | apply IsS87.set_1 | refine IsS87.far ?_ NB0_263.out _) | exact HI0.out)); (case side2 => repeat (first | (with_reducible first | exact HB.out | apply below_alloc | apply pw_below_drewN | apply below_drew1 | refine below_set ?_ (IsS87.ge HI0.out) | refine below_set ?_ GE263.out) | exact HB.out)); rintro e w44 ⟨v286, rfl, ho0, hi, hb, hk⟩; refine ⟨_, rfl, ?_⟩; have n0_ := Aside0.mk (KeepBut.blk hk (g' := gb263) (o := .cells #[.int .i64 0, .int .i64 0, .string (⟨#[]⟩ : ByteArray), .slice none 0 0] 91 (0, 0)) (aW BK263.out) NB263_0.out (by simp)); have n1_ := Aside0.mk (Kd.R_mono (Kd.R_keep (IsS87.apart (show IsS87 w0 _ g s0_0 t281 from by repeat (first | (with_reducible first | exact HI0.out | apply IsS87.alloc | apply IsS87.drewN | apply IsS87.drew | apply IsS87.set_1 | refine IsS87.far ?_ NB0_263.out _) | exact HI0.out)) (aP HO279.out) (by decide)) hk (fun _ h => h.2)) (fun _ h => h.1)); have n2_ := Aside0.mk (Kd.N_lower (Kd.N_mono (ok' := fun k_ => (w.heap.size ≤ k_) ∧ some k_ ≠ (.slice Ao42 y277.length co42 : Value).ownBlock ∧ k_ ≠ gb263 ∧ k_ ≠ g) ho0 (fun k_ hk_ => ⟨(Nat.le_trans (keep_size (w := w) (g := g) (row := none) (aH1 GW263.out)) hk_), (Kd.fresh' (Kd.R_lt (aP HO279.out)) k_ hk_), (Kd.freshB (g := gb263) (o := .cells #[.int .i64 0, .int .i64 0, .string (⟨#[]⟩ : ByteArray), .slice none 0 0] 91 (0, 0)) (aW BK263.out) k_ hk_), (IsS87.fresh (by repeat (first | (with_reducible first | exact HI0.out | apply IsS87.alloc | apply IsS87.drewN | apply IsS87.drew | apply IsS87.set_1 | refine IsS87.far ?_ NB0_263.out _) | exact HI0.out)) k_ hk_)⟩)) (keep_size (w := w) (g := g) (row := none) (aH1 GW263.out))); have n3_ := Aside0.mk (KeepBut.trans (aH1 GW263.out) hk (.inl rfl)); have n4_ := Aside0.mk (hb); have n5_ := Aside0.mk (hi); clear BK263; clear HO279; clear HK; clear HB; clear HI0; have BK263 := n0_; have HO279 := n1_; have HO287 := n2_; have HK := n3_; have HB := n4_; have HI0 := n5_; clear n0_ n1_ n2_ n3_ n4_ n5_; (try clear hb); (try clear hb2); (try clear hk); (try clear hi); (try clear ho0); obtain ⟨Ao45, co45, eo45⟩ := Kd.N_slice HO287.out; subst eo45) | ((with_reducible refine gate_dst (N := 38) rfl ?_); refine Kd.N_lit k91 _ 91 ?hg (N' := 38) ?hd (xs := ([(⟨t282, t283, t284, t285⟩ : S91)] : List (S91))) (inner := [.int .i64 t282, .int .i64 t283, .string t284, .slice Ao45 t285.length co45]) (ok := (fun k_ => (w.heap.size ≤ k_) ∧ some k_ ≠ (.slice Ao42 y277.length co42 : Value).ownBlock ∧ k_ ≠ gb263 ∧ k_ ≠ g)) (okp := (fun k_ => (w.heap.size ≤ k_) ∧ some k_ ≠ (.slice Ao42 y277.length co42 : Value).ownBlock ∧ k_ ≠ gb263 ∧ k_ ≠ g)) ?hr ?hp (fun _ hk => hk) ((show ∀ k_, w44.heap.size ≤ k_ → (fun k_ => (w.heap.size ≤ k_) ∧ some k_ ≠ (.slice Ao42 y277.length co42 : Value).ownBlock ∧ k_ ≠ gb263 ∧ k_ ≠ g) k_ from fun k_ hk => ⟨(Nat.le_trans (keep_size (w := w) (g := g) (row := none) (aH1 GW263.out)) hk), Kd.fresh' (Kd.R_lt (aP HO279.out)) k_ hk, Kd.freshB (g := gb263) (o := .cells #[.int .i64 0, .int .i64 0, .string (⟨#[]⟩ : ByteArray), .slice none 0 0] 91 (0, 0)) (aW BK263.out) k_ hk, IsS87.fresh (by repeat (first | (with_reducible first | exact HI0.out | apply IsS87.alloc | apply IsS87.drewN | apply IsS87.drew | apply IsS87.set_1 | refine IsS87.far ?_ NB0_263.out _) | exact HI0.out)) k_ hk⟩) _ (Nat.le_refl _)) (Below.refl _ _) (Nat.le_refl _) (by simp) ?_; (case hd => rfl); (case hg => rfl); (case hr => first | (go_simp; done) | (go_simp; rfl)); (case hp => exact (Reps.c4 (show Kd.FK k91 _ _ (⟨t282, t283, t284, t285⟩ : S91) [.int .i64 t282, .int .i64 t283, .string t284, .slice Ao45 t285.length co45] from (k91_mkF _ _ (⟨t282, t283, t284, t285⟩ : S91) (Kd.N_reads' (Kd.N_mono (ok' := (fun k_ => (w.heap.size ≤ k_) ∧ some k_ ≠ (.slice Ao42 y277.length co42 : Value).ownBlock ∧ k_ ≠ gb263 ∧ k_ ≠ g)) (HO287.out) (fun k_ hk => ⟨hk.1, ⟨hk.2.1, ⟨hk.2.2.1, hk.2.2.2⟩⟩⟩))).2.1 (Kd.N_F (Kd.N_mono (ok' := (fun k_ => (w.heap.size ≤ k_) ∧ some k_ ≠ (.slice Ao42 y277.length co42 : Value).ownBlock ∧ k_ ≠ gb263 ∧ k_ ≠ g)) (HO287.out) (fun k_ hk => ⟨hk.1, ⟨hk.2.1, ⟨hk.2.2.1, hk.2.2.2⟩⟩⟩))))) (Reps.none _ _))); intro v290 w46 ho47 hb hg_ hnew_; clear hg_ hnew_; (first | rw [← Ny289.out] at ho47 | (simp only [Int.reduceToNat] at ho47; rw [← Ny289.out] at ho47)); have n0_ := Aside0.mk (Kd.R_below (aP HO279.out) hb); have n1_ := Aside0.mk (Kd.N_lower ho47 (keep_size (w := w) (g := g) (row := none) (aH1 GW263.out))); have n2_ := Aside0.mk (blk_below (g := gb263) (o := .cells #[.int .i64 0, .int .i64 0, .string (⟨#[]⟩ : ByteArray), .slice none 0 0] 91 (0, 0)) (aW BK263.out) hb); have n3_ := Aside0.mk (IsS87.below (by repeat (first | (with_reducible first | exact HI0.out | apply IsS87.alloc | apply IsS87.drewN | apply IsS87.drew | apply IsS87.set_1 | refine IsS87.far ?_ NB0_263.out _) | exact HI0.out)) hb); have n4_ := Aside0.mk (KeepBut.trans (aH1 GW263.out) (KeepBut.of_below hb g none) (.inl rfl)); have n5_ := Aside0.mk (below_step (aB2 (IsS87.ge HI0.out) GE263.out) hb); clear HO279; clear BK263; clear HI0; clear HK; clear HB; clear HO287; have HO279 := n0_; have HO291 := n1_; have BK263 := n2_; have HI0 := n3_; have HK := n4_; have HB := n5_; clear n0_ n1_ n2_ n3_ n4_ n5_; clear hb ho47; obtain ⟨Ao48, co48, eo48⟩ := Kd.N_slice HO291.out; subst eo48; have hnb49 := NB263_0.out; have hnc49 := NB0_263.out; have hcz50_0 : w46.cell? ⟨gb263, 0, none⟩ = some (.int .i64 0) := (blk_cell BK263.out 0).trans rfl; have hcz50_1 : w46.cell? ⟨gb263, 1, none⟩ = some (.int .i64 0) := (blk_cell BK263.out 1).trans rfl; have hcz50_2 : w46.cell? ⟨gb263, 2, none⟩ = some (.string (⟨#[]⟩ : ByteArray)) := (blk_cell BK263.out 2).trans rfl; have hcz50_3 : w46.cell? ⟨gb263, 3, none⟩ = some (.slice none 0 0) := (blk_cell BK263.out 3).trans rfl; have hfz50_0 := blk_frozen BK263.out 0; have hfz50_1 := blk_frozen BK263.out 1; have hfz50_2 := blk_frozen BK263.out 2; have hfz50_3 := blk_frozen BK263.out 3))
      refine bodyPost_ret (results_cell_row rfl _ _ gb263 91 #[.int .i64 6, .int .i64 t280, .string (⟨#[]⟩ : ByteArray), .slice Ao48 y289.length co48] (0, 0) _ rfl (by refine aW ?_; refine blk_put (cs := #[.int .i64 6, .int .i64 t280, .string (⟨#[]⟩ : ByteArray), .slice none 0 0]) ?_ 3 _ rfl; refine aW ?_; refine blk_put (cs := #[.int .i64 6, .int .i64 t280, .string (⟨#[]⟩ : ByteArray), .slice none 0 0]) ?_ 2 _ rfl; refine aW ?_; refine blk_put (cs := #[.int .i64 6, .int .i64 0, .string (⟨#[]⟩ : ByteArray), .slice none 0 0]) ?_ 1 _ rfl; refine aW ?_; refine blk_put (cs := #[.int .i64 0, .int .i64 0, .string (⟨#[]⟩ : ByteArray), .slice none 0 0]) ?_ 0 _ rfl; refine aW ?_; exact BK263.out) Try.underlying91 rfl aK) rfl ?_
      exact ⟨_, by first | rfl | (simp [errW_none, errW_some] <;> rfl) | (simp [*, errW_none, errW_some] <;> rfl), by (with_reducible repeat (first | apply Kd.N_alloc | apply Kd.N_drewN | apply Kd.N_drew)); exact Kd.N_mono (Kd.N_far (p := ⟨gb263, 3, none⟩) (Kd.N_far (p := ⟨gb263, 2, none⟩) (Kd.N_far (p := ⟨gb263, 1, none⟩) (Kd.N_far (p := ⟨gb263, 0, none⟩) (Kd.N_mono HO291.out (fun k_ hk => (⟨hk, hk.2.2.1⟩ : _ ∧ k_ ≠ gb263))) (fun _ hk => hk.2) (.int .i64 6)) (fun _ hk => hk.2) (.int .i64 t280)) (fun _ hk => hk.2) (.string (⟨#[]⟩ : ByteArray))) (fun _ hk => hk.2) (.slice Ao48 y289.length co48)) (fun _ hk => hk.1.1), by repeat (first | (with_reducible first | exact HI0.out | apply IsS87.alloc | apply IsS87.drewN | apply IsS87.drew | apply IsS87.set_1 | refine IsS87.far ?_ NB0_263.out _) | exact HI0.out), by repeat (first | (with_reducible first | exact HB.out | apply below_alloc | apply pw_below_drewN | apply below_drew1 | refine below_set ?_ (IsS87.ge HI0.out) | refine below_set ?_ GE263.out) | exact HB.out), by repeat (first | (with_reducible first | exact HK.out | apply KeepBut.set_ | apply keep_drewN | apply keep_drew | apply keep_alloc | refine keep_far ?_ GW263.out _) | exact HK.out)⟩
     ·replace c37 := Bool.eq_false_iff.mpr c37
      subst c37
      have H1 : (if t268 = 3 then (spec_l1Some.j2 kj32 a1 t268 (t268 == 3) s0_0 t269) else (if t268 = 4 then (spec_l1Some.j2 kj32 a1 t268 (t268 == 4) s0_0 t269) else (spec_l1Some.j2 kj32 a1 t268 (t268 == 5) s0_0 t269))) = some (r1, r2, r3, r4, r5) := by rw [if_neg (show ¬ (false = true) by decide)] at H; exact H
      clear H
      have H := H1
      clear H1
      have HC51 := Aside0.mk H
      clear H
      go_upto_if 40 with (fail)
      go_cut [40] (fun v40 wc => ∃ (kq : Nat) (x40_50 : Bool), v40 = .bool x40_50 ∧ Aside0 (spec_l1Some.j2 kq a1 t268 x40_50 s0_0 t269 = some (r1, r2, r3, r4, r5)) ∧ Aside0 (kq ≤ kj32) ∧ Aside0 (wc.heap[gb263]? = some (.cells #[.int .i64 0, .int .i64 0, .string (⟨#[]⟩ : ByteArray), (.slice none 0 0)] 91 (0, 0))) ∧ Aside0 (IsS87 w0 wc g s0_0 t269) ∧ Aside0 (KeepBut w wc g none) ∧ Aside0 (Below w0.heap.size w0 wc))
      case first =>
       have H := HC51.out
       clear HC51
       by_cases c52 : t268 = 3
       ·rw [if_pos c52] at H
        have c52b0 : (t268 == 3) = true := beq_iff_eq.mpr c52
        have c52b1 : (t268 != 3) = false := bne_eq_false_iff_eq.mpr c52
        clear c52
        (first | rw [c52b0] | (simp only [i64_w, i32_w]; rw [c52b0]) | skip)
        have H' := Aside0.mk H
        clear H
        go_wp2
        go_meet
        case rel => exact ⟨_, ((t268 == 3)), aR, H', ⟨by have := HJ32.out; first | omega | exact Nat.le_refl _⟩, ⟨by refine aW ?_; exact BK263.out⟩, ⟨by repeat (first | (with_reducible first | exact HI0.out | apply IsS87.alloc | apply IsS87.drewN | apply IsS87.drew | apply IsS87.set_1 | refine IsS87.far ?_ NB0_263.out _) | exact HI0.out)⟩, ⟨by repeat (first | (with_reducible first | exact HK.out | apply KeepBut.set_ | apply keep_drewN | apply keep_drew | apply keep_alloc | refine keep_far ?_ GW263.out _) | exact HK.out)⟩, ⟨by repeat (first | (with_reducible first | exact HB.out | apply below_alloc | apply pw_below_drewN | apply below_drew1 | refine below_set ?_ (IsS87.ge HI0.out) | refine below_set ?_ GE263.out) | exact HB.out)⟩⟩
       ·rw [if_neg c52] at H
        have c52b0 : (t268 == 3) = false := beq_eq_false_iff_ne.mpr c52
        have c52b1 : (t268 != 3) = true := bne_iff_ne.mpr c52
        (first | rw [c52b0] | (simp only [i64_w, i32_w]; rw [c52b0]) | skip)
        by_cases c53 : t268 = 4
        ·rw [if_pos c53] at H
         have c53b0 : (t268 == 4) = true := beq_iff_eq.mpr c53
         have c53b1 : (t268 != 4) = false := bne_eq_false_iff_eq.mpr c53
         clear c53
         have H' := Aside0.mk H
         clear H
         go_wp2
         go_meet
         case rel => exact ⟨_, ((t268 == 4)), aR, H', ⟨by have := HJ32.out; first | omega | exact Nat.le_refl _⟩, ⟨by refine aW ?_; exact BK263.out⟩, ⟨by repeat (first | (with_reducible first | exact HI0.out | apply IsS87.alloc | apply IsS87.drewN | apply IsS87.drew | apply IsS87.set_1 | refine IsS87.far ?_ NB0_263.out _) | exact HI0.out)⟩, ⟨by repeat (first | (with_reducible first | exact HK.out | apply KeepBut.set_ | apply keep_drewN | apply keep_drew | apply keep_alloc | refine keep_far ?_ GW263.out _) | exact HK.out)⟩, ⟨by repeat (first | (with_reducible first | exact HB.out | apply below_alloc | apply pw_below_drewN | apply below_drew1 | refine below_set ?_ (IsS87.ge HI0.out) | refine below_set ?_ GE263.out) | exact HB.out)⟩⟩
        ·rw [if_neg c53] at H
         have c53b0 : (t268 == 4) = false := beq_eq_false_iff_ne.mpr c53
         have c53b1 : (t268 != 4) = true := bne_iff_ne.mpr c53
         have H' := Aside0.mk H
         clear H
         go_wp2
         go_meet
         case rel => exact ⟨_, ((t268 == 5)), aR, H', ⟨by have := HJ32.out; first | omega | exact Nat.le_refl _⟩, ⟨by refine aW ?_; exact BK263.out⟩, ⟨by repeat (first | (with_reducible first | exact HI0.out | apply IsS87.alloc | apply IsS87.drewN | apply IsS87.drew | apply IsS87.set_1 | refine IsS87.far ?_ NB0_263.out _) | exact HI0.out)⟩, ⟨by repeat (first | (with_reducible first | exact HK.out | apply KeepBut.set_ | apply keep_drewN | apply keep_drew | apply keep_alloc | refine keep_far ?_ GW263.out _) | exact HK.out)⟩, ⟨by repeat (first | (with_reducible first | exact HB.out | apply below_alloc | apply pw_below_drewN | apply below_drew1 | refine below_set ?_ (IsS87.ge HI0.out) | refine below_set ?_ GE263.out) | exact HB.out)⟩⟩
      case rest =>
       clear HC51
       try clear c1
       try clear c2
       try clear p2
       try clear c3
       try clear c3b0
       try clear c3b1
       try clear c4
       try clear c5
       try clear c5b0
       try clear c5b1
       try clear c6
       try clear p6
       try clear c7
       try clear c8
       try clear c9
       try clear c13
       try clear c13b0
       try clear c13b1
       try clear c14
       try clear c15
       try clear c17
       try clear c17b0
       try clear c17b1
       try clear c18
       try clear c22
       try clear c25
       try clear c25b0
       try clear c25b1
       try clear c30
       try clear c36
       try clear c36b0
       try clear c36b1
       try clear c37
       try clear c49
       try clear c52
       try clear c52b0
       try clear c52b1
       try clear c53
       try clear c53b0
       try clear c53b1
       try clear hcz16_0
       try clear hcz16_1
       try clear hcz16_2
       try clear hcz16_3
       try clear hcz19_0
       try clear hcz19_1
       try clear hcz19_2
       try clear hcz19_3
       try clear hcz23_0
       try clear hcz23_1
       try clear hcz23_2
       try clear hcz23_3
       try clear hcz31_0
       try clear hcz31_1
       try clear hcz31_2
       try clear hcz31_3
       try clear hcz50_0
       try clear hcz50_1
       try clear hcz50_2
       try clear hcz50_3
       try clear hcz9_0
       try clear hcz9_1
       try clear hcz9_2
       try clear hcz9_3
       try clear hfz16_0
       try clear hfz16_1
       try clear hfz16_2
       try clear hfz16_3
       try clear hfz19_0
       try clear hfz19_1
       try clear hfz19_2
       try clear hfz19_3
       try clear hfz23_0
       try clear hfz23_1
       try clear hfz23_2
       try clear hfz23_3
       try clear hfz31_0
       try clear hfz31_1
       try clear hfz31_2
       try clear hfz31_3
       try clear hfz50_0
       try clear hfz50_1
       try clear hfz50_2
       try clear hfz50_3
       try clear hfz9_0
       try clear hfz9_1
       try clear hfz9_2
       try clear hfz9_3
       try clear p2
       obtain ⟨kq, x40_50, rfl, HA, HJ50, BK263, HI0, HK, HB⟩ := hcut
       cases kq with
       | zero => exact absurd HA.out (by simp [spec_l1Some.j2])
       | succ kj50 =>
        have H := HA.out
        clear HA
        simp only [spec_l1Some.j2] at H
        by_cases c54 : x40_50 = true
        ·subst c54
         have H1 : ((spec_l1Some.f kj50 s0_0 t269 (wrap64 (a1 - 1))).bind fun bt292 => (some (8, 0, (⟨#[]⟩ : ByteArray), (([(⟨bt292.1, bt292.2.1, bt292.2.2.1, bt292.2.2.2.1⟩ : S91)] : List (S91))), bt292.2.2.2.2))) = some (r1, r2, r3, r4, r5) := by rw [if_pos rfl] at H; exact H
         clear H
         have H := H1
         clear H1
         replace H := Option.bind_eq_some_iff.mp H
         obtain ⟨⟨t292, t293, t294, t295, t298⟩, A550, H⟩ := H
         replace H : (some (8, 0, (⟨#[]⟩ : ByteArray), (([(⟨t292, t293, t294, t295⟩ : S91)] : List (S91))), t298)) = some (r1, r2, r3, r4, r5) := H
         have A55 := Aside0.mk A550
         clear A550
         obtain ⟨y299, hy299⟩ : ∃ y_ : List (S91), y_ = (([(⟨t292, t293, t294, t295⟩ : S91)] : List (S91))) := ⟨_, rfl⟩
         replace H : (some (8, 0, (⟨#[]⟩ : ByteArray), y299, t298)) = some (r1, r2, r3, r4, r5) := by first | (rw [hy299]; with_reducible exact H) | (have H2_ := (Option.bind_some _ _).symm.trans H; rw [hy299]; with_reducible exact H2_) | (have H2_ := (Option.bind_some _ _).symm.trans H; with_reducible exact H2_) | with_reducible exact H | (rw [hy299]; exact H) | exact H
         have Ny299 := Aside0.mk hy299
         clear hy299
         simp only [Option.some.injEq, Prod.mk.injEq] at H
         obtain ⟨rfl, rfl, rfl, rfl, rfl⟩ := H
         go_wp2_with (first | ((with_reducible refine gate_callee (f := 78) rfl ?_); refine goesL_ (some 47) rfl rfl Try.func78 aK rfl #[.pointer (some ⟨g, 0, none⟩), .int .i64 (wrap64 (a1 - 1))] rfl aL ?_; (with_reducible refine (ih kj50 (by have := HJ32.out; have := HJ50.out; omega) g s0_0 t269 (wrap64 (a1 - 1)) t292 t293 t294 t295 t298 w0 _ ?side1 ?side2 A55.out).mono ?_); (case side1 => repeat (first | (with_reducible first | exact HI0.out | apply IsS87.alloc | apply IsS87.drewN | apply IsS87.drew | apply IsS87.set_1 | refine IsS87.far ?_ NB0_263.out _) | exact HI0.out)); (case side2 => repeat (first | (with_reducible first | exact HB.out | apply below_alloc | apply pw_below_drewN | apply below_drew1 | refine below_set ?_ (IsS87.ge HI0.out) | refine below_set ?_ GE263.out) | exact HB.out)); rintro e w56 ⟨v296, rfl, ho0, hi, hb, hk⟩; refine ⟨_, rfl, ?_⟩; have n0_ := Aside0.mk (KeepBut.blk hk (g' := gb263) (o := .cells #[.int .i64 0, .int .i64 0, .string (⟨#[]⟩ : ByteArray), .slice none 0 0] 91 (0, 0)) (aW BK263.out) NB263_0.out (by simp)); have n1_ := Aside0.mk (Kd.N_lower (Kd.N_mono (ok' := fun k_ => (w.heap.size ≤ k_) ∧ k_ ≠ gb263 ∧ k_ ≠ g) ho0 (fun k_ hk_ => ⟨(Nat.le_trans (keep_size (w := w) (g := g) (row := none) (aH1 GW263.out)) hk_), (Kd.freshB (g := gb263) (o := .cells #[.int .i64 0, .int .i64 0, .string (⟨#[]⟩ : ByteArray), .slice none 0 0] 91 (0, 0)) (aW BK263.out) k_ hk_), (IsS87.fresh (by repeat (first | (with_reducible first | exact HI0.out | apply IsS87.alloc | apply IsS87.drewN | apply IsS87.drew | apply IsS87.set_1 | refine IsS87.far ?_ NB0_263.out _) | exact HI0.out)) k_ hk_)⟩)) (keep_size (w := w) (g := g) (row := none) (aH1 GW263.out))); have n2_ := Aside0.mk (KeepBut.trans (aH1 GW263.out) hk (.inl rfl)); have n3_ := Aside0.mk (hb); have n4_ := Aside0.mk (hi); clear BK263; clear HK; clear HB; clear HI0; have BK263 := n0_; have HO297 := n1_; have HK := n2_; have HB := n3_; have HI0 := n4_; clear n0_ n1_ n2_ n3_ n4_; (try clear hb); (try clear hb2); (try clear hk); (try clear hi); (try clear ho0); obtain ⟨Ao57, co57, eo57⟩ := Kd.N_slice HO297.out; subst eo57) | ((with_reducible refine gate_dst (N := 48) rfl ?_); refine Kd.N_lit k91 _ 91 ?hg (N' := 48) ?hd (xs := ([(⟨t292, t293, t294, t295⟩ : S91)] : List (S91))) (inner := [.int .i64 t292, .int .i64 t293, .string t294, .slice Ao57 t295.length co57]) (ok := (fun k_ => (w.heap.size ≤ k_) ∧ k_ ≠ gb263 ∧ k_ ≠ g)) (okp := (fun k_ => (w.heap.size ≤ k_) ∧ k_ ≠ gb263 ∧ k_ ≠ g)) ?hr ?hp (fun _ hk => hk) ((show ∀ k_, w56.heap.size ≤ k_ → (fun k_ => (w.heap.size ≤ k_) ∧ k_ ≠ gb263 ∧ k_ ≠ g) k_ from fun k_ hk => ⟨(Nat.le_trans (keep_size (w := w) (g := g) (row := none) (aH1 GW263.out)) hk), Kd.freshB (g := gb263) (o := .cells #[.int .i64 0, .int .i64 0, .string (⟨#[]⟩ : ByteArray), .slice none 0 0] 91 (0, 0)) (aW BK263.out) k_ hk, IsS87.fresh (by repeat (first | (with_reducible first | exact HI0.out | apply IsS87.alloc | apply IsS87.drewN | apply IsS87.drew | apply IsS87.set_1 | refine IsS87.far ?_ NB0_263.out _) | exact HI0.out)) k_ hk⟩) _ (Nat.le_refl _)) (Below.refl _ _) (Nat.le_refl _) (by simp) ?_; (case hd => rfl); (case hg => rfl); (case hr => first | (go_simp; done) | (go_simp; rfl)); (case hp => exact (Reps.c4 (show Kd.FK k91 _ _ (⟨t292, t293, t294, t295⟩ : S91) [.int .i64 t292, .int .i64 t293, .string t294, .slice Ao57 t295.length co57] from (k91_mkF _ _ (⟨t292, t293, t294, t295⟩ : S91) (Kd.N_reads' (Kd.N_mono (ok' := (fun k_ => (w.heap.size ≤ k_) ∧ k_ ≠ gb263 ∧ k_ ≠ g)) (HO297.out) (fun k_ hk => ⟨hk.1, ⟨hk.2.1, hk.2.2⟩⟩))).2.1 (Kd.N_F (Kd.N_mono (ok' := (fun k_ => (w.heap.size ≤ k_) ∧ k_ ≠ gb263 ∧ k_ ≠ g)) (HO297.out) (fun k_ hk => ⟨hk.1, ⟨hk.2.1, hk.2.2⟩⟩))))) (Reps.none _ _))); intro v300 w58 ho59 hb hg_ hnew_; clear hg_ hnew_; (first | rw [← Ny299.out] at ho59 | (simp only [Int.reduceToNat] at ho59; rw [← Ny299.out] at ho59)); have n0_ := Aside0.mk (Kd.N_lower ho59 (keep_size (w := w) (g := g) (row := none) (aH1 GW263.out))); have n1_ := Aside0.mk (blk_below (g := gb263) (o := .cells #[.int .i64 0, .int .i64 0, .string (⟨#[]⟩ : ByteArray), .slice none 0 0] 91 (0, 0)) (aW BK263.out) hb); have n2_ := Aside0.mk (IsS87.below (by repeat (first | (with_reducible first | exact HI0.out | apply IsS87.alloc | apply IsS87.drewN | apply IsS87.drew | apply IsS87.set_1 | refine IsS87.far ?_ NB0_263.out _) | exact HI0.out)) hb); have n3_ := Aside0.mk (KeepBut.trans (aH1 GW263.out) (KeepBut.of_below hb g none) (.inl rfl)); have n4_ := Aside0.mk (below_step (aB2 (IsS87.ge HI0.out) GE263.out) hb); clear BK263; clear HI0; clear HK; clear HB; clear HO297; have HO301 := n0_; have BK263 := n1_; have HI0 := n2_; have HK := n3_; have HB := n4_; clear n0_ n1_ n2_ n3_ n4_; clear hb ho59; obtain ⟨Ao60, co60, eo60⟩ := Kd.N_slice HO301.out; subst eo60; have hnb61 := NB263_0.out; have hnc61 := NB0_263.out; have hcz62_0 : w58.cell? ⟨gb263, 0, none⟩ = some (.int .i64 0) := (blk_cell BK263.out 0).trans rfl; have hcz62_1 : w58.cell? ⟨gb263, 1, none⟩ = some (.int .i64 0) := (blk_cell BK263.out 1).trans rfl; have hcz62_2 : w58.cell? ⟨gb263, 2, none⟩ = some (.string (⟨#[]⟩ : ByteArray)) := (blk_cell BK263.out 2).trans rfl; have hcz62_3 : w58.cell? ⟨gb263, 3, none⟩ = some (.slice none 0 0) := (blk_cell BK263.out 3).trans rfl; have hfz62_0 := blk_frozen BK263.out 0; have hfz62_1 := blk_frozen BK263.out 1; have hfz62_2 := blk_frozen BK263.out 2; have hfz62_3 := blk_frozen BK263.out 3))
         refine bodyPost_ret (results_cell_row rfl _ _ gb263 91 #[.int .i64 8, .int .i64 0, .string (⟨#[]⟩ : ByteArray), .slice Ao60 y299.length co60] (0, 0) _ rfl (by refine aW ?_; refine blk_put (cs := #[.int .i64 8, .int .i64 0, .string (⟨#[]⟩ : ByteArray), .slice none 0 0]) ?_ 3 _ rfl; refine aW ?_; refine blk_put (cs := #[.int .i64 8, .int .i64 0, .string (⟨#[]⟩ : ByteArray), .slice none 0 0]) ?_ 2 _ rfl; refine aW ?_; refine blk_put (cs := #[.int .i64 8, .int .i64 0, .string (⟨#[]⟩ : ByteArray), .slice none 0 0]) ?_ 1 _ rfl; refine aW ?_; refine blk_put (cs := #[.int .i64 0, .int .i64 0, .string (⟨#[]⟩ : ByteArray), .slice none 0 0]) ?_ 0 _ rfl; refine aW ?_; exact BK263.out) Try.underlying91 rfl aK) rfl ?_
         exact ⟨_, by first | rfl | (simp [errW_none, errW_some] <;> rfl) | (simp [*, errW_none, errW_some] <;> rfl), by (with_reducible repeat (first | apply Kd.N_alloc | apply Kd.N_drewN | apply Kd.N_drew)); exact Kd.N_mono (Kd.N_far (p := ⟨gb263, 3, none⟩) (Kd.N_far (p := ⟨gb263, 2, none⟩) (Kd.N_far (p := ⟨gb263, 1, none⟩) (Kd.N_far (p := ⟨gb263, 0, none⟩) (Kd.N_mono HO301.out (fun k_ hk => (⟨hk, hk.2.1⟩ : _ ∧ k_ ≠ gb263))) (fun _ hk => hk.2) (.int .i64 8)) (fun _ hk => hk.2) (.int .i64 0)) (fun _ hk => hk.2) (.string (⟨#[]⟩ : ByteArray))) (fun _ hk => hk.2) (.slice Ao60 y299.length co60)) (fun _ hk => hk.1.1), by repeat (first | (with_reducible first | exact HI0.out | apply IsS87.alloc | apply IsS87.drewN | apply IsS87.drew | apply IsS87.set_1 | refine IsS87.far ?_ NB0_263.out _) | exact HI0.out), by repeat (first | (with_reducible first | exact HB.out | apply below_alloc | apply pw_below_drewN | apply below_drew1 | refine below_set ?_ (IsS87.ge HI0.out) | refine below_set ?_ GE263.out) | exact HB.out), by repeat (first | (with_reducible first | exact HK.out | apply KeepBut.set_ | apply keep_drewN | apply keep_drew | apply keep_alloc | refine keep_far ?_ GW263.out _) | exact HK.out)⟩
        ·replace c54 := Bool.eq_false_iff.mpr c54
         subst c54
         have H1 : (if t268 = 6 then ((spec_l15Rd_pick.f kj50 s0_0 t269 3).bind fun bt302 => (if bt302.1 = 0 then ((spec_l1Some.f kj50 s0_0 bt302.2 (wrap64 (a1 - 1))).bind fun bt304 => ((spec_l1Some.f kj50 s0_0 bt304.2.2.2.2 0).bind fun bt311 => ((spec_l1Cat.f 5 0 (⟨#[]⟩ : ByteArray) ([] : List (S91)) bt311.1 bt311.2.1 bt311.2.2.1 bt311.2.2.2.1).bind fun bt318 => ((spec_l1Cat.f bt304.1 bt304.2.1 bt304.2.2.1 bt304.2.2.2.1 bt318.1 bt318.2.1 bt318.2.2.1 bt318.2.2.2).bind fun bt324 => (some (bt324.1, bt324.2.1, bt324.2.2.1, bt324.2.2.2, bt311.2.2.2.2)))))) else ((spec_l1Some.f kj50 s0_0 bt302.2 (wrap64 (a1 - 1))).bind fun bt330 => ((spec_l1Some.f kj50 s0_0 bt330.2.2.2.2 0).bind fun bt337 => ((spec_l1Cat.f 3 0 (⟨#[]⟩ : ByteArray) ([] : List (S91)) bt337.1 bt337.2.1 bt337.2.2.1 bt337.2.2.2.1).bind fun bt344 => ((spec_l1Cat.f bt330.1 bt330.2.1 bt330.2.2.1 bt330.2.2.2.1 bt344.1 bt344.2.1 bt344.2.2.1 bt344.2.2.2).bind fun bt350 => (some (bt350.1, bt350.2.1, bt350.2.2.1, bt350.2.2.2, bt337.2.2.2.2)))))))) else ((spec_l1Some.f kj50 s0_0 t269 (wrap64 (a1 - 1))).bind fun bt356 => ((spec_l1Some.f kj50 s0_0 bt356.2.2.2.2 (wrap64 (a1 - 1))).bind fun bt363 => ((spec_l1Cat.f bt356.1 bt356.2.1 bt356.2.2.1 bt356.2.2.2.1 bt363.1 bt363.2.1 bt363.2.2.1 bt363.2.2.2.1).bind fun bt370 => (some (bt370.1, bt370.2.1, bt370.2.2.1, bt370.2.2.2, bt363.2.2.2.2)))))) = some (r1, r2, r3, r4, r5) := by rw [if_neg (show ¬ (false = true) by decide)] at H; exact H
         clear H
         have H := H1
         clear H1
         by_cases c63 : t268 = 6
         ·rw [if_pos c63] at H
          have c63b0 : (t268 == 6) = true := beq_iff_eq.mpr c63
          have c63b1 : (t268 != 6) = false := bne_eq_false_iff_eq.mpr c63
          clear c63
          replace H := Option.bind_eq_some_iff.mp H
          obtain ⟨⟨t302, t303⟩, A640, H⟩ := H
          replace H : (if t302 = 0 then ((spec_l1Some.f kj50 s0_0 t303 (wrap64 (a1 - 1))).bind fun bt304 => ((spec_l1Some.f kj50 s0_0 bt304.2.2.2.2 0).bind fun bt311 => ((spec_l1Cat.f 5 0 (⟨#[]⟩ : ByteArray) ([] : List (S91)) bt311.1 bt311.2.1 bt311.2.2.1 bt311.2.2.2.1).bind fun bt318 => ((spec_l1Cat.f bt304.1 bt304.2.1 bt304.2.2.1 bt304.2.2.2.1 bt318.1 bt318.2.1 bt318.2.2.1 bt318.2.2.2).bind fun bt324 => (some (bt324.1, bt324.2.1, bt324.2.2.1, bt324.2.2.2, bt311.2.2.2.2)))))) else ((spec_l1Some.f kj50 s0_0 t303 (wrap64 (a1 - 1))).bind fun bt330 => ((spec_l1Some.f kj50 s0_0 bt330.2.2.2.2 0).bind fun bt337 => ((spec_l1Cat.f 3 0 (⟨#[]⟩ : ByteArray) ([] : List (S91)) bt337.1 bt337.2.1 bt337.2.2.1 bt337.2.2.2.1).bind fun bt344 => ((spec_l1Cat.f bt330.1 bt330.2.1 bt330.2.2.1 bt330.2.2.2.1 bt344.1 bt344.2.1 bt344.2.2.1 bt344.2.2.2).bind fun bt350 => (some (bt350.1, bt350.2.1, bt350.2.2.1, bt350.2.2.2, bt337.2.2.2.2))))))) = some (r1, r2, r3, r4, r5) := H
          have A64 := Aside0.mk A640
          clear A640
          by_cases c65 : t302 = 0
          ·rw [if_pos c65] at H
           have c65b0 : (t302 == 0) = true := beq_iff_eq.mpr c65
           have c65b1 : (t302 != 0) = false := bne_eq_false_iff_eq.mpr c65
           clear c65
           replace H := Option.bind_eq_some_iff.mp H
           obtain ⟨⟨t304, t305, t306, t307, t310⟩, A660, H⟩ := H
           replace H : ((spec_l1Some.f kj50 s0_0 t310 0).bind fun bt311 => ((spec_l1Cat.f 5 0 (⟨#[]⟩ : ByteArray) ([] : List (S91)) bt311.1 bt311.2.1 bt311.2.2.1 bt311.2.2.2.1).bind fun bt318 => ((spec_l1Cat.f t304 t305 t306 t307 bt318.1 bt318.2.1 bt318.2.2.1 bt318.2.2.2).bind fun bt324 => (some (bt324.1, bt324.2.1, bt324.2.2.1, bt324.2.2.2, bt311.2.2.2.2))))) = some (r1, r2, r3, r4, r5) := H
           have A66 := Aside0.mk A660
           clear A660
           replace H := Option.bind_eq_some_iff.mp H
           obtain ⟨⟨t311, t312, t313, t314, t317⟩, A670, H⟩ := H
           replace H : ((spec_l1Cat.f 5 0 (⟨#[]⟩ : ByteArray) ([] : List (S91)) t311 t312 t313 t314).bind fun bt318 => ((spec_l1Cat.f t304 t305 t306 t307 bt318.1 bt318.2.1 bt318.2.2.1 bt318.2.2.2).bind fun bt324 => (some (bt324.1, bt324.2.1, bt324.2.2.1, bt324.2.2.2, t317)))) = some (r1, r2, r3, r4, r5) := H
           have A67 := Aside0.mk A670
           clear A670
           replace H := Option.bind_eq_some_iff.mp H
           obtain ⟨⟨t318, t319, t320, t321⟩, A680, H⟩ := H
           replace H : ((spec_l1Cat.f t304 t305 t306 t307 t318 t319 t320 t321).bind fun bt324 => (some (bt324.1, bt324.2.1, bt324.2.2.1, bt324.2.2.2, t317))) = some (r1, r2, r3, r4, r5) := H
           have A68 := Aside0.mk A680
           clear A680
           replace H := Option.bind_eq_some_iff.mp H
           obtain ⟨⟨t324, t325, t326, t327⟩, A690, H⟩ := H
           replace H : (some (t324, t325, t326, t327, t317)) = some (r1, r2, r3, r4, r5) := H
           have A69 := Aside0.mk A690
           clear A690
           simp only [Option.some.injEq, Prod.mk.injEq] at H
           obtain ⟨rfl, rfl, rfl, rfl, rfl⟩ := H
           go_wp2_with (first | ((with_reducible refine gate_callee (f := 79) rfl ?_); refine goesL_ (some 53) rfl rfl Try.func79 aK rfl #[.pointer (some ⟨g, 0, none⟩), .int .i64 3] rfl aL ?_; (with_reducible refine (spec_l15Rd_pick.calls kj50 g s0_0 t269 3 t302 t303 w0 _ ?side1 ?side2 A64.out).mono ?_); (case side1 => repeat (first | (with_reducible first | exact HI0.out | apply IsS87.alloc | apply IsS87.drewN | apply IsS87.drew | apply IsS87.set_1 | refine IsS87.far ?_ NB0_263.out _) | exact HI0.out)); (case side2 => repeat (first | (with_reducible first | exact HB.out | apply below_alloc | apply pw_below_drewN | apply below_drew1 | refine below_set ?_ (IsS87.ge HI0.out) | refine below_set ?_ GE263.out) | exact HB.out)); rintro e w70 ⟨rfl, hi, hb, hk⟩; refine ⟨_, rfl, ?_⟩; have n0_ := Aside0.mk (KeepBut.blk hk (g' := gb263) (o := .cells #[.int .i64 0, .int .i64 0, .string (⟨#[]⟩ : ByteArray), .slice none 0 0] 91 (0, 0)) (aW BK263.out) NB263_0.out (by simp)); have n1_ := Aside0.mk (KeepBut.trans (aH1 GW263.out) hk (.inl rfl)); have n2_ := Aside0.mk (hb); have n3_ := Aside0.mk (hi); clear BK263; clear HK; clear HB; clear HI0; have BK263 := n0_; have HK := n1_; have HB := n2_; have HI0 := n3_; clear n0_ n1_ n2_ n3_; (try clear hb); (try clear hb2); (try clear hk); (try clear hi)) | ((with_reducible refine gate_callee (f := 78) rfl ?_); refine goesL_ (some 58) rfl rfl Try.func78 aK rfl #[.pointer (some ⟨g, 0, none⟩), .int .i64 (wrap64 (a1 - 1))] rfl aL ?_; (with_reducible refine (ih kj50 (by have := HJ32.out; have := HJ50.out; omega) g s0_0 t303 (wrap64 (a1 - 1)) t304 t305 t306 t307 t310 w0 _ ?side1 ?side2 A66.out).mono ?_); (case side1 => repeat (first | (with_reducible first | exact HI0.out | apply IsS87.alloc | apply IsS87.drewN | apply IsS87.drew | apply IsS87.set_1 | refine IsS87.far ?_ NB0_263.out _) | exact HI0.out)); (case side2 => repeat (first | (with_reducible first | exact HB.out | apply below_alloc | apply pw_below_drewN | apply below_drew1 | refine below_set ?_ (IsS87.ge HI0.out) | refine below_set ?_ GE263.out) | exact HB.out)); rintro e w71 ⟨v308, rfl, ho0, hi, hb, hk⟩; refine ⟨_, rfl, ?_⟩; have n0_ := Aside0.mk (KeepBut.blk hk (g' := gb263) (o := .cells #[.int .i64 0, .int .i64 0, .string (⟨#[]⟩ : ByteArray), .slice none 0 0] 91 (0, 0)) (aW BK263.out) NB263_0.out (by simp)); have n1_ := Aside0.mk (Kd.N_lower (Kd.N_mono (ok' := fun k_ => (w.heap.size ≤ k_) ∧ k_ ≠ gb263 ∧ k_ ≠ g) ho0 (fun k_ hk_ => ⟨(Nat.le_trans (keep_size (w := w) (g := g) (row := none) (aH1 GW263.out)) hk_), (Kd.freshB (g := gb263) (o := .cells #[.int .i64 0, .int .i64 0, .string (⟨#[]⟩ : ByteArray), .slice none 0 0] 91 (0, 0)) (aW BK263.out) k_ hk_), (IsS87.fresh (by repeat (first | (with_reducible first | exact HI0.out | apply IsS87.alloc | apply IsS87.drewN | apply IsS87.drew | apply IsS87.set_1 | refine IsS87.far ?_ NB0_263.out _) | exact HI0.out)) k_ hk_)⟩)) (keep_size (w := w) (g := g) (row := none) (aH1 GW263.out))); have n2_ := Aside0.mk (KeepBut.trans (aH1 GW263.out) hk (.inl rfl)); have n3_ := Aside0.mk (hb); have n4_ := Aside0.mk (hi); clear BK263; clear HK; clear HB; clear HI0; have BK263 := n0_; have HO309 := n1_; have HK := n2_; have HB := n3_; have HI0 := n4_; clear n0_ n1_ n2_ n3_ n4_; (try clear hb); (try clear hb2); (try clear hk); (try clear hi); (try clear ho0)) | ((with_reducible refine gate_callee (f := 78) rfl ?_); refine goesL_ (some 61) rfl rfl Try.func78 aK rfl #[.pointer (some ⟨g, 0, none⟩), .int .i64 0] rfl aL ?_; (with_reducible refine (ih kj50 (by have := HJ32.out; have := HJ50.out; omega) g s0_0 t310 0 t311 t312 t313 t314 t317 w0 _ ?side1 ?side2 A67.out).mono ?_); (case side1 => repeat (first | (with_reducible first | exact HI0.out | apply IsS87.alloc | apply IsS87.drewN | apply IsS87.drew | apply IsS87.set_1 | refine IsS87.far ?_ NB0_263.out _) | exact HI0.out)); (case side2 => repeat (first | (with_reducible first | exact HB.out | apply below_alloc | apply pw_below_drewN | apply below_drew1 | refine below_set ?_ (IsS87.ge HI0.out) | refine below_set ?_ GE263.out) | exact HB.out)); rintro e w72 ⟨v315, rfl, ho0, hi, hb, hk⟩; refine ⟨_, rfl, ?_⟩; have n0_ := Aside0.mk (KeepBut.blk hk (g' := gb263) (o := .cells #[.int .i64 0, .int .i64 0, .string (⟨#[]⟩ : ByteArray), .slice none 0 0] 91 (0, 0)) (aW BK263.out) NB263_0.out (by simp)); have n1_ := Aside0.mk (Kd.N_mono (Kd.N_told (Kd.N_oldK (Kd.N_mono (ok := fun k_ => (((w.heap.size ≤ k_)) ∧ (k_ ≠ gb263 ∧ k_ ≠ g))) (aN HO309.out) (fun k_ hk_ => (⟨hk_, hk_.2.2⟩ : _ ∧ k_ ≠ g))) hk) (Kd.N_base ho0)) (fun _ h_ => h_.1)); have n2_ := Aside0.mk (Kd.N_lower (Kd.N_mono (ok' := fun k_ => (w.heap.size ≤ k_) ∧ some k_ ≠ (v308 : Value).ownBlock ∧ k_ ≠ gb263 ∧ k_ ≠ g) ho0 (fun k_ hk_ => ⟨(Nat.le_trans (keep_size (w := w) (g := g) (row := none) (aH1 GW263.out)) hk_), (Kd.fresh' (Kd.N_lt (aN HO309.out)) k_ hk_), (Kd.freshB (g := gb263) (o := .cells #[.int .i64 0, .int .i64 0, .string (⟨#[]⟩ : ByteArray), .slice none 0 0] 91 (0, 0)) (aW BK263.out) k_ hk_), (IsS87.fresh (by repeat (first | (with_reducible first | exact HI0.out | apply IsS87.alloc | apply IsS87.drewN | apply IsS87.drew | apply IsS87.set_1 | refine IsS87.far ?_ NB0_263.out _) | exact HI0.out)) k_ hk_)⟩)) (keep_size (w := w) (g := g) (row := none) (aH1 GW263.out))); have n3_ := Aside0.mk (KeepBut.trans (aH1 GW263.out) hk (.inl rfl)); have n4_ := Aside0.mk (hb); have n5_ := Aside0.mk (hi); clear BK263; clear HO309; clear HK; clear HB; clear HI0; have BK263 := n0_; have HO309 := n1_; have HO316 := n2_; have HK := n3_; have HB := n4_; have HI0 := n5_; clear n0_ n1_ n2_ n3_ n4_ n5_; (try clear hb); (try clear hb2); (try clear hk); (try clear hi); (try clear ho0); obtain ⟨Ao73, co73, eo73⟩ := Kd.N_slice HO316.out; subst eo73) | ((with_reducible refine gate_callee (f := 93) rfl ?_); refine goesL_ (some 62) rfl rfl Try.func93 aK rfl #[.agg #[.int .i64 5, .int .i64 0, .string (⟨#[]⟩ : ByteArray), .slice none 0 0], .agg #[.int .i64 t311, .int .i64 t312, .string t313, .slice Ao73 t314.length co73]] rfl aL ?_; (refine (spec_l1Cat.calls 5 0 (⟨#[]⟩ : ByteArray) (fun k_ => False) _ _ ([] : List (S91)) t311 t312 t313 (fun k_ => ((w.heap.size ≤ k_) ∧ (some k_ ≠ (v308 : Value).ownBlock ∧ (k_ ≠ gb263 ∧ k_ ≠ g)))) _ _ t314 t318 t319 t320 t321 _ ?side1 ?side2 A68.out).mono ?_); (case side1 => exact Kd.V_nil _ _ _ _ _); (case side2 => exact Kd.N_V (HO316.out)); rintro e w74 ⟨v322, rfl, ho0, hb⟩; refine ⟨_, rfl, ?_⟩; have n0_ := Aside0.mk (Kd.N_elder' (aN HO309.out) (Kd.N_base ho0) hb); have n1_ := Aside0.mk (Kd.N_elder' (aN HO316.out) (Kd.N_base ho0) hb); have n2_ := Aside0.mk (Kd.N_lower (Kd.N_mono (ok' := fun k_ => (w.heap.size ≤ k_) ∧ some k_ ≠ (v308 : Value).ownBlock ∧ k_ ≠ gb263 ∧ k_ ≠ g) ho0 (fun k_ hk_ => ⟨Or.elim hk_ (fun hs_ => Or.elim hs_ (fun hs_ => (hs_).elim) (fun hs_ => hs_.1)) (fun hn_ => (Nat.le_trans (keep_size (w := w) (g := g) (row := none) (aH1 GW263.out)) hn_)), Or.elim hk_ (fun hs_ => Or.elim hs_ (fun hs_ => (hs_).elim) (fun hs_ => hs_.2.1)) (fun hn_ => (Kd.fresh' (Kd.N_lt (aN HO309.out)) k_ hn_)), Or.elim hk_ (fun hs_ => Or.elim hs_ (fun hs_ => (hs_).elim) (fun hs_ => hs_.2.2.1)) (fun hn_ => (Kd.freshB (g := gb263) (o := .cells #[.int .i64 0, .int .i64 0, .string (⟨#[]⟩ : ByteArray), .slice none 0 0] 91 (0, 0)) (aW BK263.out) k_ hn_)), Or.elim hk_ (fun hs_ => Or.elim hs_ (fun hs_ => (hs_).elim) (fun hs_ => hs_.2.2.2)) (fun hn_ => (IsS87.fresh (by repeat (first | (with_reducible first | exact HI0.out | apply IsS87.alloc | apply IsS87.drewN | apply IsS87.drew | apply IsS87.set_1 | refine IsS87.far ?_ NB0_263.out _) | exact HI0.out)) k_ hn_))⟩)) (keep_size (w := w) (g := g) (row := none) (aH1 GW263.out))); have n3_ := Aside0.mk (blk_below (g := gb263) (o := .cells #[.int .i64 0, .int .i64 0, .string (⟨#[]⟩ : ByteArray), .slice none 0 0] 91 (0, 0)) (aW BK263.out) hb); have n4_ := Aside0.mk (IsS87.below (by repeat (first | (with_reducible first | exact HI0.out | apply IsS87.alloc | apply IsS87.drewN | apply IsS87.drew | apply IsS87.set_1 | refine IsS87.far ?_ NB0_263.out _) | exact HI0.out)) hb); have n5_ := Aside0.mk (KeepBut.trans (aH1 GW263.out) (KeepBut.of_below hb g none) (.inl rfl)); have n6_ := Aside0.mk (below_step (aB2 (IsS87.ge HI0.out) GE263.out) hb); clear HO309; clear HO316; clear BK263; clear HI0; clear HK; clear HB; have HO309 := n0_; have HO316 := n1_; have HO323 := n2_; have BK263 := n3_; have HI0 := n4_; have HK := n5_; have HB := n6_; clear n0_ n1_ n2_ n3_ n4_ n5_ n6_; (try clear hb); (try clear hb2); (try clear hk); (try clear hi); (try clear ho0); obtain ⟨Ao75, co75, eo75⟩ := Kd.N_slice HO309.out; subst eo75; obtain ⟨Ao76, co76, eo76⟩ := Kd.N_slice HO323.out; subst eo76) | ((with_reducible refine gate_callee (f := 93) rfl ?_); refine goesL_ (some 63) rfl rfl Try.func93 aK rfl #[.agg #[.int .i64 t304, .int .i64 t305, .string t306, .slice Ao75 t307.length co75], .agg #[.int .i64 t318, .int .i64 t319, .string t320, .slice Ao76 t321.length co76]] rfl aL ?_; (with_reducible refine (spec_l1Cat.calls t304 t305 t306 (fun k_ => ((((w.heap.size ≤ k_) ∧ (k_ ≠ gb263 ∧ k_ ≠ g)) ∧ some k_ ≠ (.slice Ao73 t314.length co73 : Value).ownBlock) ∧ some k_ ≠ (.slice Ao76 t321.length co76 : Value).ownBlock)) _ _ t307 t318 t319 t320 (fun k_ => ((w.heap.size ≤ k_) ∧ (some k_ ≠ (.slice Ao75 t307.length co75 : Value).ownBlock ∧ (k_ ≠ gb263 ∧ k_ ≠ g)))) _ _ t321 t324 t325 t326 t327 _ ?side1 ?side2 A69.out).mono ?_); (case side1 => exact Kd.N_V (HO309.out)); (case side2 => exact Kd.N_V (HO323.out)); rintro e w77 ⟨v328, rfl, ho0, hb⟩; refine ⟨_, rfl, ?_⟩; have n0_ := Aside0.mk (Kd.N_elder' (aN HO309.out) (Kd.N_base ho0) hb); have n1_ := Aside0.mk (Kd.N_elder' (aN HO316.out) (Kd.N_base ho0) hb); have n2_ := Aside0.mk (Kd.N_elder' (aN HO323.out) (Kd.N_base ho0) hb); have n3_ := Aside0.mk (Kd.N_lower (Kd.N_mono (ok' := fun k_ => (w.heap.size ≤ k_) ∧ k_ ≠ gb263 ∧ k_ ≠ g) ho0 (fun k_ hk_ => ⟨Or.elim hk_ (fun hs_ => Or.elim hs_ (fun hs_ => hs_.1.1.1) (fun hs_ => hs_.1)) (fun hn_ => (Nat.le_trans (keep_size (w := w) (g := g) (row := none) (aH1 GW263.out)) hn_)), Or.elim hk_ (fun hs_ => Or.elim hs_ (fun hs_ => hs_.1.1.2.1) (fun hs_ => hs_.2.2.1)) (fun hn_ => (Kd.freshB (g := gb263) (o := .cells #[.int .i64 0, .int .i64 0, .string (⟨#[]⟩ : ByteArray), .slice none 0 0] 91 (0, 0)) (aW BK263.out) k_ hn_)), Or.elim hk_ (fun hs_ => Or.elim hs_ (fun hs_ => hs_.1.1.2.2) (fun hs_ => hs_.2.2.2)) (fun hn_ => (IsS87.fresh (by repeat (first | (with_reducible first | exact HI0.out | apply IsS87.alloc | apply IsS87.drewN | apply IsS87.drew | apply IsS87.set_1 | refine IsS87.far ?_ NB0_263.out _) | exact HI0.out)) k_ hn_))⟩)) (keep_size (w := w) (g := g) (row := none) (aH1 GW263.out))); have n4_ := Aside0.mk (blk_below (g := gb263) (o := .cells #[.int .i64 0, .int .i64 0, .string (⟨#[]⟩ : ByteArray), .slice none 0 0] 91 (0, 0)) (aW BK263.out) hb); have n5_ := Aside0.mk (IsS87.below (by repeat (first | (with_reducible first | exact HI0.out | apply IsS87.alloc | apply IsS87.drewN | apply IsS87.drew | apply IsS87.set_1 | refine IsS87.far ?_ NB0_263.out _) | exact HI0.out)) hb); have n6_ := Aside0.mk (KeepBut.trans (aH1 GW263.out) (KeepBut.of_below hb g none) (.inl rfl)); have n7_ := Aside0.mk (below_step (aB2 (IsS87.ge HI0.out) GE263.out) hb); clear HO309; clear HO316; clear HO323; clear BK263; clear HI0; clear HK; clear HB; have HO309 := n0_; have HO316 := n1_; have HO323 := n2_; have HO329 := n3_; have BK263 := n4_; have HI0 := n5_; have HK := n6_; have HB := n7_; clear n0_ n1_ n2_ n3_ n4_ n5_ n6_ n7_; (try clear hb); (try clear hb2); (try clear hk); (try clear hi); (try clear ho0); have hnb78 := NB263_0.out; have hnc78 := NB0_263.out; have hcz79_0 : w77.cell? ⟨gb263, 0, none⟩ = some (.int .i64 0) := (blk_cell BK263.out 0).trans rfl; have hcz79_1 : w77.cell? ⟨gb263, 1, none⟩ = some (.int .i64 0) := (blk_cell BK263.out 1).trans rfl; have hcz79_2 : w77.cell? ⟨gb263, 2, none⟩ = some (.string (⟨#[]⟩ : ByteArray)) := (blk_cell BK263.out 2).trans rfl; have hcz79_3 : w77.cell? ⟨gb263, 3, none⟩ = some (.slice none 0 0) := (blk_cell BK263.out 3).trans rfl; have hfz79_0 := blk_frozen BK263.out 0; have hfz79_1 := blk_frozen BK263.out 1; have hfz79_2 := blk_frozen BK263.out 2; have hfz79_3 := blk_frozen BK263.out 3; obtain ⟨Ao80, co80, eo80⟩ := Kd.N_slice HO329.out; subst eo80))
           refine bodyPost_ret (results_cell_row rfl _ _ gb263 91 #[.int .i64 t324, .int .i64 t325, .string t326, .slice Ao80 t327.length co80] (0, 0) _ rfl (by refine aW ?_; refine blk_put (cs := #[.int .i64 t324, .int .i64 t325, .string t326, .slice none 0 0]) ?_ 3 _ rfl; refine aW ?_; refine blk_put (cs := #[.int .i64 t324, .int .i64 t325, .string (⟨#[]⟩ : ByteArray), .slice none 0 0]) ?_ 2 _ rfl; refine aW ?_; refine blk_put (cs := #[.int .i64 t324, .int .i64 0, .string (⟨#[]⟩ : ByteArray), .slice none 0 0]) ?_ 1 _ rfl; refine aW ?_; refine blk_put (cs := #[.int .i64 0, .int .i64 0, .string (⟨#[]⟩ : ByteArray), .slice none 0 0]) ?_ 0 _ rfl; refine aW ?_; exact BK263.out) Try.underlying91 rfl aK) rfl ?_
           exact ⟨_, by first | rfl | (simp [errW_none, errW_some] <;> rfl) | (simp [*, errW_none, errW_some] <;> rfl), by (with_reducible repeat (first | apply Kd.N_alloc | apply Kd.N_drewN | apply Kd.N_drew)); exact Kd.N_mono (Kd.N_far (p := ⟨gb263, 3, none⟩) (Kd.N_far (p := ⟨gb263, 2, none⟩) (Kd.N_far (p := ⟨gb263, 1, none⟩) (Kd.N_far (p := ⟨gb263, 0, none⟩) (Kd.N_mono HO329.out (fun k_ hk => (⟨hk, hk.2.1⟩ : _ ∧ k_ ≠ gb263))) (fun _ hk => hk.2) (.int .i64 t324)) (fun _ hk => hk.2) (.int .i64 t325)) (fun _ hk => hk.2) (.string t326)) (fun _ hk => hk.2) (.slice Ao80 t327.length co80)) (fun _ hk => hk.1.1), by repeat (first | (with_reducible first | exact HI0.out | apply IsS87.alloc | apply IsS87.drewN | apply IsS87.drew | apply IsS87.set_1 | refine IsS87.far ?_ NB0_263.out _) | exact HI0.out), by repeat (first | (with_reducible first | exact HB.out | apply below_alloc | apply pw_below_drewN | apply below_drew1 | refine below_set ?_ (IsS87.ge HI0.out) | refine below_set ?_ GE263.out) | exact HB.out), by repeat (first | (with_reducible first | exact HK.out | apply KeepBut.set_ | apply keep_drewN | apply keep_drew | apply keep_alloc | refine keep_far ?_ GW263.out _) | exact HK.out)⟩
          ·rw [if_neg c65] at H
           have c65b0 : (t302 == 0) = false := beq_eq_false_iff_ne.mpr c65
           have c65b1 : (t302 != 0) = true := bne_iff_ne.mpr c65
           replace H := Option.bind_eq_some_iff.mp H
           obtain ⟨⟨t330, t331, t332, t333, t336⟩, A810, H⟩ := H
           replace H : ((spec_l1Some.f kj50 s0_0 t336 0).bind fun bt337 => ((spec_l1Cat.f 3 0 (⟨#[]⟩ : ByteArray) ([] : List (S91)) bt337.1 bt337.2.1 bt337.2.2.1 bt337.2.2.2.1).bind fun bt344 => ((spec_l1Cat.f t330 t331 t332 t333 bt344.1 bt344.2.1 bt344.2.2.1 bt344.2.2.2).bind fun bt350 => (some (bt350.1, bt350.2.1, bt350.2.2.1, bt350.2.2.2, bt337.2.2.2.2))))) = some (r1, r2, r3, r4, r5) := H
           have A81 := Aside0.mk A810
           clear A810
           replace H := Option.bind_eq_some_iff.mp H
           obtain ⟨⟨t337, t338, t339, t340, t343⟩, A820, H⟩ := H
           replace H : ((spec_l1Cat.f 3 0 (⟨#[]⟩ : ByteArray) ([] : List (S91)) t337 t338 t339 t340).bind fun bt344 => ((spec_l1Cat.f t330 t331 t332 t333 bt344.1 bt344.2.1 bt344.2.2.1 bt344.2.2.2).bind fun bt350 => (some (bt350.1, bt350.2.1, bt350.2.2.1, bt350.2.2.2, t343)))) = some (r1, r2, r3, r4, r5) := H
           have A82 := Aside0.mk A820
           clear A820
           replace H := Option.bind_eq_some_iff.mp H
           obtain ⟨⟨t344, t345, t346, t347⟩, A830, H⟩ := H
           replace H : ((spec_l1Cat.f t330 t331 t332 t333 t344 t345 t346 t347).bind fun bt350 => (some (bt350.1, bt350.2.1, bt350.2.2.1, bt350.2.2.2, t343))) = some (r1, r2, r3, r4, r5) := H
           have A83 := Aside0.mk A830
           clear A830
           replace H := Option.bind_eq_some_iff.mp H
           obtain ⟨⟨t350, t351, t352, t353⟩, A840, H⟩ := H
           replace H : (some (t350, t351, t352, t353, t343)) = some (r1, r2, r3, r4, r5) := H
           have A84 := Aside0.mk A840
           clear A840
           simp only [Option.some.injEq, Prod.mk.injEq] at H
           obtain ⟨rfl, rfl, rfl, rfl, rfl⟩ := H
           go_wp2_with (first | ((with_reducible refine gate_callee (f := 79) rfl ?_); refine goesL_ (some 53) rfl rfl Try.func79 aK rfl #[.pointer (some ⟨g, 0, none⟩), .int .i64 3] rfl aL ?_; (with_reducible refine (spec_l15Rd_pick.calls kj50 g s0_0 t269 3 t302 t303 w0 _ ?side1 ?side2 A64.out).mono ?_); (case side1 => repeat (first | (with_reducible first | exact HI0.out | apply IsS87.alloc | apply IsS87.drewN | apply IsS87.drew | apply IsS87.set_1 | refine IsS87.far ?_ NB0_263.out _) | exact HI0.out)); (case side2 => repeat (first | (with_reducible first | exact HB.out | apply below_alloc | apply pw_below_drewN | apply below_drew1 | refine below_set ?_ (IsS87.ge HI0.out) | refine below_set ?_ GE263.out) | exact HB.out)); rintro e w85 ⟨rfl, hi, hb, hk⟩; refine ⟨_, rfl, ?_⟩; have n0_ := Aside0.mk (KeepBut.blk hk (g' := gb263) (o := .cells #[.int .i64 0, .int .i64 0, .string (⟨#[]⟩ : ByteArray), .slice none 0 0] 91 (0, 0)) (aW BK263.out) NB263_0.out (by simp)); have n1_ := Aside0.mk (KeepBut.trans (aH1 GW263.out) hk (.inl rfl)); have n2_ := Aside0.mk (hb); have n3_ := Aside0.mk (hi); clear BK263; clear HK; clear HB; clear HI0; have BK263 := n0_; have HK := n1_; have HB := n2_; have HI0 := n3_; clear n0_ n1_ n2_ n3_; (try clear hb); (try clear hb2); (try clear hk); (try clear hi)) | ((with_reducible refine gate_callee (f := 78) rfl ?_); refine goesL_ (some 67) rfl rfl Try.func78 aK rfl #[.pointer (some ⟨g, 0, none⟩), .int .i64 (wrap64 (a1 - 1))] rfl aL ?_; (with_reducible refine (ih kj50 (by have := HJ32.out; have := HJ50.out; omega) g s0_0 t303 (wrap64 (a1 - 1)) t330 t331 t332 t333 t336 w0 _ ?side1 ?side2 A81.out).mono ?_); (case side1 => repeat (first | (with_reducible first | exact HI0.out | apply IsS87.alloc | apply IsS87.drewN | apply IsS87.drew | apply IsS87.set_1 | refine IsS87.far ?_ NB0_263.out _) | exact HI0.out)); (case side2 => repeat (first | (with_reducible first | exact HB.out | apply below_alloc | apply pw_below_drewN | apply below_drew1 | refine below_set ?_ (IsS87.ge HI0.out) | refine below_set ?_ GE263.out) | exact HB.out)); rintro e w86 ⟨v334, rfl, ho0, hi, hb, hk⟩; refine ⟨_, rfl, ?_⟩; have n0_ := Aside0.mk (KeepBut.blk hk (g' := gb263) (o := .cells #[.int .i64 0, .int .i64 0, .string (⟨#[]⟩ : ByteArray), .slice none 0 0] 91 (0, 0)) (aW BK263.out) NB263_0.out (by simp)); have n1_ := Aside0.mk (Kd.N_lower (Kd.N_mono (ok' := fun k_ => (w.heap.size ≤ k_) ∧ k_ ≠ gb263 ∧ k_ ≠ g) ho0 (fun k_ hk_ => ⟨(Nat.le_trans (keep_size (w := w) (g := g) (row := none) (aH1 GW263.out)) hk_), (Kd.freshB (g := gb263) (o := .cells #[.int .i64 0, .int .i64 0, .string (⟨#[]⟩ : ByteArray), .slice none 0 0] 91 (0, 0)) (aW BK263.out) k_ hk_), (IsS87.fresh (by repeat (first | (with_reducible first | exact HI0.out | apply IsS87.alloc | apply IsS87.drewN | apply IsS87.drew | apply IsS87.set_1 | refine IsS87.far ?_ NB0_263.out _) | exact HI0.out)) k_ hk_)⟩)) (keep_size (w := w) (g := g) (row := none) (aH1 GW263.out))); have n2_ := Aside0.mk (KeepBut.trans (aH1 GW263.out) hk (.inl rfl)); have n3_ := Aside0.mk (hb); have n4_ := Aside0.mk (hi); clear BK263; clear HK; clear HB; clear HI0; have BK263 := n0_; have HO335 := n1_; have HK := n2_; have HB := n3_; have HI0 := n4_; clear n0_ n1_ n2_ n3_ n4_; (try clear hb); (try clear hb2); (try clear hk); (try clear hi); (try clear ho0)) | ((with_reducible refine gate_callee (f := 78) rfl ?_); refine goesL_ (some 70) rfl rfl Try.func78 aK rfl #[.pointer (some ⟨g, 0, none⟩), .int .i64 0] rfl aL ?_; (with_reducible refine (ih kj50 (by have := HJ32.out; have := HJ50.out; omega) g s0_0 t336 0 t337 t338 t339 t340 t343 w0 _ ?side1 ?side2 A82.out).mono ?_); (case side1 => repeat (first | (with_reducible first | exact HI0.out | apply IsS87.alloc | apply IsS87.drewN | apply IsS87.drew | apply IsS87.set_1 | refine IsS87.far ?_ NB0_263.out _) | exact HI0.out)); (case side2 => repeat (first | (with_reducible first | exact HB.out | apply below_alloc | apply pw_below_drewN | apply below_drew1 | refine below_set ?_ (IsS87.ge HI0.out) | refine below_set ?_ GE263.out) | exact HB.out)); rintro e w87 ⟨v341, rfl, ho0, hi, hb, hk⟩; refine ⟨_, rfl, ?_⟩; have n0_ := Aside0.mk (KeepBut.blk hk (g' := gb263) (o := .cells #[.int .i64 0, .int .i64 0, .string (⟨#[]⟩ : ByteArray), .slice none 0 0] 91 (0, 0)) (aW BK263.out) NB263_0.out (by simp)); have n1_ := Aside0.mk (Kd.N_mono (Kd.N_told (Kd.N_oldK (Kd.N_mono (ok := fun k_ => (((w.heap.size ≤ k_)) ∧ (k_ ≠ gb263 ∧ k_ ≠ g))) (aN HO335.out) (fun k_ hk_ => (⟨hk_, hk_.2.2⟩ : _ ∧ k_ ≠ g))) hk) (Kd.N_base ho0)) (fun _ h_ => h_.1)); have n2_ := Aside0.mk (Kd.N_lower (Kd.N_mono (ok' := fun k_ => (w.heap.size ≤ k_) ∧ some k_ ≠ (v334 : Value).ownBlock ∧ k_ ≠ gb263 ∧ k_ ≠ g) ho0 (fun k_ hk_ => ⟨(Nat.le_trans (keep_size (w := w) (g := g) (row := none) (aH1 GW263.out)) hk_), (Kd.fresh' (Kd.N_lt (aN HO335.out)) k_ hk_), (Kd.freshB (g := gb263) (o := .cells #[.int .i64 0, .int .i64 0, .string (⟨#[]⟩ : ByteArray), .slice none 0 0] 91 (0, 0)) (aW BK263.out) k_ hk_), (IsS87.fresh (by repeat (first | (with_reducible first | exact HI0.out | apply IsS87.alloc | apply IsS87.drewN | apply IsS87.drew | apply IsS87.set_1 | refine IsS87.far ?_ NB0_263.out _) | exact HI0.out)) k_ hk_)⟩)) (keep_size (w := w) (g := g) (row := none) (aH1 GW263.out))); have n3_ := Aside0.mk (KeepBut.trans (aH1 GW263.out) hk (.inl rfl)); have n4_ := Aside0.mk (hb); have n5_ := Aside0.mk (hi); clear BK263; clear HO335; clear HK; clear HB; clear HI0; have BK263 := n0_; have HO335 := n1_; have HO342 := n2_; have HK := n3_; have HB := n4_; have HI0 := n5_; clear n0_ n1_ n2_ n3_ n4_ n5_; (try clear hb); (try clear hb2); (try clear hk); (try clear hi); (try clear ho0); obtain ⟨Ao88, co88, eo88⟩ := Kd.N_slice HO342.out; subst eo88) | ((with_reducible refine gate_callee (f := 93) rfl ?_); refine goesL_ (some 71) rfl rfl Try.func93 aK rfl #[.agg #[.int .i64 3, .int .i64 0, .string (⟨#[]⟩ : ByteArray), .slice none 0 0], .agg #[.int .i64 t337, .int .i64 t338, .string t339, .slice Ao88 t340.length co88]] rfl aL ?_; (refine (spec_l1Cat.calls 3 0 (⟨#[]⟩ : ByteArray) (fun k_ => False) _ _ ([] : List (S91)) t337 t338 t339 (fun k_ => ((w.heap.size ≤ k_) ∧ (some k_ ≠ (v334 : Value).ownBlock ∧ (k_ ≠ gb263 ∧ k_ ≠ g)))) _ _ t340 t344 t345 t346 t347 _ ?side1 ?side2 A83.out).mono ?_); (case side1 => exact Kd.V_nil _ _ _ _ _); (case side2 => exact Kd.N_V (HO342.out)); rintro e w89 ⟨v348, rfl, ho0, hb⟩; refine ⟨_, rfl, ?_⟩; have n0_ := Aside0.mk (Kd.N_elder' (aN HO335.out) (Kd.N_base ho0) hb); have n1_ := Aside0.mk (Kd.N_elder' (aN HO342.out) (Kd.N_base ho0) hb); have n2_ := Aside0.mk (Kd.N_lower (Kd.N_mono (ok' := fun k_ => (w.heap.size ≤ k_) ∧ some k_ ≠ (v334 : Value).ownBlock ∧ k_ ≠ gb263 ∧ k_ ≠ g) ho0 (fun k_ hk_ => ⟨Or.elim hk_ (fun hs_ => Or.elim hs_ (fun hs_ => (hs_).elim) (fun hs_ => hs_.1)) (fun hn_ => (Nat.le_trans (keep_size (w := w) (g := g) (row := none) (aH1 GW263.out)) hn_)), Or.elim hk_ (fun hs_ => Or.elim hs_ (fun hs_ => (hs_).elim) (fun hs_ => hs_.2.1)) (fun hn_ => (Kd.fresh' (Kd.N_lt (aN HO335.out)) k_ hn_)), Or.elim hk_ (fun hs_ => Or.elim hs_ (fun hs_ => (hs_).elim) (fun hs_ => hs_.2.2.1)) (fun hn_ => (Kd.freshB (g := gb263) (o := .cells #[.int .i64 0, .int .i64 0, .string (⟨#[]⟩ : ByteArray), .slice none 0 0] 91 (0, 0)) (aW BK263.out) k_ hn_)), Or.elim hk_ (fun hs_ => Or.elim hs_ (fun hs_ => (hs_).elim) (fun hs_ => hs_.2.2.2)) (fun hn_ => (IsS87.fresh (by repeat (first | (with_reducible first | exact HI0.out | apply IsS87.alloc | apply IsS87.drewN | apply IsS87.drew | apply IsS87.set_1 | refine IsS87.far ?_ NB0_263.out _) | exact HI0.out)) k_ hn_))⟩)) (keep_size (w := w) (g := g) (row := none) (aH1 GW263.out))); have n3_ := Aside0.mk (blk_below (g := gb263) (o := .cells #[.int .i64 0, .int .i64 0, .string (⟨#[]⟩ : ByteArray), .slice none 0 0] 91 (0, 0)) (aW BK263.out) hb); have n4_ := Aside0.mk (IsS87.below (by repeat (first | (with_reducible first | exact HI0.out | apply IsS87.alloc | apply IsS87.drewN | apply IsS87.drew | apply IsS87.set_1 | refine IsS87.far ?_ NB0_263.out _) | exact HI0.out)) hb); have n5_ := Aside0.mk (KeepBut.trans (aH1 GW263.out) (KeepBut.of_below hb g none) (.inl rfl)); have n6_ := Aside0.mk (below_step (aB2 (IsS87.ge HI0.out) GE263.out) hb); clear HO335; clear HO342; clear BK263; clear HI0; clear HK; clear HB; have HO335 := n0_; have HO342 := n1_; have HO349 := n2_; have BK263 := n3_; have HI0 := n4_; have HK := n5_; have HB := n6_; clear n0_ n1_ n2_ n3_ n4_ n5_ n6_; (try clear hb); (try clear hb2); (try clear hk); (try clear hi); (try clear ho0); obtain ⟨Ao90, co90, eo90⟩ := Kd.N_slice HO335.out; subst eo90; obtain ⟨Ao91, co91, eo91⟩ := Kd.N_slice HO349.out; subst eo91) | ((with_reducible refine gate_callee (f := 93) rfl ?_); refine goesL_ (some 72) rfl rfl Try.func93 aK rfl #[.agg #[.int .i64 t330, .int .i64 t331, .string t332, .slice Ao90 t333.length co90], .agg #[.int .i64 t344, .int .i64 t345, .string t346, .slice Ao91 t347.length co91]] rfl aL ?_; (with_reducible refine (spec_l1Cat.calls t330 t331 t332 (fun k_ => ((((w.heap.size ≤ k_) ∧ (k_ ≠ gb263 ∧ k_ ≠ g)) ∧ some k_ ≠ (.slice Ao88 t340.length co88 : Value).ownBlock) ∧ some k_ ≠ (.slice Ao91 t347.length co91 : Value).ownBlock)) _ _ t333 t344 t345 t346 (fun k_ => ((w.heap.size ≤ k_) ∧ (some k_ ≠ (.slice Ao90 t333.length co90 : Value).ownBlock ∧ (k_ ≠ gb263 ∧ k_ ≠ g)))) _ _ t347 t350 t351 t352 t353 _ ?side1 ?side2 A84.out).mono ?_); (case side1 => exact Kd.N_V (HO335.out)); (case side2 => exact Kd.N_V (HO349.out)); rintro e w92 ⟨v354, rfl, ho0, hb⟩; refine ⟨_, rfl, ?_⟩; have n0_ := Aside0.mk (Kd.N_elder' (aN HO335.out) (Kd.N_base ho0) hb); have n1_ := Aside0.mk (Kd.N_elder' (aN HO342.out) (Kd.N_base ho0) hb); have n2_ := Aside0.mk (Kd.N_elder' (aN HO349.out) (Kd.N_base ho0) hb); have n3_ := Aside0.mk (Kd.N_lower (Kd.N_mono (ok' := fun k_ => (w.heap.size ≤ k_) ∧ k_ ≠ gb263 ∧ k_ ≠ g) ho0 (fun k_ hk_ => ⟨Or.elim hk_ (fun hs_ => Or.elim hs_ (fun hs_ => hs_.1.1.1) (fun hs_ => hs_.1)) (fun hn_ => (Nat.le_trans (keep_size (w := w) (g := g) (row := none) (aH1 GW263.out)) hn_)), Or.elim hk_ (fun hs_ => Or.elim hs_ (fun hs_ => hs_.1.1.2.1) (fun hs_ => hs_.2.2.1)) (fun hn_ => (Kd.freshB (g := gb263) (o := .cells #[.int .i64 0, .int .i64 0, .string (⟨#[]⟩ : ByteArray), .slice none 0 0] 91 (0, 0)) (aW BK263.out) k_ hn_)), Or.elim hk_ (fun hs_ => Or.elim hs_ (fun hs_ => hs_.1.1.2.2) (fun hs_ => hs_.2.2.2)) (fun hn_ => (IsS87.fresh (by repeat (first | (with_reducible first | exact HI0.out | apply IsS87.alloc | apply IsS87.drewN | apply IsS87.drew | apply IsS87.set_1 | refine IsS87.far ?_ NB0_263.out _) | exact HI0.out)) k_ hn_))⟩)) (keep_size (w := w) (g := g) (row := none) (aH1 GW263.out))); have n4_ := Aside0.mk (blk_below (g := gb263) (o := .cells #[.int .i64 0, .int .i64 0, .string (⟨#[]⟩ : ByteArray), .slice none 0 0] 91 (0, 0)) (aW BK263.out) hb); have n5_ := Aside0.mk (IsS87.below (by repeat (first | (with_reducible first | exact HI0.out | apply IsS87.alloc | apply IsS87.drewN | apply IsS87.drew | apply IsS87.set_1 | refine IsS87.far ?_ NB0_263.out _) | exact HI0.out)) hb); have n6_ := Aside0.mk (KeepBut.trans (aH1 GW263.out) (KeepBut.of_below hb g none) (.inl rfl)); have n7_ := Aside0.mk (below_step (aB2 (IsS87.ge HI0.out) GE263.out) hb); clear HO335; clear HO342; clear HO349; clear BK263; clear HI0; clear HK; clear HB; have HO335 := n0_; have HO342 := n1_; have HO349 := n2_; have HO355 := n3_; have BK263 := n4_; have HI0 := n5_; have HK := n6_; have HB := n7_; clear n0_ n1_ n2_ n3_ n4_ n5_ n6_ n7_; (try clear hb); (try clear hb2); (try clear hk); (try clear hi); (try clear ho0); have hnb93 := NB263_0.out; have hnc93 := NB0_263.out; have hcz94_0 : w92.cell? ⟨gb263, 0, none⟩ = some (.int .i64 0) := (blk_cell BK263.out 0).trans rfl; have hcz94_1 : w92.cell? ⟨gb263, 1, none⟩ = some (.int .i64 0) := (blk_cell BK263.out 1).trans rfl; have hcz94_2 : w92.cell? ⟨gb263, 2, none⟩ = some (.string (⟨#[]⟩ : ByteArray)) := (blk_cell BK263.out 2).trans rfl; have hcz94_3 : w92.cell? ⟨gb263, 3, none⟩ = some (.slice none 0 0) := (blk_cell BK263.out 3).trans rfl; have hfz94_0 := blk_frozen BK263.out 0; have hfz94_1 := blk_frozen BK263.out 1; have hfz94_2 := blk_frozen BK263.out 2; have hfz94_3 := blk_frozen BK263.out 3; obtain ⟨Ao95, co95, eo95⟩ := Kd.N_slice HO355.out; subst eo95))
           refine bodyPost_ret (results_cell_row rfl _ _ gb263 91 #[.int .i64 t350, .int .i64 t351, .string t352, .slice Ao95 t353.length co95] (0, 0) _ rfl (by refine aW ?_; refine blk_put (cs := #[.int .i64 t350, .int .i64 t351, .string t352, .slice none 0 0]) ?_ 3 _ rfl; refine aW ?_; refine blk_put (cs := #[.int .i64 t350, .int .i64 t351, .string (⟨#[]⟩ : ByteArray), .slice none 0 0]) ?_ 2 _ rfl; refine aW ?_; refine blk_put (cs := #[.int .i64 t350, .int .i64 0, .string (⟨#[]⟩ : ByteArray), .slice none 0 0]) ?_ 1 _ rfl; refine aW ?_; refine blk_put (cs := #[.int .i64 0, .int .i64 0, .string (⟨#[]⟩ : ByteArray), .slice none 0 0]) ?_ 0 _ rfl; refine aW ?_; exact BK263.out) Try.underlying91 rfl aK) rfl ?_
           exact ⟨_, by first | rfl | (simp [errW_none, errW_some] <;> rfl) | (simp [*, errW_none, errW_some] <;> rfl), by (with_reducible repeat (first | apply Kd.N_alloc | apply Kd.N_drewN | apply Kd.N_drew)); exact Kd.N_mono (Kd.N_far (p := ⟨gb263, 3, none⟩) (Kd.N_far (p := ⟨gb263, 2, none⟩) (Kd.N_far (p := ⟨gb263, 1, none⟩) (Kd.N_far (p := ⟨gb263, 0, none⟩) (Kd.N_mono HO355.out (fun k_ hk => (⟨hk, hk.2.1⟩ : _ ∧ k_ ≠ gb263))) (fun _ hk => hk.2) (.int .i64 t350)) (fun _ hk => hk.2) (.int .i64 t351)) (fun _ hk => hk.2) (.string t352)) (fun _ hk => hk.2) (.slice Ao95 t353.length co95)) (fun _ hk => hk.1.1), by repeat (first | (with_reducible first | exact HI0.out | apply IsS87.alloc | apply IsS87.drewN | apply IsS87.drew | apply IsS87.set_1 | refine IsS87.far ?_ NB0_263.out _) | exact HI0.out), by repeat (first | (with_reducible first | exact HB.out | apply below_alloc | apply pw_below_drewN | apply below_drew1 | refine below_set ?_ (IsS87.ge HI0.out) | refine below_set ?_ GE263.out) | exact HB.out), by repeat (first | (with_reducible first | exact HK.out | apply KeepBut.set_ | apply keep_drewN | apply keep_drew | apply keep_alloc | refine keep_far ?_ GW263.out _) | exact HK.out)⟩
         ·rw [if_neg c63] at H
          have c63b0 : (t268 == 6) = false := beq_eq_false_iff_ne.mpr c63
          have c63b1 : (t268 != 6) = true := bne_iff_ne.mpr c63
          replace H := Option.bind_eq_some_iff.mp H
          obtain ⟨⟨t356, t357, t358, t359, t362⟩, A960, H⟩ := H
          replace H : ((spec_l1Some.f kj50 s0_0 t362 (wrap64 (a1 - 1))).bind fun bt363 => ((spec_l1Cat.f t356 t357 t358 t359 bt363.1 bt363.2.1 bt363.2.2.1 bt363.2.2.2.1).bind fun bt370 => (some (bt370.1, bt370.2.1, bt370.2.2.1, bt370.2.2.2, bt363.2.2.2.2)))) = some (r1, r2, r3, r4, r5) := H
          have A96 := Aside0.mk A960
          clear A960
          replace H := Option.bind_eq_some_iff.mp H
          obtain ⟨⟨t363, t364, t365, t366, t369⟩, A970, H⟩ := H
          replace H : ((spec_l1Cat.f t356 t357 t358 t359 t363 t364 t365 t366).bind fun bt370 => (some (bt370.1, bt370.2.1, bt370.2.2.1, bt370.2.2.2, t369))) = some (r1, r2, r3, r4, r5) := H
          have A97 := Aside0.mk A970
          clear A970
          replace H := Option.bind_eq_some_iff.mp H
          obtain ⟨⟨t370, t371, t372, t373⟩, A980, H⟩ := H
          replace H : (some (t370, t371, t372, t373, t369)) = some (r1, r2, r3, r4, r5) := H
          have A98 := Aside0.mk A980
          clear A980
          simp only [Option.some.injEq, Prod.mk.injEq] at H
          obtain ⟨rfl, rfl, rfl, rfl, rfl⟩ := H
          go_wp2_with (first | ((with_reducible refine gate_callee (f := 78) rfl ?_); refine goesL_ (some 76) rfl rfl Try.func78 aK rfl #[.pointer (some ⟨g, 0, none⟩), .int .i64 (wrap64 (a1 - 1))] rfl aL ?_; (with_reducible refine (ih kj50 (by have := HJ32.out; have := HJ50.out; omega) g s0_0 t269 (wrap64 (a1 - 1)) t356 t357 t358 t359 t362 w0 _ ?side1 ?side2 A96.out).mono ?_); (case side1 => repeat (first | (with_reducible first | exact HI0.out | apply IsS87.alloc | apply IsS87.drewN | apply IsS87.drew | apply IsS87.set_1 | refine IsS87.far ?_ NB0_263.out _) | exact HI0.out)); (case side2 => repeat (first | (with_reducible first | exact HB.out | apply below_alloc | apply pw_below_drewN | apply below_drew1 | refine below_set ?_ (IsS87.ge HI0.out) | refine below_set ?_ GE263.out) | exact HB.out)); rintro e w99 ⟨v360, rfl, ho0, hi, hb, hk⟩; refine ⟨_, rfl, ?_⟩; have n0_ := Aside0.mk (KeepBut.blk hk (g' := gb263) (o := .cells #[.int .i64 0, .int .i64 0, .string (⟨#[]⟩ : ByteArray), .slice none 0 0] 91 (0, 0)) (aW BK263.out) NB263_0.out (by simp)); have n1_ := Aside0.mk (Kd.N_lower (Kd.N_mono (ok' := fun k_ => (w.heap.size ≤ k_) ∧ k_ ≠ gb263 ∧ k_ ≠ g) ho0 (fun k_ hk_ => ⟨(Nat.le_trans (keep_size (w := w) (g := g) (row := none) (aH1 GW263.out)) hk_), (Kd.freshB (g := gb263) (o := .cells #[.int .i64 0, .int .i64 0, .string (⟨#[]⟩ : ByteArray), .slice none 0 0] 91 (0, 0)) (aW BK263.out) k_ hk_), (IsS87.fresh (by repeat (first | (with_reducible first | exact HI0.out | apply IsS87.alloc | apply IsS87.drewN | apply IsS87.drew | apply IsS87.set_1 | refine IsS87.far ?_ NB0_263.out _) | exact HI0.out)) k_ hk_)⟩)) (keep_size (w := w) (g := g) (row := none) (aH1 GW263.out))); have n2_ := Aside0.mk (KeepBut.trans (aH1 GW263.out) hk (.inl rfl)); have n3_ := Aside0.mk (hb); have n4_ := Aside0.mk (hi); clear BK263; clear HK; clear HB; clear HI0; have BK263 := n0_; have HO361 := n1_; have HK := n2_; have HB := n3_; have HI0 := n4_; clear n0_ n1_ n2_ n3_ n4_; (try clear hb); (try clear hb2); (try clear hk); (try clear hi); (try clear ho0)) | ((with_reducible refine gate_callee (f := 78) rfl ?_); refine goesL_ (some 80) rfl rfl Try.func78 aK rfl #[.pointer (some ⟨g, 0, none⟩), .int .i64 (wrap64 (a1 - 1))] rfl aL ?_; (with_reducible refine (ih kj50 (by have := HJ32.out; have := HJ50.out; omega) g s0_0 t362 (wrap64 (a1 - 1)) t363 t364 t365 t366 t369 w0 _ ?side1 ?side2 A97.out).mono ?_); (case side1 => repeat (first | (with_reducible first | exact HI0.out | apply IsS87.alloc | apply IsS87.drewN | apply IsS87.drew | apply IsS87.set_1 | refine IsS87.far ?_ NB0_263.out _) | exact HI0.out)); (case side2 => repeat (first | (with_reducible first | exact HB.out | apply below_alloc | apply pw_below_drewN | apply below_drew1 | refine below_set ?_ (IsS87.ge HI0.out) | refine below_set ?_ GE263.out) | exact HB.out)); rintro e w100 ⟨v367, rfl, ho0, hi, hb, hk⟩; refine ⟨_, rfl, ?_⟩; have n0_ := Aside0.mk (KeepBut.blk hk (g' := gb263) (o := .cells #[.int .i64 0, .int .i64 0, .string (⟨#[]⟩ : ByteArray), .slice none 0 0] 91 (0, 0)) (aW BK263.out) NB263_0.out (by simp)); have n1_ := Aside0.mk (Kd.N_mono (Kd.N_told (Kd.N_oldK (Kd.N_mono (ok := fun k_ => (((w.heap.size ≤ k_)) ∧ (k_ ≠ gb263 ∧ k_ ≠ g))) (aN HO361.out) (fun k_ hk_ => (⟨hk_, hk_.2.2⟩ : _ ∧ k_ ≠ g))) hk) (Kd.N_base ho0)) (fun _ h_ => h_.1)); have n2_ := Aside0.mk (Kd.N_lower (Kd.N_mono (ok' := fun k_ => (w.heap.size ≤ k_) ∧ some k_ ≠ (v360 : Value).ownBlock ∧ k_ ≠ gb263 ∧ k_ ≠ g) ho0 (fun k_ hk_ => ⟨(Nat.le_trans (keep_size (w := w) (g := g) (row := none) (aH1 GW263.out)) hk_), (Kd.fresh' (Kd.N_lt (aN HO361.out)) k_ hk_), (Kd.freshB (g := gb263) (o := .cells #[.int .i64 0, .int .i64 0, .string (⟨#[]⟩ : ByteArray), .slice none 0 0] 91 (0, 0)) (aW BK263.out) k_ hk_), (IsS87.fresh (by repeat (first | (with_reducible first | exact HI0.out | apply IsS87.alloc | apply IsS87.drewN | apply IsS87.drew | apply IsS87.set_1 | refine IsS87.far ?_ NB0_263.out _) | exact HI0.out)) k_ hk_)⟩)) (keep_size (w := w) (g := g) (row := none) (aH1 GW263.out))); have n3_ := Aside0.mk (KeepBut.trans (aH1 GW263.out) hk (.inl rfl)); have n4_ := Aside0.mk (hb); have n5_ := Aside0.mk (hi); clear BK263; clear HO361; clear HK; clear HB; clear HI0; have BK263 := n0_; have HO361 := n1_; have HO368 := n2_; have HK := n3_; have HB := n4_; have HI0 := n5_; clear n0_ n1_ n2_ n3_ n4_ n5_; (try clear hb); (try clear hb2); (try clear hk); (try clear hi); (try clear ho0); obtain ⟨Ao101, co101, eo101⟩ := Kd.N_slice HO361.out; subst eo101; obtain ⟨Ao102, co102, eo102⟩ := Kd.N_slice HO368.out; subst eo102) | ((with_reducible refine gate_callee (f := 93) rfl ?_); refine goesL_ (some 81) rfl rfl Try.func93 aK rfl #[.agg #[.int .i64 t356, .int .i64 t357, .string t358, .slice Ao101 t359.length co101], .agg #[.int .i64 t363, .int .i64 t364, .string t365, .slice Ao102 t366.length co102]] rfl aL ?_; (with_reducible refine (spec_l1Cat.calls t356 t357 t358 (fun k_ => (((w.heap.size ≤ k_) ∧ (k_ ≠ gb263 ∧ k_ ≠ g)) ∧ some k_ ≠ (.slice Ao102 t366.length co102 : Value).ownBlock)) _ _ t359 t363 t364 t365 (fun k_ => ((w.heap.size ≤ k_) ∧ (some k_ ≠ (.slice Ao101 t359.length co101 : Value).ownBlock ∧ (k_ ≠ gb263 ∧ k_ ≠ g)))) _ _ t366 t370 t371 t372 t373 _ ?side1 ?side2 A98.out).mono ?_); (case side1 => exact Kd.N_V (HO361.out)); (case side2 => exact Kd.N_V (HO368.out)); rintro e w103 ⟨v374, rfl, ho0, hb⟩; refine ⟨_, rfl, ?_⟩; have n0_ := Aside0.mk (Kd.N_elder' (aN HO361.out) (Kd.N_base ho0) hb); have n1_ := Aside0.mk (Kd.N_elder' (aN HO368.out) (Kd.N_base ho0) hb); have n2_ := Aside0.mk (Kd.N_lower (Kd.N_mono (ok' := fun k_ => (w.heap.size ≤ k_) ∧ k_ ≠ gb263 ∧ k_ ≠ g) ho0 (fun k_ hk_ => ⟨Or.elim hk_ (fun hs_ => Or.elim hs_ (fun hs_ => hs_.1.1) (fun hs_ => hs_.1)) (fun hn_ => (Nat.le_trans (keep_size (w := w) (g := g) (row := none) (aH1 GW263.out)) hn_)), Or.elim hk_ (fun hs_ => Or.elim hs_ (fun hs_ => hs_.1.2.1) (fun hs_ => hs_.2.2.1)) (fun hn_ => (Kd.freshB (g := gb263) (o := .cells #[.int .i64 0, .int .i64 0, .string (⟨#[]⟩ : ByteArray), .slice none 0 0] 91 (0, 0)) (aW BK263.out) k_ hn_)), Or.elim hk_ (fun hs_ => Or.elim hs_ (fun hs_ => hs_.1.2.2) (fun hs_ => hs_.2.2.2)) (fun hn_ => (IsS87.fresh (by repeat (first | (with_reducible first | exact HI0.out | apply IsS87.alloc | apply IsS87.drewN | apply IsS87.drew | apply IsS87.set_1 | refine IsS87.far ?_ NB0_263.out _) | exact HI0.out)) k_ hn_))⟩)) (keep_size (w := w) (g := g) (row := none) (aH1 GW263.out))); have n3_ := Aside0.mk (blk_below (g := gb263) (o := .cells #[.int .i64 0, .int .i64 0, .string (⟨#[]⟩ : ByteArray), .slice none 0 0] 91 (0, 0)) (aW BK263.out) hb); have n4_ := Aside0.mk (IsS87.below (by repeat (first | (with_reducible first | exact HI0.out | apply IsS87.alloc | apply IsS87.drewN | apply IsS87.drew | apply IsS87.set_1 | refine IsS87.far ?_ NB0_263.out _) | exact HI0.out)) hb); have n5_ := Aside0.mk (KeepBut.trans (aH1 GW263.out) (KeepBut.of_below hb g none) (.inl rfl)); have n6_ := Aside0.mk (below_step (aB2 (IsS87.ge HI0.out) GE263.out) hb); clear HO361; clear HO368; clear BK263; clear HI0; clear HK; clear HB; have HO361 := n0_; have HO368 := n1_; have HO375 := n2_; have BK263 := n3_; have HI0 := n4_; have HK := n5_; have HB := n6_; clear n0_ n1_ n2_ n3_ n4_ n5_ n6_; (try clear hb); (try clear hb2); (try clear hk); (try clear hi); (try clear ho0); have hnb104 := NB263_0.out; have hnc104 := NB0_263.out; have hcz105_0 : w103.cell? ⟨gb263, 0, none⟩ = some (.int .i64 0) := (blk_cell BK263.out 0).trans rfl; have hcz105_1 : w103.cell? ⟨gb263, 1, none⟩ = some (.int .i64 0) := (blk_cell BK263.out 1).trans rfl; have hcz105_2 : w103.cell? ⟨gb263, 2, none⟩ = some (.string (⟨#[]⟩ : ByteArray)) := (blk_cell BK263.out 2).trans rfl; have hcz105_3 : w103.cell? ⟨gb263, 3, none⟩ = some (.slice none 0 0) := (blk_cell BK263.out 3).trans rfl; have hfz105_0 := blk_frozen BK263.out 0; have hfz105_1 := blk_frozen BK263.out 1; have hfz105_2 := blk_frozen BK263.out 2; have hfz105_3 := blk_frozen BK263.out 3; obtain ⟨Ao106, co106, eo106⟩ := Kd.N_slice HO375.out; subst eo106))
          refine bodyPost_ret (results_cell_row rfl _ _ gb263 91 #[.int .i64 t370, .int .i64 t371, .string t372, .slice Ao106 t373.length co106] (0, 0) _ rfl (by refine aW ?_; refine blk_put (cs := #[.int .i64 t370, .int .i64 t371, .string t372, .slice none 0 0]) ?_ 3 _ rfl; refine aW ?_; refine blk_put (cs := #[.int .i64 t370, .int .i64 t371, .string (⟨#[]⟩ : ByteArray), .slice none 0 0]) ?_ 2 _ rfl; refine aW ?_; refine blk_put (cs := #[.int .i64 t370, .int .i64 0, .string (⟨#[]⟩ : ByteArray), .slice none 0 0]) ?_ 1 _ rfl; refine aW ?_; refine blk_put (cs := #[.int .i64 0, .int .i64 0, .string (⟨#[]⟩ : ByteArray), .slice none 0 0]) ?_ 0 _ rfl; refine aW ?_; exact BK263.out) Try.underlying91 rfl aK) rfl ?_
          exact ⟨_, by first | rfl | (simp [errW_none, errW_some] <;> rfl) | (simp [*, errW_none, errW_some] <;> rfl), by (with_reducible repeat (first | apply Kd.N_alloc | apply Kd.N_drewN | apply Kd.N_drew)); exact Kd.N_mono (Kd.N_far (p := ⟨gb263, 3, none⟩) (Kd.N_far (p := ⟨gb263, 2, none⟩) (Kd.N_far (p := ⟨gb263, 1, none⟩) (Kd.N_far (p := ⟨gb263, 0, none⟩) (Kd.N_mono HO375.out (fun k_ hk => (⟨hk, hk.2.1⟩ : _ ∧ k_ ≠ gb263))) (fun _ hk => hk.2) (.int .i64 t370)) (fun _ hk => hk.2) (.int .i64 t371)) (fun _ hk => hk.2) (.string t372)) (fun _ hk => hk.2) (.slice Ao106 t373.length co106)) (fun _ hk => hk.1.1), by repeat (first | (with_reducible first | exact HI0.out | apply IsS87.alloc | apply IsS87.drewN | apply IsS87.drew | apply IsS87.set_1 | refine IsS87.far ?_ NB0_263.out _) | exact HI0.out), by repeat (first | (with_reducible first | exact HB.out | apply below_alloc | apply pw_below_drewN | apply below_drew1 | refine below_set ?_ (IsS87.ge HI0.out) | refine below_set ?_ GE263.out) | exact HB.out), by repeat (first | (with_reducible first | exact HK.out | apply KeepBut.set_ | apply keep_drewN | apply keep_drew | apply keep_alloc | refine keep_far ?_ GW263.out _) | exact HK.out)⟩

/-! ### spec_l1Count: function 101 -/
mutual
def spec_l1Count.l0 : Nat → Int → Int → Int → Int → ByteArray → List (S91) → Option (Int)
 | 0, _, _, _, _, _, _ => none
 | k + 1, x3, x4, x377000, x377001, x377002, x377003 => if x4 < (x377003.length : Int) then (if 0 ≤ x4 then ((spec_l1Count.f k ((rd_T91 x377003 x4).f0) ((rd_T91 x377003 x4).f1) ((rd_T91 x377003 x4).f2) ((rd_T91 x377003 x4).f3)).bind fun t378 => (spec_l1Count.l0 k (wrap64 (x3 + t378)) (wrap64 (x4 + 1)) x377000 x377001 x377002 x377003)) else (none)) else (some x3)
def spec_l1Count.f : Nat → Int → Int → ByteArray → List (S91) → Option (Int)
 | 0, _, _, _, _ => none
 | k + 1, a0_0, a0_1, a0_2, l0_3 => spec_l1Count.l0 k 1 0 a0_0 a0_1 a0_2 l0_3
end
set_option maxHeartbeats 8000000 in
set_option maxRecDepth 100000 in
theorem spec_l1Count.calls (k : Nat) : ∀ (a0_0 : Int) (a0_1 : Int) (a0_2 : ByteArray) (A0_3 : Option Addr) (c0_3 : Nat) (l0_3 : List (S91)) (r : Int) (w : World) (hr0_3 : Kd.C k91 w A0_3 l0_3.length l0_3) (hc0_3 : l0_3.length ≤ c0_3) (h : spec_l1Count.f k a0_0 a0_1 a0_2 l0_3 = some r),
  Calls Try.prog 101 #[.agg #[.int .i64 a0_0, .int .i64 a0_1, .string a0_2, .slice A0_3 l0_3.length c0_3]] w fun e w' => e = .returned (.int .i64 r) ∧ Below w.heap.size w w' := by
 induction k using Nat.strongRecOn with
 | _ k ih =>
 intro a0_0 a0_1 a0_2 A0_3 c0_3 l0_3 r w hr0_3 hc0_3 h
 cases k with
 | zero => exact absurd h (by simp [spec_l1Count.f])
 | succ k =>
 simp only [spec_l1Count.f] at h
 have hu91 := Try.underlying91
 have HR0_3 := Aside0.mk hr0_3
 have HC0_3 := Aside0.mk hc0_3
 clear hr0_3 hc0_3
 have HB := Aside0.mk (Below.refl w.heap.size w)
 have H : (spec_l1Count.l0 k 1 0 a0_0 a0_1 a0_2 l0_3) = some r := h
 clear h
 have H' := Aside0.mk H
 clear H
 go_enter Try.func101, Try.ntmps101
 go_wp2_with (first | ((with_reducible refine gate_dst (N := 1) rfl ?_); refine box_event ?hg (N := 1) ?hd (cs := #[.int .i64 a0_0, .int .i64 a0_1, .string a0_2, .slice A0_3 l0_3.length c0_3]) (t := 91) ?hr ?_; (case hd => rfl); (case hg => rfl); (case hr => first | (go_simp; done) | (go_simp; rfl)); intro gb376 hg w2 hbox hb; have n0_ := Aside0.mk (below_step aB hb); have n1_ := Aside0.mk (hbox); have n2_ := Aside0.mk ((by rw [hg]; exact (below_size aB) : w.heap.size ≤ gb376)); have n3_ := Aside0.mk ((by rw [hg]; exact (below_size aB) : w.heap.size ≤ gb376)); clear HB; have HB := n0_; have BK376 := n1_; have GW376 := n2_; have GE376 := n3_; clear n0_ n1_ n2_ n3_; clear hb hbox hg))
 go_loopg [3, 4] k (fun kq v3 v4 w' => ∃ (x3_1 : Int) (x4_1 : Int), v3 = .int .i64 x3_1 ∧ v4 = .int .i64 x4_1 ∧ Aside0 (spec_l1Count.l0 kq x3_1 x4_1 a0_0 a0_1 a0_2 l0_3 = some r) ∧ Aside0 (kq ≤ k) ∧ Aside0 (w'.heap[gb376]? = some (.cells #[.int .i64 a0_0, .int .i64 a0_1, .string a0_2, (.slice A0_3 l0_3.length c0_3)] 91 (0, 0))) ∧ Aside0 (Below w.heap.size w w'))
 case atStart => exact ⟨(1), (0), aR, aR, H', ⟨Nat.le_refl _⟩, ⟨by refine aW ?_; exact BK376.out⟩, ⟨by repeat (first | (with_reducible first | exact HB.out | apply below_alloc | apply pw_below_drewN | apply below_drew1 | refine below_set ?_ GE376.out) | exact HB.out)⟩⟩
 case round =>
  clear H'
  try clear c1
  try clear p2
  obtain ⟨x3_1, x4_1, rfl, rfl, HA, HK1, BK376, HB⟩ := hrel
  cases gk with
  | zero => exact absurd HA.out (by simp [spec_l1Count.l0])
  | succ k1 =>
   have H := HA.out
   clear HA
   simp only [spec_l1Count.l0] at H
   by_cases c3 : x4_1 < (l0_3.length : Int)
   ·rw [if_pos c3] at H
    have c3b0 : decide (x4_1 < (l0_3.length : Int)) = true := decide_eq_true c3
    clear c3
    by_cases c4 : 0 ≤ x4_1
    ·rw [if_pos c4] at H
     have c4b0 : decide (0 ≤ x4_1) = true := decide_eq_true c4
     clear c4
     replace H := Option.bind_eq_some_iff.mp H
     obtain ⟨t378, A50, H⟩ := H
     replace H : (spec_l1Count.l0 k1 (wrap64 (x3_1 + t378)) (wrap64 (x4_1 + 1)) a0_0 a0_1 a0_2 l0_3) = some r := H
     have A5 := Aside0.mk A50
     clear A50
     have H' := Aside0.mk H
     clear H
     have hcz6_0 : wr.cell? ⟨gb376, 0, none⟩ = some (.int .i64 a0_0) := (blk_cell BK376.out 0).trans rfl
     have hcz6_1 : wr.cell? ⟨gb376, 1, none⟩ = some (.int .i64 a0_1) := (blk_cell BK376.out 1).trans rfl
     have hcz6_2 : wr.cell? ⟨gb376, 2, none⟩ = some (.string a0_2) := (blk_cell BK376.out 2).trans rfl
     have hcz6_3 : wr.cell? ⟨gb376, 3, none⟩ = some (.slice A0_3 l0_3.length c0_3) := (blk_cell BK376.out 3).trans rfl
     have hfz6_0 := blk_frozen BK376.out 0
     have hfz6_1 := blk_frozen BK376.out 1
     have hfz6_2 := blk_frozen BK376.out 2
     have hfz6_3 := blk_frozen BK376.out 3
     have p377 : 0 ≤ (x4_1 : Int) := of_decide_eq_true aQ
     have q377 : x4_1 < (l0_3.length : Int) := of_decide_eq_true aQ
     obtain ⟨ad377, A377_3, c377_3, e377, hx377_0, hx377_1, hx377_2, hx377_3, hl377_3, hi377_3⟩ := at_T91 HR0_3.out x4_1 p377 q377
     cases e377
     replace hx377_0 := (HB.out.cell (World.block_lt_of_cell? w _ hx377_0)).trans hx377_0
     replace hx377_1 := (HB.out.cell (World.block_lt_of_cell? w _ hx377_1)).trans hx377_1
     replace hx377_2 := (HB.out.cell (World.block_lt_of_cell? w _ hx377_2)).trans hx377_2
     replace hx377_3 := (HB.out.cell (World.block_lt_of_cell? w _ hx377_3)).trans hx377_3
     have HR377_3 := Aside0.mk hi377_3
     have HC377_3 := Aside0.mk hl377_3
     clear hi377_3 hl377_3
     replace p377 := eq_true p377
     replace q377 := eq_true q377
     go_wp2_with (first | ((with_reducible refine gate_callee (f := 101) rfl ?_); refine goesL_ (some 18) rfl rfl Try.func101 aK rfl #[.agg #[.int .i64 ((rd_T91 l0_3 x4_1).f0), .int .i64 ((rd_T91 l0_3 x4_1).f1), .string ((rd_T91 l0_3 x4_1).f2), .slice A377_3 ((rd_T91 l0_3 x4_1).f3).length c377_3]] rfl aL ?_; (with_reducible refine (ih k1 (by have := HK1.out; omega) ((rd_T91 l0_3 x4_1).f0) ((rd_T91 l0_3 x4_1).f1) ((rd_T91 l0_3 x4_1).f2) _ _ ((rd_T91 l0_3 x4_1).f3) t378 _ ?side1 ?side2 A5.out).mono ?_); (case side1 => repeat (first | exact (Kd.C_below HR377_3.out HB.out) | (with_reducible refine Kd.C_alloc ?_ _) | (with_reducible refine Kd.C_drewN ?_ _) | (with_reducible refine Kd.C_drew ?_))); (case side2 => exact HC377_3.out); rintro e w7 ⟨rfl, hb⟩; refine ⟨_, rfl, ?_⟩; have n0_ := Aside0.mk (blk_below (g := gb376) (o := .cells #[.int .i64 a0_0, .int .i64 a0_1, .string a0_2, .slice (some ad377) l0_3.length c0_3] 91 (0, 0)) (aW BK376.out) hb); have n1_ := Aside0.mk (below_step (aB1 GE376.out) hb); clear BK376; clear HB; have BK376 := n0_; have HB := n1_; clear n0_ n1_; (try clear hb); (try clear hb2); (try clear hk); (try clear hi)))
     go_roundg k1
     case measure => have := HK1.out; omega
     case rel => exact ⟨(wrap64 (x3_1 + t378)), (wrap64 (x4_1 + 1)), aR, aR, H', ⟨by have := HK1.out; omega⟩, ⟨by refine aW ?_; exact BK376.out⟩, ⟨by repeat (first | (with_reducible first | exact HB.out | apply below_alloc | apply pw_below_drewN | apply below_drew1 | refine below_set ?_ GE376.out) | exact HB.out)⟩⟩
    ·rw [if_neg c4] at H
     exact absurd H (by simp)
   ·rw [if_neg c3] at H
    have c3b0 : decide (x4_1 < (l0_3.length : Int)) = false := decide_eq_false c3
    clear c3
    obtain rfl := Option.some.inj H
    have hcz8_0 : wr.cell? ⟨gb376, 0, none⟩ = some (.int .i64 a0_0) := (blk_cell BK376.out 0).trans rfl
    have hcz8_1 : wr.cell? ⟨gb376, 1, none⟩ = some (.int .i64 a0_1) := (blk_cell BK376.out 1).trans rfl
    have hcz8_2 : wr.cell? ⟨gb376, 2, none⟩ = some (.string a0_2) := (blk_cell BK376.out 2).trans rfl
    have hcz8_3 : wr.cell? ⟨gb376, 3, none⟩ = some (.slice A0_3 l0_3.length c0_3) := (blk_cell BK376.out 3).trans rfl
    have hfz8_0 := blk_frozen BK376.out 0
    have hfz8_1 := blk_frozen BK376.out 1
    have hfz8_2 := blk_frozen BK376.out 2
    have hfz8_3 := blk_frozen BK376.out 3
    go_wp2
    go_ret
    exact ⟨by first | rfl | (simp [errW_none, errW_some] <;> rfl) | (simp [*, errW_none, errW_some] <;> rfl), by repeat (first | (with_reducible first | exact HB.out | apply below_alloc | apply pw_below_drewN | apply below_drew1 | refine below_set ?_ GE376.out) | exact HB.out)⟩

end Go.Proofs.Ytkcpimhohadjkaa.PPb
