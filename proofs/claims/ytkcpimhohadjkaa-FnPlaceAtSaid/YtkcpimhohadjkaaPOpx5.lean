-- Written by a program of this session (xprint). -- COMPACT
import Derived.Test.YtkcpimhohadjkaaPOpx0
import Derived.Test.YtkcpimhohadjkaaPOpx3
import Derived.Test.YtkcpimhohadjkaaPOpx4
namespace Go.Proofs.Ytkcpimhohadjkaa.POp
open Go.RowKit Go.Proofs.YtkcpimhohadjkaaW.PrintWords Go.Proofs.YtkcpimhohadjkaaW.PrintLast Go.Proofs.YtkcpimhohadjkaaW.PrintMore
attribute [local go_sem] max2_int min2_int max_two min_two max_three min_three max_four min_four   -- for this text's walks alone
set_option linter.unusedVariables false
set_option linter.unusedSimpArgs false

/-! ### spec_l1Some: function 78 -/
mutual
def spec_l1Some.j0 : Nat → Int → Bool → List Int → Int → Option (Int × Int × ByteArray × (List (S91)) × Int)
 | 0, _, _, _, _ => none
 | k + 1, x8, x12, x1000, x1001 => if x12 = true then (some (3, 0, (⟨#[]⟩ : ByteArray), ([] : List (S91)), x1001)) else (if x8 = 3 then (some (4, 0, (⟨#[]⟩ : ByteArray), ([] : List (S91)), x1001)) else ((spec_l1Word2.f k x1000 x1001).bind fun bt192 => (some (2, 0, bt192.1, ([] : List (S91)), bt192.2))))
def spec_l1Some.j1 : Nat → Int → Int → Bool → List Int → Int → Option (Int × Int × ByteArray × (List (S91)) × Int)
 | 0, _, _, _, _, _ => none
 | k + 1, x1, x23, x28, x1000, x1001 => if x28 = true then ((spec_l15Rd_num.f k x1000 x1001 (([2, 1, 4, 0, 9] : List Int))).bind fun bt206 => ((spec_l1Some.f k x1000 bt206.2 (wrap64 (x1 - 1))).bind fun bt208 => (some (6, bt206.1, (⟨#[]⟩ : ByteArray), (([(⟨bt208.1, bt208.2.1, bt208.2.2.1, bt208.2.2.2.1⟩ : S91)] : List (S91))), bt208.2.2.2.2)))) else (if x23 = 3 then (spec_l1Some.j2 k x1 x23 (x23 == 3) x1000 x1001) else (if x23 = 4 then (spec_l1Some.j2 k x1 x23 (x23 == 4) x1000 x1001) else (spec_l1Some.j2 k x1 x23 (x23 == 5) x1000 x1001)))
def spec_l1Some.j2 : Nat → Int → Int → Bool → List Int → Int → Option (Int × Int × ByteArray × (List (S91)) × Int)
 | 0, _, _, _, _, _ => none
 | k + 1, x1, x23, x40, x1000, x1001 => if x40 = true then ((spec_l1Some.f k x1000 x1001 (wrap64 (x1 - 1))).bind fun bt218 => (some (8, 0, (⟨#[]⟩ : ByteArray), (([(⟨bt218.1, bt218.2.1, bt218.2.2.1, bt218.2.2.2.1⟩ : S91)] : List (S91))), bt218.2.2.2.2))) else (if x23 = 6 then ((spec_l15Rd_pick.f k x1000 x1001 3).bind fun bt228 => (if bt228.1 = 0 then ((spec_l1Some.f k x1000 bt228.2 (wrap64 (x1 - 1))).bind fun bt230 => ((spec_l1Some.f k x1000 bt230.2.2.2.2 0).bind fun bt237 => ((spec_l1Cat.f 5 0 (⟨#[]⟩ : ByteArray) ([] : List (S91)) bt237.1 bt237.2.1 bt237.2.2.1 bt237.2.2.2.1).bind fun bt244 => ((spec_l1Cat.f bt230.1 bt230.2.1 bt230.2.2.1 bt230.2.2.2.1 bt244.1 bt244.2.1 bt244.2.2.1 bt244.2.2.2).bind fun bt250 => (some (bt250.1, bt250.2.1, bt250.2.2.1, bt250.2.2.2, bt237.2.2.2.2)))))) else ((spec_l1Some.f k x1000 bt228.2 (wrap64 (x1 - 1))).bind fun bt256 => ((spec_l1Some.f k x1000 bt256.2.2.2.2 0).bind fun bt263 => ((spec_l1Cat.f 3 0 (⟨#[]⟩ : ByteArray) ([] : List (S91)) bt263.1 bt263.2.1 bt263.2.2.1 bt263.2.2.2.1).bind fun bt270 => ((spec_l1Cat.f bt256.1 bt256.2.1 bt256.2.2.1 bt256.2.2.2.1 bt270.1 bt270.2.1 bt270.2.2.1 bt270.2.2.2).bind fun bt276 => (some (bt276.1, bt276.2.1, bt276.2.2.1, bt276.2.2.2, bt263.2.2.2.2)))))))) else ((spec_l1Some.f k x1000 x1001 (wrap64 (x1 - 1))).bind fun bt282 => ((spec_l1Some.f k x1000 bt282.2.2.2.2 (wrap64 (x1 - 1))).bind fun bt289 => ((spec_l1Cat.f bt282.1 bt282.2.1 bt282.2.2.1 bt282.2.2.2.1 bt289.1 bt289.2.1 bt289.2.2.1 bt289.2.2.2.1).bind fun bt296 => (some (bt296.1, bt296.2.1, bt296.2.2.1, bt296.2.2.2, bt289.2.2.2.2))))))
def spec_l1Some.f : Nat → List Int → Int → Int → Option (Int × Int × ByteArray × (List (S91)) × Int)
 | 0, _, _, _ => none
 | k + 1, s0_0, s0_1, a1 => if a1 = 0 then ((spec_l15Rd_pick.f k s0_0 s0_1 8).bind fun bt190 => (if bt190.1 = 0 then (some (1, 0, (⟨#[]⟩ : ByteArray), ([] : List (S91)), bt190.2)) else (if bt190.1 = 1 then (spec_l1Some.j0 k bt190.1 (bt190.1 == 1) s0_0 bt190.2) else (spec_l1Some.j0 k bt190.1 (bt190.1 == 2) s0_0 bt190.2)))) else ((spec_l15Rd_pick.f k s0_0 s0_1 12).bind fun bt194 => (if bt194.1 = 0 then ((spec_l1Some.f k s0_0 bt194.2 0).bind fun bt196 => (some (bt196.1, bt196.2.1, bt196.2.2.1, bt196.2.2.2.1, bt196.2.2.2.2))) else (if bt194.1 = 1 then (spec_l1Some.j1 k a1 bt194.1 (bt194.1 == 1) s0_0 bt194.2) else (spec_l1Some.j1 k a1 bt194.1 (bt194.1 == 2) s0_0 bt194.2))))
end
set_option maxHeartbeats 8000000 in
set_option maxRecDepth 100000 in
theorem spec_l1Some.calls (k : Nat) : ∀ (g : Nat) (s0_0 : List Int) (s0_1 : Int) (a1 : Int) (r1 : Int) (r2 : Int) (r3 : ByteArray) (r4 : List (S91)) (r5 : Int) (w0 w : World) (hI : IsS87 w0 w g s0_0 s0_1) (hB : Below w0.heap.size w0 w) (h : spec_l1Some.f k s0_0 s0_1 a1 = some (r1, r2, r3, r4, r5)),
  Calls Try.prog 78 #[.pointer (some ⟨g, 0, none⟩), .int .i64 a1] w fun e w' => ∃ v3_ : Value, e = .returned (.agg #[.int .i64 r1, .int .i64 r2, .string r3, v3_]) ∧ Kd.N k91 91 w' w.heap.size (fun k_ => (w.heap.size ≤ k_)) v3_ r4 ∧ IsS87 w0 w' g s0_0 r5 ∧ Below w0.heap.size w0 w' ∧ KeepBut w w' g none := by
 induction k using Nat.strongRecOn with
 | _ k ih =>
 intro g s0_0 s0_1 a1 r1 r2 r3 r4 r5 w0 w hI hB h
 cases k with
 | zero => exact absurd h (by simp [spec_l1Some.f])
 | succ k =>
 simp only [spec_l1Some.f] at h
 have hu91 := Try.underlying91
 have HI0 := Aside0.mk hI
 have HK := Aside0.mk (KeepBut.refl w g none)
 have HL := Aside0.mk hB.size
 clear hI
 have HW0 := Aside0.mk hB.size
 have HB := Aside0.mk hB
 clear hB
 have H : (if a1 = 0 then ((spec_l15Rd_pick.f k s0_0 s0_1 8).bind fun bt190 => (if bt190.1 = 0 then (some (1, 0, (⟨#[]⟩ : ByteArray), ([] : List (S91)), bt190.2)) else (if bt190.1 = 1 then (spec_l1Some.j0 k bt190.1 (bt190.1 == 1) s0_0 bt190.2) else (spec_l1Some.j0 k bt190.1 (bt190.1 == 2) s0_0 bt190.2)))) else ((spec_l15Rd_pick.f k s0_0 s0_1 12).bind fun bt194 => (if bt194.1 = 0 then ((spec_l1Some.f k s0_0 bt194.2 0).bind fun bt196 => (some (bt196.1, bt196.2.1, bt196.2.2.1, bt196.2.2.2.1, bt196.2.2.2.2))) else (if bt194.1 = 1 then (spec_l1Some.j1 k a1 bt194.1 (bt194.1 == 1) s0_0 bt194.2) else (spec_l1Some.j1 k a1 bt194.1 (bt194.1 == 2) s0_0 bt194.2))))) = some (r1, r2, r3, r4, r5) := h
 clear h
 by_cases c3 : a1 = 0
 ·rw [if_pos c3] at H
  have c3b0 : (a1 == 0) = true := beq_iff_eq.mpr c3
  have c3b1 : (a1 != 0) = false := bne_eq_false_iff_eq.mpr c3
  clear c3
  replace H := Option.bind_eq_some_iff.mp H
  obtain ⟨⟨t190, t191⟩, A40, H⟩ := H
  replace H : (if t190 = 0 then (some (1, 0, (⟨#[]⟩ : ByteArray), ([] : List (S91)), t191)) else (if t190 = 1 then (spec_l1Some.j0 k t190 (t190 == 1) s0_0 t191) else (spec_l1Some.j0 k t190 (t190 == 2) s0_0 t191))) = some (r1, r2, r3, r4, r5) := H
  have A4 := Aside0.mk A40
  clear A40
  by_cases c5 : t190 = 0
  ·rw [if_pos c5] at H
   have c5b0 : (t190 == 0) = true := beq_iff_eq.mpr c5
   have c5b1 : (t190 != 0) = false := bne_eq_false_iff_eq.mpr c5
   clear c5
   simp only [Option.some.injEq, Prod.mk.injEq] at H
   obtain ⟨rfl, rfl, rfl, rfl, rfl⟩ := H
   go_enter Try.func78, Try.ntmps78
   go_wp2_with (first | ((with_reducible refine gate_dst (N := 4) rfl ?_); refine box_event ?hg (N := 4) ?hd (cs := #[.int .i64 0, .int .i64 0, .string (⟨#[]⟩ : ByteArray), .slice none 0 0]) (t := 91) ?hr ?_; (case hd => rfl); (case hg => rfl); (case hr => first | (go_simp; done) | (go_simp; rfl)); intro gb189 hg w6 hbox hb; have n0_ := Aside0.mk (IsS87.below (by repeat (first | (with_reducible first | exact HI0.out | apply IsS87.alloc | apply IsS87.drewN | apply IsS87.drew | apply IsS87.set_1) | exact HI0.out)) hb); have n1_ := Aside0.mk (KeepBut.trans aH (KeepBut.of_below hb g none) (.inl rfl)); have n2_ := Aside0.mk (below_step (aB1 (IsS87.ge HI0.out)) hb); have n3_ := Aside0.mk (hbox); have n4_ := Aside0.mk ((by rw [hg]; exact (keep_size (w := w) (g := g) (row := none) aH) : w.heap.size ≤ gb189)); have n5_ := Aside0.mk ((Nat.le_trans HW0.out (by rw [hg]; exact (keep_size (w := w) (g := g) (row := none) aH) : w.heap.size ≤ gb189) : w0.heap.size ≤ gb189)); have n6_ := Aside0.mk ((by rw [hg]; exact Nat.ne_of_lt (IsS87.lt (show IsS87 w0 _ g s0_0 s0_1 from by repeat (first | (with_reducible first | exact HI0.out | apply IsS87.alloc | apply IsS87.drewN | apply IsS87.drew | apply IsS87.set_1) | exact HI0.out))) : g ≠ gb189)); have n7_ := Aside0.mk ((by rw [hg]; exact Nat.ne_of_gt (IsS87.lt (show IsS87 w0 _ g s0_0 s0_1 from by repeat (first | (with_reducible first | exact HI0.out | apply IsS87.alloc | apply IsS87.drewN | apply IsS87.drew | apply IsS87.set_1) | exact HI0.out))) : gb189 ≠ g)); clear HI0; clear HK; clear HB; have HI0 := n0_; have HK := n1_; have HB := n2_; have BK189 := n3_; have GW189 := n4_; have GE189 := n5_; have NB0_189 := n6_; have NB189_0 := n7_; clear n0_ n1_ n2_ n3_ n4_ n5_ n6_ n7_; clear hb hbox hg) | ((with_reducible refine gate_callee (f := 79) rfl ?_); refine goesL_ (some 8) rfl rfl Try.func79 aK rfl #[.pointer (some ⟨g, 0, none⟩), .int .i64 8] rfl aL ?_; (with_reducible refine (spec_l15Rd_pick.calls k g s0_0 s0_1 8 t190 t191 w0 _ ?side1 ?side2 A4.out).mono ?_); (case side1 => repeat (first | (with_reducible first | exact HI0.out | apply IsS87.alloc | apply IsS87.drewN | apply IsS87.drew | apply IsS87.set_1 | refine IsS87.far ?_ NB0_189.out _) | exact HI0.out)); (case side2 => repeat (first | (with_reducible first | exact HB.out | apply below_alloc | apply pw_below_drewN | apply below_drew1 | refine below_set ?_ (IsS87.ge HI0.out) | refine below_set ?_ GE189.out) | exact HB.out)); rintro e w7 ⟨rfl, hi, hb, hk⟩; refine ⟨_, rfl, ?_⟩; have n0_ := Aside0.mk (KeepBut.blk hk (g' := gb189) (o := .cells #[.int .i64 0, .int .i64 0, .string (⟨#[]⟩ : ByteArray), .slice none 0 0] 91 (0, 0)) (aW BK189.out) NB189_0.out (by simp)); have n1_ := Aside0.mk (KeepBut.trans (aH1 GW189.out) hk (.inl rfl)); have n2_ := Aside0.mk (hb); have n3_ := Aside0.mk (hi); clear BK189; clear HK; clear HB; clear HI0; have BK189 := n0_; have HK := n1_; have HB := n2_; have HI0 := n3_; clear n0_ n1_ n2_ n3_; (try clear hb); (try clear hb2); (try clear hk); (try clear hi); have hnb8 := NB189_0.out; have hnc8 := NB0_189.out; have hcz9_0 : w7.cell? ⟨gb189, 0, none⟩ = some (.int .i64 0) := (blk_cell BK189.out 0).trans rfl; have hcz9_1 : w7.cell? ⟨gb189, 1, none⟩ = some (.int .i64 0) := (blk_cell BK189.out 1).trans rfl; have hcz9_2 : w7.cell? ⟨gb189, 2, none⟩ = some (.string (⟨#[]⟩ : ByteArray)) := (blk_cell BK189.out 2).trans rfl; have hcz9_3 : w7.cell? ⟨gb189, 3, none⟩ = some (.slice none 0 0) := (blk_cell BK189.out 3).trans rfl; have hfz9_0 := blk_frozen BK189.out 0; have hfz9_1 := blk_frozen BK189.out 1; have hfz9_2 := blk_frozen BK189.out 2; have hfz9_3 := blk_frozen BK189.out 3))
   refine bodyPost_ret (results_cell_row rfl _ _ gb189 91 #[.int .i64 1, .int .i64 0, .string (⟨#[]⟩ : ByteArray), .slice none 0 0] (0, 0) _ rfl (by refine aW ?_; refine blk_put (cs := #[.int .i64 1, .int .i64 0, .string (⟨#[]⟩ : ByteArray), .slice none 0 0]) ?_ 3 _ rfl; refine aW ?_; refine blk_put (cs := #[.int .i64 1, .int .i64 0, .string (⟨#[]⟩ : ByteArray), .slice none 0 0]) ?_ 2 _ rfl; refine aW ?_; refine blk_put (cs := #[.int .i64 1, .int .i64 0, .string (⟨#[]⟩ : ByteArray), .slice none 0 0]) ?_ 1 _ rfl; refine aW ?_; refine blk_put (cs := #[.int .i64 0, .int .i64 0, .string (⟨#[]⟩ : ByteArray), .slice none 0 0]) ?_ 0 _ rfl; refine aW ?_; exact BK189.out) Try.underlying91 rfl aK) rfl ?_
   exact ⟨_, by first | rfl | (simp [errW_none, errW_some] <;> rfl) | (simp [*, errW_none, errW_some] <;> rfl), by first | exact Kd.R_nil _ _ _ _ _ | exact Kd.N_nil _ _ _ _ _ | exact Kd.V_nil _ _ _ _ _ | exact Kd.Q_nil _ _ _ _ _ | exact Kd.S_nil _ _ _ _ _, by repeat (first | (with_reducible first | exact HI0.out | apply IsS87.alloc | apply IsS87.drewN | apply IsS87.drew | apply IsS87.set_1 | refine IsS87.far ?_ NB0_189.out _) | exact HI0.out), by repeat (first | (with_reducible first | exact HB.out | apply below_alloc | apply pw_below_drewN | apply below_drew1 | refine below_set ?_ (IsS87.ge HI0.out) | refine below_set ?_ GE189.out) | exact HB.out), by repeat (first | (with_reducible first | exact HK.out | apply KeepBut.set_ | apply keep_drewN | apply keep_drew | apply keep_alloc | refine keep_far ?_ GW189.out _) | exact HK.out)⟩
  ·rw [if_neg c5] at H
   have c5b0 : (t190 == 0) = false := beq_eq_false_iff_ne.mpr c5
   have c5b1 : (t190 != 0) = true := bne_iff_ne.mpr c5
   have HC10 := Aside0.mk H
   clear H
   go_enter Try.func78, Try.ntmps78
   go_upto_if 12 with (first | ((with_reducible refine gate_dst (N := 4) rfl ?_); refine box_event ?hg (N := 4) ?hd (cs := #[.int .i64 0, .int .i64 0, .string (⟨#[]⟩ : ByteArray), .slice none 0 0]) (t := 91) ?hr ?_; (case hd => rfl); (case hg => rfl); (case hr => first | (go_simp; done) | (go_simp; rfl)); intro gb189 hg w11 hbox hb; have n0_ := Aside0.mk (IsS87.below (by repeat (first | (with_reducible first | exact HI0.out | apply IsS87.alloc | apply IsS87.drewN | apply IsS87.drew | apply IsS87.set_1) | exact HI0.out)) hb); have n1_ := Aside0.mk (KeepBut.trans aH (KeepBut.of_below hb g none) (.inl rfl)); have n2_ := Aside0.mk (below_step (aB1 (IsS87.ge HI0.out)) hb); have n3_ := Aside0.mk (hbox); have n4_ := Aside0.mk ((by rw [hg]; exact (keep_size (w := w) (g := g) (row := none) aH) : w.heap.size ≤ gb189)); have n5_ := Aside0.mk ((Nat.le_trans HW0.out (by rw [hg]; exact (keep_size (w := w) (g := g) (row := none) aH) : w.heap.size ≤ gb189) : w0.heap.size ≤ gb189)); have n6_ := Aside0.mk ((by rw [hg]; exact Nat.ne_of_lt (IsS87.lt (show IsS87 w0 _ g s0_0 s0_1 from by repeat (first | (with_reducible first | exact HI0.out | apply IsS87.alloc | apply IsS87.drewN | apply IsS87.drew | apply IsS87.set_1) | exact HI0.out))) : g ≠ gb189)); have n7_ := Aside0.mk ((by rw [hg]; exact Nat.ne_of_gt (IsS87.lt (show IsS87 w0 _ g s0_0 s0_1 from by repeat (first | (with_reducible first | exact HI0.out | apply IsS87.alloc | apply IsS87.drewN | apply IsS87.drew | apply IsS87.set_1) | exact HI0.out))) : gb189 ≠ g)); clear HI0; clear HK; clear HB; have HI0 := n0_; have HK := n1_; have HB := n2_; have BK189 := n3_; have GW189 := n4_; have GE189 := n5_; have NB0_189 := n6_; have NB189_0 := n7_; clear n0_ n1_ n2_ n3_ n4_ n5_ n6_ n7_; clear hb hbox hg) | ((with_reducible refine gate_callee (f := 79) rfl ?_); refine goesL_ (some 8) rfl rfl Try.func79 aK rfl #[.pointer (some ⟨g, 0, none⟩), .int .i64 8] rfl aL ?_; (with_reducible refine (spec_l15Rd_pick.calls k g s0_0 s0_1 8 t190 t191 w0 _ ?side1 ?side2 A4.out).mono ?_); (case side1 => repeat (first | (with_reducible first | exact HI0.out | apply IsS87.alloc | apply IsS87.drewN | apply IsS87.drew | apply IsS87.set_1 | refine IsS87.far ?_ NB0_189.out _) | exact HI0.out)); (case side2 => repeat (first | (with_reducible first | exact HB.out | apply below_alloc | apply pw_below_drewN | apply below_drew1 | refine below_set ?_ (IsS87.ge HI0.out) | refine below_set ?_ GE189.out) | exact HB.out)); rintro e w12 ⟨rfl, hi, hb, hk⟩; refine ⟨_, rfl, ?_⟩; have n0_ := Aside0.mk (KeepBut.blk hk (g' := gb189) (o := .cells #[.int .i64 0, .int .i64 0, .string (⟨#[]⟩ : ByteArray), .slice none 0 0] 91 (0, 0)) (aW BK189.out) NB189_0.out (by simp)); have n1_ := Aside0.mk (KeepBut.trans (aH1 GW189.out) hk (.inl rfl)); have n2_ := Aside0.mk (hb); have n3_ := Aside0.mk (hi); clear BK189; clear HK; clear HB; clear HI0; have BK189 := n0_; have HK := n1_; have HB := n2_; have HI0 := n3_; clear n0_ n1_ n2_ n3_; (try clear hb); (try clear hb2); (try clear hk); (try clear hi)))
   (try simp only [Act.put, List.setIfInBounds_toArray, List.set_cons_zero, List.set_cons_succ])
   go_cut [12] (fun v12 wc => ∃ (kq : Nat) (x12_9 : Bool), v12 = .bool x12_9 ∧ Aside0 (spec_l1Some.j0 kq t190 x12_9 s0_0 t191 = some (r1, r2, r3, r4, r5)) ∧ Aside0 (kq ≤ k) ∧ Aside0 (wc.heap[gb189]? = some (.cells #[.int .i64 0, .int .i64 0, .string (⟨#[]⟩ : ByteArray), (.slice none 0 0)] 91 (0, 0))) ∧ Aside0 (IsS87 w0 wc g s0_0 t191) ∧ Aside0 (KeepBut w wc g none) ∧ Aside0 (Below w0.heap.size w0 wc))
   case first =>
    have H := HC10.out
    clear HC10
    by_cases c13 : t190 = 1
    ·rw [if_pos c13] at H
     have c13b0 : (t190 == 1) = true := beq_iff_eq.mpr c13
     have c13b1 : (t190 != 1) = false := bne_eq_false_iff_eq.mpr c13
     clear c13
     (first | rw [c13b0] | (simp only [i64_w, i32_w]; rw [c13b0]) | skip)
     have H' := Aside0.mk H
     clear H
     go_wp2
     go_meet
     case rel => exact ⟨_, ((t190 == 1)), aR, H', ⟨by first | omega | exact Nat.le_refl _⟩, ⟨by refine aW ?_; exact BK189.out⟩, ⟨by repeat (first | (with_reducible first | exact HI0.out | apply IsS87.alloc | apply IsS87.drewN | apply IsS87.drew | apply IsS87.set_1 | refine IsS87.far ?_ NB0_189.out _) | exact HI0.out)⟩, ⟨by repeat (first | (with_reducible first | exact HK.out | apply KeepBut.set_ | apply keep_drewN | apply keep_drew | apply keep_alloc | refine keep_far ?_ GW189.out _) | exact HK.out)⟩, ⟨by repeat (first | (with_reducible first | exact HB.out | apply below_alloc | apply pw_below_drewN | apply below_drew1 | refine below_set ?_ (IsS87.ge HI0.out) | refine below_set ?_ GE189.out) | exact HB.out)⟩⟩
    ·rw [if_neg c13] at H
     have c13b0 : (t190 == 1) = false := beq_eq_false_iff_ne.mpr c13
     have c13b1 : (t190 != 1) = true := bne_iff_ne.mpr c13
     (first | rw [c13b0] | (simp only [i64_w, i32_w]; rw [c13b0]) | skip)
     have H' := Aside0.mk H
     clear H
     go_wp2
     go_meet
     case rel => exact ⟨_, ((t190 == 2)), aR, H', ⟨by first | omega | exact Nat.le_refl _⟩, ⟨by refine aW ?_; exact BK189.out⟩, ⟨by repeat (first | (with_reducible first | exact HI0.out | apply IsS87.alloc | apply IsS87.drewN | apply IsS87.drew | apply IsS87.set_1 | refine IsS87.far ?_ NB0_189.out _) | exact HI0.out)⟩, ⟨by repeat (first | (with_reducible first | exact HK.out | apply KeepBut.set_ | apply keep_drewN | apply keep_drew | apply keep_alloc | refine keep_far ?_ GW189.out _) | exact HK.out)⟩, ⟨by repeat (first | (with_reducible first | exact HB.out | apply below_alloc | apply pw_below_drewN | apply below_drew1 | refine below_set ?_ (IsS87.ge HI0.out) | refine below_set ?_ GE189.out) | exact HB.out)⟩⟩
   case rest =>
    clear HC10
    try clear c1
    try clear p2
    try clear c3
    try clear c3b0
    try clear c3b1
    try clear c5
    try clear c5b0
    try clear c5b1
    try clear c7
    try clear c8
    try clear c13
    try clear c13b0
    try clear c13b1
    try clear hcz9_0
    try clear hcz9_1
    try clear hcz9_2
    try clear hcz9_3
    try clear hfz9_0
    try clear hfz9_1
    try clear hfz9_2
    try clear hfz9_3
    obtain ⟨kq, x12_9, rfl, HA, HJ9, BK189, HI0, HK, HB⟩ := hcut
    cases kq with
    | zero => exact absurd HA.out (by simp [spec_l1Some.j0])
    | succ kj9 =>
     have H := HA.out
     clear HA
     simp only [spec_l1Some.j0] at H
     by_cases c14 : x12_9 = true
     ·subst c14
      have H1 : (some (3, 0, (⟨#[]⟩ : ByteArray), ([] : List (S91)), t191)) = some (r1, r2, r3, r4, r5) := by rw [if_pos rfl] at H; exact H
      clear H
      have H := H1
      clear H1
      simp only [Option.some.injEq, Prod.mk.injEq] at H
      obtain ⟨rfl, rfl, rfl, rfl, rfl⟩ := H
      have hnb15 := NB189_0.out
      have hnc15 := NB0_189.out
      have hcz16_0 : wc.cell? ⟨gb189, 0, none⟩ = some (.int .i64 0) := (blk_cell BK189.out 0).trans rfl
      have hcz16_1 : wc.cell? ⟨gb189, 1, none⟩ = some (.int .i64 0) := (blk_cell BK189.out 1).trans rfl
      have hcz16_2 : wc.cell? ⟨gb189, 2, none⟩ = some (.string (⟨#[]⟩ : ByteArray)) := (blk_cell BK189.out 2).trans rfl
      have hcz16_3 : wc.cell? ⟨gb189, 3, none⟩ = some (.slice none 0 0) := (blk_cell BK189.out 3).trans rfl
      have hfz16_0 := blk_frozen BK189.out 0
      have hfz16_1 := blk_frozen BK189.out 1
      have hfz16_2 := blk_frozen BK189.out 2
      have hfz16_3 := blk_frozen BK189.out 3
      go_wp2
      refine bodyPost_ret (results_cell_row rfl _ _ gb189 91 #[.int .i64 3, .int .i64 0, .string (⟨#[]⟩ : ByteArray), .slice none 0 0] (0, 0) _ rfl (by refine aW ?_; refine blk_put (cs := #[.int .i64 3, .int .i64 0, .string (⟨#[]⟩ : ByteArray), .slice none 0 0]) ?_ 3 _ rfl; refine aW ?_; refine blk_put (cs := #[.int .i64 3, .int .i64 0, .string (⟨#[]⟩ : ByteArray), .slice none 0 0]) ?_ 2 _ rfl; refine aW ?_; refine blk_put (cs := #[.int .i64 3, .int .i64 0, .string (⟨#[]⟩ : ByteArray), .slice none 0 0]) ?_ 1 _ rfl; refine aW ?_; refine blk_put (cs := #[.int .i64 0, .int .i64 0, .string (⟨#[]⟩ : ByteArray), .slice none 0 0]) ?_ 0 _ rfl; refine aW ?_; exact BK189.out) Try.underlying91 rfl aK) rfl ?_
      exact ⟨_, by first | rfl | (simp [errW_none, errW_some] <;> rfl) | (simp [*, errW_none, errW_some] <;> rfl), by first | exact Kd.R_nil _ _ _ _ _ | exact Kd.N_nil _ _ _ _ _ | exact Kd.V_nil _ _ _ _ _ | exact Kd.Q_nil _ _ _ _ _ | exact Kd.S_nil _ _ _ _ _, by repeat (first | (with_reducible first | exact HI0.out | apply IsS87.alloc | apply IsS87.drewN | apply IsS87.drew | apply IsS87.set_1 | refine IsS87.far ?_ NB0_189.out _) | exact HI0.out), by repeat (first | (with_reducible first | exact HB.out | apply below_alloc | apply pw_below_drewN | apply below_drew1 | refine below_set ?_ (IsS87.ge HI0.out) | refine below_set ?_ GE189.out) | exact HB.out), by repeat (first | (with_reducible first | exact HK.out | apply KeepBut.set_ | apply keep_drewN | apply keep_drew | apply keep_alloc | refine keep_far ?_ GW189.out _) | exact HK.out)⟩
     ·replace c14 := Bool.eq_false_iff.mpr c14
      subst c14
      have H1 : (if t190 = 3 then (some (4, 0, (⟨#[]⟩ : ByteArray), ([] : List (S91)), t191)) else ((spec_l1Word2.f kj9 s0_0 t191).bind fun bt192 => (some (2, 0, bt192.1, ([] : List (S91)), bt192.2)))) = some (r1, r2, r3, r4, r5) := by rw [if_neg (show ¬ (false = true) by decide)] at H; exact H
      clear H
      have H := H1
      clear H1
      by_cases c17 : t190 = 3
      ·rw [if_pos c17] at H
       have c17b0 : (t190 == 3) = true := beq_iff_eq.mpr c17
       have c17b1 : (t190 != 3) = false := bne_eq_false_iff_eq.mpr c17
       clear c17
       simp only [Option.some.injEq, Prod.mk.injEq] at H
       obtain ⟨rfl, rfl, rfl, rfl, rfl⟩ := H
       have hnb18 := NB189_0.out
       have hnc18 := NB0_189.out
       have hcz19_0 : wc.cell? ⟨gb189, 0, none⟩ = some (.int .i64 0) := (blk_cell BK189.out 0).trans rfl
       have hcz19_1 : wc.cell? ⟨gb189, 1, none⟩ = some (.int .i64 0) := (blk_cell BK189.out 1).trans rfl
       have hcz19_2 : wc.cell? ⟨gb189, 2, none⟩ = some (.string (⟨#[]⟩ : ByteArray)) := (blk_cell BK189.out 2).trans rfl
       have hcz19_3 : wc.cell? ⟨gb189, 3, none⟩ = some (.slice none 0 0) := (blk_cell BK189.out 3).trans rfl
       have hfz19_0 := blk_frozen BK189.out 0
       have hfz19_1 := blk_frozen BK189.out 1
       have hfz19_2 := blk_frozen BK189.out 2
       have hfz19_3 := blk_frozen BK189.out 3
       go_wp2
       refine bodyPost_ret (results_cell_row rfl _ _ gb189 91 #[.int .i64 4, .int .i64 0, .string (⟨#[]⟩ : ByteArray), .slice none 0 0] (0, 0) _ rfl (by refine aW ?_; refine blk_put (cs := #[.int .i64 4, .int .i64 0, .string (⟨#[]⟩ : ByteArray), .slice none 0 0]) ?_ 3 _ rfl; refine aW ?_; refine blk_put (cs := #[.int .i64 4, .int .i64 0, .string (⟨#[]⟩ : ByteArray), .slice none 0 0]) ?_ 2 _ rfl; refine aW ?_; refine blk_put (cs := #[.int .i64 4, .int .i64 0, .string (⟨#[]⟩ : ByteArray), .slice none 0 0]) ?_ 1 _ rfl; refine aW ?_; refine blk_put (cs := #[.int .i64 0, .int .i64 0, .string (⟨#[]⟩ : ByteArray), .slice none 0 0]) ?_ 0 _ rfl; refine aW ?_; exact BK189.out) Try.underlying91 rfl aK) rfl ?_
       exact ⟨_, by first | rfl | (simp [errW_none, errW_some] <;> rfl) | (simp [*, errW_none, errW_some] <;> rfl), by first | exact Kd.R_nil _ _ _ _ _ | exact Kd.N_nil _ _ _ _ _ | exact Kd.V_nil _ _ _ _ _ | exact Kd.Q_nil _ _ _ _ _ | exact Kd.S_nil _ _ _ _ _, by repeat (first | (with_reducible first | exact HI0.out | apply IsS87.alloc | apply IsS87.drewN | apply IsS87.drew | apply IsS87.set_1 | refine IsS87.far ?_ NB0_189.out _) | exact HI0.out), by repeat (first | (with_reducible first | exact HB.out | apply below_alloc | apply pw_below_drewN | apply below_drew1 | refine below_set ?_ (IsS87.ge HI0.out) | refine below_set ?_ GE189.out) | exact HB.out), by repeat (first | (with_reducible first | exact HK.out | apply KeepBut.set_ | apply keep_drewN | apply keep_drew | apply keep_alloc | refine keep_far ?_ GW189.out _) | exact HK.out)⟩
      ·rw [if_neg c17] at H
       have c17b0 : (t190 == 3) = false := beq_eq_false_iff_ne.mpr c17
       have c17b1 : (t190 != 3) = true := bne_iff_ne.mpr c17
       replace H := Option.bind_eq_some_iff.mp H
       obtain ⟨⟨t192, t193⟩, A200, H⟩ := H
       replace H : (some (2, 0, t192, ([] : List (S91)), t193)) = some (r1, r2, r3, r4, r5) := H
       have A20 := Aside0.mk A200
       clear A200
       simp only [Option.some.injEq, Prod.mk.injEq] at H
       obtain ⟨rfl, rfl, rfl, rfl, rfl⟩ := H
       go_wp2_with (first | ((with_reducible refine gate_callee (f := 92) rfl ?_); refine goesL_ (some 20) rfl rfl Try.func92 aK rfl #[.pointer (some ⟨g, 0, none⟩)] rfl aL ?_; (with_reducible refine (spec_l1Word2.calls kj9 g s0_0 t191 t192 t193 w0 _ ?side1 ?side2 A20.out).mono ?_); (case side1 => repeat (first | (with_reducible first | exact HI0.out | apply IsS87.alloc | apply IsS87.drewN | apply IsS87.drew | apply IsS87.set_1 | refine IsS87.far ?_ NB0_189.out _) | exact HI0.out)); (case side2 => repeat (first | (with_reducible first | exact HB.out | apply below_alloc | apply pw_below_drewN | apply below_drew1 | refine below_set ?_ (IsS87.ge HI0.out) | refine below_set ?_ GE189.out) | exact HB.out)); rintro e w21 ⟨rfl, hi, hb, hk⟩; refine ⟨_, rfl, ?_⟩; have n0_ := Aside0.mk (KeepBut.blk hk (g' := gb189) (o := .cells #[.int .i64 0, .int .i64 0, .string (⟨#[]⟩ : ByteArray), .slice none 0 0] 91 (0, 0)) (aW BK189.out) NB189_0.out (by simp)); have n1_ := Aside0.mk (KeepBut.trans (aH1 GW189.out) hk (.inl rfl)); have n2_ := Aside0.mk (hb); have n3_ := Aside0.mk (hi); clear BK189; clear HK; clear HB; clear HI0; have BK189 := n0_; have HK := n1_; have HB := n2_; have HI0 := n3_; clear n0_ n1_ n2_ n3_; (try clear hb); (try clear hb2); (try clear hk); (try clear hi); have hnb22 := NB189_0.out; have hnc22 := NB0_189.out; have hcz23_0 : w21.cell? ⟨gb189, 0, none⟩ = some (.int .i64 0) := (blk_cell BK189.out 0).trans rfl; have hcz23_1 : w21.cell? ⟨gb189, 1, none⟩ = some (.int .i64 0) := (blk_cell BK189.out 1).trans rfl; have hcz23_2 : w21.cell? ⟨gb189, 2, none⟩ = some (.string (⟨#[]⟩ : ByteArray)) := (blk_cell BK189.out 2).trans rfl; have hcz23_3 : w21.cell? ⟨gb189, 3, none⟩ = some (.slice none 0 0) := (blk_cell BK189.out 3).trans rfl; have hfz23_0 := blk_frozen BK189.out 0; have hfz23_1 := blk_frozen BK189.out 1; have hfz23_2 := blk_frozen BK189.out 2; have hfz23_3 := blk_frozen BK189.out 3))
       refine bodyPost_ret (results_cell_row rfl _ _ gb189 91 #[.int .i64 2, .int .i64 0, .string t192, .slice none 0 0] (0, 0) _ rfl (by refine aW ?_; refine blk_put (cs := #[.int .i64 2, .int .i64 0, .string t192, .slice none 0 0]) ?_ 3 _ rfl; refine aW ?_; refine blk_put (cs := #[.int .i64 2, .int .i64 0, .string (⟨#[]⟩ : ByteArray), .slice none 0 0]) ?_ 2 _ rfl; refine aW ?_; refine blk_put (cs := #[.int .i64 2, .int .i64 0, .string (⟨#[]⟩ : ByteArray), .slice none 0 0]) ?_ 1 _ rfl; refine aW ?_; refine blk_put (cs := #[.int .i64 0, .int .i64 0, .string (⟨#[]⟩ : ByteArray), .slice none 0 0]) ?_ 0 _ rfl; refine aW ?_; exact BK189.out) Try.underlying91 rfl aK) rfl ?_
       exact ⟨_, by first | rfl | (simp [errW_none, errW_some] <;> rfl) | (simp [*, errW_none, errW_some] <;> rfl), by first | exact Kd.R_nil _ _ _ _ _ | exact Kd.N_nil _ _ _ _ _ | exact Kd.V_nil _ _ _ _ _ | exact Kd.Q_nil _ _ _ _ _ | exact Kd.S_nil _ _ _ _ _, by repeat (first | (with_reducible first | exact HI0.out | apply IsS87.alloc | apply IsS87.drewN | apply IsS87.drew | apply IsS87.set_1 | refine IsS87.far ?_ NB0_189.out _) | exact HI0.out), by repeat (first | (with_reducible first | exact HB.out | apply below_alloc | apply pw_below_drewN | apply below_drew1 | refine below_set ?_ (IsS87.ge HI0.out) | refine below_set ?_ GE189.out) | exact HB.out), by repeat (first | (with_reducible first | exact HK.out | apply KeepBut.set_ | apply keep_drewN | apply keep_drew | apply keep_alloc | refine keep_far ?_ GW189.out _) | exact HK.out)⟩
 ·rw [if_neg c3] at H
  have c3b0 : (a1 == 0) = false := beq_eq_false_iff_ne.mpr c3
  have c3b1 : (a1 != 0) = true := bne_iff_ne.mpr c3
  replace H := Option.bind_eq_some_iff.mp H
  obtain ⟨⟨t194, t195⟩, A240, H⟩ := H
  replace H : (if t194 = 0 then ((spec_l1Some.f k s0_0 t195 0).bind fun bt196 => (some (bt196.1, bt196.2.1, bt196.2.2.1, bt196.2.2.2.1, bt196.2.2.2.2))) else (if t194 = 1 then (spec_l1Some.j1 k a1 t194 (t194 == 1) s0_0 t195) else (spec_l1Some.j1 k a1 t194 (t194 == 2) s0_0 t195))) = some (r1, r2, r3, r4, r5) := H
  have A24 := Aside0.mk A240
  clear A240
  by_cases c25 : t194 = 0
  ·rw [if_pos c25] at H
   have c25b0 : (t194 == 0) = true := beq_iff_eq.mpr c25
   have c25b1 : (t194 != 0) = false := bne_eq_false_iff_eq.mpr c25
   clear c25
   replace H := Option.bind_eq_some_iff.mp H
   obtain ⟨⟨t196, t197, t198, t199, t202⟩, A260, H⟩ := H
   replace H : (some (t196, t197, t198, t199, t202)) = some (r1, r2, r3, r4, r5) := H
   have A26 := Aside0.mk A260
   clear A260
   simp only [Option.some.injEq, Prod.mk.injEq] at H
   obtain ⟨rfl, rfl, rfl, rfl, rfl⟩ := H
   go_enter Try.func78, Try.ntmps78
   go_wp2_with (first | ((with_reducible refine gate_dst (N := 4) rfl ?_); refine box_event ?hg (N := 4) ?hd (cs := #[.int .i64 0, .int .i64 0, .string (⟨#[]⟩ : ByteArray), .slice none 0 0]) (t := 91) ?hr ?_; (case hd => rfl); (case hg => rfl); (case hr => first | (go_simp; done) | (go_simp; rfl)); intro gb189 hg w27 hbox hb; have n0_ := Aside0.mk (IsS87.below (by repeat (first | (with_reducible first | exact HI0.out | apply IsS87.alloc | apply IsS87.drewN | apply IsS87.drew | apply IsS87.set_1) | exact HI0.out)) hb); have n1_ := Aside0.mk (KeepBut.trans aH (KeepBut.of_below hb g none) (.inl rfl)); have n2_ := Aside0.mk (below_step (aB1 (IsS87.ge HI0.out)) hb); have n3_ := Aside0.mk (hbox); have n4_ := Aside0.mk ((by rw [hg]; exact (keep_size (w := w) (g := g) (row := none) aH) : w.heap.size ≤ gb189)); have n5_ := Aside0.mk ((Nat.le_trans HW0.out (by rw [hg]; exact (keep_size (w := w) (g := g) (row := none) aH) : w.heap.size ≤ gb189) : w0.heap.size ≤ gb189)); have n6_ := Aside0.mk ((by rw [hg]; exact Nat.ne_of_lt (IsS87.lt (show IsS87 w0 _ g s0_0 s0_1 from by repeat (first | (with_reducible first | exact HI0.out | apply IsS87.alloc | apply IsS87.drewN | apply IsS87.drew | apply IsS87.set_1) | exact HI0.out))) : g ≠ gb189)); have n7_ := Aside0.mk ((by rw [hg]; exact Nat.ne_of_gt (IsS87.lt (show IsS87 w0 _ g s0_0 s0_1 from by repeat (first | (with_reducible first | exact HI0.out | apply IsS87.alloc | apply IsS87.drewN | apply IsS87.drew | apply IsS87.set_1) | exact HI0.out))) : gb189 ≠ g)); clear HI0; clear HK; clear HB; have HI0 := n0_; have HK := n1_; have HB := n2_; have BK189 := n3_; have GW189 := n4_; have GE189 := n5_; have NB0_189 := n6_; have NB189_0 := n7_; clear n0_ n1_ n2_ n3_ n4_ n5_ n6_ n7_; clear hb hbox hg) | ((with_reducible refine gate_callee (f := 79) rfl ?_); refine goesL_ (some 23) rfl rfl Try.func79 aK rfl #[.pointer (some ⟨g, 0, none⟩), .int .i64 12] rfl aL ?_; (with_reducible refine (spec_l15Rd_pick.calls k g s0_0 s0_1 12 t194 t195 w0 _ ?side1 ?side2 A24.out).mono ?_); (case side1 => repeat (first | (with_reducible first | exact HI0.out | apply IsS87.alloc | apply IsS87.drewN | apply IsS87.drew | apply IsS87.set_1 | refine IsS87.far ?_ NB0_189.out _) | exact HI0.out)); (case side2 => repeat (first | (with_reducible first | exact HB.out | apply below_alloc | apply pw_below_drewN | apply below_drew1 | refine below_set ?_ (IsS87.ge HI0.out) | refine below_set ?_ GE189.out) | exact HB.out)); rintro e w28 ⟨rfl, hi, hb, hk⟩; refine ⟨_, rfl, ?_⟩; have n0_ := Aside0.mk (KeepBut.blk hk (g' := gb189) (o := .cells #[.int .i64 0, .int .i64 0, .string (⟨#[]⟩ : ByteArray), .slice none 0 0] 91 (0, 0)) (aW BK189.out) NB189_0.out (by simp)); have n1_ := Aside0.mk (KeepBut.trans (aH1 GW189.out) hk (.inl rfl)); have n2_ := Aside0.mk (hb); have n3_ := Aside0.mk (hi); clear BK189; clear HK; clear HB; clear HI0; have BK189 := n0_; have HK := n1_; have HB := n2_; have HI0 := n3_; clear n0_ n1_ n2_ n3_; (try clear hb); (try clear hb2); (try clear hk); (try clear hi)) | ((with_reducible refine gate_callee (f := 78) rfl ?_); refine goesL_ (some 27) rfl rfl Try.func78 aK rfl #[.pointer (some ⟨g, 0, none⟩), .int .i64 0] rfl aL ?_; (with_reducible refine (ih k (by omega) g s0_0 t195 0 t196 t197 t198 t199 t202 w0 _ ?side1 ?side2 A26.out).mono ?_); (case side1 => repeat (first | (with_reducible first | exact HI0.out | apply IsS87.alloc | apply IsS87.drewN | apply IsS87.drew | apply IsS87.set_1 | refine IsS87.far ?_ NB0_189.out _) | exact HI0.out)); (case side2 => repeat (first | (with_reducible first | exact HB.out | apply below_alloc | apply pw_below_drewN | apply below_drew1 | refine below_set ?_ (IsS87.ge HI0.out) | refine below_set ?_ GE189.out) | exact HB.out)); rintro e w29 ⟨v200, rfl, ho0, hi, hb, hk⟩; refine ⟨_, rfl, ?_⟩; have n0_ := Aside0.mk (KeepBut.blk hk (g' := gb189) (o := .cells #[.int .i64 0, .int .i64 0, .string (⟨#[]⟩ : ByteArray), .slice none 0 0] 91 (0, 0)) (aW BK189.out) NB189_0.out (by simp)); have n1_ := Aside0.mk (Kd.N_lower (Kd.N_mono (ok' := fun k_ => (w.heap.size ≤ k_) ∧ k_ ≠ gb189 ∧ k_ ≠ g) ho0 (fun k_ hk_ => ⟨(Nat.le_trans (keep_size (w := w) (g := g) (row := none) (aH1 GW189.out)) hk_), (Kd.freshB (g := gb189) (o := .cells #[.int .i64 0, .int .i64 0, .string (⟨#[]⟩ : ByteArray), .slice none 0 0] 91 (0, 0)) (aW BK189.out) k_ hk_), (IsS87.fresh (by repeat (first | (with_reducible first | exact HI0.out | apply IsS87.alloc | apply IsS87.drewN | apply IsS87.drew | apply IsS87.set_1 | refine IsS87.far ?_ NB0_189.out _) | exact HI0.out)) k_ hk_)⟩)) (keep_size (w := w) (g := g) (row := none) (aH1 GW189.out))); have n2_ := Aside0.mk (KeepBut.trans (aH1 GW189.out) hk (.inl rfl)); have n3_ := Aside0.mk (hb); have n4_ := Aside0.mk (hi); clear BK189; clear HK; clear HB; clear HI0; have BK189 := n0_; have HO201 := n1_; have HK := n2_; have HB := n3_; have HI0 := n4_; clear n0_ n1_ n2_ n3_ n4_; (try clear hb); (try clear hb2); (try clear hk); (try clear hi); (try clear ho0); have hnb30 := NB189_0.out; have hnc30 := NB0_189.out; have hcz31_0 : w29.cell? ⟨gb189, 0, none⟩ = some (.int .i64 0) := (blk_cell BK189.out 0).trans rfl; have hcz31_1 : w29.cell? ⟨gb189, 1, none⟩ = some (.int .i64 0) := (blk_cell BK189.out 1).trans rfl; have hcz31_2 : w29.cell? ⟨gb189, 2, none⟩ = some (.string (⟨#[]⟩ : ByteArray)) := (blk_cell BK189.out 2).trans rfl; have hcz31_3 : w29.cell? ⟨gb189, 3, none⟩ = some (.slice none 0 0) := (blk_cell BK189.out 3).trans rfl; have hfz31_0 := blk_frozen BK189.out 0; have hfz31_1 := blk_frozen BK189.out 1; have hfz31_2 := blk_frozen BK189.out 2; have hfz31_3 := blk_frozen BK189.out 3; obtain ⟨Ao32, co32, eo32⟩ := Kd.N_slice HO201.out; subst eo32))
   refine bodyPost_ret (results_cell_row rfl _ _ gb189 91 #[.int .i64 t196, .int .i64 t197, .string t198, .slice Ao32 t199.length co32] (0, 0) _ rfl (by refine aW ?_; refine blk_put (cs := #[.int .i64 t196, .int .i64 t197, .string t198, .slice none 0 0]) ?_ 3 _ rfl; refine aW ?_; refine blk_put (cs := #[.int .i64 t196, .int .i64 t197, .string (⟨#[]⟩ : ByteArray), .slice none 0 0]) ?_ 2 _ rfl; refine aW ?_; refine blk_put (cs := #[.int .i64 t196, .int .i64 0, .string (⟨#[]⟩ : ByteArray), .slice none 0 0]) ?_ 1 _ rfl; refine aW ?_; refine blk_put (cs := #[.int .i64 0, .int .i64 0, .string (⟨#[]⟩ : ByteArray), .slice none 0 0]) ?_ 0 _ rfl; refine aW ?_; exact BK189.out) Try.underlying91 rfl aK) rfl ?_
   exact ⟨_, by first | rfl | (simp [errW_none, errW_some] <;> rfl) | (simp [*, errW_none, errW_some] <;> rfl), by (with_reducible repeat (first | apply Kd.N_alloc | apply Kd.N_drewN | apply Kd.N_drew)); exact Kd.N_mono (Kd.N_far (p := ⟨gb189, 3, none⟩) (Kd.N_far (p := ⟨gb189, 2, none⟩) (Kd.N_far (p := ⟨gb189, 1, none⟩) (Kd.N_far (p := ⟨gb189, 0, none⟩) (Kd.N_mono HO201.out (fun k_ hk => (⟨hk, hk.2.1⟩ : _ ∧ k_ ≠ gb189))) (fun _ hk => hk.2) (.int .i64 t196)) (fun _ hk => hk.2) (.int .i64 t197)) (fun _ hk => hk.2) (.string t198)) (fun _ hk => hk.2) (.slice Ao32 t199.length co32)) (fun _ hk => hk.1.1), by repeat (first | (with_reducible first | exact HI0.out | apply IsS87.alloc | apply IsS87.drewN | apply IsS87.drew | apply IsS87.set_1 | refine IsS87.far ?_ NB0_189.out _) | exact HI0.out), by repeat (first | (with_reducible first | exact HB.out | apply below_alloc | apply pw_below_drewN | apply below_drew1 | refine below_set ?_ (IsS87.ge HI0.out) | refine below_set ?_ GE189.out) | exact HB.out), by repeat (first | (with_reducible first | exact HK.out | apply KeepBut.set_ | apply keep_drewN | apply keep_drew | apply keep_alloc | refine keep_far ?_ GW189.out _) | exact HK.out)⟩
  ·rw [if_neg c25] at H
   have c25b0 : (t194 == 0) = false := beq_eq_false_iff_ne.mpr c25
   have c25b1 : (t194 != 0) = true := bne_iff_ne.mpr c25
   have HC33 := Aside0.mk H
   clear H
   go_enter Try.func78, Try.ntmps78
   go_upto_if 28 with (first | ((with_reducible refine gate_dst (N := 4) rfl ?_); refine box_event ?hg (N := 4) ?hd (cs := #[.int .i64 0, .int .i64 0, .string (⟨#[]⟩ : ByteArray), .slice none 0 0]) (t := 91) ?hr ?_; (case hd => rfl); (case hg => rfl); (case hr => first | (go_simp; done) | (go_simp; rfl)); intro gb189 hg w34 hbox hb; have n0_ := Aside0.mk (IsS87.below (by repeat (first | (with_reducible first | exact HI0.out | apply IsS87.alloc | apply IsS87.drewN | apply IsS87.drew | apply IsS87.set_1) | exact HI0.out)) hb); have n1_ := Aside0.mk (KeepBut.trans aH (KeepBut.of_below hb g none) (.inl rfl)); have n2_ := Aside0.mk (below_step (aB1 (IsS87.ge HI0.out)) hb); have n3_ := Aside0.mk (hbox); have n4_ := Aside0.mk ((by rw [hg]; exact (keep_size (w := w) (g := g) (row := none) aH) : w.heap.size ≤ gb189)); have n5_ := Aside0.mk ((Nat.le_trans HW0.out (by rw [hg]; exact (keep_size (w := w) (g := g) (row := none) aH) : w.heap.size ≤ gb189) : w0.heap.size ≤ gb189)); have n6_ := Aside0.mk ((by rw [hg]; exact Nat.ne_of_lt (IsS87.lt (show IsS87 w0 _ g s0_0 s0_1 from by repeat (first | (with_reducible first | exact HI0.out | apply IsS87.alloc | apply IsS87.drewN | apply IsS87.drew | apply IsS87.set_1) | exact HI0.out))) : g ≠ gb189)); have n7_ := Aside0.mk ((by rw [hg]; exact Nat.ne_of_gt (IsS87.lt (show IsS87 w0 _ g s0_0 s0_1 from by repeat (first | (with_reducible first | exact HI0.out | apply IsS87.alloc | apply IsS87.drewN | apply IsS87.drew | apply IsS87.set_1) | exact HI0.out))) : gb189 ≠ g)); clear HI0; clear HK; clear HB; have HI0 := n0_; have HK := n1_; have HB := n2_; have BK189 := n3_; have GW189 := n4_; have GE189 := n5_; have NB0_189 := n6_; have NB189_0 := n7_; clear n0_ n1_ n2_ n3_ n4_ n5_ n6_ n7_; clear hb hbox hg) | ((with_reducible refine gate_callee (f := 79) rfl ?_); refine goesL_ (some 23) rfl rfl Try.func79 aK rfl #[.pointer (some ⟨g, 0, none⟩), .int .i64 12] rfl aL ?_; (with_reducible refine (spec_l15Rd_pick.calls k g s0_0 s0_1 12 t194 t195 w0 _ ?side1 ?side2 A24.out).mono ?_); (case side1 => repeat (first | (with_reducible first | exact HI0.out | apply IsS87.alloc | apply IsS87.drewN | apply IsS87.drew | apply IsS87.set_1 | refine IsS87.far ?_ NB0_189.out _) | exact HI0.out)); (case side2 => repeat (first | (with_reducible first | exact HB.out | apply below_alloc | apply pw_below_drewN | apply below_drew1 | refine below_set ?_ (IsS87.ge HI0.out) | refine below_set ?_ GE189.out) | exact HB.out)); rintro e w35 ⟨rfl, hi, hb, hk⟩; refine ⟨_, rfl, ?_⟩; have n0_ := Aside0.mk (KeepBut.blk hk (g' := gb189) (o := .cells #[.int .i64 0, .int .i64 0, .string (⟨#[]⟩ : ByteArray), .slice none 0 0] 91 (0, 0)) (aW BK189.out) NB189_0.out (by simp)); have n1_ := Aside0.mk (KeepBut.trans (aH1 GW189.out) hk (.inl rfl)); have n2_ := Aside0.mk (hb); have n3_ := Aside0.mk (hi); clear BK189; clear HK; clear HB; clear HI0; have BK189 := n0_; have HK := n1_; have HB := n2_; have HI0 := n3_; clear n0_ n1_ n2_ n3_; (try clear hb); (try clear hb2); (try clear hk); (try clear hi)))
   (try simp only [Act.put, List.setIfInBounds_toArray, List.set_cons_zero, List.set_cons_succ])
   go_cut [28] (fun v28 wc => ∃ (kq : Nat) (x28_32 : Bool), v28 = .bool x28_32 ∧ Aside0 (spec_l1Some.j1 kq a1 t194 x28_32 s0_0 t195 = some (r1, r2, r3, r4, r5)) ∧ Aside0 (kq ≤ k) ∧ Aside0 (wc.heap[gb189]? = some (.cells #[.int .i64 0, .int .i64 0, .string (⟨#[]⟩ : ByteArray), (.slice none 0 0)] 91 (0, 0))) ∧ Aside0 (IsS87 w0 wc g s0_0 t195) ∧ Aside0 (KeepBut w wc g none) ∧ Aside0 (Below w0.heap.size w0 wc))
   case first =>
    have H := HC33.out
    clear HC33
    by_cases c36 : t194 = 1
    ·rw [if_pos c36] at H
     have c36b0 : (t194 == 1) = true := beq_iff_eq.mpr c36
     have c36b1 : (t194 != 1) = false := bne_eq_false_iff_eq.mpr c36
     clear c36
     (first | rw [c36b0] | (simp only [i64_w, i32_w]; rw [c36b0]) | skip)
     have H' := Aside0.mk H
     clear H
     go_wp2
     go_meet
     case rel => exact ⟨_, ((t194 == 1)), aR, H', ⟨by first | omega | exact Nat.le_refl _⟩, ⟨by refine aW ?_; exact BK189.out⟩, ⟨by repeat (first | (with_reducible first | exact HI0.out | apply IsS87.alloc | apply IsS87.drewN | apply IsS87.drew | apply IsS87.set_1 | refine IsS87.far ?_ NB0_189.out _) | exact HI0.out)⟩, ⟨by repeat (first | (with_reducible first | exact HK.out | apply KeepBut.set_ | apply keep_drewN | apply keep_drew | apply keep_alloc | refine keep_far ?_ GW189.out _) | exact HK.out)⟩, ⟨by repeat (first | (with_reducible first | exact HB.out | apply below_alloc | apply pw_below_drewN | apply below_drew1 | refine below_set ?_ (IsS87.ge HI0.out) | refine below_set ?_ GE189.out) | exact HB.out)⟩⟩
    ·rw [if_neg c36] at H
     have c36b0 : (t194 == 1) = false := beq_eq_false_iff_ne.mpr c36
     have c36b1 : (t194 != 1) = true := bne_iff_ne.mpr c36
     (first | rw [c36b0] | (simp only [i64_w, i32_w]; rw [c36b0]) | skip)
     have H' := Aside0.mk H
     clear H
     go_wp2
     go_meet
     case rel => exact ⟨_, ((t194 == 2)), aR, H', ⟨by first | omega | exact Nat.le_refl _⟩, ⟨by refine aW ?_; exact BK189.out⟩, ⟨by repeat (first | (with_reducible first | exact HI0.out | apply IsS87.alloc | apply IsS87.drewN | apply IsS87.drew | apply IsS87.set_1 | refine IsS87.far ?_ NB0_189.out _) | exact HI0.out)⟩, ⟨by repeat (first | (with_reducible first | exact HK.out | apply KeepBut.set_ | apply keep_drewN | apply keep_drew | apply keep_alloc | refine keep_far ?_ GW189.out _) | exact HK.out)⟩, ⟨by repeat (first | (with_reducible first | exact HB.out | apply below_alloc | apply pw_below_drewN | apply below_drew1 | refine below_set ?_ (IsS87.ge HI0.out) | refine below_set ?_ GE189.out) | exact HB.out)⟩⟩
   case rest =>
    clear HC33
    try clear c1
    try clear c2
    try clear p2
    try clear c3
    try clear c3b0
    try clear c3b1
    try clear c5
    try clear c5b0
    try clear c5b1
    try clear c7
    try clear c8
    try clear c9
    try clear c13
    try clear c13b0
    try clear c13b1
    try clear c14
    try clear c15
    try clear c17
    try clear c17b0
    try clear c17b1
    try clear c18
    try clear c22
    try clear c25
    try clear c25b0
    try clear c25b1
    try clear c30
    try clear c36
    try clear c36b0
    try clear c36b1
    try clear hcz16_0
    try clear hcz16_1
    try clear hcz16_2
    try clear hcz16_3
    try clear hcz19_0
    try clear hcz19_1
    try clear hcz19_2
    try clear hcz19_3
    try clear hcz23_0
    try clear hcz23_1
    try clear hcz23_2
    try clear hcz23_3
    try clear hcz31_0
    try clear hcz31_1
    try clear hcz31_2
    try clear hcz31_3
    try clear hcz9_0
    try clear hcz9_1
    try clear hcz9_2
    try clear hcz9_3
    try clear hfz16_0
    try clear hfz16_1
    try clear hfz16_2
    try clear hfz16_3
    try clear hfz19_0
    try clear hfz19_1
    try clear hfz19_2
    try clear hfz19_3
    try clear hfz23_0
    try clear hfz23_1
    try clear hfz23_2
    try clear hfz23_3
    try clear hfz31_0
    try clear hfz31_1
    try clear hfz31_2
    try clear hfz31_3
    try clear hfz9_0
    try clear hfz9_1
    try clear hfz9_2
    try clear hfz9_3
    try clear p2
    obtain ⟨kq, x28_32, rfl, HA, HJ32, BK189, HI0, HK, HB⟩ := hcut
    cases kq with
    | zero => exact absurd HA.out (by simp [spec_l1Some.j1])
    | succ kj32 =>
     have H := HA.out
     clear HA
     simp only [spec_l1Some.j1] at H
     by_cases c37 : x28_32 = true
     ·subst c37
      have H1 : ((spec_l15Rd_num.f kj32 s0_0 t195 (([2, 1, 4, 0, 9] : List Int))).bind fun bt206 => ((spec_l1Some.f kj32 s0_0 bt206.2 (wrap64 (a1 - 1))).bind fun bt208 => (some (6, bt206.1, (⟨#[]⟩ : ByteArray), (([(⟨bt208.1, bt208.2.1, bt208.2.2.1, bt208.2.2.2.1⟩ : S91)] : List (S91))), bt208.2.2.2.2)))) = some (r1, r2, r3, r4, r5) := by rw [if_pos rfl] at H; exact H
      clear H
      have H := H1
      clear H1
      obtain ⟨y203, hy203⟩ : ∃ y_ : List Int, y_ = (([2, 1, 4, 0, 9] : List Int)) := ⟨_, rfl⟩
      replace H : ((spec_l15Rd_num.f kj32 s0_0 t195 y203).bind fun bt206 => ((spec_l1Some.f kj32 s0_0 bt206.2 (wrap64 (a1 - 1))).bind fun bt208 => (some (6, bt206.1, (⟨#[]⟩ : ByteArray), (([(⟨bt208.1, bt208.2.1, bt208.2.2.1, bt208.2.2.2.1⟩ : S91)] : List (S91))), bt208.2.2.2.2)))) = some (r1, r2, r3, r4, r5) := by first | (rw [hy203]; with_reducible exact H) | (have H2_ := (Option.bind_some _ _).symm.trans H; rw [hy203]; with_reducible exact H2_) | (have H2_ := (Option.bind_some _ _).symm.trans H; with_reducible exact H2_) | with_reducible exact H | (rw [hy203]; exact H) | exact H
      have Ny203 := Aside0.mk hy203
      clear hy203
      replace H := Option.bind_eq_some_iff.mp H
      obtain ⟨⟨t206, t207⟩, A380, H⟩ := H
      replace H : ((spec_l1Some.f kj32 s0_0 t207 (wrap64 (a1 - 1))).bind fun bt208 => (some (6, t206, (⟨#[]⟩ : ByteArray), (([(⟨bt208.1, bt208.2.1, bt208.2.2.1, bt208.2.2.2.1⟩ : S91)] : List (S91))), bt208.2.2.2.2))) = some (r1, r2, r3, r4, r5) := H
      have A38 := Aside0.mk A380
      clear A380
      replace H := Option.bind_eq_some_iff.mp H
      obtain ⟨⟨t208, t209, t210, t211, t214⟩, A390, H⟩ := H
      replace H : (some (6, t206, (⟨#[]⟩ : ByteArray), (([(⟨t208, t209, t210, t211⟩ : S91)] : List (S91))), t214)) = some (r1, r2, r3, r4, r5) := H
      have A39 := Aside0.mk A390
      clear A390
      obtain ⟨y215, hy215⟩ : ∃ y_ : List (S91), y_ = (([(⟨t208, t209, t210, t211⟩ : S91)] : List (S91))) := ⟨_, rfl⟩
      replace H : (some (6, t206, (⟨#[]⟩ : ByteArray), y215, t214)) = some (r1, r2, r3, r4, r5) := by first | (rw [hy215]; with_reducible exact H) | (have H2_ := (Option.bind_some _ _).symm.trans H; rw [hy215]; with_reducible exact H2_) | (have H2_ := (Option.bind_some _ _).symm.trans H; with_reducible exact H2_) | with_reducible exact H | (rw [hy215]; exact H) | exact H
      have Ny215 := Aside0.mk hy215
      clear hy215
      simp only [Option.some.injEq, Prod.mk.injEq] at H
      obtain ⟨rfl, rfl, rfl, rfl, rfl⟩ := H
      go_wp2_with (first | ((with_reducible refine gate_dst (N := 32) rfl ?_); refine Kd.R_lit (Kd.int .i64) _ 3 ?hg (N := 32) ?hd (xs := ([2, 1, 4, 0, 9] : List Int)) (inner := [.int .i64 2, .int .i64 1, .int .i64 4, .int .i64 0, .int .i64 9]) (ok := fun _ => True) (okp := fun _ => True) ?hr ?hp (fun _ hk => hk) trivial (Below.refl _ _) (Nat.le_refl _) (by simp) ?_; (case hd => rfl); (case hg => rfl); (case hr => first | (go_simp; done) | (go_simp; rfl)); (case hp => exact (Reps.one (show Kd.M (Kd.int .i64) _ _ _ 2 [.int .i64 2] from rfl) (Reps.one (show Kd.M (Kd.int .i64) _ _ _ 1 [.int .i64 1] from rfl) (Reps.one (show Kd.M (Kd.int .i64) _ _ _ 4 [.int .i64 4] from rfl) (Reps.one (show Kd.M (Kd.int .i64) _ _ _ 0 [.int .i64 0] from rfl) (Reps.one (show Kd.M (Kd.int .i64) _ _ _ 9 [.int .i64 9] from rfl) (Reps.none _ _))))))); intro v204 w40 ho41 hb hg_ hnew_; clear hg_ hnew_; (first | rw [← Ny203.out] at ho41 | (simp only [Int.reduceToNat] at ho41; rw [← Ny203.out] at ho41)); have n0_ := Aside0.mk (Kd.R_lower (Kd.R_newM (M := fun k_ => (w.heap.size ≤ k_)) ho41 (keep_size (w := w) (g := g) (row := none) (aH1 GW189.out)) (fun k_ h_ => h_)) (keep_size (w := w) (g := g) (row := none) (aH1 GW189.out))); have n1_ := Aside0.mk (blk_below (g := gb189) (o := .cells #[.int .i64 0, .int .i64 0, .string (⟨#[]⟩ : ByteArray), .slice none 0 0] 91 (0, 0)) (aW BK189.out) hb); have n2_ := Aside0.mk (IsS87.below (by repeat (first | (with_reducible first | exact HI0.out | apply IsS87.alloc | apply IsS87.drewN | apply IsS87.drew | apply IsS87.set_1 | refine IsS87.far ?_ NB0_189.out _) | exact HI0.out)) hb); have n3_ := Aside0.mk (KeepBut.trans (aH1 GW189.out) (KeepBut.of_below hb g none) (.inl rfl)); have n4_ := Aside0.mk (below_step (aB2 (IsS87.ge HI0.out) GE189.out) hb); clear BK189; clear HI0; clear HK; clear HB; have HO205 := n0_; have BK189 := n1_; have HI0 := n2_; have HK := n3_; have HB := n4_; clear n0_ n1_ n2_ n3_ n4_; clear hb ho41; obtain ⟨Ao42, co42, eo42⟩ := Kd.R_slice HO205.out; subst eo42) | ((with_reducible refine gate_callee (f := 63) rfl ?_); refine goesL_ (some 33) rfl rfl Try.func63 aK rfl #[.pointer (some ⟨g, 0, none⟩), .slice Ao42 y203.length co42] rfl aL ?_; (with_reducible refine (spec_l15Rd_num.calls kj32 g s0_0 t195 _ _ y203 t206 t207 w0 _ ?side1 ?side2 ?side3 ?side4 ?side5 A38.out).mono ?_); (case side1 => repeat (first | (with_reducible first | exact HI0.out | apply IsS87.alloc | apply IsS87.drewN | apply IsS87.drew | apply IsS87.set_1 | refine IsS87.far ?_ NB0_189.out _) | exact HI0.out)); (case side2 => repeat (first | (with_reducible first | exact HB.out | apply below_alloc | apply pw_below_drewN | apply below_drew1 | refine below_set ?_ (IsS87.ge HI0.out) | refine below_set ?_ GE189.out) | exact HB.out)); (case side3 => repeat (first | exact (Kd.R_reads' HO205.out).2.2 | (with_reducible refine Kd.C_alloc ?_ _) | (with_reducible refine Kd.C_drewN ?_ _) | (with_reducible refine Kd.C_drew ?_))); (case side4 => exact (Kd.R_reads' HO205.out).2.1); (case side5 => exact far_slice (IsS87.own_ne HI0.out HO205.out (by decide))); rintro e w43 ⟨rfl, hi, hb, hk⟩; refine ⟨_, rfl, ?_⟩; have n0_ := Aside0.mk (KeepBut.blk hk (g' := gb189) (o := .cells #[.int .i64 0, .int .i64 0, .string (⟨#[]⟩ : ByteArray), .slice none 0 0] 91 (0, 0)) (aW BK189.out) NB189_0.out (by simp)); have n1_ := Aside0.mk (Kd.R_mono (Kd.R_keep (IsS87.apart (show IsS87 w0 _ g s0_0 t195 from by repeat (first | (with_reducible first | exact HI0.out | apply IsS87.alloc | apply IsS87.drewN | apply IsS87.drew | apply IsS87.set_1 | refine IsS87.far ?_ NB0_189.out _) | exact HI0.out)) (aP HO205.out) (by decide)) hk (fun _ h => h.2)) (fun _ h => h.1)); have n2_ := Aside0.mk (KeepBut.trans (aH1 GW189.out) hk (.inl rfl)); have n3_ := Aside0.mk (hb); have n4_ := Aside0.mk (hi); clear BK189; clear HO205; clear HK; clear HB; clear HI0; have BK189 := n0_; have HO205 := n1_; have HK := n2_; have HB := n3_; have HI0 := n4_; clear n0_ n1_ n2_ n3_ n4_; (try clear hb); (try clear hb2); (try clear hk); (try clear hi)) | ((with_reducible refine gate_callee (f := 78) rfl ?_); refine goesL_ (some 37) rfl rfl Try.func78 aK rfl #[.pointer (some ⟨g, 0, none⟩), .int .i64 (wrap64 (a1 - 1))] rfl aL ?_; (with_reducible refine (ih kj32 (by have := HJ32.out; omega) g s0_0 t207 (wrap64 (a1 - 1)) t208 t209 t210 t211 t214 w0 _ ?side1 ?side2 A39.out).mono ?_); (case side1 => repeat (first | (with_reducible first | exact HI0.out | apply IsS87.alloc | apply IsS87.drewN | apply IsS87.drew | apply IsS87.set_1 | refine IsS87.far ?_ NB0_189.out _) | exact HI0.out)); (case side2 => repeat (first | (with_reducible first | exact HB.out | apply below_alloc | apply pw_below_drewN | apply below_drew1 | refine below_set ?_ (IsS87.ge HI0.out) | refine below_set ?_ GE189.out) | exact HB.out)); rintro e w44 ⟨v212, rfl, ho0, hi, hb, hk⟩; refine ⟨_, rfl, ?_⟩; have n0_ := Aside0.mk (KeepBut.blk hk (g' := gb189) (o := .cells #[.int .i64 0, .int .i64 0, .string (⟨#[]⟩ : ByteArray), .slice none 0 0] 91 (0, 0)) (aW BK189.out) NB189_0.out (by simp)); have n1_ := Aside0.mk (Kd.R_mono (Kd.R_keep (IsS87.apart (show IsS87 w0 _ g s0_0 t207 from by repeat (first | (with_reducible first | exact HI0.out | apply IsS87.alloc | apply IsS87.drewN | apply IsS87.drew | apply IsS87.set_1 | refine IsS87.far ?_ NB0_189.out _) | exact HI0.out)) (aP HO205.out) (by decide)) hk (fun _ h => h.2)) (fun _ h => h.1)); have n2_ := Aside0.mk (Kd.N_lower (Kd.N_mono (ok' := fun k_ => (w.heap.size ≤ k_) ∧ some k_ ≠ (.slice Ao42 y203.length co42 : Value).ownBlock ∧ k_ ≠ gb189 ∧ k_ ≠ g) ho0 (fun k_ hk_ => ⟨(Nat.le_trans (keep_size (w := w) (g := g) (row := none) (aH1 GW189.out)) hk_), (Kd.fresh' (Kd.R_lt (aP HO205.out)) k_ hk_), (Kd.freshB (g := gb189) (o := .cells #[.int .i64 0, .int .i64 0, .string (⟨#[]⟩ : ByteArray), .slice none 0 0] 91 (0, 0)) (aW BK189.out) k_ hk_), (IsS87.fresh (by repeat (first | (with_reducible first | exact HI0.out | apply IsS87.alloc | apply IsS87.drewN | apply IsS87.drew | apply IsS87.set_1 | refine IsS87.far ?_ NB0_189.out _) | exact HI0.out)) k_ hk_)⟩)) (keep_size (w := w) (g := g) (row := none) (aH1 GW189.out))); have n3_ := Aside0.mk (KeepBut.trans (aH1 GW189.out) hk (.inl rfl)); have n4_ := Aside0.mk (hb); have n5_ := Aside0.mk (hi); clear BK189; clear HO205; clear HK; clear HB; clear HI0; have BK189 := n0_; have HO205 := n1_; have HO213 := n2_; have HK := n3_; have HB := n4_; have HI0 := n5_; clear n0_ n1_ n2_ n3_ n4_ n5_; (try clear hb); (try clear hb2); (try clear hk); (try clear hi); (try clear ho0); obtain ⟨Ao45, co45, eo45⟩ := Kd.N_slice HO213.out; subst eo45) | ((with_reducible refine gate_dst (N := 38) rfl ?_); refine Kd.N_lit k91 _ 91 ?hg (N' := 38) ?hd (xs := ([(⟨t208, t209, t210, t211⟩ : S91)] : List (S91))) (inner := [.int .i64 t208, .int .i64 t209, .string t210, .slice Ao45 t211.length co45]) (ok := (fun k_ => (w.heap.size ≤ k_) ∧ some k_ ≠ (.slice Ao42 y203.length co42 : Value).ownBlock ∧ k_ ≠ gb189 ∧ k_ ≠ g)) (okp := (fun k_ => (w.heap.size ≤ k_) ∧ some k_ ≠ (.slice Ao42 y203.length co42 : Value).ownBlock ∧ k_ ≠ gb189 ∧ k_ ≠ g)) ?hr ?hp (fun _ hk => hk) ((show ∀ k_, w44.heap.size ≤ k_ → (fun k_ => (w.heap.size ≤ k_) ∧ some k_ ≠ (.slice Ao42 y203.length co42 : Value).ownBlock ∧ k_ ≠ gb189 ∧ k_ ≠ g) k_ from fun k_ hk => ⟨(Nat.le_trans (keep_size (w := w) (g := g) (row := none) (aH1 GW189.out)) hk), Kd.fresh' (Kd.R_lt (aP HO205.out)) k_ hk, Kd.freshB (g := gb189) (o := .cells #[.int .i64 0, .int .i64 0, .string (⟨#[]⟩ : ByteArray), .slice none 0 0] 91 (0, 0)) (aW BK189.out) k_ hk, IsS87.fresh (by repeat (first | (with_reducible first | exact HI0.out | apply IsS87.alloc | apply IsS87.drewN | apply IsS87.drew | apply IsS87.set_1 | refine IsS87.far ?_ NB0_189.out _) | exact HI0.out)) k_ hk⟩) _ (Nat.le_refl _)) (Below.refl _ _) (Nat.le_refl _) (by simp) ?_; (case hd => rfl); (case hg => rfl); (case hr => first | (go_simp; done) | (go_simp; rfl)); (case hp => exact (Reps.c4 (show Kd.FK k91 _ _ (⟨t208, t209, t210, t211⟩ : S91) [.int .i64 t208, .int .i64 t209, .string t210, .slice Ao45 t211.length co45] from (k91_mkF _ _ (⟨t208, t209, t210, t211⟩ : S91) (Kd.N_reads' (Kd.N_mono (ok' := (fun k_ => (w.heap.size ≤ k_) ∧ some k_ ≠ (.slice Ao42 y203.length co42 : Value).ownBlock ∧ k_ ≠ gb189 ∧ k_ ≠ g)) (HO213.out) (fun k_ hk => ⟨hk.1, ⟨hk.2.1, ⟨hk.2.2.1, hk.2.2.2⟩⟩⟩))).2.1 (Kd.N_F (Kd.N_mono (ok' := (fun k_ => (w.heap.size ≤ k_) ∧ some k_ ≠ (.slice Ao42 y203.length co42 : Value).ownBlock ∧ k_ ≠ gb189 ∧ k_ ≠ g)) (HO213.out) (fun k_ hk => ⟨hk.1, ⟨hk.2.1, ⟨hk.2.2.1, hk.2.2.2⟩⟩⟩))))) (Reps.none _ _))); intro v216 w46 ho47 hb hg_ hnew_; clear hg_ hnew_; (first | rw [← Ny215.out] at ho47 | (simp only [Int.reduceToNat] at ho47; rw [← Ny215.out] at ho47)); have n0_ := Aside0.mk (Kd.R_below (aP HO205.out) hb); have n1_ := Aside0.mk (Kd.N_lower ho47 (keep_size (w := w) (g := g) (row := none) (aH1 GW189.out))); have n2_ := Aside0.mk (blk_below (g := gb189) (o := .cells #[.int .i64 0, .int .i64 0, .string (⟨#[]⟩ : ByteArray), .slice none 0 0] 91 (0, 0)) (aW BK189.out) hb); have n3_ := Aside0.mk (IsS87.below (by repeat (first | (with_reducible first | exact HI0.out | apply IsS87.alloc | apply IsS87.drewN | apply IsS87.drew | apply IsS87.set_1 | refine IsS87.far ?_ NB0_189.out _) | exact HI0.out)) hb); have n4_ := Aside0.mk (KeepBut.trans (aH1 GW189.out) (KeepBut.of_below hb g none) (.inl rfl)); have n5_ := Aside0.mk (below_step (aB2 (IsS87.ge HI0.out) GE189.out) hb); clear HO205; clear BK189; clear HI0; clear HK; clear HB; clear HO213; have HO205 := n0_; have HO217 := n1_; have BK189 := n2_; have HI0 := n3_; have HK := n4_; have HB := n5_; clear n0_ n1_ n2_ n3_ n4_ n5_; clear hb ho47; obtain ⟨Ao48, co48, eo48⟩ := Kd.N_slice HO217.out; subst eo48; have hnb49 := NB189_0.out; have hnc49 := NB0_189.out; have hcz50_0 : w46.cell? ⟨gb189, 0, none⟩ = some (.int .i64 0) := (blk_cell BK189.out 0).trans rfl; have hcz50_1 : w46.cell? ⟨gb189, 1, none⟩ = some (.int .i64 0) := (blk_cell BK189.out 1).trans rfl; have hcz50_2 : w46.cell? ⟨gb189, 2, none⟩ = some (.string (⟨#[]⟩ : ByteArray)) := (blk_cell BK189.out 2).trans rfl; have hcz50_3 : w46.cell? ⟨gb189, 3, none⟩ = some (.slice none 0 0) := (blk_cell BK189.out 3).trans rfl; have hfz50_0 := blk_frozen BK189.out 0; have hfz50_1 := blk_frozen BK189.out 1; have hfz50_2 := blk_frozen BK189.out 2; have hfz50_3 := blk_frozen BK189.out 3))
      refine bodyPost_ret (results_cell_row rfl _ _ gb189 91 #[.int .i64 6, .int .i64 t206, .string (⟨#[]⟩ : ByteArray), .slice Ao48 y215.length co48] (0, 0) _ rfl (by refine aW ?_; refine blk_put (cs := #[.int .i64 6, .int .i64 t206, .string (⟨#[]⟩ : ByteArray), .slice none 0 0]) ?_ 3 _ rfl; refine aW ?_; refine blk_put (cs := #[.int .i64 6, .int .i64 t206, .string (⟨#[]⟩ : ByteArray), .slice none 0 0]) ?_ 2 _ rfl; refine aW ?_; refine blk_put (cs := #[.int .i64 6, .int .i64 0, .string (⟨#[]⟩ : ByteArray), .slice none 0 0]) ?_ 1 _ rfl; refine aW ?_; refine blk_put (cs := #[.int .i64 0, .int .i64 0, .string (⟨#[]⟩ : ByteArray), .slice none 0 0]) ?_ 0 _ rfl; refine aW ?_; exact BK189.out) Try.underlying91 rfl aK) rfl ?_
      exact ⟨_, by first | rfl | (simp [errW_none, errW_some] <;> rfl) | (simp [*, errW_none, errW_some] <;> rfl), by (with_reducible repeat (first | apply Kd.N_alloc | apply Kd.N_drewN | apply Kd.N_drew)); exact Kd.N_mono (Kd.N_far (p := ⟨gb189, 3, none⟩) (Kd.N_far (p := ⟨gb189, 2, none⟩) (Kd.N_far (p := ⟨gb189, 1, none⟩) (Kd.N_far (p := ⟨gb189, 0, none⟩) (Kd.N_mono HO217.out (fun k_ hk => (⟨hk, hk.2.2.1⟩ : _ ∧ k_ ≠ gb189))) (fun _ hk => hk.2) (.int .i64 6)) (fun _ hk => hk.2) (.int .i64 t206)) (fun _ hk => hk.2) (.string (⟨#[]⟩ : ByteArray))) (fun _ hk => hk.2) (.slice Ao48 y215.length co48)) (fun _ hk => hk.1.1), by repeat (first | (with_reducible first | exact HI0.out | apply IsS87.alloc | apply IsS87.drewN | apply IsS87.drew | apply IsS87.set_1 | refine IsS87.far ?_ NB0_189.out _) | exact HI0.out), by repeat (first | (with_reducible first | exact HB.out | apply below_alloc | apply pw_below_drewN | apply below_drew1 | refine below_set ?_ (IsS87.ge HI0.out) | refine below_set ?_ GE189.out) | exact HB.out), by repeat (first | (with_reducible first | exact HK.out | apply KeepBut.set_ | apply keep_drewN | apply keep_drew | apply keep_alloc | refine keep_far ?_ GW189.out _) | exact HK.out)⟩
     ·replace c37 := Bool.eq_false_iff.mpr c37
      subst c37
      have H1 : (if t194 = 3 then (spec_l1Some.j2 kj32 a1 t194 (t194 == 3) s0_0 t195) else (if t194 = 4 then (spec_l1Some.j2 kj32 a1 t194 (t194 == 4) s0_0 t195) else (spec_l1Some.j2 kj32 a1 t194 (t194 == 5) s0_0 t195))) = some (r1, r2, r3, r4, r5) := by rw [if_neg (show ¬ (false = true) by decide)] at H; exact H
      clear H
      have H := H1
      clear H1
      have HC51 := Aside0.mk H
      clear H
      go_upto_if 40 with (fail)
      go_cut [40] (fun v40 wc => ∃ (kq : Nat) (x40_50 : Bool), v40 = .bool x40_50 ∧ Aside0 (spec_l1Some.j2 kq a1 t194 x40_50 s0_0 t195 = some (r1, r2, r3, r4, r5)) ∧ Aside0 (kq ≤ kj32) ∧ Aside0 (wc.heap[gb189]? = some (.cells #[.int .i64 0, .int .i64 0, .string (⟨#[]⟩ : ByteArray), (.slice none 0 0)] 91 (0, 0))) ∧ Aside0 (IsS87 w0 wc g s0_0 t195) ∧ Aside0 (KeepBut w wc g none) ∧ Aside0 (Below w0.heap.size w0 wc))
      case first =>
       have H := HC51.out
       clear HC51
       by_cases c52 : t194 = 3
       ·rw [if_pos c52] at H
        have c52b0 : (t194 == 3) = true := beq_iff_eq.mpr c52
        have c52b1 : (t194 != 3) = false := bne_eq_false_iff_eq.mpr c52
        clear c52
        (first | rw [c52b0] | (simp only [i64_w, i32_w]; rw [c52b0]) | skip)
        have H' := Aside0.mk H
        clear H
        go_wp2
        go_meet
        case rel => exact ⟨_, ((t194 == 3)), aR, H', ⟨by have := HJ32.out; first | omega | exact Nat.le_refl _⟩, ⟨by refine aW ?_; exact BK189.out⟩, ⟨by repeat (first | (with_reducible first | exact HI0.out | apply IsS87.alloc | apply IsS87.drewN | apply IsS87.drew | apply IsS87.set_1 | refine IsS87.far ?_ NB0_189.out _) | exact HI0.out)⟩, ⟨by repeat (first | (with_reducible first | exact HK.out | apply KeepBut.set_ | apply keep_drewN | apply keep_drew | apply keep_alloc | refine keep_far ?_ GW189.out _) | exact HK.out)⟩, ⟨by repeat (first | (with_reducible first | exact HB.out | apply below_alloc | apply pw_below_drewN | apply below_drew1 | refine below_set ?_ (IsS87.ge HI0.out) | refine below_set ?_ GE189.out) | exact HB.out)⟩⟩
       ·rw [if_neg c52] at H
        have c52b0 : (t194 == 3) = false := beq_eq_false_iff_ne.mpr c52
        have c52b1 : (t194 != 3) = true := bne_iff_ne.mpr c52
        (first | rw [c52b0] | (simp only [i64_w, i32_w]; rw [c52b0]) | skip)
        by_cases c53 : t194 = 4
        ·rw [if_pos c53] at H
         have c53b0 : (t194 == 4) = true := beq_iff_eq.mpr c53
         have c53b1 : (t194 != 4) = false := bne_eq_false_iff_eq.mpr c53
         clear c53
         have H' := Aside0.mk H
         clear H
         go_wp2
         go_meet
         case rel => exact ⟨_, ((t194 == 4)), aR, H', ⟨by have := HJ32.out; first | omega | exact Nat.le_refl _⟩, ⟨by refine aW ?_; exact BK189.out⟩, ⟨by repeat (first | (with_reducible first | exact HI0.out | apply IsS87.alloc | apply IsS87.drewN | apply IsS87.drew | apply IsS87.set_1 | refine IsS87.far ?_ NB0_189.out _) | exact HI0.out)⟩, ⟨by repeat (first | (with_reducible first | exact HK.out | apply KeepBut.set_ | apply keep_drewN | apply keep_drew | apply keep_alloc | refine keep_far ?_ GW189.out _) | exact HK.out)⟩, ⟨by repeat (first | (with_reducible first | exact HB.out | apply below_alloc | apply pw_below_drewN | apply below_drew1 | refine below_set ?_ (IsS87.ge HI0.out) | refine below_set ?_ GE189.out) | exact HB.out)⟩⟩
        ·rw [if_neg c53] at H
         have c53b0 : (t194 == 4) = false := beq_eq_false_iff_ne.mpr c53
         have c53b1 : (t194 != 4) = true := bne_iff_ne.mpr c53
         have H' := Aside0.mk H
         clear H
         go_wp2
         go_meet
         case rel => exact ⟨_, ((t194 == 5)), aR, H', ⟨by have := HJ32.out; first | omega | exact Nat.le_refl _⟩, ⟨by refine aW ?_; exact BK189.out⟩, ⟨by repeat (first | (with_reducible first | exact HI0.out | apply IsS87.alloc | apply IsS87.drewN | apply IsS87.drew | apply IsS87.set_1 | refine IsS87.far ?_ NB0_189.out _) | exact HI0.out)⟩, ⟨by repeat (first | (with_reducible first | exact HK.out | apply KeepBut.set_ | apply keep_drewN | apply keep_drew | apply keep_alloc | refine keep_far ?_ GW189.out _) | exact HK.out)⟩, ⟨by repeat (first | (with_reducible first | exact HB.out | apply below_alloc | apply pw_below_drewN | apply below_drew1 | refine below_set ?_ (IsS87.ge HI0.out) | refine below_set ?_ GE189.out) | exact HB.out)⟩⟩
      case rest =>
       clear HC51
       try clear c1
       try clear c2
       try clear p2
       try clear c3
       try clear c3b0
       try clear c3b1
       try clear c4
       try clear c5
       try clear c5b0
       try clear c5b1
       try clear c6
       try clear p6
       try clear c7
       try clear c8
       try clear c9
       try clear c13
       try clear c13b0
       try clear c13b1
       try clear c14
       try clear c15
       try clear c17
       try clear c17b0
       try clear c17b1
       try clear c18
       try clear c22
       try clear c25
       try clear c25b0
       try clear c25b1
       try clear c30
       try clear c36
       try clear c36b0
       try clear c36b1
       try clear c37
       try clear c49
       try clear c52
       try clear c52b0
       try clear c52b1
       try clear c53
       try clear c53b0
       try clear c53b1
       try clear hcz16_0
       try clear hcz16_1
       try clear hcz16_2
       try clear hcz16_3
       try clear hcz19_0
       try clear hcz19_1
       try clear hcz19_2
       try clear hcz19_3
       try clear hcz23_0
       try clear hcz23_1
       try clear hcz23_2
       try clear hcz23_3
       try clear hcz31_0
       try clear hcz31_1
       try clear hcz31_2
       try clear hcz31_3
       try clear hcz50_0
       try clear hcz50_1
       try clear hcz50_2
       try clear hcz50_3
       try clear hcz9_0
       try clear hcz9_1
       try clear hcz9_2
       try clear hcz9_3
       try clear hfz16_0
       try clear hfz16_1
       try clear hfz16_2
       try clear hfz16_3
       try clear hfz19_0
       try clear hfz19_1
       try clear hfz19_2
       try clear hfz19_3
       try clear hfz23_0
       try clear hfz23_1
       try clear hfz23_2
       try clear hfz23_3
       try clear hfz31_0
       try clear hfz31_1
       try clear hfz31_2
       try clear hfz31_3
       try clear hfz50_0
       try clear hfz50_1
       try clear hfz50_2
       try clear hfz50_3
       try clear hfz9_0
       try clear hfz9_1
       try clear hfz9_2
       try clear hfz9_3
       try clear p2
       obtain ⟨kq, x40_50, rfl, HA, HJ50, BK189, HI0, HK, HB⟩ := hcut
       cases kq with
       | zero => exact absurd HA.out (by simp [spec_l1Some.j2])
       | succ kj50 =>
        have H := HA.out
        clear HA
        simp only [spec_l1Some.j2] at H
        by_cases c54 : x40_50 = true
        ·subst c54
         have H1 : ((spec_l1Some.f kj50 s0_0 t195 (wrap64 (a1 - 1))).bind fun bt218 => (some (8, 0, (⟨#[]⟩ : ByteArray), (([(⟨bt218.1, bt218.2.1, bt218.2.2.1, bt218.2.2.2.1⟩ : S91)] : List (S91))), bt218.2.2.2.2))) = some (r1, r2, r3, r4, r5) := by rw [if_pos rfl] at H; exact H
         clear H
         have H := H1
         clear H1
         replace H := Option.bind_eq_some_iff.mp H
         obtain ⟨⟨t218, t219, t220, t221, t224⟩, A550, H⟩ := H
         replace H : (some (8, 0, (⟨#[]⟩ : ByteArray), (([(⟨t218, t219, t220, t221⟩ : S91)] : List (S91))), t224)) = some (r1, r2, r3, r4, r5) := H
         have A55 := Aside0.mk A550
         clear A550
         obtain ⟨y225, hy225⟩ : ∃ y_ : List (S91), y_ = (([(⟨t218, t219, t220, t221⟩ : S91)] : List (S91))) := ⟨_, rfl⟩
         replace H : (some (8, 0, (⟨#[]⟩ : ByteArray), y225, t224)) = some (r1, r2, r3, r4, r5) := by first | (rw [hy225]; with_reducible exact H) | (have H2_ := (Option.bind_some _ _).symm.trans H; rw [hy225]; with_reducible exact H2_) | (have H2_ := (Option.bind_some _ _).symm.trans H; with_reducible exact H2_) | with_reducible exact H | (rw [hy225]; exact H) | exact H
         have Ny225 := Aside0.mk hy225
         clear hy225
         simp only [Option.some.injEq, Prod.mk.injEq] at H
         obtain ⟨rfl, rfl, rfl, rfl, rfl⟩ := H
         go_wp2_with (first | ((with_reducible refine gate_callee (f := 78) rfl ?_); refine goesL_ (some 47) rfl rfl Try.func78 aK rfl #[.pointer (some ⟨g, 0, none⟩), .int .i64 (wrap64 (a1 - 1))] rfl aL ?_; (with_reducible refine (ih kj50 (by have := HJ32.out; have := HJ50.out; omega) g s0_0 t195 (wrap64 (a1 - 1)) t218 t219 t220 t221 t224 w0 _ ?side1 ?side2 A55.out).mono ?_); (case side1 => repeat (first | (with_reducible first | exact HI0.out | apply IsS87.alloc | apply IsS87.drewN | apply IsS87.drew | apply IsS87.set_1 | refine IsS87.far ?_ NB0_189.out _) | exact HI0.out)); (case side2 => repeat (first | (with_reducible first | exact HB.out | apply below_alloc | apply pw_below_drewN | apply below_drew1 | refine below_set ?_ (IsS87.ge HI0.out) | refine below_set ?_ GE189.out) | exact HB.out)); rintro e w56 ⟨v222, rfl, ho0, hi, hb, hk⟩; refine ⟨_, rfl, ?_⟩; have n0_ := Aside0.mk (KeepBut.blk hk (g' := gb189) (o := .cells #[.int .i64 0, .int .i64 0, .string (⟨#[]⟩ : ByteArray), .slice none 0 0] 91 (0, 0)) (aW BK189.out) NB189_0.out (by simp)); have n1_ := Aside0.mk (Kd.N_lower (Kd.N_mono (ok' := fun k_ => (w.heap.size ≤ k_) ∧ k_ ≠ gb189 ∧ k_ ≠ g) ho0 (fun k_ hk_ => ⟨(Nat.le_trans (keep_size (w := w) (g := g) (row := none) (aH1 GW189.out)) hk_), (Kd.freshB (g := gb189) (o := .cells #[.int .i64 0, .int .i64 0, .string (⟨#[]⟩ : ByteArray), .slice none 0 0] 91 (0, 0)) (aW BK189.out) k_ hk_), (IsS87.fresh (by repeat (first | (with_reducible first | exact HI0.out | apply IsS87.alloc | apply IsS87.drewN | apply IsS87.drew | apply IsS87.set_1 | refine IsS87.far ?_ NB0_189.out _) | exact HI0.out)) k_ hk_)⟩)) (keep_size (w := w) (g := g) (row := none) (aH1 GW189.out))); have n2_ := Aside0.mk (KeepBut.trans (aH1 GW189.out) hk (.inl rfl)); have n3_ := Aside0.mk (hb); have n4_ := Aside0.mk (hi); clear BK189; clear HK; clear HB; clear HI0; have BK189 := n0_; have HO223 := n1_; have HK := n2_; have HB := n3_; have HI0 := n4_; clear n0_ n1_ n2_ n3_ n4_; (try clear hb); (try clear hb2); (try clear hk); (try clear hi); (try clear ho0); obtain ⟨Ao57, co57, eo57⟩ := Kd.N_slice HO223.out; subst eo57) | ((with_reducible refine gate_dst (N := 48) rfl ?_); refine Kd.N_lit k91 _ 91 ?hg (N' := 48) ?hd (xs := ([(⟨t218, t219, t220, t221⟩ : S91)] : List (S91))) (inner := [.int .i64 t218, .int .i64 t219, .string t220, .slice Ao57 t221.length co57]) (ok := (fun k_ => (w.heap.size ≤ k_) ∧ k_ ≠ gb189 ∧ k_ ≠ g)) (okp := (fun k_ => (w.heap.size ≤ k_) ∧ k_ ≠ gb189 ∧ k_ ≠ g)) ?hr ?hp (fun _ hk => hk) ((show ∀ k_, w56.heap.size ≤ k_ → (fun k_ => (w.heap.size ≤ k_) ∧ k_ ≠ gb189 ∧ k_ ≠ g) k_ from fun k_ hk => ⟨(Nat.le_trans (keep_size (w := w) (g := g) (row := none) (aH1 GW189.out)) hk), Kd.freshB (g := gb189) (o := .cells #[.int .i64 0, .int .i64 0, .string (⟨#[]⟩ : ByteArray), .slice none 0 0] 91 (0, 0)) (aW BK189.out) k_ hk, IsS87.fresh (by repeat (first | (with_reducible first | exact HI0.out | apply IsS87.alloc | apply IsS87.drewN | apply IsS87.drew | apply IsS87.set_1 | refine IsS87.far ?_ NB0_189.out _) | exact HI0.out)) k_ hk⟩) _ (Nat.le_refl _)) (Below.refl _ _) (Nat.le_refl _) (by simp) ?_; (case hd => rfl); (case hg => rfl); (case hr => first | (go_simp; done) | (go_simp; rfl)); (case hp => exact (Reps.c4 (show Kd.FK k91 _ _ (⟨t218, t219, t220, t221⟩ : S91) [.int .i64 t218, .int .i64 t219, .string t220, .slice Ao57 t221.length co57] from (k91_mkF _ _ (⟨t218, t219, t220, t221⟩ : S91) (Kd.N_reads' (Kd.N_mono (ok' := (fun k_ => (w.heap.size ≤ k_) ∧ k_ ≠ gb189 ∧ k_ ≠ g)) (HO223.out) (fun k_ hk => ⟨hk.1, ⟨hk.2.1, hk.2.2⟩⟩))).2.1 (Kd.N_F (Kd.N_mono (ok' := (fun k_ => (w.heap.size ≤ k_) ∧ k_ ≠ gb189 ∧ k_ ≠ g)) (HO223.out) (fun k_ hk => ⟨hk.1, ⟨hk.2.1, hk.2.2⟩⟩))))) (Reps.none _ _))); intro v226 w58 ho59 hb hg_ hnew_; clear hg_ hnew_; (first | rw [← Ny225.out] at ho59 | (simp only [Int.reduceToNat] at ho59; rw [← Ny225.out] at ho59)); have n0_ := Aside0.mk (Kd.N_lower ho59 (keep_size (w := w) (g := g) (row := none) (aH1 GW189.out))); have n1_ := Aside0.mk (blk_below (g := gb189) (o := .cells #[.int .i64 0, .int .i64 0, .string (⟨#[]⟩ : ByteArray), .slice none 0 0] 91 (0, 0)) (aW BK189.out) hb); have n2_ := Aside0.mk (IsS87.below (by repeat (first | (with_reducible first | exact HI0.out | apply IsS87.alloc | apply IsS87.drewN | apply IsS87.drew | apply IsS87.set_1 | refine IsS87.far ?_ NB0_189.out _) | exact HI0.out)) hb); have n3_ := Aside0.mk (KeepBut.trans (aH1 GW189.out) (KeepBut.of_below hb g none) (.inl rfl)); have n4_ := Aside0.mk (below_step (aB2 (IsS87.ge HI0.out) GE189.out) hb); clear BK189; clear HI0; clear HK; clear HB; clear HO223; have HO227 := n0_; have BK189 := n1_; have HI0 := n2_; have HK := n3_; have HB := n4_; clear n0_ n1_ n2_ n3_ n4_; clear hb ho59; obtain ⟨Ao60, co60, eo60⟩ := Kd.N_slice HO227.out; subst eo60; have hnb61 := NB189_0.out; have hnc61 := NB0_189.out; have hcz62_0 : w58.cell? ⟨gb189, 0, none⟩ = some (.int .i64 0) := (blk_cell BK189.out 0).trans rfl; have hcz62_1 : w58.cell? ⟨gb189, 1, none⟩ = some (.int .i64 0) := (blk_cell BK189.out 1).trans rfl; have hcz62_2 : w58.cell? ⟨gb189, 2, none⟩ = some (.string (⟨#[]⟩ : ByteArray)) := (blk_cell BK189.out 2).trans rfl; have hcz62_3 : w58.cell? ⟨gb189, 3, none⟩ = some (.slice none 0 0) := (blk_cell BK189.out 3).trans rfl; have hfz62_0 := blk_frozen BK189.out 0; have hfz62_1 := blk_frozen BK189.out 1; have hfz62_2 := blk_frozen BK189.out 2; have hfz62_3 := blk_frozen BK189.out 3))
         refine bodyPost_ret (results_cell_row rfl _ _ gb189 91 #[.int .i64 8, .int .i64 0, .string (⟨#[]⟩ : ByteArray), .slice Ao60 y225.length co60] (0, 0) _ rfl (by refine aW ?_; refine blk_put (cs := #[.int .i64 8, .int .i64 0, .string (⟨#[]⟩ : ByteArray), .slice none 0 0]) ?_ 3 _ rfl; refine aW ?_; refine blk_put (cs := #[.int .i64 8, .int .i64 0, .string (⟨#[]⟩ : ByteArray), .slice none 0 0]) ?_ 2 _ rfl; refine aW ?_; refine blk_put (cs := #[.int .i64 8, .int .i64 0, .string (⟨#[]⟩ : ByteArray), .slice none 0 0]) ?_ 1 _ rfl; refine aW ?_; refine blk_put (cs := #[.int .i64 0, .int .i64 0, .string (⟨#[]⟩ : ByteArray), .slice none 0 0]) ?_ 0 _ rfl; refine aW ?_; exact BK189.out) Try.underlying91 rfl aK) rfl ?_
         exact ⟨_, by first | rfl | (simp [errW_none, errW_some] <;> rfl) | (simp [*, errW_none, errW_some] <;> rfl), by (with_reducible repeat (first | apply Kd.N_alloc | apply Kd.N_drewN | apply Kd.N_drew)); exact Kd.N_mono (Kd.N_far (p := ⟨gb189, 3, none⟩) (Kd.N_far (p := ⟨gb189, 2, none⟩) (Kd.N_far (p := ⟨gb189, 1, none⟩) (Kd.N_far (p := ⟨gb189, 0, none⟩) (Kd.N_mono HO227.out (fun k_ hk => (⟨hk, hk.2.1⟩ : _ ∧ k_ ≠ gb189))) (fun _ hk => hk.2) (.int .i64 8)) (fun _ hk => hk.2) (.int .i64 0)) (fun _ hk => hk.2) (.string (⟨#[]⟩ : ByteArray))) (fun _ hk => hk.2) (.slice Ao60 y225.length co60)) (fun _ hk => hk.1.1), by repeat (first | (with_reducible first | exact HI0.out | apply IsS87.alloc | apply IsS87.drewN | apply IsS87.drew | apply IsS87.set_1 | refine IsS87.far ?_ NB0_189.out _) | exact HI0.out), by repeat (first | (with_reducible first | exact HB.out | apply below_alloc | apply pw_below_drewN | apply below_drew1 | refine below_set ?_ (IsS87.ge HI0.out) | refine below_set ?_ GE189.out) | exact HB.out), by repeat (first | (with_reducible first | exact HK.out | apply KeepBut.set_ | apply keep_drewN | apply keep_drew | apply keep_alloc | refine keep_far ?_ GW189.out _) | exact HK.out)⟩
        ·replace c54 := Bool.eq_false_iff.mpr c54
         subst c54
         have H1 : (if t194 = 6 then ((spec_l15Rd_pick.f kj50 s0_0 t195 3).bind fun bt228 => (if bt228.1 = 0 then ((spec_l1Some.f kj50 s0_0 bt228.2 (wrap64 (a1 - 1))).bind fun bt230 => ((spec_l1Some.f kj50 s0_0 bt230.2.2.2.2 0).bind fun bt237 => ((spec_l1Cat.f 5 0 (⟨#[]⟩ : ByteArray) ([] : List (S91)) bt237.1 bt237.2.1 bt237.2.2.1 bt237.2.2.2.1).bind fun bt244 => ((spec_l1Cat.f bt230.1 bt230.2.1 bt230.2.2.1 bt230.2.2.2.1 bt244.1 bt244.2.1 bt244.2.2.1 bt244.2.2.2).bind fun bt250 => (some (bt250.1, bt250.2.1, bt250.2.2.1, bt250.2.2.2, bt237.2.2.2.2)))))) else ((spec_l1Some.f kj50 s0_0 bt228.2 (wrap64 (a1 - 1))).bind fun bt256 => ((spec_l1Some.f kj50 s0_0 bt256.2.2.2.2 0).bind fun bt263 => ((spec_l1Cat.f 3 0 (⟨#[]⟩ : ByteArray) ([] : List (S91)) bt263.1 bt263.2.1 bt263.2.2.1 bt263.2.2.2.1).bind fun bt270 => ((spec_l1Cat.f bt256.1 bt256.2.1 bt256.2.2.1 bt256.2.2.2.1 bt270.1 bt270.2.1 bt270.2.2.1 bt270.2.2.2).bind fun bt276 => (some (bt276.1, bt276.2.1, bt276.2.2.1, bt276.2.2.2, bt263.2.2.2.2)))))))) else ((spec_l1Some.f kj50 s0_0 t195 (wrap64 (a1 - 1))).bind fun bt282 => ((spec_l1Some.f kj50 s0_0 bt282.2.2.2.2 (wrap64 (a1 - 1))).bind fun bt289 => ((spec_l1Cat.f bt282.1 bt282.2.1 bt282.2.2.1 bt282.2.2.2.1 bt289.1 bt289.2.1 bt289.2.2.1 bt289.2.2.2.1).bind fun bt296 => (some (bt296.1, bt296.2.1, bt296.2.2.1, bt296.2.2.2, bt289.2.2.2.2)))))) = some (r1, r2, r3, r4, r5) := by rw [if_neg (show ¬ (false = true) by decide)] at H; exact H
         clear H
         have H := H1
         clear H1
         by_cases c63 : t194 = 6
         ·rw [if_pos c63] at H
          have c63b0 : (t194 == 6) = true := beq_iff_eq.mpr c63
          have c63b1 : (t194 != 6) = false := bne_eq_false_iff_eq.mpr c63
          clear c63
          replace H := Option.bind_eq_some_iff.mp H
          obtain ⟨⟨t228, t229⟩, A640, H⟩ := H
          replace H : (if t228 = 0 then ((spec_l1Some.f kj50 s0_0 t229 (wrap64 (a1 - 1))).bind fun bt230 => ((spec_l1Some.f kj50 s0_0 bt230.2.2.2.2 0).bind fun bt237 => ((spec_l1Cat.f 5 0 (⟨#[]⟩ : ByteArray) ([] : List (S91)) bt237.1 bt237.2.1 bt237.2.2.1 bt237.2.2.2.1).bind fun bt244 => ((spec_l1Cat.f bt230.1 bt230.2.1 bt230.2.2.1 bt230.2.2.2.1 bt244.1 bt244.2.1 bt244.2.2.1 bt244.2.2.2).bind fun bt250 => (some (bt250.1, bt250.2.1, bt250.2.2.1, bt250.2.2.2, bt237.2.2.2.2)))))) else ((spec_l1Some.f kj50 s0_0 t229 (wrap64 (a1 - 1))).bind fun bt256 => ((spec_l1Some.f kj50 s0_0 bt256.2.2.2.2 0).bind fun bt263 => ((spec_l1Cat.f 3 0 (⟨#[]⟩ : ByteArray) ([] : List (S91)) bt263.1 bt263.2.1 bt263.2.2.1 bt263.2.2.2.1).bind fun bt270 => ((spec_l1Cat.f bt256.1 bt256.2.1 bt256.2.2.1 bt256.2.2.2.1 bt270.1 bt270.2.1 bt270.2.2.1 bt270.2.2.2).bind fun bt276 => (some (bt276.1, bt276.2.1, bt276.2.2.1, bt276.2.2.2, bt263.2.2.2.2))))))) = some (r1, r2, r3, r4, r5) := H
          have A64 := Aside0.mk A640
          clear A640
          by_cases c65 : t228 = 0
          ·rw [if_pos c65] at H
           have c65b0 : (t228 == 0) = true := beq_iff_eq.mpr c65
           have c65b1 : (t228 != 0) = false := bne_eq_false_iff_eq.mpr c65
           clear c65
           replace H := Option.bind_eq_some_iff.mp H
           obtain ⟨⟨t230, t231, t232, t233, t236⟩, A660, H⟩ := H
           replace H : ((spec_l1Some.f kj50 s0_0 t236 0).bind fun bt237 => ((spec_l1Cat.f 5 0 (⟨#[]⟩ : ByteArray) ([] : List (S91)) bt237.1 bt237.2.1 bt237.2.2.1 bt237.2.2.2.1).bind fun bt244 => ((spec_l1Cat.f t230 t231 t232 t233 bt244.1 bt244.2.1 bt244.2.2.1 bt244.2.2.2).bind fun bt250 => (some (bt250.1, bt250.2.1, bt250.2.2.1, bt250.2.2.2, bt237.2.2.2.2))))) = some (r1, r2, r3, r4, r5) := H
           have A66 := Aside0.mk A660
           clear A660
           replace H := Option.bind_eq_some_iff.mp H
           obtain ⟨⟨t237, t238, t239, t240, t243⟩, A670, H⟩ := H
           replace H : ((spec_l1Cat.f 5 0 (⟨#[]⟩ : ByteArray) ([] : List (S91)) t237 t238 t239 t240).bind fun bt244 => ((spec_l1Cat.f t230 t231 t232 t233 bt244.1 bt244.2.1 bt244.2.2.1 bt244.2.2.2).bind fun bt250 => (some (bt250.1, bt250.2.1, bt250.2.2.1, bt250.2.2.2, t243)))) = some (r1, r2, r3, r4, r5) := H
           have A67 := Aside0.mk A670
           clear A670
           replace H := Option.bind_eq_some_iff.mp H
           obtain ⟨⟨t244, t245, t246, t247⟩, A680, H⟩ := H
           replace H : ((spec_l1Cat.f t230 t231 t232 t233 t244 t245 t246 t247).bind fun bt250 => (some (bt250.1, bt250.2.1, bt250.2.2.1, bt250.2.2.2, t243))) = some (r1, r2, r3, r4, r5) := H
           have A68 := Aside0.mk A680
           clear A680
           replace H := Option.bind_eq_some_iff.mp H
           obtain ⟨⟨t250, t251, t252, t253⟩, A690, H⟩ := H
           replace H : (some (t250, t251, t252, t253, t243)) = some (r1, r2, r3, r4, r5) := H
           have A69 := Aside0.mk A690
           clear A690
           simp only [Option.some.injEq, Prod.mk.injEq] at H
           obtain ⟨rfl, rfl, rfl, rfl, rfl⟩ := H
           go_wp2_with (first | ((with_reducible refine gate_callee (f := 79) rfl ?_); refine goesL_ (some 53) rfl rfl Try.func79 aK rfl #[.pointer (some ⟨g, 0, none⟩), .int .i64 3] rfl aL ?_; (with_reducible refine (spec_l15Rd_pick.calls kj50 g s0_0 t195 3 t228 t229 w0 _ ?side1 ?side2 A64.out).mono ?_); (case side1 => repeat (first | (with_reducible first | exact HI0.out | apply IsS87.alloc | apply IsS87.drewN | apply IsS87.drew | apply IsS87.set_1 | refine IsS87.far ?_ NB0_189.out _) | exact HI0.out)); (case side2 => repeat (first | (with_reducible first | exact HB.out | apply below_alloc | apply pw_below_drewN | apply below_drew1 | refine below_set ?_ (IsS87.ge HI0.out) | refine below_set ?_ GE189.out) | exact HB.out)); rintro e w70 ⟨rfl, hi, hb, hk⟩; refine ⟨_, rfl, ?_⟩; have n0_ := Aside0.mk (KeepBut.blk hk (g' := gb189) (o := .cells #[.int .i64 0, .int .i64 0, .string (⟨#[]⟩ : ByteArray), .slice none 0 0] 91 (0, 0)) (aW BK189.out) NB189_0.out (by simp)); have n1_ := Aside0.mk (KeepBut.trans (aH1 GW189.out) hk (.inl rfl)); have n2_ := Aside0.mk (hb); have n3_ := Aside0.mk (hi); clear BK189; clear HK; clear HB; clear HI0; have BK189 := n0_; have HK := n1_; have HB := n2_; have HI0 := n3_; clear n0_ n1_ n2_ n3_; (try clear hb); (try clear hb2); (try clear hk); (try clear hi)) | ((with_reducible refine gate_callee (f := 78) rfl ?_); refine goesL_ (some 58) rfl rfl Try.func78 aK rfl #[.pointer (some ⟨g, 0, none⟩), .int .i64 (wrap64 (a1 - 1))] rfl aL ?_; (with_reducible refine (ih kj50 (by have := HJ32.out; have := HJ50.out; omega) g s0_0 t229 (wrap64 (a1 - 1)) t230 t231 t232 t233 t236 w0 _ ?side1 ?side2 A66.out).mono ?_); (case side1 => repeat (first | (with_reducible first | exact HI0.out | apply IsS87.alloc | apply IsS87.drewN | apply IsS87.drew | apply IsS87.set_1 | refine IsS87.far ?_ NB0_189.out _) | exact HI0.out)); (case side2 => repeat (first | (with_reducible first | exact HB.out | apply below_alloc | apply pw_below_drewN | apply below_drew1 | refine below_set ?_ (IsS87.ge HI0.out) | refine below_set ?_ GE189.out) | exact HB.out)); rintro e w71 ⟨v234, rfl, ho0, hi, hb, hk⟩; refine ⟨_, rfl, ?_⟩; have n0_ := Aside0.mk (KeepBut.blk hk (g' := gb189) (o := .cells #[.int .i64 0, .int .i64 0, .string (⟨#[]⟩ : ByteArray), .slice none 0 0] 91 (0, 0)) (aW BK189.out) NB189_0.out (by simp)); have n1_ := Aside0.mk (Kd.N_lower (Kd.N_mono (ok' := fun k_ => (w.heap.size ≤ k_) ∧ k_ ≠ gb189 ∧ k_ ≠ g) ho0 (fun k_ hk_ => ⟨(Nat.le_trans (keep_size (w := w) (g := g) (row := none) (aH1 GW189.out)) hk_), (Kd.freshB (g := gb189) (o := .cells #[.int .i64 0, .int .i64 0, .string (⟨#[]⟩ : ByteArray), .slice none 0 0] 91 (0, 0)) (aW BK189.out) k_ hk_), (IsS87.fresh (by repeat (first | (with_reducible first | exact HI0.out | apply IsS87.alloc | apply IsS87.drewN | apply IsS87.drew | apply IsS87.set_1 | refine IsS87.far ?_ NB0_189.out _) | exact HI0.out)) k_ hk_)⟩)) (keep_size (w := w) (g := g) (row := none) (aH1 GW189.out))); have n2_ := Aside0.mk (KeepBut.trans (aH1 GW189.out) hk (.inl rfl)); have n3_ := Aside0.mk (hb); have n4_ := Aside0.mk (hi); clear BK189; clear HK; clear HB; clear HI0; have BK189 := n0_; have HO235 := n1_; have HK := n2_; have HB := n3_; have HI0 := n4_; clear n0_ n1_ n2_ n3_ n4_; (try clear hb); (try clear hb2); (try clear hk); (try clear hi); (try clear ho0)) | ((with_reducible refine gate_callee (f := 78) rfl ?_); refine goesL_ (some 61) rfl rfl Try.func78 aK rfl #[.pointer (some ⟨g, 0, none⟩), .int .i64 0] rfl aL ?_; (with_reducible refine (ih kj50 (by have := HJ32.out; have := HJ50.out; omega) g s0_0 t236 0 t237 t238 t239 t240 t243 w0 _ ?side1 ?side2 A67.out).mono ?_); (case side1 => repeat (first | (with_reducible first | exact HI0.out | apply IsS87.alloc | apply IsS87.drewN | apply IsS87.drew | apply IsS87.set_1 | refine IsS87.far ?_ NB0_189.out _) | exact HI0.out)); (case side2 => repeat (first | (with_reducible first | exact HB.out | apply below_alloc | apply pw_below_drewN | apply below_drew1 | refine below_set ?_ (IsS87.ge HI0.out) | refine below_set ?_ GE189.out) | exact HB.out)); rintro e w72 ⟨v241, rfl, ho0, hi, hb, hk⟩; refine ⟨_, rfl, ?_⟩; have n0_ := Aside0.mk (KeepBut.blk hk (g' := gb189) (o := .cells #[.int .i64 0, .int .i64 0, .string (⟨#[]⟩ : ByteArray), .slice none 0 0] 91 (0, 0)) (aW BK189.out) NB189_0.out (by simp)); have n1_ := Aside0.mk (Kd.N_mono (Kd.N_told (Kd.N_oldK (Kd.N_mono (ok := fun k_ => (((w.heap.size ≤ k_)) ∧ (k_ ≠ gb189 ∧ k_ ≠ g))) (aN HO235.out) (fun k_ hk_ => (⟨hk_, hk_.2.2⟩ : _ ∧ k_ ≠ g))) hk) (Kd.N_base ho0)) (fun _ h_ => h_.1)); have n2_ := Aside0.mk (Kd.N_lower (Kd.N_mono (ok' := fun k_ => (w.heap.size ≤ k_) ∧ some k_ ≠ (v234 : Value).ownBlock ∧ k_ ≠ gb189 ∧ k_ ≠ g) ho0 (fun k_ hk_ => ⟨(Nat.le_trans (keep_size (w := w) (g := g) (row := none) (aH1 GW189.out)) hk_), (Kd.fresh' (Kd.N_lt (aN HO235.out)) k_ hk_), (Kd.freshB (g := gb189) (o := .cells #[.int .i64 0, .int .i64 0, .string (⟨#[]⟩ : ByteArray), .slice none 0 0] 91 (0, 0)) (aW BK189.out) k_ hk_), (IsS87.fresh (by repeat (first | (with_reducible first | exact HI0.out | apply IsS87.alloc | apply IsS87.drewN | apply IsS87.drew | apply IsS87.set_1 | refine IsS87.far ?_ NB0_189.out _) | exact HI0.out)) k_ hk_)⟩)) (keep_size (w := w) (g := g) (row := none) (aH1 GW189.out))); have n3_ := Aside0.mk (KeepBut.trans (aH1 GW189.out) hk (.inl rfl)); have n4_ := Aside0.mk (hb); have n5_ := Aside0.mk (hi); clear BK189; clear HO235; clear HK; clear HB; clear HI0; have BK189 := n0_; have HO235 := n1_; have HO242 := n2_; have HK := n3_; have HB := n4_; have HI0 := n5_; clear n0_ n1_ n2_ n3_ n4_ n5_; (try clear hb); (try clear hb2); (try clear hk); (try clear hi); (try clear ho0); obtain ⟨Ao73, co73, eo73⟩ := Kd.N_slice HO242.out; subst eo73) | ((with_reducible refine gate_callee (f := 93) rfl ?_); refine goesL_ (some 62) rfl rfl Try.func93 aK rfl #[.agg #[.int .i64 5, .int .i64 0, .string (⟨#[]⟩ : ByteArray), .slice none 0 0], .agg #[.int .i64 t237, .int .i64 t238, .string t239, .slice Ao73 t240.length co73]] rfl aL ?_; (refine (spec_l1Cat.calls 5 0 (⟨#[]⟩ : ByteArray) (fun k_ => False) _ _ ([] : List (S91)) t237 t238 t239 (fun k_ => ((w.heap.size ≤ k_) ∧ (some k_ ≠ (v234 : Value).ownBlock ∧ (k_ ≠ gb189 ∧ k_ ≠ g)))) _ _ t240 t244 t245 t246 t247 _ ?side1 ?side2 A68.out).mono ?_); (case side1 => exact Kd.V_nil _ _ _ _ _); (case side2 => exact Kd.N_V (HO242.out)); rintro e w74 ⟨v248, rfl, ho0, hb⟩; refine ⟨_, rfl, ?_⟩; have n0_ := Aside0.mk (Kd.N_elder' (aN HO235.out) (Kd.N_base ho0) hb); have n1_ := Aside0.mk (Kd.N_elder' (aN HO242.out) (Kd.N_base ho0) hb); have n2_ := Aside0.mk (Kd.N_lower (Kd.N_mono (ok' := fun k_ => (w.heap.size ≤ k_) ∧ some k_ ≠ (v234 : Value).ownBlock ∧ k_ ≠ gb189 ∧ k_ ≠ g) ho0 (fun k_ hk_ => ⟨Or.elim hk_ (fun hs_ => Or.elim hs_ (fun hs_ => (hs_).elim) (fun hs_ => hs_.1)) (fun hn_ => (Nat.le_trans (keep_size (w := w) (g := g) (row := none) (aH1 GW189.out)) hn_)), Or.elim hk_ (fun hs_ => Or.elim hs_ (fun hs_ => (hs_).elim) (fun hs_ => hs_.2.1)) (fun hn_ => (Kd.fresh' (Kd.N_lt (aN HO235.out)) k_ hn_)), Or.elim hk_ (fun hs_ => Or.elim hs_ (fun hs_ => (hs_).elim) (fun hs_ => hs_.2.2.1)) (fun hn_ => (Kd.freshB (g := gb189) (o := .cells #[.int .i64 0, .int .i64 0, .string (⟨#[]⟩ : ByteArray), .slice none 0 0] 91 (0, 0)) (aW BK189.out) k_ hn_)), Or.elim hk_ (fun hs_ => Or.elim hs_ (fun hs_ => (hs_).elim) (fun hs_ => hs_.2.2.2)) (fun hn_ => (IsS87.fresh (by repeat (first | (with_reducible first | exact HI0.out | apply IsS87.alloc | apply IsS87.drewN | apply IsS87.drew | apply IsS87.set_1 | refine IsS87.far ?_ NB0_189.out _) | exact HI0.out)) k_ hn_))⟩)) (keep_size (w := w) (g := g) (row := none) (aH1 GW189.out))); have n3_ := Aside0.mk (blk_below (g := gb189) (o := .cells #[.int .i64 0, .int .i64 0, .string (⟨#[]⟩ : ByteArray), .slice none 0 0] 91 (0, 0)) (aW BK189.out) hb); have n4_ := Aside0.mk (IsS87.below (by repeat (first | (with_reducible first | exact HI0.out | apply IsS87.alloc | apply IsS87.drewN | apply IsS87.drew | apply IsS87.set_1 | refine IsS87.far ?_ NB0_189.out _) | exact HI0.out)) hb); have n5_ := Aside0.mk (KeepBut.trans (aH1 GW189.out) (KeepBut.of_below hb g none) (.inl rfl)); have n6_ := Aside0.mk (below_step (aB2 (IsS87.ge HI0.out) GE189.out) hb); clear HO235; clear HO242; clear BK189; clear HI0; clear HK; clear HB; have HO235 := n0_; have HO242 := n1_; have HO249 := n2_; have BK189 := n3_; have HI0 := n4_; have HK := n5_; have HB := n6_; clear n0_ n1_ n2_ n3_ n4_ n5_ n6_; (try clear hb); (try clear hb2); (try clear hk); (try clear hi); (try clear ho0); obtain ⟨Ao75, co75, eo75⟩ := Kd.N_slice HO235.out; subst eo75; obtain ⟨Ao76, co76, eo76⟩ := Kd.N_slice HO249.out; subst eo76) | ((with_reducible refine gate_callee (f := 93) rfl ?_); refine goesL_ (some 63) rfl rfl Try.func93 aK rfl #[.agg #[.int .i64 t230, .int .i64 t231, .string t232, .slice Ao75 t233.length co75], .agg #[.int .i64 t244, .int .i64 t245, .string t246, .slice Ao76 t247.length co76]] rfl aL ?_; (with_reducible refine (spec_l1Cat.calls t230 t231 t232 (fun k_ => ((((w.heap.size ≤ k_) ∧ (k_ ≠ gb189 ∧ k_ ≠ g)) ∧ some k_ ≠ (.slice Ao73 t240.length co73 : Value).ownBlock) ∧ some k_ ≠ (.slice Ao76 t247.length co76 : Value).ownBlock)) _ _ t233 t244 t245 t246 (fun k_ => ((w.heap.size ≤ k_) ∧ (some k_ ≠ (.slice Ao75 t233.length co75 : Value).ownBlock ∧ (k_ ≠ gb189 ∧ k_ ≠ g)))) _ _ t247 t250 t251 t252 t253 _ ?side1 ?side2 A69.out).mono ?_); (case side1 => exact Kd.N_V (HO235.out)); (case side2 => exact Kd.N_V (HO249.out)); rintro e w77 ⟨v254, rfl, ho0, hb⟩; refine ⟨_, rfl, ?_⟩; have n0_ := Aside0.mk (Kd.N_elder' (aN HO235.out) (Kd.N_base ho0) hb); have n1_ := Aside0.mk (Kd.N_elder' (aN HO242.out) (Kd.N_base ho0) hb); have n2_ := Aside0.mk (Kd.N_elder' (aN HO249.out) (Kd.N_base ho0) hb); have n3_ := Aside0.mk (Kd.N_lower (Kd.N_mono (ok' := fun k_ => (w.heap.size ≤ k_) ∧ k_ ≠ gb189 ∧ k_ ≠ g) ho0 (fun k_ hk_ => ⟨Or.elim hk_ (fun hs_ => Or.elim hs_ (fun hs_ => hs_.1.1.1) (fun hs_ => hs_.1)) (fun hn_ => (Nat.le_trans (keep_size (w := w) (g := g) (row := none) (aH1 GW189.out)) hn_)), Or.elim hk_ (fun hs_ => Or.elim hs_ (fun hs_ => hs_.1.1.2.1) (fun hs_ => hs_.2.2.1)) (fun hn_ => (Kd.freshB (g := gb189) (o := .cells #[.int .i64 0, .int .i64 0, .string (⟨#[]⟩ : ByteArray), .slice none 0 0] 91 (0, 0)) (aW BK189.out) k_ hn_)), Or.elim hk_ (fun hs_ => Or.elim hs_ (fun hs_ => hs_.1.1.2.2) (fun hs_ => hs_.2.2.2)) (fun hn_ => (IsS87.fresh (by repeat (first | (with_reducible first | exact HI0.out | apply IsS87.alloc | apply IsS87.drewN | apply IsS87.drew | apply IsS87.set_1 | refine IsS87.far ?_ NB0_189.out _) | exact HI0.out)) k_ hn_))⟩)) (keep_size (w := w) (g := g) (row := none) (aH1 GW189.out))); have n4_ := Aside0.mk (blk_below (g := gb189) (o := .cells #[.int .i64 0, .int .i64 0, .string (⟨#[]⟩ : ByteArray), .slice none 0 0] 91 (0, 0)) (aW BK189.out) hb); have n5_ := Aside0.mk (IsS87.below (by repeat (first | (with_reducible first | exact HI0.out | apply IsS87.alloc | apply IsS87.drewN | apply IsS87.drew | apply IsS87.set_1 | refine IsS87.far ?_ NB0_189.out _) | exact HI0.out)) hb); have n6_ := Aside0.mk (KeepBut.trans (aH1 GW189.out) (KeepBut.of_below hb g none) (.inl rfl)); have n7_ := Aside0.mk (below_step (aB2 (IsS87.ge HI0.out) GE189.out) hb); clear HO235; clear HO242; clear HO249; clear BK189; clear HI0; clear HK; clear HB; have HO235 := n0_; have HO242 := n1_; have HO249 := n2_; have HO255 := n3_; have BK189 := n4_; have HI0 := n5_; have HK := n6_; have HB := n7_; clear n0_ n1_ n2_ n3_ n4_ n5_ n6_ n7_; (try clear hb); (try clear hb2); (try clear hk); (try clear hi); (try clear ho0); have hnb78 := NB189_0.out; have hnc78 := NB0_189.out; have hcz79_0 : w77.cell? ⟨gb189, 0, none⟩ = some (.int .i64 0) := (blk_cell BK189.out 0).trans rfl; have hcz79_1 : w77.cell? ⟨gb189, 1, none⟩ = some (.int .i64 0) := (blk_cell BK189.out 1).trans rfl; have hcz79_2 : w77.cell? ⟨gb189, 2, none⟩ = some (.string (⟨#[]⟩ : ByteArray)) := (blk_cell BK189.out 2).trans rfl; have hcz79_3 : w77.cell? ⟨gb189, 3, none⟩ = some (.slice none 0 0) := (blk_cell BK189.out 3).trans rfl; have hfz79_0 := blk_frozen BK189.out 0; have hfz79_1 := blk_frozen BK189.out 1; have hfz79_2 := blk_frozen BK189.out 2; have hfz79_3 := blk_frozen BK189.out 3; obtain ⟨Ao80, co80, eo80⟩ := Kd.N_slice HO255.out; subst eo80))
           refine bodyPost_ret (results_cell_row rfl _ _ gb189 91 #[.int .i64 t250, .int .i64 t251, .string t252, .slice Ao80 t253.length co80] (0, 0) _ rfl (by refine aW ?_; refine blk_put (cs := #[.int .i64 t250, .int .i64 t251, .string t252, .slice none 0 0]) ?_ 3 _ rfl; refine aW ?_; refine blk_put (cs := #[.int .i64 t250, .int .i64 t251, .string (⟨#[]⟩ : ByteArray), .slice none 0 0]) ?_ 2 _ rfl; refine aW ?_; refine blk_put (cs := #[.int .i64 t250, .int .i64 0, .string (⟨#[]⟩ : ByteArray), .slice none 0 0]) ?_ 1 _ rfl; refine aW ?_; refine blk_put (cs := #[.int .i64 0, .int .i64 0, .string (⟨#[]⟩ : ByteArray), .slice none 0 0]) ?_ 0 _ rfl; refine aW ?_; exact BK189.out) Try.underlying91 rfl aK) rfl ?_
           exact ⟨_, by first | rfl | (simp [errW_none, errW_some] <;> rfl) | (simp [*, errW_none, errW_some] <;> rfl), by (with_reducible repeat (first | apply Kd.N_alloc | apply Kd.N_drewN | apply Kd.N_drew)); exact Kd.N_mono (Kd.N_far (p := ⟨gb189, 3, none⟩) (Kd.N_far (p := ⟨gb189, 2, none⟩) (Kd.N_far (p := ⟨gb189, 1, none⟩) (Kd.N_far (p := ⟨gb189, 0, none⟩) (Kd.N_mono HO255.out (fun k_ hk => (⟨hk, hk.2.1⟩ : _ ∧ k_ ≠ gb189))) (fun _ hk => hk.2) (.int .i64 t250)) (fun _ hk => hk.2) (.int .i64 t251)) (fun _ hk => hk.2) (.string t252)) (fun _ hk => hk.2) (.slice Ao80 t253.length co80)) (fun _ hk => hk.1.1), by repeat (first | (with_reducible first | exact HI0.out | apply IsS87.alloc | apply IsS87.drewN | apply IsS87.drew | apply IsS87.set_1 | refine IsS87.far ?_ NB0_189.out _) | exact HI0.out), by repeat (first | (with_reducible first | exact HB.out | apply below_alloc | apply pw_below_drewN | apply below_drew1 | refine below_set ?_ (IsS87.ge HI0.out) | refine below_set ?_ GE189.out) | exact HB.out), by repeat (first | (with_reducible first | exact HK.out | apply KeepBut.set_ | apply keep_drewN | apply keep_drew | apply keep_alloc | refine keep_far ?_ GW189.out _) | exact HK.out)⟩
          ·rw [if_neg c65] at H
           have c65b0 : (t228 == 0) = false := beq_eq_false_iff_ne.mpr c65
           have c65b1 : (t228 != 0) = true := bne_iff_ne.mpr c65
           replace H := Option.bind_eq_some_iff.mp H
           obtain ⟨⟨t256, t257, t258, t259, t262⟩, A810, H⟩ := H
           replace H : ((spec_l1Some.f kj50 s0_0 t262 0).bind fun bt263 => ((spec_l1Cat.f 3 0 (⟨#[]⟩ : ByteArray) ([] : List (S91)) bt263.1 bt263.2.1 bt263.2.2.1 bt263.2.2.2.1).bind fun bt270 => ((spec_l1Cat.f t256 t257 t258 t259 bt270.1 bt270.2.1 bt270.2.2.1 bt270.2.2.2).bind fun bt276 => (some (bt276.1, bt276.2.1, bt276.2.2.1, bt276.2.2.2, bt263.2.2.2.2))))) = some (r1, r2, r3, r4, r5) := H
           have A81 := Aside0.mk A810
           clear A810
           replace H := Option.bind_eq_some_iff.mp H
           obtain ⟨⟨t263, t264, t265, t266, t269⟩, A820, H⟩ := H
           replace H : ((spec_l1Cat.f 3 0 (⟨#[]⟩ : ByteArray) ([] : List (S91)) t263 t264 t265 t266).bind fun bt270 => ((spec_l1Cat.f t256 t257 t258 t259 bt270.1 bt270.2.1 bt270.2.2.1 bt270.2.2.2).bind fun bt276 => (some (bt276.1, bt276.2.1, bt276.2.2.1, bt276.2.2.2, t269)))) = some (r1, r2, r3, r4, r5) := H
           have A82 := Aside0.mk A820
           clear A820
           replace H := Option.bind_eq_some_iff.mp H
           obtain ⟨⟨t270, t271, t272, t273⟩, A830, H⟩ := H
           replace H : ((spec_l1Cat.f t256 t257 t258 t259 t270 t271 t272 t273).bind fun bt276 => (some (bt276.1, bt276.2.1, bt276.2.2.1, bt276.2.2.2, t269))) = some (r1, r2, r3, r4, r5) := H
           have A83 := Aside0.mk A830
           clear A830
           replace H := Option.bind_eq_some_iff.mp H
           obtain ⟨⟨t276, t277, t278, t279⟩, A840, H⟩ := H
           replace H : (some (t276, t277, t278, t279, t269)) = some (r1, r2, r3, r4, r5) := H
           have A84 := Aside0.mk A840
           clear A840
           simp only [Option.some.injEq, Prod.mk.injEq] at H
           obtain ⟨rfl, rfl, rfl, rfl, rfl⟩ := H
           go_wp2_with (first | ((with_reducible refine gate_callee (f := 79) rfl ?_); refine goesL_ (some 53) rfl rfl Try.func79 aK rfl #[.pointer (some ⟨g, 0, none⟩), .int .i64 3] rfl aL ?_; (with_reducible refine (spec_l15Rd_pick.calls kj50 g s0_0 t195 3 t228 t229 w0 _ ?side1 ?side2 A64.out).mono ?_); (case side1 => repeat (first | (with_reducible first | exact HI0.out | apply IsS87.alloc | apply IsS87.drewN | apply IsS87.drew | apply IsS87.set_1 | refine IsS87.far ?_ NB0_189.out _) | exact HI0.out)); (case side2 => repeat (first | (with_reducible first | exact HB.out | apply below_alloc | apply pw_below_drewN | apply below_drew1 | refine below_set ?_ (IsS87.ge HI0.out) | refine below_set ?_ GE189.out) | exact HB.out)); rintro e w85 ⟨rfl, hi, hb, hk⟩; refine ⟨_, rfl, ?_⟩; have n0_ := Aside0.mk (KeepBut.blk hk (g' := gb189) (o := .cells #[.int .i64 0, .int .i64 0, .string (⟨#[]⟩ : ByteArray), .slice none 0 0] 91 (0, 0)) (aW BK189.out) NB189_0.out (by simp)); have n1_ := Aside0.mk (KeepBut.trans (aH1 GW189.out) hk (.inl rfl)); have n2_ := Aside0.mk (hb); have n3_ := Aside0.mk (hi); clear BK189; clear HK; clear HB; clear HI0; have BK189 := n0_; have HK := n1_; have HB := n2_; have HI0 := n3_; clear n0_ n1_ n2_ n3_; (try clear hb); (try clear hb2); (try clear hk); (try clear hi)) | ((with_reducible refine gate_callee (f := 78) rfl ?_); refine goesL_ (some 67) rfl rfl Try.func78 aK rfl #[.pointer (some ⟨g, 0, none⟩), .int .i64 (wrap64 (a1 - 1))] rfl aL ?_; (with_reducible refine (ih kj50 (by have := HJ32.out; have := HJ50.out; omega) g s0_0 t229 (wrap64 (a1 - 1)) t256 t257 t258 t259 t262 w0 _ ?side1 ?side2 A81.out).mono ?_); (case side1 => repeat (first | (with_reducible first | exact HI0.out | apply IsS87.alloc | apply IsS87.drewN | apply IsS87.drew | apply IsS87.set_1 | refine IsS87.far ?_ NB0_189.out _) | exact HI0.out)); (case side2 => repeat (first | (with_reducible first | exact HB.out | apply below_alloc | apply pw_below_drewN | apply below_drew1 | refine below_set ?_ (IsS87.ge HI0.out) | refine below_set ?_ GE189.out) | exact HB.out)); rintro e w86 ⟨v260, rfl, ho0, hi, hb, hk⟩; refine ⟨_, rfl, ?_⟩; have n0_ := Aside0.mk (KeepBut.blk hk (g' := gb189) (o := .cells #[.int .i64 0, .int .i64 0, .string (⟨#[]⟩ : ByteArray), .slice none 0 0] 91 (0, 0)) (aW BK189.out) NB189_0.out (by simp)); have n1_ := Aside0.mk (Kd.N_lower (Kd.N_mono (ok' := fun k_ => (w.heap.size ≤ k_) ∧ k_ ≠ gb189 ∧ k_ ≠ g) ho0 (fun k_ hk_ => ⟨(Nat.le_trans (keep_size (w := w) (g := g) (row := none) (aH1 GW189.out)) hk_), (Kd.freshB (g := gb189) (o := .cells #[.int .i64 0, .int .i64 0, .string (⟨#[]⟩ : ByteArray), .slice none 0 0] 91 (0, 0)) (aW BK189.out) k_ hk_), (IsS87.fresh (by repeat (first | (with_reducible first | exact HI0.out | apply IsS87.alloc | apply IsS87.drewN | apply IsS87.drew | apply IsS87.set_1 | refine IsS87.far ?_ NB0_189.out _) | exact HI0.out)) k_ hk_)⟩)) (keep_size (w := w) (g := g) (row := none) (aH1 GW189.out))); have n2_ := Aside0.mk (KeepBut.trans (aH1 GW189.out) hk (.inl rfl)); have n3_ := Aside0.mk (hb); have n4_ := Aside0.mk (hi); clear BK189; clear HK; clear HB; clear HI0; have BK189 := n0_; have HO261 := n1_; have HK := n2_; have HB := n3_; have HI0 := n4_; clear n0_ n1_ n2_ n3_ n4_; (try clear hb); (try clear hb2); (try clear hk); (try clear hi); (try clear ho0)) | ((with_reducible refine gate_callee (f := 78) rfl ?_); refine goesL_ (some 70) rfl rfl Try.func78 aK rfl #[.pointer (some ⟨g, 0, none⟩), .int .i64 0] rfl aL ?_; (with_reducible refine (ih kj50 (by have := HJ32.out; have := HJ50.out; omega) g s0_0 t262 0 t263 t264 t265 t266 t269 w0 _ ?side1 ?side2 A82.out).mono ?_); (case side1 => repeat (first | (with_reducible first | exact HI0.out | apply IsS87.alloc | apply IsS87.drewN | apply IsS87.drew | apply IsS87.set_1 | refine IsS87.far ?_ NB0_189.out _) | exact HI0.out)); (case side2 => repeat (first | (with_reducible first | exact HB.out | apply below_alloc | apply pw_below_drewN | apply below_drew1 | refine below_set ?_ (IsS87.ge HI0.out) | refine below_set ?_ GE189.out) | exact HB.out)); rintro e w87 ⟨v267, rfl, ho0, hi, hb, hk⟩; refine ⟨_, rfl, ?_⟩; have n0_ := Aside0.mk (KeepBut.blk hk (g' := gb189) (o := .cells #[.int .i64 0, .int .i64 0, .string (⟨#[]⟩ : ByteArray), .slice none 0 0] 91 (0, 0)) (aW BK189.out) NB189_0.out (by simp)); have n1_ := Aside0.mk (Kd.N_mono (Kd.N_told (Kd.N_oldK (Kd.N_mono (ok := fun k_ => (((w.heap.size ≤ k_)) ∧ (k_ ≠ gb189 ∧ k_ ≠ g))) (aN HO261.out) (fun k_ hk_ => (⟨hk_, hk_.2.2⟩ : _ ∧ k_ ≠ g))) hk) (Kd.N_base ho0)) (fun _ h_ => h_.1)); have n2_ := Aside0.mk (Kd.N_lower (Kd.N_mono (ok' := fun k_ => (w.heap.size ≤ k_) ∧ some k_ ≠ (v260 : Value).ownBlock ∧ k_ ≠ gb189 ∧ k_ ≠ g) ho0 (fun k_ hk_ => ⟨(Nat.le_trans (keep_size (w := w) (g := g) (row := none) (aH1 GW189.out)) hk_), (Kd.fresh' (Kd.N_lt (aN HO261.out)) k_ hk_), (Kd.freshB (g := gb189) (o := .cells #[.int .i64 0, .int .i64 0, .string (⟨#[]⟩ : ByteArray), .slice none 0 0] 91 (0, 0)) (aW BK189.out) k_ hk_), (IsS87.fresh (by repeat (first | (with_reducible first | exact HI0.out | apply IsS87.alloc | apply IsS87.drewN | apply IsS87.drew | apply IsS87.set_1 | refine IsS87.far ?_ NB0_189.out _) | exact HI0.out)) k_ hk_)⟩)) (keep_size (w := w) (g := g) (row := none) (aH1 GW189.out))); have n3_ := Aside0.mk (KeepBut.trans (aH1 GW189.out) hk (.inl rfl)); have n4_ := Aside0.mk (hb); have n5_ := Aside0.mk (hi); clear BK189; clear HO261; clear HK; clear HB; clear HI0; have BK189 := n0_; have HO261 := n1_; have HO268 := n2_; have HK := n3_; have HB := n4_; have HI0 := n5_; clear n0_ n1_ n2_ n3_ n4_ n5_; (try clear hb); (try clear hb2); (try clear hk); (try clear hi); (try clear ho0); obtain ⟨Ao88, co88, eo88⟩ := Kd.N_slice HO268.out; subst eo88) | ((with_reducible refine gate_callee (f := 93) rfl ?_); refine goesL_ (some 71) rfl rfl Try.func93 aK rfl #[.agg #[.int .i64 3, .int .i64 0, .string (⟨#[]⟩ : ByteArray), .slice none 0 0], .agg #[.int .i64 t263, .int .i64 t264, .string t265, .slice Ao88 t266.length co88]] rfl aL ?_; (refine (spec_l1Cat.calls 3 0 (⟨#[]⟩ : ByteArray) (fun k_ => False) _ _ ([] : List (S91)) t263 t264 t265 (fun k_ => ((w.heap.size ≤ k_) ∧ (some k_ ≠ (v260 : Value).ownBlock ∧ (k_ ≠ gb189 ∧ k_ ≠ g)))) _ _ t266 t270 t271 t272 t273 _ ?side1 ?side2 A83.out).mono ?_); (case side1 => exact Kd.V_nil _ _ _ _ _); (case side2 => exact Kd.N_V (HO268.out)); rintro e w89 ⟨v274, rfl, ho0, hb⟩; refine ⟨_, rfl, ?_⟩; have n0_ := Aside0.mk (Kd.N_elder' (aN HO261.out) (Kd.N_base ho0) hb); have n1_ := Aside0.mk (Kd.N_elder' (aN HO268.out) (Kd.N_base ho0) hb); have n2_ := Aside0.mk (Kd.N_lower (Kd.N_mono (ok' := fun k_ => (w.heap.size ≤ k_) ∧ some k_ ≠ (v260 : Value).ownBlock ∧ k_ ≠ gb189 ∧ k_ ≠ g) ho0 (fun k_ hk_ => ⟨Or.elim hk_ (fun hs_ => Or.elim hs_ (fun hs_ => (hs_).elim) (fun hs_ => hs_.1)) (fun hn_ => (Nat.le_trans (keep_size (w := w) (g := g) (row := none) (aH1 GW189.out)) hn_)), Or.elim hk_ (fun hs_ => Or.elim hs_ (fun hs_ => (hs_).elim) (fun hs_ => hs_.2.1)) (fun hn_ => (Kd.fresh' (Kd.N_lt (aN HO261.out)) k_ hn_)), Or.elim hk_ (fun hs_ => Or.elim hs_ (fun hs_ => (hs_).elim) (fun hs_ => hs_.2.2.1)) (fun hn_ => (Kd.freshB (g := gb189) (o := .cells #[.int .i64 0, .int .i64 0, .string (⟨#[]⟩ : ByteArray), .slice none 0 0] 91 (0, 0)) (aW BK189.out) k_ hn_)), Or.elim hk_ (fun hs_ => Or.elim hs_ (fun hs_ => (hs_).elim) (fun hs_ => hs_.2.2.2)) (fun hn_ => (IsS87.fresh (by repeat (first | (with_reducible first | exact HI0.out | apply IsS87.alloc | apply IsS87.drewN | apply IsS87.drew | apply IsS87.set_1 | refine IsS87.far ?_ NB0_189.out _) | exact HI0.out)) k_ hn_))⟩)) (keep_size (w := w) (g := g) (row := none) (aH1 GW189.out))); have n3_ := Aside0.mk (blk_below (g := gb189) (o := .cells #[.int .i64 0, .int .i64 0, .string (⟨#[]⟩ : ByteArray), .slice none 0 0] 91 (0, 0)) (aW BK189.out) hb); have n4_ := Aside0.mk (IsS87.below (by repeat (first | (with_reducible first | exact HI0.out | apply IsS87.alloc | apply IsS87.drewN | apply IsS87.drew | apply IsS87.set_1 | refine IsS87.far ?_ NB0_189.out _) | exact HI0.out)) hb); have n5_ := Aside0.mk (KeepBut.trans (aH1 GW189.out) (KeepBut.of_below hb g none) (.inl rfl)); have n6_ := Aside0.mk (below_step (aB2 (IsS87.ge HI0.out) GE189.out) hb); clear HO261; clear HO268; clear BK189; clear HI0; clear HK; clear HB; have HO261 := n0_; have HO268 := n1_; have HO275 := n2_; have BK189 := n3_; have HI0 := n4_; have HK := n5_; have HB := n6_; clear n0_ n1_ n2_ n3_ n4_ n5_ n6_; (try clear hb); (try clear hb2); (try clear hk); (try clear hi); (try clear ho0); obtain ⟨Ao90, co90, eo90⟩ := Kd.N_slice HO261.out; subst eo90; obtain ⟨Ao91, co91, eo91⟩ := Kd.N_slice HO275.out; subst eo91) | ((with_reducible refine gate_callee (f := 93) rfl ?_); refine goesL_ (some 72) rfl rfl Try.func93 aK rfl #[.agg #[.int .i64 t256, .int .i64 t257, .string t258, .slice Ao90 t259.length co90], .agg #[.int .i64 t270, .int .i64 t271, .string t272, .slice Ao91 t273.length co91]] rfl aL ?_; (with_reducible refine (spec_l1Cat.calls t256 t257 t258 (fun k_ => ((((w.heap.size ≤ k_) ∧ (k_ ≠ gb189 ∧ k_ ≠ g)) ∧ some k_ ≠ (.slice Ao88 t266.length co88 : Value).ownBlock) ∧ some k_ ≠ (.slice Ao91 t273.length co91 : Value).ownBlock)) _ _ t259 t270 t271 t272 (fun k_ => ((w.heap.size ≤ k_) ∧ (some k_ ≠ (.slice Ao90 t259.length co90 : Value).ownBlock ∧ (k_ ≠ gb189 ∧ k_ ≠ g)))) _ _ t273 t276 t277 t278 t279 _ ?side1 ?side2 A84.out).mono ?_); (case side1 => exact Kd.N_V (HO261.out)); (case side2 => exact Kd.N_V (HO275.out)); rintro e w92 ⟨v280, rfl, ho0, hb⟩; refine ⟨_, rfl, ?_⟩; have n0_ := Aside0.mk (Kd.N_elder' (aN HO261.out) (Kd.N_base ho0) hb); have n1_ := Aside0.mk (Kd.N_elder' (aN HO268.out) (Kd.N_base ho0) hb); have n2_ := Aside0.mk (Kd.N_elder' (aN HO275.out) (Kd.N_base ho0) hb); have n3_ := Aside0.mk (Kd.N_lower (Kd.N_mono (ok' := fun k_ => (w.heap.size ≤ k_) ∧ k_ ≠ gb189 ∧ k_ ≠ g) ho0 (fun k_ hk_ => ⟨Or.elim hk_ (fun hs_ => Or.elim hs_ (fun hs_ => hs_.1.1.1) (fun hs_ => hs_.1)) (fun hn_ => (Nat.le_trans (keep_size (w := w) (g := g) (row := none) (aH1 GW189.out)) hn_)), Or.elim hk_ (fun hs_ => Or.elim hs_ (fun hs_ => hs_.1.1.2.1) (fun hs_ => hs_.2.2.1)) (fun hn_ => (Kd.freshB (g := gb189) (o := .cells #[.int .i64 0, .int .i64 0, .string (⟨#[]⟩ : ByteArray), .slice none 0 0] 91 (0, 0)) (aW BK189.out) k_ hn_)), Or.elim hk_ (fun hs_ => Or.elim hs_ (fun hs_ => hs_.1.1.2.2) (fun hs_ => hs_.2.2.2)) (fun hn_ => (IsS87.fresh (by repeat (first | (with_reducible first | exact HI0.out | apply IsS87.alloc | apply IsS87.drewN | apply IsS87.drew | apply IsS87.set_1 | refine IsS87.far ?_ NB0_189.out _) | exact HI0.out)) k_ hn_))⟩)) (keep_size (w := w) (g := g) (row := none) (aH1 GW189.out))); have n4_ := Aside0.mk (blk_below (g := gb189) (o := .cells #[.int .i64 0, .int .i64 0, .string (⟨#[]⟩ : ByteArray), .slice none 0 0] 91 (0, 0)) (aW BK189.out) hb); have n5_ := Aside0.mk (IsS87.below (by repeat (first | (with_reducible first | exact HI0.out | apply IsS87.alloc | apply IsS87.drewN | apply IsS87.drew | apply IsS87.set_1 | refine IsS87.far ?_ NB0_189.out _) | exact HI0.out)) hb); have n6_ := Aside0.mk (KeepBut.trans (aH1 GW189.out) (KeepBut.of_below hb g none) (.inl rfl)); have n7_ := Aside0.mk (below_step (aB2 (IsS87.ge HI0.out) GE189.out) hb); clear HO261; clear HO268; clear HO275; clear BK189; clear HI0; clear HK; clear HB; have HO261 := n0_; have HO268 := n1_; have HO275 := n2_; have HO281 := n3_; have BK189 := n4_; have HI0 := n5_; have HK := n6_; have HB := n7_; clear n0_ n1_ n2_ n3_ n4_ n5_ n6_ n7_; (try clear hb); (try clear hb2); (try clear hk); (try clear hi); (try clear ho0); have hnb93 := NB189_0.out; have hnc93 := NB0_189.out; have hcz94_0 : w92.cell? ⟨gb189, 0, none⟩ = some (.int .i64 0) := (blk_cell BK189.out 0).trans rfl; have hcz94_1 : w92.cell? ⟨gb189, 1, none⟩ = some (.int .i64 0) := (blk_cell BK189.out 1).trans rfl; have hcz94_2 : w92.cell? ⟨gb189, 2, none⟩ = some (.string (⟨#[]⟩ : ByteArray)) := (blk_cell BK189.out 2).trans rfl; have hcz94_3 : w92.cell? ⟨gb189, 3, none⟩ = some (.slice none 0 0) := (blk_cell BK189.out 3).trans rfl; have hfz94_0 := blk_frozen BK189.out 0; have hfz94_1 := blk_frozen BK189.out 1; have hfz94_2 := blk_frozen BK189.out 2; have hfz94_3 := blk_frozen BK189.out 3; obtain ⟨Ao95, co95, eo95⟩ := Kd.N_slice HO281.out; subst eo95))
           refine bodyPost_ret (results_cell_row rfl _ _ gb189 91 #[.int .i64 t276, .int .i64 t277, .string t278, .slice Ao95 t279.length co95] (0, 0) _ rfl (by refine aW ?_; refine blk_put (cs := #[.int .i64 t276, .int .i64 t277, .string t278, .slice none 0 0]) ?_ 3 _ rfl; refine aW ?_; refine blk_put (cs := #[.int .i64 t276, .int .i64 t277, .string (⟨#[]⟩ : ByteArray), .slice none 0 0]) ?_ 2 _ rfl; refine aW ?_; refine blk_put (cs := #[.int .i64 t276, .int .i64 0, .string (⟨#[]⟩ : ByteArray), .slice none 0 0]) ?_ 1 _ rfl; refine aW ?_; refine blk_put (cs := #[.int .i64 0, .int .i64 0, .string (⟨#[]⟩ : ByteArray), .slice none 0 0]) ?_ 0 _ rfl; refine aW ?_; exact BK189.out) Try.underlying91 rfl aK) rfl ?_
           exact ⟨_, by first | rfl | (simp [errW_none, errW_some] <;> rfl) | (simp [*, errW_none, errW_some] <;> rfl), by (with_reducible repeat (first | apply Kd.N_alloc | apply Kd.N_drewN | apply Kd.N_drew)); exact Kd.N_mono (Kd.N_far (p := ⟨gb189, 3, none⟩) (Kd.N_far (p := ⟨gb189, 2, none⟩) (Kd.N_far (p := ⟨gb189, 1, none⟩) (Kd.N_far (p := ⟨gb189, 0, none⟩) (Kd.N_mono HO281.out (fun k_ hk => (⟨hk, hk.2.1⟩ : _ ∧ k_ ≠ gb189))) (fun _ hk => hk.2) (.int .i64 t276)) (fun _ hk => hk.2) (.int .i64 t277)) (fun _ hk => hk.2) (.string t278)) (fun _ hk => hk.2) (.slice Ao95 t279.length co95)) (fun _ hk => hk.1.1), by repeat (first | (with_reducible first | exact HI0.out | apply IsS87.alloc | apply IsS87.drewN | apply IsS87.drew | apply IsS87.set_1 | refine IsS87.far ?_ NB0_189.out _) | exact HI0.out), by repeat (first | (with_reducible first | exact HB.out | apply below_alloc | apply pw_below_drewN | apply below_drew1 | refine below_set ?_ (IsS87.ge HI0.out) | refine below_set ?_ GE189.out) | exact HB.out), by repeat (first | (with_reducible first | exact HK.out | apply KeepBut.set_ | apply keep_drewN | apply keep_drew | apply keep_alloc | refine keep_far ?_ GW189.out _) | exact HK.out)⟩
         ·rw [if_neg c63] at H
          have c63b0 : (t194 == 6) = false := beq_eq_false_iff_ne.mpr c63
          have c63b1 : (t194 != 6) = true := bne_iff_ne.mpr c63
          replace H := Option.bind_eq_some_iff.mp H
          obtain ⟨⟨t282, t283, t284, t285, t288⟩, A960, H⟩ := H
          replace H : ((spec_l1Some.f kj50 s0_0 t288 (wrap64 (a1 - 1))).bind fun bt289 => ((spec_l1Cat.f t282 t283 t284 t285 bt289.1 bt289.2.1 bt289.2.2.1 bt289.2.2.2.1).bind fun bt296 => (some (bt296.1, bt296.2.1, bt296.2.2.1, bt296.2.2.2, bt289.2.2.2.2)))) = some (r1, r2, r3, r4, r5) := H
          have A96 := Aside0.mk A960
          clear A960
          replace H := Option.bind_eq_some_iff.mp H
          obtain ⟨⟨t289, t290, t291, t292, t295⟩, A970, H⟩ := H
          replace H : ((spec_l1Cat.f t282 t283 t284 t285 t289 t290 t291 t292).bind fun bt296 => (some (bt296.1, bt296.2.1, bt296.2.2.1, bt296.2.2.2, t295))) = some (r1, r2, r3, r4, r5) := H
          have A97 := Aside0.mk A970
          clear A970
          replace H := Option.bind_eq_some_iff.mp H
          obtain ⟨⟨t296, t297, t298, t299⟩, A980, H⟩ := H
          replace H : (some (t296, t297, t298, t299, t295)) = some (r1, r2, r3, r4, r5) := H
          have A98 := Aside0.mk A980
          clear A980
          simp only [Option.some.injEq, Prod.mk.injEq] at H
          obtain ⟨rfl, rfl, rfl, rfl, rfl⟩ := H
          go_wp2_with (first | ((with_reducible refine gate_callee (f := 78) rfl ?_); refine goesL_ (some 76) rfl rfl Try.func78 aK rfl #[.pointer (some ⟨g, 0, none⟩), .int .i64 (wrap64 (a1 - 1))] rfl aL ?_; (with_reducible refine (ih kj50 (by have := HJ32.out; have := HJ50.out; omega) g s0_0 t195 (wrap64 (a1 - 1)) t282 t283 t284 t285 t288 w0 _ ?side1 ?side2 A96.out).mono ?_); (case side1 => repeat (first | (with_reducible first | exact HI0.out | apply IsS87.alloc | apply IsS87.drewN | apply IsS87.drew | apply IsS87.set_1 | refine IsS87.far ?_ NB0_189.out _) | exact HI0.out)); (case side2 => repeat (first | (with_reducible first | exact HB.out | apply below_alloc | apply pw_below_drewN | apply below_drew1 | refine below_set ?_ (IsS87.ge HI0.out) | refine below_set ?_ GE189.out) | exact HB.out)); rintro e w99 ⟨v286, rfl, ho0, hi, hb, hk⟩; refine ⟨_, rfl, ?_⟩; have n0_ := Aside0.mk (KeepBut.blk hk (g' := gb189) (o := .cells #[.int .i64 0, .int .i64 0, .string (⟨#[]⟩ : ByteArray), .slice none 0 0] 91 (0, 0)) (aW BK189.out) NB189_0.out (by simp)); have n1_ := Aside0.mk (Kd.N_lower (Kd.N_mono (ok' := fun k_ => (w.heap.size ≤ k_) ∧ k_ ≠ gb189 ∧ k_ ≠ g) ho0 (fun k_ hk_ => ⟨(Nat.le_trans (keep_size (w := w) (g := g) (row := none) (aH1 GW189.out)) hk_), (Kd.freshB (g := gb189) (o := .cells #[.int .i64 0, .int .i64 0, .string (⟨#[]⟩ : ByteArray), .slice none 0 0] 91 (0, 0)) (aW BK189.out) k_ hk_), (IsS87.fresh (by repeat (first | (with_reducible first | exact HI0.out | apply IsS87.alloc | apply IsS87.drewN | apply IsS87.drew | apply IsS87.set_1 | refine IsS87.far ?_ NB0_189.out _) | exact HI0.out)) k_ hk_)⟩)) (keep_size (w := w) (g := g) (row := none) (aH1 GW189.out))); have n2_ := Aside0.mk (KeepBut.trans (aH1 GW189.out) hk (.inl rfl)); have n3_ := Aside0.mk (hb); have n4_ := Aside0.mk (hi); clear BK189; clear HK; clear HB; clear HI0; have BK189 := n0_; have HO287 := n1_; have HK := n2_; have HB := n3_; have HI0 := n4_; clear n0_ n1_ n2_ n3_ n4_; (try clear hb); (try clear hb2); (try clear hk); (try clear hi); (try clear ho0)) | ((with_reducible refine gate_callee (f := 78) rfl ?_); refine goesL_ (some 80) rfl rfl Try.func78 aK rfl #[.pointer (some ⟨g, 0, none⟩), .int .i64 (wrap64 (a1 - 1))] rfl aL ?_; (with_reducible refine (ih kj50 (by have := HJ32.out; have := HJ50.out; omega) g s0_0 t288 (wrap64 (a1 - 1)) t289 t290 t291 t292 t295 w0 _ ?side1 ?side2 A97.out).mono ?_); (case side1 => repeat (first | (with_reducible first | exact HI0.out | apply IsS87.alloc | apply IsS87.drewN | apply IsS87.drew | apply IsS87.set_1 | refine IsS87.far ?_ NB0_189.out _) | exact HI0.out)); (case side2 => repeat (first | (with_reducible first | exact HB.out | apply below_alloc | apply pw_below_drewN | apply below_drew1 | refine below_set ?_ (IsS87.ge HI0.out) | refine below_set ?_ GE189.out) | exact HB.out)); rintro e w100 ⟨v293, rfl, ho0, hi, hb, hk⟩; refine ⟨_, rfl, ?_⟩; have n0_ := Aside0.mk (KeepBut.blk hk (g' := gb189) (o := .cells #[.int .i64 0, .int .i64 0, .string (⟨#[]⟩ : ByteArray), .slice none 0 0] 91 (0, 0)) (aW BK189.out) NB189_0.out (by simp)); have n1_ := Aside0.mk (Kd.N_mono (Kd.N_told (Kd.N_oldK (Kd.N_mono (ok := fun k_ => (((w.heap.size ≤ k_)) ∧ (k_ ≠ gb189 ∧ k_ ≠ g))) (aN HO287.out) (fun k_ hk_ => (⟨hk_, hk_.2.2⟩ : _ ∧ k_ ≠ g))) hk) (Kd.N_base ho0)) (fun _ h_ => h_.1)); have n2_ := Aside0.mk (Kd.N_lower (Kd.N_mono (ok' := fun k_ => (w.heap.size ≤ k_) ∧ some k_ ≠ (v286 : Value).ownBlock ∧ k_ ≠ gb189 ∧ k_ ≠ g) ho0 (fun k_ hk_ => ⟨(Nat.le_trans (keep_size (w := w) (g := g) (row := none) (aH1 GW189.out)) hk_), (Kd.fresh' (Kd.N_lt (aN HO287.out)) k_ hk_), (Kd.freshB (g := gb189) (o := .cells #[.int .i64 0, .int .i64 0, .string (⟨#[]⟩ : ByteArray), .slice none 0 0] 91 (0, 0)) (aW BK189.out) k_ hk_), (IsS87.fresh (by repeat (first | (with_reducible first | exact HI0.out | apply IsS87.alloc | apply IsS87.drewN | apply IsS87.drew | apply IsS87.set_1 | refine IsS87.far ?_ NB0_189.out _) | exact HI0.out)) k_ hk_)⟩)) (keep_size (w := w) (g := g) (row := none) (aH1 GW189.out))); have n3_ := Aside0.mk (KeepBut.trans (aH1 GW189.out) hk (.inl rfl)); have n4_ := Aside0.mk (hb); have n5_ := Aside0.mk (hi); clear BK189; clear HO287; clear HK; clear HB; clear HI0; have BK189 := n0_; have HO287 := n1_; have HO294 := n2_; have HK := n3_; have HB := n4_; have HI0 := n5_; clear n0_ n1_ n2_ n3_ n4_ n5_; (try clear hb); (try clear hb2); (try clear hk); (try clear hi); (try clear ho0); obtain ⟨Ao101, co101, eo101⟩ := Kd.N_slice HO287.out; subst eo101; obtain ⟨Ao102, co102, eo102⟩ := Kd.N_slice HO294.out; subst eo102) | ((with_reducible refine gate_callee (f := 93) rfl ?_); refine goesL_ (some 81) rfl rfl Try.func93 aK rfl #[.agg #[.int .i64 t282, .int .i64 t283, .string t284, .slice Ao101 t285.length co101], .agg #[.int .i64 t289, .int .i64 t290, .string t291, .slice Ao102 t292.length co102]] rfl aL ?_; (with_reducible refine (spec_l1Cat.calls t282 t283 t284 (fun k_ => (((w.heap.size ≤ k_) ∧ (k_ ≠ gb189 ∧ k_ ≠ g)) ∧ some k_ ≠ (.slice Ao102 t292.length co102 : Value).ownBlock)) _ _ t285 t289 t290 t291 (fun k_ => ((w.heap.size ≤ k_) ∧ (some k_ ≠ (.slice Ao101 t285.length co101 : Value).ownBlock ∧ (k_ ≠ gb189 ∧ k_ ≠ g)))) _ _ t292 t296 t297 t298 t299 _ ?side1 ?side2 A98.out).mono ?_); (case side1 => exact Kd.N_V (HO287.out)); (case side2 => exact Kd.N_V (HO294.out)); rintro e w103 ⟨v300, rfl, ho0, hb⟩; refine ⟨_, rfl, ?_⟩; have n0_ := Aside0.mk (Kd.N_elder' (aN HO287.out) (Kd.N_base ho0) hb); have n1_ := Aside0.mk (Kd.N_elder' (aN HO294.out) (Kd.N_base ho0) hb); have n2_ := Aside0.mk (Kd.N_lower (Kd.N_mono (ok' := fun k_ => (w.heap.size ≤ k_) ∧ k_ ≠ gb189 ∧ k_ ≠ g) ho0 (fun k_ hk_ => ⟨Or.elim hk_ (fun hs_ => Or.elim hs_ (fun hs_ => hs_.1.1) (fun hs_ => hs_.1)) (fun hn_ => (Nat.le_trans (keep_size (w := w) (g := g) (row := none) (aH1 GW189.out)) hn_)), Or.elim hk_ (fun hs_ => Or.elim hs_ (fun hs_ => hs_.1.2.1) (fun hs_ => hs_.2.2.1)) (fun hn_ => (Kd.freshB (g := gb189) (o := .cells #[.int .i64 0, .int .i64 0, .string (⟨#[]⟩ : ByteArray), .slice none 0 0] 91 (0, 0)) (aW BK189.out) k_ hn_)), Or.elim hk_ (fun hs_ => Or.elim hs_ (fun hs_ => hs_.1.2.2) (fun hs_ => hs_.2.2.2)) (fun hn_ => (IsS87.fresh (by repeat (first | (with_reducible first | exact HI0.out | apply IsS87.alloc | apply IsS87.drewN | apply IsS87.drew | apply IsS87.set_1 | refine IsS87.far ?_ NB0_189.out _) | exact HI0.out)) k_ hn_))⟩)) (keep_size (w := w) (g := g) (row := none) (aH1 GW189.out))); have n3_ := Aside0.mk (blk_below (g := gb189) (o := .cells #[.int .i64 0, .int .i64 0, .string (⟨#[]⟩ : ByteArray), .slice none 0 0] 91 (0, 0)) (aW BK189.out) hb); have n4_ := Aside0.mk (IsS87.below (by repeat (first | (with_reducible first | exact HI0.out | apply IsS87.alloc | apply IsS87.drewN | apply IsS87.drew | apply IsS87.set_1 | refine IsS87.far ?_ NB0_189.out _) | exact HI0.out)) hb); have n5_ := Aside0.mk (KeepBut.trans (aH1 GW189.out) (KeepBut.of_below hb g none) (.inl rfl)); have n6_ := Aside0.mk (below_step (aB2 (IsS87.ge HI0.out) GE189.out) hb); clear HO287; clear HO294; clear BK189; clear HI0; clear HK; clear HB; have HO287 := n0_; have HO294 := n1_; have HO301 := n2_; have BK189 := n3_; have HI0 := n4_; have HK := n5_; have HB := n6_; clear n0_ n1_ n2_ n3_ n4_ n5_ n6_; (try clear hb); (try clear hb2); (try clear hk); (try clear hi); (try clear ho0); have hnb104 := NB189_0.out; have hnc104 := NB0_189.out; have hcz105_0 : w103.cell? ⟨gb189, 0, none⟩ = some (.int .i64 0) := (blk_cell BK189.out 0).trans rfl; have hcz105_1 : w103.cell? ⟨gb189, 1, none⟩ = some (.int .i64 0) := (blk_cell BK189.out 1).trans rfl; have hcz105_2 : w103.cell? ⟨gb189, 2, none⟩ = some (.string (⟨#[]⟩ : ByteArray)) := (blk_cell BK189.out 2).trans rfl; have hcz105_3 : w103.cell? ⟨gb189, 3, none⟩ = some (.slice none 0 0) := (blk_cell BK189.out 3).trans rfl; have hfz105_0 := blk_frozen BK189.out 0; have hfz105_1 := blk_frozen BK189.out 1; have hfz105_2 := blk_frozen BK189.out 2; have hfz105_3 := blk_frozen BK189.out 3; obtain ⟨Ao106, co106, eo106⟩ := Kd.N_slice HO301.out; subst eo106))
          refine bodyPost_ret (results_cell_row rfl _ _ gb189 91 #[.int .i64 t296, .int .i64 t297, .string t298, .slice Ao106 t299.length co106] (0, 0) _ rfl (by refine aW ?_; refine blk_put (cs := #[.int .i64 t296, .int .i64 t297, .string t298, .slice none 0 0]) ?_ 3 _ rfl; refine aW ?_; refine blk_put (cs := #[.int .i64 t296, .int .i64 t297, .string (⟨#[]⟩ : ByteArray), .slice none 0 0]) ?_ 2 _ rfl; refine aW ?_; refine blk_put (cs := #[.int .i64 t296, .int .i64 0, .string (⟨#[]⟩ : ByteArray), .slice none 0 0]) ?_ 1 _ rfl; refine aW ?_; refine blk_put (cs := #[.int .i64 0, .int .i64 0, .string (⟨#[]⟩ : ByteArray), .slice none 0 0]) ?_ 0 _ rfl; refine aW ?_; exact BK189.out) Try.underlying91 rfl aK) rfl ?_
          exact ⟨_, by first | rfl | (simp [errW_none, errW_some] <;> rfl) | (simp [*, errW_none, errW_some] <;> rfl), by (with_reducible repeat (first | apply Kd.N_alloc | apply Kd.N_drewN | apply Kd.N_drew)); exact Kd.N_mono (Kd.N_far (p := ⟨gb189, 3, none⟩) (Kd.N_far (p := ⟨gb189, 2, none⟩) (Kd.N_far (p := ⟨gb189, 1, none⟩) (Kd.N_far (p := ⟨gb189, 0, none⟩) (Kd.N_mono HO301.out (fun k_ hk => (⟨hk, hk.2.1⟩ : _ ∧ k_ ≠ gb189))) (fun _ hk => hk.2) (.int .i64 t296)) (fun _ hk => hk.2) (.int .i64 t297)) (fun _ hk => hk.2) (.string t298)) (fun _ hk => hk.2) (.slice Ao106 t299.length co106)) (fun _ hk => hk.1.1), by repeat (first | (with_reducible first | exact HI0.out | apply IsS87.alloc | apply IsS87.drewN | apply IsS87.drew | apply IsS87.set_1 | refine IsS87.far ?_ NB0_189.out _) | exact HI0.out), by repeat (first | (with_reducible first | exact HB.out | apply below_alloc | apply pw_below_drewN | apply below_drew1 | refine below_set ?_ (IsS87.ge HI0.out) | refine below_set ?_ GE189.out) | exact HB.out), by repeat (first | (with_reducible first | exact HK.out | apply KeepBut.set_ | apply keep_drewN | apply keep_drew | apply keep_alloc | refine keep_far ?_ GW189.out _) | exact HK.out)⟩

/-! ### spec_l1Count: function 101 -/
mutual
def spec_l1Count.l0 : Nat → Int → Int → Int → Int → ByteArray → List (S91) → Option (Int)
 | 0, _, _, _, _, _, _ => none
 | k + 1, x3, x4, x303000, x303001, x303002, x303003 => if x4 < (x303003.length : Int) then (if 0 ≤ x4 then ((spec_l1Count.f k ((rd_T91 x303003 x4).f0) ((rd_T91 x303003 x4).f1) ((rd_T91 x303003 x4).f2) ((rd_T91 x303003 x4).f3)).bind fun t304 => (spec_l1Count.l0 k (wrap64 (x3 + t304)) (wrap64 (x4 + 1)) x303000 x303001 x303002 x303003)) else (none)) else (some x3)
def spec_l1Count.f : Nat → Int → Int → ByteArray → List (S91) → Option (Int)
 | 0, _, _, _, _ => none
 | k + 1, a0_0, a0_1, a0_2, l0_3 => spec_l1Count.l0 k 1 0 a0_0 a0_1 a0_2 l0_3
end
set_option maxHeartbeats 8000000 in
set_option maxRecDepth 100000 in
theorem spec_l1Count.calls (k : Nat) : ∀ (a0_0 : Int) (a0_1 : Int) (a0_2 : ByteArray) (A0_3 : Option Addr) (c0_3 : Nat) (l0_3 : List (S91)) (r : Int) (w : World) (hr0_3 : Kd.C k91 w A0_3 l0_3.length l0_3) (hc0_3 : l0_3.length ≤ c0_3) (h : spec_l1Count.f k a0_0 a0_1 a0_2 l0_3 = some r),
  Calls Try.prog 101 #[.agg #[.int .i64 a0_0, .int .i64 a0_1, .string a0_2, .slice A0_3 l0_3.length c0_3]] w fun e w' => e = .returned (.int .i64 r) ∧ Below w.heap.size w w' := by
 induction k using Nat.strongRecOn with
 | _ k ih =>
 intro a0_0 a0_1 a0_2 A0_3 c0_3 l0_3 r w hr0_3 hc0_3 h
 cases k with
 | zero => exact absurd h (by simp [spec_l1Count.f])
 | succ k =>
 simp only [spec_l1Count.f] at h
 have hu91 := Try.underlying91
 have HR0_3 := Aside0.mk hr0_3
 have HC0_3 := Aside0.mk hc0_3
 clear hr0_3 hc0_3
 have HB := Aside0.mk (Below.refl w.heap.size w)
 have H : (spec_l1Count.l0 k 1 0 a0_0 a0_1 a0_2 l0_3) = some r := h
 clear h
 have H' := Aside0.mk H
 clear H
 go_enter Try.func101, Try.ntmps101
 go_wp2_with (first | ((with_reducible refine gate_dst (N := 1) rfl ?_); refine box_event ?hg (N := 1) ?hd (cs := #[.int .i64 a0_0, .int .i64 a0_1, .string a0_2, .slice A0_3 l0_3.length c0_3]) (t := 91) ?hr ?_; (case hd => rfl); (case hg => rfl); (case hr => first | (go_simp; done) | (go_simp; rfl)); intro gb302 hg w2 hbox hb; have n0_ := Aside0.mk (below_step aB hb); have n1_ := Aside0.mk (hbox); have n2_ := Aside0.mk ((by rw [hg]; exact (below_size aB) : w.heap.size ≤ gb302)); have n3_ := Aside0.mk ((by rw [hg]; exact (below_size aB) : w.heap.size ≤ gb302)); clear HB; have HB := n0_; have BK302 := n1_; have GW302 := n2_; have GE302 := n3_; clear n0_ n1_ n2_ n3_; clear hb hbox hg))
 go_loopg [3, 4] k (fun kq v3 v4 w' => ∃ (x3_1 : Int) (x4_1 : Int), v3 = .int .i64 x3_1 ∧ v4 = .int .i64 x4_1 ∧ Aside0 (spec_l1Count.l0 kq x3_1 x4_1 a0_0 a0_1 a0_2 l0_3 = some r) ∧ Aside0 (kq ≤ k) ∧ Aside0 (w'.heap[gb302]? = some (.cells #[.int .i64 a0_0, .int .i64 a0_1, .string a0_2, (.slice A0_3 l0_3.length c0_3)] 91 (0, 0))) ∧ Aside0 (Below w.heap.size w w'))
 case atStart => exact ⟨(1), (0), aR, aR, H', ⟨Nat.le_refl _⟩, ⟨by refine aW ?_; exact BK302.out⟩, ⟨by repeat (first | (with_reducible first | exact HB.out | apply below_alloc | apply pw_below_drewN | apply below_drew1 | refine below_set ?_ GE302.out) | exact HB.out)⟩⟩
 case round =>
  clear H'
  try clear c1
  try clear p2
  obtain ⟨x3_1, x4_1, rfl, rfl, HA, HK1, BK302, HB⟩ := hrel
  cases gk with
  | zero => exact absurd HA.out (by simp [spec_l1Count.l0])
  | succ k1 =>
   have H := HA.out
   clear HA
   simp only [spec_l1Count.l0] at H
   by_cases c3 : x4_1 < (l0_3.length : Int)
   ·rw [if_pos c3] at H
    have c3b0 : decide (x4_1 < (l0_3.length : Int)) = true := decide_eq_true c3
    clear c3
    by_cases c4 : 0 ≤ x4_1
    ·rw [if_pos c4] at H
     have c4b0 : decide (0 ≤ x4_1) = true := decide_eq_true c4
     clear c4
     replace H := Option.bind_eq_some_iff.mp H
     obtain ⟨t304, A50, H⟩ := H
     replace H : (spec_l1Count.l0 k1 (wrap64 (x3_1 + t304)) (wrap64 (x4_1 + 1)) a0_0 a0_1 a0_2 l0_3) = some r := H
     have A5 := Aside0.mk A50
     clear A50
     have H' := Aside0.mk H
     clear H
     have hcz6_0 : wr.cell? ⟨gb302, 0, none⟩ = some (.int .i64 a0_0) := (blk_cell BK302.out 0).trans rfl
     have hcz6_1 : wr.cell? ⟨gb302, 1, none⟩ = some (.int .i64 a0_1) := (blk_cell BK302.out 1).trans rfl
     have hcz6_2 : wr.cell? ⟨gb302, 2, none⟩ = some (.string a0_2) := (blk_cell BK302.out 2).trans rfl
     have hcz6_3 : wr.cell? ⟨gb302, 3, none⟩ = some (.slice A0_3 l0_3.length c0_3) := (blk_cell BK302.out 3).trans rfl
     have hfz6_0 := blk_frozen BK302.out 0
     have hfz6_1 := blk_frozen BK302.out 1
     have hfz6_2 := blk_frozen BK302.out 2
     have hfz6_3 := blk_frozen BK302.out 3
     have p303 : 0 ≤ (x4_1 : Int) := of_decide_eq_true aQ
     have q303 : x4_1 < (l0_3.length : Int) := of_decide_eq_true aQ
     obtain ⟨ad303, A303_3, c303_3, e303, hx303_0, hx303_1, hx303_2, hx303_3, hl303_3, hi303_3⟩ := at_T91 HR0_3.out x4_1 p303 q303
     cases e303
     replace hx303_0 := (HB.out.cell (World.block_lt_of_cell? w _ hx303_0)).trans hx303_0
     replace hx303_1 := (HB.out.cell (World.block_lt_of_cell? w _ hx303_1)).trans hx303_1
     replace hx303_2 := (HB.out.cell (World.block_lt_of_cell? w _ hx303_2)).trans hx303_2
     replace hx303_3 := (HB.out.cell (World.block_lt_of_cell? w _ hx303_3)).trans hx303_3
     have HR303_3 := Aside0.mk hi303_3
     have HC303_3 := Aside0.mk hl303_3
     clear hi303_3 hl303_3
     replace p303 := eq_true p303
     replace q303 := eq_true q303
     go_wp2_with (first | ((with_reducible refine gate_callee (f := 101) rfl ?_); refine goesL_ (some 18) rfl rfl Try.func101 aK rfl #[.agg #[.int .i64 ((rd_T91 l0_3 x4_1).f0), .int .i64 ((rd_T91 l0_3 x4_1).f1), .string ((rd_T91 l0_3 x4_1).f2), .slice A303_3 ((rd_T91 l0_3 x4_1).f3).length c303_3]] rfl aL ?_; (with_reducible refine (ih k1 (by have := HK1.out; omega) ((rd_T91 l0_3 x4_1).f0) ((rd_T91 l0_3 x4_1).f1) ((rd_T91 l0_3 x4_1).f2) _ _ ((rd_T91 l0_3 x4_1).f3) t304 _ ?side1 ?side2 A5.out).mono ?_); (case side1 => repeat (first | exact (Kd.C_below HR303_3.out HB.out) | (with_reducible refine Kd.C_alloc ?_ _) | (with_reducible refine Kd.C_drewN ?_ _) | (with_reducible refine Kd.C_drew ?_))); (case side2 => exact HC303_3.out); rintro e w7 ⟨rfl, hb⟩; refine ⟨_, rfl, ?_⟩; have n0_ := Aside0.mk (blk_below (g := gb302) (o := .cells #[.int .i64 a0_0, .int .i64 a0_1, .string a0_2, .slice (some ad303) l0_3.length c0_3] 91 (0, 0)) (aW BK302.out) hb); have n1_ := Aside0.mk (below_step (aB1 GE302.out) hb); clear BK302; clear HB; have BK302 := n0_; have HB := n1_; clear n0_ n1_; (try clear hb); (try clear hb2); (try clear hk); (try clear hi)))
     go_roundg k1
     case measure => have := HK1.out; omega
     case rel => exact ⟨(wrap64 (x3_1 + t304)), (wrap64 (x4_1 + 1)), aR, aR, H', ⟨by have := HK1.out; omega⟩, ⟨by refine aW ?_; exact BK302.out⟩, ⟨by repeat (first | (with_reducible first | exact HB.out | apply below_alloc | apply pw_below_drewN | apply below_drew1 | refine below_set ?_ GE302.out) | exact HB.out)⟩⟩
    ·rw [if_neg c4] at H
     exact absurd H (by simp)
   ·rw [if_neg c3] at H
    have c3b0 : decide (x4_1 < (l0_3.length : Int)) = false := decide_eq_false c3
    clear c3
    obtain rfl := Option.some.inj H
    have hcz8_0 : wr.cell? ⟨gb302, 0, none⟩ = some (.int .i64 a0_0) := (blk_cell BK302.out 0).trans rfl
    have hcz8_1 : wr.cell? ⟨gb302, 1, none⟩ = some (.int .i64 a0_1) := (blk_cell BK302.out 1).trans rfl
    have hcz8_2 : wr.cell? ⟨gb302, 2, none⟩ = some (.string a0_2) := (blk_cell BK302.out 2).trans rfl
    have hcz8_3 : wr.cell? ⟨gb302, 3, none⟩ = some (.slice A0_3 l0_3.length c0_3) := (blk_cell BK302.out 3).trans rfl
    have hfz8_0 := blk_frozen BK302.out 0
    have hfz8_1 := blk_frozen BK302.out 1
    have hfz8_2 := blk_frozen BK302.out 2
    have hfz8_3 := blk_frozen BK302.out 3
    go_wp2
    go_ret
    exact ⟨by first | rfl | (simp [errW_none, errW_some] <;> rfl) | (simp [*, errW_none, errW_some] <;> rfl), by repeat (first | (with_reducible first | exact HB.out | apply below_alloc | apply pw_below_drewN | apply below_drew1 | refine below_set ?_ GE302.out) | exact HB.out)⟩

end Go.Proofs.Ytkcpimhohadjkaa.POp
