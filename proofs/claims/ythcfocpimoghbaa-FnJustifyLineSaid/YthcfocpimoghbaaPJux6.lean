-- Written by a program of this session (xprint). -- COMPACT
import Derived.Test.YthcfocpimoghbaaPJux0
import Derived.Test.YthcfocpimoghbaaPJux3
import Derived.Test.YthcfocpimoghbaaPJux5
namespace Go.Proofs.Ythcfocpimoghbaa.PJu
open Go.RowKit Go.Proofs.YthcfocpimoghbaaW.PrintWords Go.Proofs.YthcfocpimoghbaaW.PrintLast Go.Proofs.YthcfocpimoghbaaW.PrintMore
attribute [local go_sem] max2_int min2_int max_two min_two max_three min_three max_four min_four   -- for this text's walks alone
set_option linter.unusedVariables false
set_option linter.unusedSimpArgs false

/-! ### spec_l15Rd_num: function 64 -/
def spec_l15Rd_num.f (k : Nat) (s0_0 : List Int) (s0_1 : Int) (l1 : List Int) : Option (Int × Int) := (spec_l15Rd_pick.f k s0_0 s0_1 (l1.length : Int)).bind fun bt156 => (if 0 ≤ bt156.1 then (if bt156.1 < (l1.length : Int) then (some (rd l1 bt156.1, bt156.2)) else (none)) else (none))
theorem spec_l15Rd_num.mono : ∀ a0 a1 a2 k, LeO (spec_l15Rd_num.f k a0 a1 a2) (spec_l15Rd_num.f (k + 1) a0 a1 a2) := by
 intro a0 a1 a2 k
 unfold spec_l15Rd_num.f
 repeat' first
   | (with_reducible exact spec_l15Rd_pick.mono _ _ _ _)
   | (with_reducible exact LeO.refl _)
   | (with_reducible exact LeO.none _)
   | (with_reducible refine LeO.ite ?_ ?_)
   | (with_reducible refine LeO.bind ?_ (fun _ => ?_))
   | exact spec_l15Rd_pick.mono _ _ _ _
   | exact LeO.none _
   | refine LeO.ite ?_ ?_
   | refine LeO.bind ?_ (fun _ => ?_)
set_option maxHeartbeats 8000000 in
set_option maxRecDepth 100000 in
theorem spec_l15Rd_num.calls (k : Nat) (g : Nat) (s0_0 : List Int) (s0_1 : Int) (A1 : Option Addr) (c1 : Nat) (l1 : List Int) (r1 : Int) (r2 : Int) (w0 w : World) (hI : IsS101 w0 w g s0_0 s0_1) (hB : Below w0.heap.size w0 w) (hr1 : Kd.C (Kd.int .i64) w A1 l1.length l1) (hc1 : l1.length ≤ c1) (hf1 : ∀ ad, A1 = some ad → 0 < l1.length → ad.block ≠ g) (h : spec_l15Rd_num.f k s0_0 s0_1 l1 = some (r1, r2)) :
  Calls Try.prog 64 #[.pointer (some ⟨g, 0, none⟩), .slice A1 l1.length c1] w fun e w' => e = .returned (.int .i64 r1) ∧ IsS101 w0 w' g s0_0 r2 ∧ Below w0.heap.size w0 w' ∧ KeepBut w w' g none := by
 have HR1 := Aside0.mk hr1
 have HC1 := Aside0.mk hc1
 clear hr1 hc1
 have HI0 := Aside0.mk hI
 have HK := Aside0.mk (KeepBut.refl w g none)
 have HL := Aside0.mk hB.size
 clear hI
 have HW0 := Aside0.mk hB.size
 have HB := Aside0.mk hB
 clear hB
 have H : ((spec_l15Rd_pick.f k s0_0 s0_1 (l1.length : Int)).bind fun bt156 => (if 0 ≤ bt156.1 then (if bt156.1 < (l1.length : Int) then (some (rd l1 bt156.1, bt156.2)) else (none)) else (none))) = some (r1, r2) := h
 clear h
 replace H := Option.bind_eq_some_iff.mp H
 obtain ⟨⟨t156, t157⟩, A30, H⟩ := H
 replace H : (if 0 ≤ t156 then (if t156 < (l1.length : Int) then (some (rd l1 t156, t157)) else (none)) else (none)) = some (r1, r2) := H
 have A3 := Aside0.mk A30
 clear A30
 by_cases c4 : 0 ≤ t156
 ·rw [if_pos c4] at H
  have c4b0 : decide (0 ≤ t156) = true := decide_eq_true c4
  clear c4
  by_cases c5 : t156 < (l1.length : Int)
  ·rw [if_pos c5] at H
   have c5b0 : decide (t156 < (l1.length : Int)) = true := decide_eq_true c5
   clear c5
   simp only [Option.some.injEq, Prod.mk.injEq] at H
   obtain ⟨rfl, rfl⟩ := H
   go_enter Try.func64, Try.ntmps64
   go_wp2_with (first | ((with_reducible refine gate_callee (f := 81) rfl ?_); refine goesL_ (some 9) rfl rfl Try.func81 (by kernel_rfl) rfl #[.pointer (some ⟨g, 0, none⟩), .int .i64 (l1.length : Int)] rfl (by (try simp only [List.map_toArray, List.map_cons, List.map_nil]); first | done | rfl | (simp only [List.length_drop, List.length_take]; rfl)) ?_; (with_reducible refine (spec_l15Rd_pick.calls k g s0_0 s0_1 (l1.length : Int) t156 t157 w0 _ ?side1 ?side2 A3.out).mono ?_); (case side1 => repeat (first | (with_reducible first | exact HI0.out | apply IsS101.alloc | apply IsS101.drewN | apply IsS101.drew | apply IsS101.set_1) | exact HI0.out)); (case side2 => repeat (first | (with_reducible first | exact HB.out | apply below_alloc | apply pw_below_drewN | apply below_drew1 | refine below_set ?_ (IsS101.ge HI0.out)) | exact HB.out)); rintro e w6 ⟨rfl, hi, hb, hk⟩; refine ⟨_, rfl, ?_⟩; have n0_ := Aside0.mk (KeepBut.trans (by repeat (first | (with_reducible first | exact HK.out | apply KeepBut.set_ | apply keep_drewN | apply keep_drew | apply keep_alloc) | exact HK.out)) hk (.inl rfl)); have n1_ := Aside0.mk (hb); have n2_ := Aside0.mk (hi); clear HK; clear HB; clear HI0; have HK := n0_; have HB := n1_; have HI0 := n2_; clear n0_ n1_ n2_; (try clear hb); (try clear hb2); (try clear hk); (try clear hi); have p158 : 0 ≤ (t156 : Int) := of_decide_eq_true (by first|(with_reducible assumption)|assumption); have q158 : t156 < (l1.length : Int) := of_decide_eq_true (by first|(with_reducible assumption)|assumption); obtain ⟨ad158, e158, hx158_0⟩ := Kd.at_int HR1.out t156 p158 q158; cases e158; replace hx158_0 := keep_cell HK.out hx158_0 (by first | (rw [add_block]; exact hf1 _ rfl (by omega)) | exact hf1 _ rfl (by omega) | exact hf1 ad158 rfl (by omega)); replace p158 := eq_true p158; replace q158 := eq_true q158))
   go_ret
   exact ⟨by first | rfl | (simp [errW_none, errW_some] <;> rfl) | (simp [*, errW_none, errW_some] <;> rfl), by repeat (first | (with_reducible first | exact HI0.out | apply IsS101.alloc | apply IsS101.drewN | apply IsS101.drew | apply IsS101.set_1) | exact HI0.out), by repeat (first | (with_reducible first | exact HB.out | apply below_alloc | apply pw_below_drewN | apply below_drew1 | refine below_set ?_ (IsS101.ge HI0.out)) | exact HB.out), by repeat (first | (with_reducible first | exact HK.out | apply KeepBut.set_ | apply keep_drewN | apply keep_drew | apply keep_alloc) | exact HK.out)⟩
  ·rw [if_neg c5] at H
   exact absurd H (by simp)
 ·rw [if_neg c4] at H
  exact absurd H (by simp)

/-! ### spec_l15Rd_of: function 80 -/
def spec_l15Rd_of.f (k : Nat) (s0_0 : List Int) (s0_1 : Int) (l1 : List ByteArray) : Option (ByteArray × Int) := (spec_l15Rd_pick.f k s0_0 s0_1 (l1.length : Int)).bind fun bt159 => (if 0 ≤ bt159.1 then (if bt159.1 < (l1.length : Int) then (some (rdOf ByteArray.empty l1 bt159.1, bt159.2)) else (none)) else (none))
theorem spec_l15Rd_of.mono : ∀ a0 a1 a2 k, LeO (spec_l15Rd_of.f k a0 a1 a2) (spec_l15Rd_of.f (k + 1) a0 a1 a2) := by
 intro a0 a1 a2 k
 unfold spec_l15Rd_of.f
 repeat' first
   | (with_reducible exact spec_l15Rd_pick.mono _ _ _ _)
   | (with_reducible exact LeO.refl _)
   | (with_reducible exact LeO.none _)
   | (with_reducible refine LeO.ite ?_ ?_)
   | (with_reducible refine LeO.bind ?_ (fun _ => ?_))
   | exact spec_l15Rd_pick.mono _ _ _ _
   | exact LeO.none _
   | refine LeO.ite ?_ ?_
   | refine LeO.bind ?_ (fun _ => ?_)
set_option maxHeartbeats 8000000 in
set_option maxRecDepth 100000 in
theorem spec_l15Rd_of.calls (k : Nat) (g : Nat) (s0_0 : List Int) (s0_1 : Int) (A1 : Option Addr) (c1 : Nat) (l1 : List ByteArray) (r1 : ByteArray) (r2 : Int) (w0 w : World) (hI : IsS101 w0 w g s0_0 s0_1) (hB : Below w0.heap.size w0 w) (hr1 : Kd.C Kd.string w A1 l1.length l1) (hc1 : l1.length ≤ c1) (hf1 : ∀ ad, A1 = some ad → 0 < l1.length → ad.block ≠ g) (h : spec_l15Rd_of.f k s0_0 s0_1 l1 = some (r1, r2)) :
  Calls Try.prog 80 #[.pointer (some ⟨g, 0, none⟩), .slice A1 l1.length c1] w fun e w' => e = .returned (.string r1) ∧ IsS101 w0 w' g s0_0 r2 ∧ Below w0.heap.size w0 w' ∧ KeepBut w w' g none := by
 have HR1 := Aside0.mk hr1
 have HC1 := Aside0.mk hc1
 clear hr1 hc1
 have HI0 := Aside0.mk hI
 have HK := Aside0.mk (KeepBut.refl w g none)
 have HL := Aside0.mk hB.size
 clear hI
 have HW0 := Aside0.mk hB.size
 have HB := Aside0.mk hB
 clear hB
 have H : ((spec_l15Rd_pick.f k s0_0 s0_1 (l1.length : Int)).bind fun bt159 => (if 0 ≤ bt159.1 then (if bt159.1 < (l1.length : Int) then (some (rdOf ByteArray.empty l1 bt159.1, bt159.2)) else (none)) else (none))) = some (r1, r2) := h
 clear h
 replace H := Option.bind_eq_some_iff.mp H
 obtain ⟨⟨t159, t160⟩, A30, H⟩ := H
 replace H : (if 0 ≤ t159 then (if t159 < (l1.length : Int) then (some (rdOf ByteArray.empty l1 t159, t160)) else (none)) else (none)) = some (r1, r2) := H
 have A3 := Aside0.mk A30
 clear A30
 by_cases c4 : 0 ≤ t159
 ·rw [if_pos c4] at H
  have c4b0 : decide (0 ≤ t159) = true := decide_eq_true c4
  clear c4
  by_cases c5 : t159 < (l1.length : Int)
  ·rw [if_pos c5] at H
   have c5b0 : decide (t159 < (l1.length : Int)) = true := decide_eq_true c5
   clear c5
   simp only [Option.some.injEq, Prod.mk.injEq] at H
   obtain ⟨rfl, rfl⟩ := H
   go_enter Try.func80, Try.ntmps80
   go_wp2_with (first | ((with_reducible refine gate_callee (f := 81) rfl ?_); refine goesL_ (some 9) rfl rfl Try.func81 (by kernel_rfl) rfl #[.pointer (some ⟨g, 0, none⟩), .int .i64 (l1.length : Int)] rfl (by (try simp only [List.map_toArray, List.map_cons, List.map_nil]); first | done | rfl | (simp only [List.length_drop, List.length_take]; rfl)) ?_; (with_reducible refine (spec_l15Rd_pick.calls k g s0_0 s0_1 (l1.length : Int) t159 t160 w0 _ ?side1 ?side2 A3.out).mono ?_); (case side1 => repeat (first | (with_reducible first | exact HI0.out | apply IsS101.alloc | apply IsS101.drewN | apply IsS101.drew | apply IsS101.set_1) | exact HI0.out)); (case side2 => repeat (first | (with_reducible first | exact HB.out | apply below_alloc | apply pw_below_drewN | apply below_drew1 | refine below_set ?_ (IsS101.ge HI0.out)) | exact HB.out)); rintro e w6 ⟨rfl, hi, hb, hk⟩; refine ⟨_, rfl, ?_⟩; have n0_ := Aside0.mk (KeepBut.trans (by repeat (first | (with_reducible first | exact HK.out | apply KeepBut.set_ | apply keep_drewN | apply keep_drew | apply keep_alloc) | exact HK.out)) hk (.inl rfl)); have n1_ := Aside0.mk (hb); have n2_ := Aside0.mk (hi); clear HK; clear HB; clear HI0; have HK := n0_; have HB := n1_; have HI0 := n2_; clear n0_ n1_ n2_; (try clear hb); (try clear hb2); (try clear hk); (try clear hi); have p161 : 0 ≤ (t159 : Int) := of_decide_eq_true (by first|(with_reducible assumption)|assumption); have q161 : t159 < (l1.length : Int) := of_decide_eq_true (by first|(with_reducible assumption)|assumption); obtain ⟨ad161, e161, hx161_0⟩ := Kd.at_string HR1.out t159 p161 q161; cases e161; replace hx161_0 := keep_cell HK.out hx161_0 (by first | (rw [add_block]; exact hf1 _ rfl (by omega)) | exact hf1 _ rfl (by omega) | exact hf1 ad161 rfl (by omega)); replace p161 := eq_true p161; replace q161 := eq_true q161))
   go_ret
   exact ⟨by first | rfl | (simp [errW_none, errW_some] <;> rfl) | (simp [*, errW_none, errW_some] <;> rfl), by repeat (first | (with_reducible first | exact HI0.out | apply IsS101.alloc | apply IsS101.drewN | apply IsS101.drew | apply IsS101.set_1) | exact HI0.out), by repeat (first | (with_reducible first | exact HB.out | apply below_alloc | apply pw_below_drewN | apply below_drew1 | refine below_set ?_ (IsS101.ge HI0.out)) | exact HB.out), by repeat (first | (with_reducible first | exact HK.out | apply KeepBut.set_ | apply keep_drewN | apply keep_drew | apply keep_alloc) | exact HK.out)⟩
  ·rw [if_neg c5] at H
   exact absurd H (by simp)
 ·rw [if_neg c4] at H
  exact absurd H (by simp)

/-! ### spec_l12Words: function 63 -/
def spec_l12Words.l0 : Nat → List ByteArray → Int → List Int → Int → Option (List ByteArray × Int)
 | 0, _, _, _, _ => none
 | k + 1, x3, x4, x1000, x1001 => if x4 > 0 then ((spec_l15Rd_of.f k x1000 x1001 (([(⟨#[97]⟩ : ByteArray), (⟨#[98, 98]⟩ : ByteArray), (⟨#[99, 99, 99]⟩ : ByteArray), (⟨#[100, 100, 100, 100]⟩ : ByteArray), (⟨#[101, 101, 101, 101, 101]⟩ : ByteArray), (⟨#[102, 102, 102, 102, 102, 102]⟩ : ByteArray), (⟨#[120, 44]⟩ : ByteArray)] : List ByteArray))).bind fun bt173 => (if x3.length < 8796093022208 then (spec_l12Words.l0 k (x3 ++ [bt173.1]) (wrap64 (x4 - 1)) x1000 bt173.2) else (none))) else (if (x3.length : Int) > 0 then ((spec_l15Rd_pick.f k x1000 x1001 20).bind fun bt178 => (if bt178.1 = 0 then ((spec_l15Rd_of.f k x1000 bt178.2 (([(⟨#[]⟩ : ByteArray), (⟨#[65]⟩ : ByteArray), (⟨#[97, 32, 98]⟩ : ByteArray)] : List ByteArray))).bind fun bt183 => (if 0 < (x3.length : Int) then (some ((x3.set (0 : Int).toNat bt183.1), bt183.2)) else (none))) else (some (x3, bt178.2)))) else (some (x3, x1001)))
def spec_l12Words.f (k : Nat) (s0_0 : List Int) (s0_1 : Int) : Option (List ByteArray × Int) := (spec_l15Rd_num.f k s0_0 s0_1 (([5, 3, 8, 2, 1, 0, 12] : List Int))).bind fun bt168 => (spec_l12Words.l0 k (([] : List ByteArray)) bt168.1 s0_0 bt168.2)
theorem spec_l12Words.mono_l : ∀ k, (∀ y0 y1 y2 y3, LeO (spec_l12Words.l0 k y0 y1 y2 y3) (spec_l12Words.l0 (k + 1) y0 y1 y2 y3))
 | 0 => fun _ _ _ _ r h => by simp [spec_l12Words.l0] at h
 | k + 1 => by
  have ih0 := spec_l12Words.mono_l k
  ·intro y0 y1 y2 y3
   unfold spec_l12Words.l0
   repeat' first
   | (with_reducible exact ih0 _ _ _ _)
   | (with_reducible exact spec_l15Rd_num.mono _ _ _ _)
   | (with_reducible exact spec_l15Rd_of.mono _ _ _ _)
   | (with_reducible exact spec_l15Rd_pick.mono _ _ _ _)
   | (with_reducible exact LeO.refl _)
   | (with_reducible exact LeO.none _)
   | (with_reducible refine LeO.ite ?_ ?_)
   | (with_reducible refine LeO.bind ?_ (fun _ => ?_))
   | exact ih0 _ _ _ _
   | exact spec_l15Rd_num.mono _ _ _ _
   | exact spec_l15Rd_of.mono _ _ _ _
   | exact spec_l15Rd_pick.mono _ _ _ _
   | exact LeO.none _
   | refine LeO.ite ?_ ?_
   | refine LeO.bind ?_ (fun _ => ?_)
theorem spec_l12Words.mono : ∀ a0 a1 k, LeO (spec_l12Words.f k a0 a1) (spec_l12Words.f (k + 1) a0 a1) := by
 intro a0 a1 k
 have ih0 := spec_l12Words.mono_l k
 unfold spec_l12Words.f
 repeat' first
   | (with_reducible exact ih0 _ _ _ _)
   | (with_reducible exact spec_l15Rd_num.mono _ _ _ _)
   | (with_reducible exact spec_l15Rd_of.mono _ _ _ _)
   | (with_reducible exact spec_l15Rd_pick.mono _ _ _ _)
   | (with_reducible exact LeO.refl _)
   | (with_reducible exact LeO.none _)
   | (with_reducible refine LeO.ite ?_ ?_)
   | (with_reducible refine LeO.bind ?_ (fun _ => ?_))
   | exact ih0 _ _ _ _
   | exact spec_l15Rd_num.mono _ _ _ _
   | exact spec_l15Rd_of.mono _ _ _ _
   | exact spec_l15Rd_pick.mono _ _ _ _
   | exact LeO.none _
   | refine LeO.ite ?_ ?_
   | refine LeO.bind ?_ (fun _ => ?_)
set_option maxHeartbeats 8000000 in
set_option maxRecDepth 100000 in
theorem spec_l12Words.calls (k : Nat) (g : Nat) (s0_0 : List Int) (s0_1 : Int) (r1 : List ByteArray) (r2 : Int) (w0 w : World) (hI : IsS101 w0 w g s0_0 s0_1) (hB : Below w0.heap.size w0 w) (h : spec_l12Words.f k s0_0 s0_1 = some (r1, r2)) :
  Calls Try.prog 63 #[.pointer (some ⟨g, 0, none⟩)] w fun e w' => ∃ v0_ : Value, e = .returned (v0_) ∧ Kd.R Kd.string 9 w' w.heap.size (fun _ => True) v0_ r1 ∧ IsS101 w0 w' g s0_0 r2 ∧ Below w0.heap.size w0 w' ∧ KeepBut w w' g none := by
 have HI0 := Aside0.mk hI
 have HK := Aside0.mk (KeepBut.refl w g none)
 have HL := Aside0.mk hB.size
 clear hI
 have HW0 := Aside0.mk hB.size
 have HB := Aside0.mk hB
 clear hB
 have H : ((spec_l15Rd_num.f k s0_0 s0_1 (([5, 3, 8, 2, 1, 0, 12] : List Int))).bind fun bt168 => (spec_l12Words.l0 k (([] : List ByteArray)) bt168.1 s0_0 bt168.2)) = some (r1, r2) := h
 clear h
 obtain ⟨y162, hy162⟩ : ∃ y_ : List ByteArray, y_ = (([] : List ByteArray)) := ⟨_, rfl⟩
 replace H : ((spec_l15Rd_num.f k s0_0 s0_1 (([5, 3, 8, 2, 1, 0, 12] : List Int))).bind fun bt168 => (spec_l12Words.l0 k y162 bt168.1 s0_0 bt168.2)) = some (r1, r2) := by first | (rw [hy162]; with_reducible exact H) | (have H2_ := (Option.bind_some _ _).symm.trans H; rw [hy162]; with_reducible exact H2_) | (have H2_ := (Option.bind_some _ _).symm.trans H; with_reducible exact H2_) | with_reducible exact H | (rw [hy162]; exact H) | exact H
 have Ny162 := Aside0.mk hy162
 clear hy162
 obtain ⟨y165, hy165⟩ : ∃ y_ : List Int, y_ = (([5, 3, 8, 2, 1, 0, 12] : List Int)) := ⟨_, rfl⟩
 replace H : ((spec_l15Rd_num.f k s0_0 s0_1 y165).bind fun bt168 => (spec_l12Words.l0 k y162 bt168.1 s0_0 bt168.2)) = some (r1, r2) := by first | (rw [hy165]; with_reducible exact H) | (have H2_ := (Option.bind_some _ _).symm.trans H; rw [hy165]; with_reducible exact H2_) | (have H2_ := (Option.bind_some _ _).symm.trans H; with_reducible exact H2_) | with_reducible exact H | (rw [hy165]; exact H) | exact H
 have Ny165 := Aside0.mk hy165
 clear hy165
 replace H := Option.bind_eq_some_iff.mp H
 obtain ⟨⟨t168, t169⟩, A20, H⟩ := H
 replace H : (spec_l12Words.l0 k y162 t168 s0_0 t169) = some (r1, r2) := H
 have A2 := Aside0.mk A20
 clear A20
 have H' := Aside0.mk H
 clear H
 go_enter Try.func63, Try.ntmps63
 go_wp2_with (first | ((with_reducible refine gate_dst (N := 5) rfl ?_); refine Kd.R_lit Kd.string _ 9 ?hg (N := 5) ?hd (xs := ([] : List ByteArray)) (inner := []) (ok := fun _ => True) (okp := fun _ => True) ?hr ?hp (fun _ hk => hk) trivial (Below.refl _ _) (Nat.le_refl _) (by simp) ?_; (case hd => rfl); (case hg => rfl); (case hr => first | (go_simp; done) | (go_simp; rfl)); (case hp => exact (Reps.none _ _)); intro v163 w3 ho4 hb hg_ hnew_; clear hg_ hnew_; (first | rw [← Ny162.out] at ho4 | (simp only [Int.reduceToNat] at ho4; rw [← Ny162.out] at ho4)); have n0_ := Aside0.mk (Kd.R_lower ho4 (keep_size (w := w) (g := g) (row := none) (by repeat (first | (with_reducible first | exact HK.out | apply KeepBut.set_ | apply keep_drewN | apply keep_drew | apply keep_alloc) | exact HK.out)))); have n1_ := Aside0.mk (IsS101.below (by repeat (first | (with_reducible first | exact HI0.out | apply IsS101.alloc | apply IsS101.drewN | apply IsS101.drew | apply IsS101.set_1) | exact HI0.out)) hb); have n2_ := Aside0.mk (KeepBut.trans (by repeat (first | (with_reducible first | exact HK.out | apply KeepBut.set_ | apply keep_drewN | apply keep_drew | apply keep_alloc) | exact HK.out)) (KeepBut.of_below hb g none) (.inl rfl)); have n3_ := Aside0.mk (below_step (by repeat (first | (with_reducible first | exact HB.out | apply below_alloc | apply pw_below_drewN | apply below_drew1 | refine below_set ?_ (IsS101.ge HI0.out)) | exact HB.out)) hb); clear HI0; clear HK; clear HB; have HO164 := n0_; have HI0 := n1_; have HK := n2_; have HB := n3_; clear n0_ n1_ n2_ n3_; clear hb ho4) | ((with_reducible refine gate_dst (N := 7) rfl ?_); refine Kd.R_lit (Kd.int .i64) _ 3 ?hg (N := 7) ?hd (xs := ([5, 3, 8, 2, 1, 0, 12] : List Int)) (inner := [.int .i64 5, .int .i64 3, .int .i64 8, .int .i64 2, .int .i64 1, .int .i64 0, .int .i64 12]) (ok := fun _ => True) (okp := fun _ => True) ?hr ?hp (fun _ hk => hk) trivial (Below.refl _ _) (Nat.le_refl _) (by simp) ?_; (case hd => rfl); (case hg => rfl); (case hr => first | (go_simp; done) | (go_simp; rfl)); (case hp => exact (Reps.one (show Kd.M (Kd.int .i64) _ _ _ 5 [.int .i64 5] from rfl) (Reps.one (show Kd.M (Kd.int .i64) _ _ _ 3 [.int .i64 3] from rfl) (Reps.one (show Kd.M (Kd.int .i64) _ _ _ 8 [.int .i64 8] from rfl) (Reps.one (show Kd.M (Kd.int .i64) _ _ _ 2 [.int .i64 2] from rfl) (Reps.one (show Kd.M (Kd.int .i64) _ _ _ 1 [.int .i64 1] from rfl) (Reps.one (show Kd.M (Kd.int .i64) _ _ _ 0 [.int .i64 0] from rfl) (Reps.one (show Kd.M (Kd.int .i64) _ _ _ 12 [.int .i64 12] from rfl) (Reps.none _ _))))))))); intro v166 w5 ho6 hb hg_ hnew_; clear hg_ hnew_; (first | rw [← Ny165.out] at ho6 | (simp only [Int.reduceToNat] at ho6; rw [← Ny165.out] at ho6)); have n0_ := Aside0.mk (Kd.R_below (by (with_reducible repeat (first|apply Kd.R_alloc|apply Kd.R_drewN|apply Kd.R_drew)); exact HO164.out) hb); have n1_ := Aside0.mk (Kd.R_lower ho6 (keep_size (w := w) (g := g) (row := none) (by repeat (first | (with_reducible first | exact HK.out | apply KeepBut.set_ | apply keep_drewN | apply keep_drew | apply keep_alloc) | exact HK.out)))); have n2_ := Aside0.mk (IsS101.below (by repeat (first | (with_reducible first | exact HI0.out | apply IsS101.alloc | apply IsS101.drewN | apply IsS101.drew | apply IsS101.set_1) | exact HI0.out)) hb); have n3_ := Aside0.mk (KeepBut.trans (by repeat (first | (with_reducible first | exact HK.out | apply KeepBut.set_ | apply keep_drewN | apply keep_drew | apply keep_alloc) | exact HK.out)) (KeepBut.of_below hb g none) (.inl rfl)); have n4_ := Aside0.mk (below_step (by repeat (first | (with_reducible first | exact HB.out | apply below_alloc | apply pw_below_drewN | apply below_drew1 | refine below_set ?_ (IsS101.ge HI0.out)) | exact HB.out)) hb); clear HO164; clear HI0; clear HK; clear HB; have HO164 := n0_; have HO167 := n1_; have HI0 := n2_; have HK := n3_; have HB := n4_; clear n0_ n1_ n2_ n3_ n4_; clear hb ho6; obtain ⟨Ao7, co7, eo7⟩ := Kd.R_slice HO167.out; subst eo7) | ((with_reducible refine gate_callee (f := 64) rfl ?_); refine goesL_ (some 8) rfl rfl Try.func64 (by kernel_rfl) rfl #[.pointer (some ⟨g, 0, none⟩), .slice Ao7 y165.length co7] rfl (by (try simp only [List.map_toArray, List.map_cons, List.map_nil]); first | done | rfl | (simp only [List.length_drop, List.length_take]; rfl)) ?_; (with_reducible refine (spec_l15Rd_num.calls k g s0_0 s0_1 _ _ y165 t168 t169 w0 _ ?side1 ?side2 ?side3 ?side4 ?side5 A2.out).mono ?_); (case side1 => repeat (first | (with_reducible first | exact HI0.out | apply IsS101.alloc | apply IsS101.drewN | apply IsS101.drew | apply IsS101.set_1) | exact HI0.out)); (case side2 => repeat (first | (with_reducible first | exact HB.out | apply below_alloc | apply pw_below_drewN | apply below_drew1 | refine below_set ?_ (IsS101.ge HI0.out)) | exact HB.out)); (case side3 => repeat (first | exact (Kd.R_reads' HO167.out).2.2 | (with_reducible refine Kd.C_alloc ?_ _) | (with_reducible refine Kd.C_drewN ?_ _) | (with_reducible refine Kd.C_drew ?_))); (case side4 => exact (Kd.R_reads' HO167.out).2.1); (case side5 => exact far_slice (IsS101.own_ne HI0.out HO167.out (by decide))); rintro e w8 ⟨rfl, hi, hb, hk⟩; refine ⟨_, rfl, ?_⟩; have n0_ := Aside0.mk (Kd.R_mono (Kd.R_keep (IsS101.apart (show IsS101 w0 _ g s0_0 s0_1 from by repeat (first | (with_reducible first | exact HI0.out | apply IsS101.alloc | apply IsS101.drewN | apply IsS101.drew | apply IsS101.set_1) | exact HI0.out)) (by (with_reducible repeat (first|apply Kd.R_alloc|apply Kd.R_drewN|apply Kd.R_drew)); exact HO164.out) (by decide)) hk (fun _ h => h.2)) (fun _ h => h.1)); have n1_ := Aside0.mk (Kd.R_mono (Kd.R_keep (IsS101.apart (show IsS101 w0 _ g s0_0 s0_1 from by repeat (first | (with_reducible first | exact HI0.out | apply IsS101.alloc | apply IsS101.drewN | apply IsS101.drew | apply IsS101.set_1) | exact HI0.out)) (by (with_reducible repeat (first|apply Kd.R_alloc|apply Kd.R_drewN|apply Kd.R_drew)); exact HO167.out) (by decide)) hk (fun _ h => h.2)) (fun _ h => h.1)); have n2_ := Aside0.mk (KeepBut.trans (by repeat (first | (with_reducible first | exact HK.out | apply KeepBut.set_ | apply keep_drewN | apply keep_drew | apply keep_alloc) | exact HK.out)) hk (.inl rfl)); have n3_ := Aside0.mk (hb); have n4_ := Aside0.mk (hi); clear HO164; clear HO167; clear HK; clear HB; clear HI0; have HO164 := n0_; have HO167 := n1_; have HK := n2_; have HB := n3_; have HI0 := n4_; clear n0_ n1_ n2_ n3_ n4_; (try clear hb); (try clear hb2); (try clear hk); (try clear hi)))
 go_loopg [3, 4] k (fun kq v3 v4 w' => ∃ (x3_1 : List ByteArray) (x4_1 : Int) (x1001_1 : Int), v4 = .int .i64 x4_1 ∧ Aside0 (spec_l12Words.l0 kq x3_1 x4_1 s0_0 x1001_1 = some (r1, r2)) ∧ Aside0 (kq ≤ k) ∧ Aside0 (Kd.R Kd.string 9 w' w.heap.size (fun _ => True) v3 x3_1) ∧ Aside0 (IsS101 w0 w' g s0_0 x1001_1) ∧ Aside0 (KeepBut w w' g none) ∧ Aside0 (Below w0.heap.size w0 w'))
 case atStart => exact ⟨(y162), (t168), (t169), (by first|rfl|(simp;done)|(simp[*];done)), H', ⟨Nat.le_refl _⟩, ⟨by (with_reducible repeat (first|apply Kd.R_alloc|apply Kd.R_drewN|apply Kd.R_drew)); exact HO164.out⟩, ⟨by repeat (first | (with_reducible first | exact HI0.out | apply IsS101.alloc | apply IsS101.drewN | apply IsS101.drew | apply IsS101.set_1) | exact HI0.out)⟩, ⟨by repeat (first | (with_reducible first | exact HK.out | apply KeepBut.set_ | apply keep_drewN | apply keep_drew | apply keep_alloc) | exact HK.out)⟩, ⟨by repeat (first | (with_reducible first | exact HB.out | apply below_alloc | apply pw_below_drewN | apply below_drew1 | refine below_set ?_ (IsS101.ge HI0.out)) | exact HB.out)⟩⟩
 case round =>
  clear H'
  try clear p2
  try clear c6
  obtain ⟨x3_1, x4_1, x1001_1, rfl, HA, HK1, HO_3, HI0, HK, HB⟩ := hrel
  cases gk with
  | zero => exact absurd HA.out (by simp [spec_l12Words.l0])
  | succ k1 =>
   have H := HA.out
   clear HA
   simp only [spec_l12Words.l0] at H
   by_cases c9 : x4_1 > 0
   ·rw [if_pos c9] at H
    have c9b0 : decide (0 < x4_1) = true := decide_eq_true c9
    clear c9
    obtain ⟨y170, hy170⟩ : ∃ y_ : List ByteArray, y_ = (([(⟨#[97]⟩ : ByteArray), (⟨#[98, 98]⟩ : ByteArray), (⟨#[99, 99, 99]⟩ : ByteArray), (⟨#[100, 100, 100, 100]⟩ : ByteArray), (⟨#[101, 101, 101, 101, 101]⟩ : ByteArray), (⟨#[102, 102, 102, 102, 102, 102]⟩ : ByteArray), (⟨#[120, 44]⟩ : ByteArray)] : List ByteArray)) := ⟨_, rfl⟩
    replace H : ((spec_l15Rd_of.f k1 s0_0 x1001_1 y170).bind fun bt173 => (if x3_1.length < 8796093022208 then (spec_l12Words.l0 k1 (x3_1 ++ [bt173.1]) (wrap64 (x4_1 - 1)) s0_0 bt173.2) else (none))) = some (r1, r2) := by first | (rw [hy170]; with_reducible exact H) | (have H2_ := (Option.bind_some _ _).symm.trans H; rw [hy170]; with_reducible exact H2_) | (have H2_ := (Option.bind_some _ _).symm.trans H; with_reducible exact H2_) | with_reducible exact H | (rw [hy170]; exact H) | exact H
    have Ny170 := Aside0.mk hy170
    clear hy170
    replace H := Option.bind_eq_some_iff.mp H
    obtain ⟨⟨t173, t174⟩, A100, H⟩ := H
    replace H : (if x3_1.length < 8796093022208 then (spec_l12Words.l0 k1 (x3_1 ++ [t173]) (wrap64 (x4_1 - 1)) s0_0 t174) else (none)) = some (r1, r2) := H
    have A10 := Aside0.mk A100
    clear A100
    by_cases c11 : x3_1.length < 8796093022208
    ·rw [if_pos c11] at H
     have LMc11 := Aside0.mk c11
     clear c11
     obtain ⟨y175, hy175⟩ : ∃ y_ : List ByteArray, y_ = (x3_1 ++ [t173]) := ⟨_, rfl⟩
     replace H : (spec_l12Words.l0 k1 y175 (wrap64 (x4_1 - 1)) s0_0 t174) = some (r1, r2) := by first | (rw [hy175]; with_reducible exact H) | (have H2_ := (Option.bind_some _ _).symm.trans H; rw [hy175]; with_reducible exact H2_) | (have H2_ := (Option.bind_some _ _).symm.trans H; with_reducible exact H2_) | with_reducible exact H | (rw [hy175]; exact H) | exact H
     have Ny175 := Aside0.mk hy175
     clear hy175
     have H' := Aside0.mk H
     clear H
     go_wp2_with (first | ((with_reducible refine gate_dst (N := 15) rfl ?_); refine Kd.R_lit Kd.string _ 9 ?hg (N := 15) ?hd (xs := ([(⟨#[97]⟩ : ByteArray), (⟨#[98, 98]⟩ : ByteArray), (⟨#[99, 99, 99]⟩ : ByteArray), (⟨#[100, 100, 100, 100]⟩ : ByteArray), (⟨#[101, 101, 101, 101, 101]⟩ : ByteArray), (⟨#[102, 102, 102, 102, 102, 102]⟩ : ByteArray), (⟨#[120, 44]⟩ : ByteArray)] : List ByteArray)) (inner := [.string (⟨#[97]⟩ : ByteArray), .string (⟨#[98, 98]⟩ : ByteArray), .string (⟨#[99, 99, 99]⟩ : ByteArray), .string (⟨#[100, 100, 100, 100]⟩ : ByteArray), .string (⟨#[101, 101, 101, 101, 101]⟩ : ByteArray), .string (⟨#[102, 102, 102, 102, 102, 102]⟩ : ByteArray), .string (⟨#[120, 44]⟩ : ByteArray)]) (ok := fun _ => True) (okp := fun _ => True) ?hr ?hp (fun _ hk => hk) trivial (Below.refl _ _) (Nat.le_refl _) (by simp) ?_; (case hd => rfl); (case hg => rfl); (case hr => first | (go_simp; done) | (go_simp; rfl)); (case hp => exact (Reps.one (show Kd.M Kd.string _ _ _ (⟨#[97]⟩ : ByteArray) [.string (⟨#[97]⟩ : ByteArray)] from rfl) (Reps.one (show Kd.M Kd.string _ _ _ (⟨#[98, 98]⟩ : ByteArray) [.string (⟨#[98, 98]⟩ : ByteArray)] from rfl) (Reps.one (show Kd.M Kd.string _ _ _ (⟨#[99, 99, 99]⟩ : ByteArray) [.string (⟨#[99, 99, 99]⟩ : ByteArray)] from rfl) (Reps.one (show Kd.M Kd.string _ _ _ (⟨#[100, 100, 100, 100]⟩ : ByteArray) [.string (⟨#[100, 100, 100, 100]⟩ : ByteArray)] from rfl) (Reps.one (show Kd.M Kd.string _ _ _ (⟨#[101, 101, 101, 101, 101]⟩ : ByteArray) [.string (⟨#[101, 101, 101, 101, 101]⟩ : ByteArray)] from rfl) (Reps.one (show Kd.M Kd.string _ _ _ (⟨#[102, 102, 102, 102, 102, 102]⟩ : ByteArray) [.string (⟨#[102, 102, 102, 102, 102, 102]⟩ : ByteArray)] from rfl) (Reps.one (show Kd.M Kd.string _ _ _ (⟨#[120, 44]⟩ : ByteArray) [.string (⟨#[120, 44]⟩ : ByteArray)] from rfl) (Reps.none _ _))))))))); intro v171 w12 ho13 hb hg_ hnew_; clear hg_ hnew_; (first | rw [← Ny170.out] at ho13 | (simp only [Int.reduceToNat] at ho13; rw [← Ny170.out] at ho13)); have n0_ := Aside0.mk (Kd.R_elder' (by (with_reducible repeat (first|apply Kd.R_alloc|apply Kd.R_drewN|apply Kd.R_drew)); exact HO_3.out) (Kd.R_base ho13) hb); have n1_ := Aside0.mk (Kd.R_lower (Kd.R_new' ho13 (Kd.R_lt (by (with_reducible repeat (first|apply Kd.R_alloc|apply Kd.R_drewN|apply Kd.R_drew)); exact HO_3.out))) (keep_size (w := w) (g := g) (row := none) (by repeat (first | (with_reducible first | exact HK.out | apply KeepBut.set_ | apply keep_drewN | apply keep_drew | apply keep_alloc) | exact HK.out)))); have n2_ := Aside0.mk (IsS101.below (by repeat (first | (with_reducible first | exact HI0.out | apply IsS101.alloc | apply IsS101.drewN | apply IsS101.drew | apply IsS101.set_1) | exact HI0.out)) hb); have n3_ := Aside0.mk (KeepBut.trans (by repeat (first | (with_reducible first | exact HK.out | apply KeepBut.set_ | apply keep_drewN | apply keep_drew | apply keep_alloc) | exact HK.out)) (KeepBut.of_below hb g none) (.inl rfl)); have n4_ := Aside0.mk (below_step (by repeat (first | (with_reducible first | exact HB.out | apply below_alloc | apply pw_below_drewN | apply below_drew1 | refine below_set ?_ (IsS101.ge HI0.out)) | exact HB.out)) hb); clear HO_3; clear HI0; clear HK; clear HB; have HO_3 := n0_; have HO172 := n1_; have HI0 := n2_; have HK := n3_; have HB := n4_; clear n0_ n1_ n2_ n3_ n4_; clear hb ho13; obtain ⟨Ao14, co14, eo14⟩ := Kd.R_slice HO172.out; subst eo14) | ((with_reducible refine gate_callee (f := 80) rfl ?_); refine goesL_ (some 16) rfl rfl Try.func80 (by kernel_rfl) rfl #[.pointer (some ⟨g, 0, none⟩), .slice Ao14 y170.length co14] rfl (by (try simp only [List.map_toArray, List.map_cons, List.map_nil]); first | done | rfl | (simp only [List.length_drop, List.length_take]; rfl)) ?_; (with_reducible refine (spec_l15Rd_of.calls k1 g s0_0 x1001_1 _ _ y170 t173 t174 w0 _ ?side1 ?side2 ?side3 ?side4 ?side5 A10.out).mono ?_); (case side1 => repeat (first | (with_reducible first | exact HI0.out | apply IsS101.alloc | apply IsS101.drewN | apply IsS101.drew | apply IsS101.set_1) | exact HI0.out)); (case side2 => repeat (first | (with_reducible first | exact HB.out | apply below_alloc | apply pw_below_drewN | apply below_drew1 | refine below_set ?_ (IsS101.ge HI0.out)) | exact HB.out)); (case side3 => repeat (first | exact (Kd.R_reads' HO172.out).2.2 | (with_reducible refine Kd.C_alloc ?_ _) | (with_reducible refine Kd.C_drewN ?_ _) | (with_reducible refine Kd.C_drew ?_))); (case side4 => exact (Kd.R_reads' HO172.out).2.1); (case side5 => exact far_slice (IsS101.own_ne HI0.out HO172.out (by decide))); rintro e w15 ⟨rfl, hi, hb, hk⟩; refine ⟨_, rfl, ?_⟩; have n0_ := Aside0.mk (Kd.R_mono (Kd.R_keep (IsS101.apart (show IsS101 w0 _ g s0_0 x1001_1 from by repeat (first | (with_reducible first | exact HI0.out | apply IsS101.alloc | apply IsS101.drewN | apply IsS101.drew | apply IsS101.set_1) | exact HI0.out)) (by (with_reducible repeat (first|apply Kd.R_alloc|apply Kd.R_drewN|apply Kd.R_drew)); exact HO_3.out) (by decide)) hk (fun _ h => h.2)) (fun _ h => h.1)); have n1_ := Aside0.mk (Kd.R_mono (Kd.R_keep (IsS101.apart (show IsS101 w0 _ g s0_0 x1001_1 from by repeat (first | (with_reducible first | exact HI0.out | apply IsS101.alloc | apply IsS101.drewN | apply IsS101.drew | apply IsS101.set_1) | exact HI0.out)) (by (with_reducible repeat (first|apply Kd.R_alloc|apply Kd.R_drewN|apply Kd.R_drew)); exact HO172.out) (by decide)) hk (fun _ h => h.2)) (fun _ h => h.1)); have n2_ := Aside0.mk (KeepBut.trans (by repeat (first | (with_reducible first | exact HK.out | apply KeepBut.set_ | apply keep_drewN | apply keep_drew | apply keep_alloc) | exact HK.out)) hk (.inl rfl)); have n3_ := Aside0.mk (hb); have n4_ := Aside0.mk (hi); clear HO_3; clear HO172; clear HK; clear HB; clear HI0; have HO_3 := n0_; have HO172 := n1_; have HK := n2_; have HB := n3_; have HI0 := n4_; clear n0_ n1_ n2_ n3_ n4_; (try clear hb); (try clear hb2); (try clear hk); (try clear hi)) | ((with_reducible refine gate_builtin (b := .append) (xs := #[.tmp 13, .tmp 17]) rfl ?_); at_builtin; refine Kd.R_append Kd.string w.heap.size rfl (.tmp 13) (.tmp 17) 39 9 (.string ⟨#[]⟩) 16 rfl Try.underlying39 info9 rfl (by decide) (by omega) u3 x3_1 t173 [.string t173] (fun k_ => some k_ ≠ (.slice Ao14 y170.length co14 : Value).ownBlock) (fun _ => False) rfl rfl ?aP (fun _ hk => hk.elim) ?aF ?aO (Below.refl _ _) ?aS ?aL ?_; (case aP => exact rfl); (case aF => exact (fun k_ hk => Kd.fresh' (Kd.R_lt (by (with_reducible repeat (first|apply Kd.R_alloc|apply Kd.R_drewN|apply Kd.R_drew)); exact HO172.out)) k_ hk)); (case aO => exact (by (with_reducible repeat (first|apply Kd.R_alloc|apply Kd.R_drewN|apply Kd.R_drew)); exact Kd.R_mono HO_3.out (fun _ hk => hk.2))); (case aS => exact (keep_size (w := w) (g := g) (row := none) (by repeat (first | (with_reducible first | exact HK.out | apply KeepBut.set_ | apply keep_drewN | apply keep_drew | apply keep_alloc) | exact HK.out)))); (case aL => have := LMc11.out; omega); intro v176 w16 ho hb hg hat; rw [← Ny175.out] at ho; have n0_ := Aside0.mk (IsS101.grown (by repeat (first | (with_reducible first | exact HI0.out | apply IsS101.alloc | apply IsS101.drewN | apply IsS101.drew | apply IsS101.set_1) | exact HI0.out)) hg (IsS101.own_ne HI0.out HO_3.out (by decide))); have n1_ := Aside0.mk (Kd.R_after (ok := (fun _ => True)) (by (with_reducible repeat (first|apply Kd.R_alloc|apply Kd.R_drewN|apply Kd.R_drew)); exact HO172.out) hg hat); have n2_ := Aside0.mk (below_weaken (by repeat (first | (with_reducible first | exact HB.out | apply below_alloc | apply pw_below_drewN | apply below_drew1 | refine below_set ?_ (IsS101.ge HI0.out)) | exact HB.out)) HL.out hb); have n3_ := Aside0.mk (KeepBut.trans (by repeat (first | (with_reducible first | exact HK.out | apply KeepBut.set_ | apply keep_drewN | apply keep_drew | apply keep_alloc) | exact HK.out)) (KeepBut.of_grown hg g) (Kd.R_base2 HO_3.out)); have n4_ := Aside0.mk (ho); clear HI0; clear HO172; clear HB; clear HK; clear HO_3; have HI0 := n0_; have HO172 := n1_; have HB := n2_; have HK := n3_; have HO177 := n4_; clear n0_ n1_ n2_ n3_ n4_; clear ho hb hg hat))
     go_roundg k1
     case measure => have := HK1.out; omega
     case rel => exact ⟨(y175), (wrap64 (x4_1 - 1)), (t174), (by first|rfl|(simp;done)|(simp[*];done)), H', ⟨by have := HK1.out; omega⟩, ⟨by (with_reducible repeat (first|apply Kd.R_alloc|apply Kd.R_drewN|apply Kd.R_drew)); exact Kd.R_mono HO177.out (fun _ hk => trivial)⟩, ⟨by repeat (first | (with_reducible first | exact HI0.out | apply IsS101.alloc | apply IsS101.drewN | apply IsS101.drew | apply IsS101.set_1) | exact HI0.out)⟩, ⟨by repeat (first | (with_reducible first | exact HK.out | apply KeepBut.set_ | apply keep_drewN | apply keep_drew | apply keep_alloc) | exact HK.out)⟩, ⟨by repeat (first | (with_reducible first | exact HB.out | apply below_alloc | apply pw_below_drewN | apply below_drew1 | refine below_set ?_ (IsS101.ge HI0.out)) | exact HB.out)⟩⟩
    ·rw [if_neg c11] at H
     exact absurd H (by simp)
   ·rw [if_neg c9] at H
    have c9b0 : decide (0 < x4_1) = false := decide_eq_false c9
    clear c9
    by_cases c17 : (x3_1.length : Int) > 0
    ·rw [if_pos c17] at H
     have c17b0 : decide (0 < (x3_1.length : Int)) = true := decide_eq_true c17
     have c17b1 : decide (0 < x3_1.length) = true := decide_eq_true (by omega)
     clear c17
     replace H := Option.bind_eq_some_iff.mp H
     obtain ⟨⟨t178, t179⟩, A180, H⟩ := H
     replace H : (if t178 = 0 then ((spec_l15Rd_of.f k1 s0_0 t179 (([(⟨#[]⟩ : ByteArray), (⟨#[65]⟩ : ByteArray), (⟨#[97, 32, 98]⟩ : ByteArray)] : List ByteArray))).bind fun bt183 => (if 0 < (x3_1.length : Int) then (some ((x3_1.set (0 : Int).toNat bt183.1), bt183.2)) else (none))) else (some (x3_1, t179))) = some (r1, r2) := H
     have A18 := Aside0.mk A180
     clear A180
     by_cases c19 : t178 = 0
     ·rw [if_pos c19] at H
      have c19b0 : (t178 == 0) = true := beq_iff_eq.mpr c19
      have c19b1 : (t178 != 0) = false := bne_eq_false_iff_eq.mpr c19
      clear c19
      obtain ⟨y180, hy180⟩ : ∃ y_ : List ByteArray, y_ = (([(⟨#[]⟩ : ByteArray), (⟨#[65]⟩ : ByteArray), (⟨#[97, 32, 98]⟩ : ByteArray)] : List ByteArray)) := ⟨_, rfl⟩
      replace H : ((spec_l15Rd_of.f k1 s0_0 t179 y180).bind fun bt183 => (if 0 < (x3_1.length : Int) then (some ((x3_1.set (0 : Int).toNat bt183.1), bt183.2)) else (none))) = some (r1, r2) := by first | (rw [hy180]; with_reducible exact H) | (have H2_ := (Option.bind_some _ _).symm.trans H; rw [hy180]; with_reducible exact H2_) | (have H2_ := (Option.bind_some _ _).symm.trans H; with_reducible exact H2_) | with_reducible exact H | (rw [hy180]; exact H) | exact H
      have Ny180 := Aside0.mk hy180
      clear hy180
      replace H := Option.bind_eq_some_iff.mp H
      obtain ⟨⟨t183, t184⟩, A200, H⟩ := H
      replace H : (if 0 < (x3_1.length : Int) then (some ((x3_1.set (0 : Int).toNat t183), t184)) else (none)) = some (r1, r2) := H
      have A20 := Aside0.mk A200
      clear A200
      by_cases c21 : 0 < (x3_1.length : Int)
      ·rw [if_pos c21] at H
       have c21b0 : decide (0 < (x3_1.length : Int)) = true := decide_eq_true c21
       have c21b1 : decide (0 < x3_1.length) = true := decide_eq_true (by omega)
       clear c21
       obtain ⟨y185, hy185⟩ : ∃ y_ : List ByteArray, y_ = (x3_1.set (0 : Int).toNat t183) := ⟨_, rfl⟩
       replace H : (some (y185, t184)) = some (r1, r2) := by first | (rw [hy185]; with_reducible exact H) | (have H2_ := (Option.bind_some _ _).symm.trans H; rw [hy185]; with_reducible exact H2_) | (have H2_ := (Option.bind_some _ _).symm.trans H; with_reducible exact H2_) | with_reducible exact H | (rw [hy185]; exact H) | exact H
       have Ny185 := Aside0.mk hy185
       clear hy185
       simp only [Option.some.injEq, Prod.mk.injEq] at H
       obtain ⟨rfl, rfl⟩ := H
       obtain ⟨Ao23, co23, eo23⟩ := Kd.R_slice HO_3.out
       subst eo23
       go_wp2_with (first | (go_at_call 81; (with_reducible refine (spec_l15Rd_pick.calls k1 g s0_0 x1001_1 20 t178 t179 w0 _ ?side1 ?side2 A18.out).mono ?_); (case side1 => repeat (first | (with_reducible first | exact HI0.out | apply IsS101.alloc | apply IsS101.drewN | apply IsS101.drew | apply IsS101.set_1) | exact HI0.out)); (case side2 => repeat (first | (with_reducible first | exact HB.out | apply below_alloc | apply pw_below_drewN | apply below_drew1 | refine below_set ?_ (IsS101.ge HI0.out)) | exact HB.out)); rintro e w24 ⟨rfl, hi, hb, hk⟩; have n0_ := Aside0.mk (Kd.R_mono (Kd.R_keep (IsS101.apart (show IsS101 w0 _ g s0_0 x1001_1 from by repeat (first | (with_reducible first | exact HI0.out | apply IsS101.alloc | apply IsS101.drewN | apply IsS101.drew | apply IsS101.set_1) | exact HI0.out)) (by (with_reducible repeat (first|apply Kd.R_alloc|apply Kd.R_drewN|apply Kd.R_drew)); exact HO_3.out) (by decide)) hk (fun _ h => h.2)) (fun _ h => h.1)); have n1_ := Aside0.mk (KeepBut.trans (by repeat (first | (with_reducible first | exact HK.out | apply KeepBut.set_ | apply keep_drewN | apply keep_drew | apply keep_alloc) | exact HK.out)) hk (.inl rfl)); have n2_ := Aside0.mk (hb); have n3_ := Aside0.mk (hi); clear HO_3; clear HK; clear HB; clear HI0; have HO_3 := n0_; have HK := n1_; have HB := n2_; have HI0 := n3_; clear n0_ n1_ n2_ n3_; (try clear hb); (try clear hb2); (try clear hk); (try clear hi)) | ((with_reducible refine gate_dst (N := 29) rfl ?_); refine Kd.R_lit Kd.string _ 9 ?hg (N := 29) ?hd (xs := ([(⟨#[]⟩ : ByteArray), (⟨#[65]⟩ : ByteArray), (⟨#[97, 32, 98]⟩ : ByteArray)] : List ByteArray)) (inner := [.string (⟨#[]⟩ : ByteArray), .string (⟨#[65]⟩ : ByteArray), .string (⟨#[97, 32, 98]⟩ : ByteArray)]) (ok := fun _ => True) (okp := fun _ => True) ?hr ?hp (fun _ hk => hk) trivial (Below.refl _ _) (Nat.le_refl _) (by simp) ?_; (case hd => rfl); (case hg => rfl); (case hr => first | (go_simp; done) | (go_simp; rfl)); (case hp => exact (Reps.one (show Kd.M Kd.string _ _ _ (⟨#[]⟩ : ByteArray) [.string (⟨#[]⟩ : ByteArray)] from rfl) (Reps.one (show Kd.M Kd.string _ _ _ (⟨#[65]⟩ : ByteArray) [.string (⟨#[65]⟩ : ByteArray)] from rfl) (Reps.one (show Kd.M Kd.string _ _ _ (⟨#[97, 32, 98]⟩ : ByteArray) [.string (⟨#[97, 32, 98]⟩ : ByteArray)] from rfl) (Reps.none _ _))))); intro v181 w25 ho26 hb hg_ hnew_; clear hg_ hnew_; (first | rw [← Ny180.out] at ho26 | (simp only [Int.reduceToNat] at ho26; rw [← Ny180.out] at ho26)); have n0_ := Aside0.mk (Kd.R_elder' (by (with_reducible repeat (first|apply Kd.R_alloc|apply Kd.R_drewN|apply Kd.R_drew)); exact HO_3.out) (Kd.R_base ho26) hb); have n1_ := Aside0.mk (Kd.R_lower (Kd.R_new' ho26 (Kd.R_lt (by (with_reducible repeat (first|apply Kd.R_alloc|apply Kd.R_drewN|apply Kd.R_drew)); exact HO_3.out))) (keep_size (w := w) (g := g) (row := none) (by repeat (first | (with_reducible first | exact HK.out | apply KeepBut.set_ | apply keep_drewN | apply keep_drew | apply keep_alloc) | exact HK.out)))); have n2_ := Aside0.mk (IsS101.below (by repeat (first | (with_reducible first | exact HI0.out | apply IsS101.alloc | apply IsS101.drewN | apply IsS101.drew | apply IsS101.set_1) | exact HI0.out)) hb); have n3_ := Aside0.mk (KeepBut.trans (by repeat (first | (with_reducible first | exact HK.out | apply KeepBut.set_ | apply keep_drewN | apply keep_drew | apply keep_alloc) | exact HK.out)) (KeepBut.of_below hb g none) (.inl rfl)); have n4_ := Aside0.mk (below_step (by repeat (first | (with_reducible first | exact HB.out | apply below_alloc | apply pw_below_drewN | apply below_drew1 | refine below_set ?_ (IsS101.ge HI0.out)) | exact HB.out)) hb); clear HO_3; clear HI0; clear HK; clear HB; have HO_3 := n0_; have HO182 := n1_; have HI0 := n2_; have HK := n3_; have HB := n4_; clear n0_ n1_ n2_ n3_ n4_; clear hb ho26; obtain ⟨Ao27, co27, eo27⟩ := Kd.R_slice HO182.out; subst eo27) | ((with_reducible refine gate_callee (f := 80) rfl ?_); refine goesL_ (some 30) rfl rfl Try.func80 (by kernel_rfl) rfl #[.pointer (some ⟨g, 0, none⟩), .slice Ao27 y180.length co27] rfl (by (try simp only [List.map_toArray, List.map_cons, List.map_nil]); first | done | rfl | (simp only [List.length_drop, List.length_take]; rfl)) ?_; (with_reducible refine (spec_l15Rd_of.calls k1 g s0_0 t179 _ _ y180 t183 t184 w0 _ ?side1 ?side2 ?side3 ?side4 ?side5 A20.out).mono ?_); (case side1 => repeat (first | (with_reducible first | exact HI0.out | apply IsS101.alloc | apply IsS101.drewN | apply IsS101.drew | apply IsS101.set_1) | exact HI0.out)); (case side2 => repeat (first | (with_reducible first | exact HB.out | apply below_alloc | apply pw_below_drewN | apply below_drew1 | refine below_set ?_ (IsS101.ge HI0.out)) | exact HB.out)); (case side3 => repeat (first | exact (Kd.R_reads' HO182.out).2.2 | (with_reducible refine Kd.C_alloc ?_ _) | (with_reducible refine Kd.C_drewN ?_ _) | (with_reducible refine Kd.C_drew ?_))); (case side4 => exact (Kd.R_reads' HO182.out).2.1); (case side5 => exact far_slice (IsS101.own_ne HI0.out HO182.out (by decide))); rintro e w28 ⟨rfl, hi, hb, hk⟩; refine ⟨_, rfl, ?_⟩; have n0_ := Aside0.mk (Kd.R_mono (Kd.R_keep (IsS101.apart (show IsS101 w0 _ g s0_0 t179 from by repeat (first | (with_reducible first | exact HI0.out | apply IsS101.alloc | apply IsS101.drewN | apply IsS101.drew | apply IsS101.set_1) | exact HI0.out)) (by (with_reducible repeat (first|apply Kd.R_alloc|apply Kd.R_drewN|apply Kd.R_drew)); exact HO_3.out) (by decide)) hk (fun _ h => h.2)) (fun _ h => h.1)); have n1_ := Aside0.mk (Kd.R_mono (Kd.R_keep (IsS101.apart (show IsS101 w0 _ g s0_0 t179 from by repeat (first | (with_reducible first | exact HI0.out | apply IsS101.alloc | apply IsS101.drewN | apply IsS101.drew | apply IsS101.set_1) | exact HI0.out)) (by (with_reducible repeat (first|apply Kd.R_alloc|apply Kd.R_drewN|apply Kd.R_drew)); exact HO182.out) (by decide)) hk (fun _ h => h.2)) (fun _ h => h.1)); have n2_ := Aside0.mk (KeepBut.trans (by repeat (first | (with_reducible first | exact HK.out | apply KeepBut.set_ | apply keep_drewN | apply keep_drew | apply keep_alloc) | exact HK.out)) hk (.inl rfl)); have n3_ := Aside0.mk (hb); have n4_ := Aside0.mk (hi); clear HO_3; clear HO182; clear HK; clear HB; clear HI0; have HO_3 := n0_; have HO182 := n1_; have HK := n2_; have HB := n3_; have HI0 := n4_; clear n0_ n1_ n2_ n3_ n4_; (try clear hb); (try clear hb2); (try clear hk); (try clear hi); have p22 : 0 ≤ (0 : Int) := (by omega); have q22 : (0 : Int) < ((x3_1.length : Int) : Int) := of_decide_eq_true (by first|(with_reducible assumption)|assumption); have qi22 : (0 < x3_1.length) = True := eq_true (by omega); obtain ⟨go22, co22, eo22, gb22, gl22, cl22, HG22⟩ := Kd.R_form HO_3.out (by omega); (first | cases eo22 | (injection eo22 with ea_ en_ ec_; (first | subst ea_ | (injection ea_ with ea_; subst ea_)); subst ec_; clear en_)); have GB22 := Aside0.mk gb22; have GG22 := Aside0.mk HG22; clear gb22 gl22 HG22; obtain ⟨hx22_0, hf22_0⟩ := Kd.R_celln (⟨#[]⟩ : ByteArray) HO_3.out (0 : Int) p22 q22; (try rw [show ((0 : Int)).toNat = 0 from rfl] at hx22_0); (try simp only [Nat.reduceMul, Nat.zero_mul, Nat.zero_add, Nat.reduceAdd] at hx22_0); (try rw [show ((0 : Int)).toNat = 0 from rfl] at hf22_0); (try simp only [Nat.reduceMul, Nat.zero_mul, Nat.zero_add, Nat.reduceAdd] at hf22_0); replace p22 := eq_true p22; replace q22 := eq_true q22; have n_ := Aside0.mk (Kd.R_mono (ok' := (fun k_ => some k_ ≠ (.slice Ao27 y180.length co27 : Value).ownBlock)) HO_3.out (fun k_ hk => hk.2)); clear HO_3; have HO_3 := n_; clear n_; obtain ⟨hy29_, hz29_⟩ := Kd.R_celln (⟨#[]⟩ : ByteArray) HO_3.out (0 : Int) (by omega) (of_decide_eq_true (by first|(with_reducible assumption)|assumption)); (try simp only [Int.reduceToNat, Int.toNat_zero, Int.toNat_ofNat, Nat.reduceMul, Nat.zero_mul, Nat.zero_add] at hy29_ hz29_); (try rw [show ((0 : Int)).toNat = 0 from rfl] at hy29_); (try rw [show ((0 : Int)).toNat = 0 from rfl] at hz29_); have HP29 := Kd.R_putg HO_3.out (0 : Int) t183) | ((with_reducible refine gate_store (t := 9) (p := 31) rfl ?_); refine store_event (t := 9) (p := 31) (v := ?vo_w30) (w1 := (w28.setCell ⟨go22, (0 : Int).toNat, none⟩ (.string t183))) ?hg ?ho ?hn ?hr ?_; (case ho => rfl); (case hg => rfl); (case hn => rfl); (case hr => first | (go_simp; done) | (go_simp; rfl)); intro w30 hw; have hg : w28.grownBy w30 (some go22) := (by rw [hw]; exact HP29.2); have hp_ : Kd.R Kd.string 9 w30 w.heap.size (fun k_ => some k_ ≠ (.slice Ao27 y180.length co27 : Value).ownBlock) (.slice (some ⟨go22, 0, none⟩) x3_1.length co23) y185 := (by rw [hw, Ny185.out]; exact HP29.1); clear HP29; have n0_ := Aside0.mk (hp_); have n1_ := Aside0.mk (IsS101.grown (by repeat (first | (with_reducible first | exact HI0.out | apply IsS101.alloc | apply IsS101.drewN | apply IsS101.drew | apply IsS101.set_1) | exact HI0.out)) hg (IsS101.own_ne HI0.out HO_3.out (by decide))); have n2_ := Aside0.mk (Kd.R_after (v := (.slice (some ⟨go22, 0, none⟩) x3_1.length co23)) (v1 := (.slice (some ⟨go22, 0, none⟩) x3_1.length co23)) (ok := (fun _ => True)) (by (with_reducible repeat (first|apply Kd.R_alloc|apply Kd.R_drewN|apply Kd.R_drew)); exact HO182.out) hg (.inl rfl)); have n3_ := Aside0.mk ((by rw [hw]; exact below_set (HB.out) (Nat.le_trans HL.out GB22.out) : Below w0.heap.size w0 w30)); have n4_ := Aside0.mk (KeepBut.trans (by repeat (first | (with_reducible first | exact HK.out | apply KeepBut.set_ | apply keep_drewN | apply keep_drew | apply keep_alloc) | exact HK.out)) (KeepBut.of_grown hg g) (Kd.R_base2 HO_3.out)); clear HO_3; clear HI0; clear HO182; clear HB; clear HK; have HO_3 := n0_; have HI0 := n1_; have HO182 := n2_; have HB := n3_; have HK := n4_; clear n0_ n1_ n2_ n3_ n4_; clear hg hw hp_))
       go_ret
       exact ⟨_, by first | rfl | (simp [errW_none, errW_some] <;> rfl) | (simp [*, errW_none, errW_some] <;> rfl), by (with_reducible repeat (first|apply Kd.R_alloc|apply Kd.R_drewN|apply Kd.R_drew)); exact Kd.R_mono HO_3.out (fun _ hk => trivial), by repeat (first | (with_reducible first | exact HI0.out | apply IsS101.alloc | apply IsS101.drewN | apply IsS101.drew | apply IsS101.set_1) | exact HI0.out), by repeat (first | (with_reducible first | exact HB.out | apply below_alloc | apply pw_below_drewN | apply below_drew1 | refine below_set ?_ (IsS101.ge HI0.out)) | exact HB.out), by repeat (first | (with_reducible first | exact HK.out | apply KeepBut.set_ | apply keep_drewN | apply keep_drew | apply keep_alloc) | exact HK.out)⟩
      ·rw [if_neg c21] at H
       exact absurd H (by simp)
     ·rw [if_neg c19] at H
      have c19b0 : (t178 == 0) = false := beq_eq_false_iff_ne.mpr c19
      have c19b1 : (t178 != 0) = true := bne_iff_ne.mpr c19
      simp only [Option.some.injEq, Prod.mk.injEq] at H
      obtain ⟨rfl, rfl⟩ := H
      obtain ⟨Ao31, co31, eo31⟩ := Kd.R_slice HO_3.out
      subst eo31
      go_wp2_with (first | (go_at_call 81; (with_reducible refine (spec_l15Rd_pick.calls k1 g s0_0 x1001_1 20 t178 t179 w0 _ ?side1 ?side2 A18.out).mono ?_); (case side1 => repeat (first | (with_reducible first | exact HI0.out | apply IsS101.alloc | apply IsS101.drewN | apply IsS101.drew | apply IsS101.set_1) | exact HI0.out)); (case side2 => repeat (first | (with_reducible first | exact HB.out | apply below_alloc | apply pw_below_drewN | apply below_drew1 | refine below_set ?_ (IsS101.ge HI0.out)) | exact HB.out)); rintro e w32 ⟨rfl, hi, hb, hk⟩; have n0_ := Aside0.mk (Kd.R_mono (Kd.R_keep (IsS101.apart (show IsS101 w0 _ g s0_0 x1001_1 from by repeat (first | (with_reducible first | exact HI0.out | apply IsS101.alloc | apply IsS101.drewN | apply IsS101.drew | apply IsS101.set_1) | exact HI0.out)) (by (with_reducible repeat (first|apply Kd.R_alloc|apply Kd.R_drewN|apply Kd.R_drew)); exact HO_3.out) (by decide)) hk (fun _ h => h.2)) (fun _ h => h.1)); have n1_ := Aside0.mk (KeepBut.trans (by repeat (first | (with_reducible first | exact HK.out | apply KeepBut.set_ | apply keep_drewN | apply keep_drew | apply keep_alloc) | exact HK.out)) hk (.inl rfl)); have n2_ := Aside0.mk (hb); have n3_ := Aside0.mk (hi); clear HO_3; clear HK; clear HB; clear HI0; have HO_3 := n0_; have HK := n1_; have HB := n2_; have HI0 := n3_; clear n0_ n1_ n2_ n3_; (try clear hb); (try clear hb2); (try clear hk); (try clear hi)))
      go_ret
      exact ⟨_, by first | rfl | (simp [errW_none, errW_some] <;> rfl) | (simp [*, errW_none, errW_some] <;> rfl), by (with_reducible repeat (first|apply Kd.R_alloc|apply Kd.R_drewN|apply Kd.R_drew)); exact HO_3.out, by repeat (first | (with_reducible first | exact HI0.out | apply IsS101.alloc | apply IsS101.drewN | apply IsS101.drew | apply IsS101.set_1) | exact HI0.out), by repeat (first | (with_reducible first | exact HB.out | apply below_alloc | apply pw_below_drewN | apply below_drew1 | refine below_set ?_ (IsS101.ge HI0.out)) | exact HB.out), by repeat (first | (with_reducible first | exact HK.out | apply KeepBut.set_ | apply keep_drewN | apply keep_drew | apply keep_alloc) | exact HK.out)⟩
    ·rw [if_neg c17] at H
     have c17b0 : decide (0 < (x3_1.length : Int)) = false := decide_eq_false c17
     have c17b1 : decide (0 < x3_1.length) = false := decide_eq_false (by omega)
     clear c17
     simp only [Option.some.injEq, Prod.mk.injEq] at H
     obtain ⟨rfl, rfl⟩ := H
     obtain ⟨Ao33, co33, eo33⟩ := Kd.R_slice HO_3.out
     subst eo33
     go_wp2
     go_ret
     exact ⟨_, by first | rfl | (simp [errW_none, errW_some] <;> rfl) | (simp [*, errW_none, errW_some] <;> rfl), by (with_reducible repeat (first|apply Kd.R_alloc|apply Kd.R_drewN|apply Kd.R_drew)); exact HO_3.out, by repeat (first | (with_reducible first | exact HI0.out | apply IsS101.alloc | apply IsS101.drewN | apply IsS101.drew | apply IsS101.set_1) | exact HI0.out), by repeat (first | (with_reducible first | exact HB.out | apply below_alloc | apply pw_below_drewN | apply below_drew1 | refine below_set ?_ (IsS101.ge HI0.out)) | exact HB.out), by repeat (first | (with_reducible first | exact HK.out | apply KeepBut.set_ | apply keep_drewN | apply keep_drew | apply keep_alloc) | exact HK.out)⟩

/-! ### spec_DrawJustifyLine: function 37 -/
def spec_DrawJustifyLine.f (k : Nat) (l0 : List Int) : Option (List ByteArray × Int) := (spec_l15Open.f l0).bind fun bt186 => ((spec_l12Words.f k bt186.1 bt186.2).bind fun bt189 => (if (bt189.1.length : Int) > 4 then (if 4 ≤ (bt189.1.length : Int) then ((spec_l15Rd_num.f k bt186.1 bt189.2 (([20, 15, 12, 30, 18, 5, 201] : List Int))).bind fun bt199 => (some ((bt189.1.take (4 : Int).toNat), bt199.1))) else (none)) else ((spec_l15Rd_num.f k bt186.1 bt189.2 (([20, 15, 12, 30, 18, 5, 201] : List Int))).bind fun bt204 => (some (bt189.1, bt204.1)))))
theorem spec_DrawJustifyLine.mono : ∀ a0 k, LeO (spec_DrawJustifyLine.f k a0) (spec_DrawJustifyLine.f (k + 1) a0) := by
 intro a0 k
 unfold spec_DrawJustifyLine.f
 repeat' first
   | (with_reducible exact spec_l12Words.mono _ _ _)
   | (with_reducible exact spec_l15Rd_num.mono _ _ _ _)
   | (with_reducible exact LeO.refl _)
   | (with_reducible exact LeO.none _)
   | (with_reducible refine LeO.ite ?_ ?_)
   | (with_reducible refine LeO.bind ?_ (fun _ => ?_))
   | exact spec_l12Words.mono _ _ _
   | exact spec_l15Rd_num.mono _ _ _ _
   | exact LeO.none _
   | refine LeO.ite ?_ ?_
   | refine LeO.bind ?_ (fun _ => ?_)
set_option maxHeartbeats 8000000 in
set_option maxRecDepth 100000 in
theorem spec_DrawJustifyLine.calls (k : Nat) (A0 : Option Addr) (c0 : Nat) (l0 : List Int) (r1 : List ByteArray) (r2 : Int) (w : World) (hr0 : Kd.C (Kd.int .u8) w A0 l0.length l0) (hc0 : l0.length ≤ c0) (h : spec_DrawJustifyLine.f k l0 = some (r1, r2)) :
  Calls Try.prog 37 #[.slice A0 l0.length c0] w fun e w' => ∃ v0_ : Value, e = .returned (.tuple #[v0_, .int .i64 r2]) ∧ Kd.R Kd.string 9 w' w.heap.size (fun _ => True) v0_ r1 ∧ Below w.heap.size w w' := by
 have HR0 := Aside0.mk hr0
 have HC0 := Aside0.mk hc0
 clear hr0 hc0
 have HB := Aside0.mk (Below.refl w.heap.size w)
 have H : ((spec_l15Open.f l0).bind fun bt186 => ((spec_l12Words.f k bt186.1 bt186.2).bind fun bt189 => (if (bt189.1.length : Int) > 4 then (if 4 ≤ (bt189.1.length : Int) then ((spec_l15Rd_num.f k bt186.1 bt189.2 (([20, 15, 12, 30, 18, 5, 201] : List Int))).bind fun bt199 => (some ((bt189.1.take (4 : Int).toNat), bt199.1))) else (none)) else ((spec_l15Rd_num.f k bt186.1 bt189.2 (([20, 15, 12, 30, 18, 5, 201] : List Int))).bind fun bt204 => (some (bt189.1, bt204.1)))))) = some (r1, r2) := h
 clear h
 replace H := Option.bind_eq_some_iff.mp H
 obtain ⟨⟨t186, t187⟩, A20, H⟩ := H
 replace H : ((spec_l12Words.f k t186 t187).bind fun bt189 => (if (bt189.1.length : Int) > 4 then (if 4 ≤ (bt189.1.length : Int) then ((spec_l15Rd_num.f k t186 bt189.2 (([20, 15, 12, 30, 18, 5, 201] : List Int))).bind fun bt199 => (some ((bt189.1.take (4 : Int).toNat), bt199.1))) else (none)) else ((spec_l15Rd_num.f k t186 bt189.2 (([20, 15, 12, 30, 18, 5, 201] : List Int))).bind fun bt204 => (some (bt189.1, bt204.1))))) = some (r1, r2) := H
 have A2 := Aside0.mk A20
 clear A20
 replace H := Option.bind_eq_some_iff.mp H
 obtain ⟨⟨t189, t192⟩, A30, H⟩ := H
 replace H : (if (t189.length : Int) > 4 then (if 4 ≤ (t189.length : Int) then ((spec_l15Rd_num.f k t186 t192 (([20, 15, 12, 30, 18, 5, 201] : List Int))).bind fun bt199 => (some ((t189.take (4 : Int).toNat), bt199.1))) else (none)) else ((spec_l15Rd_num.f k t186 t192 (([20, 15, 12, 30, 18, 5, 201] : List Int))).bind fun bt204 => (some (t189, bt204.1)))) = some (r1, r2) := H
 have A3 := Aside0.mk A30
 clear A30
 by_cases c4 : (t189.length : Int) > 4
 ·rw [if_pos c4] at H
  have c4b0 : decide (4 < (t189.length : Int)) = true := decide_eq_true c4
  have c4b1 : decide (4 < t189.length) = true := decide_eq_true (by omega)
  clear c4
  by_cases c5 : 4 ≤ (t189.length : Int)
  ·rw [if_pos c5] at H
   have c5b0 := eq_true c5
   have c5b1 : decide (4 ≤ (t189.length : Int)) = true := decide_eq_true c5
   clear c5
   obtain ⟨y193, hy193⟩ : ∃ y_ : List ByteArray, y_ = (t189.take (4 : Int).toNat) := ⟨_, rfl⟩
   replace H : ((spec_l15Rd_num.f k t186 t192 (([20, 15, 12, 30, 18, 5, 201] : List Int))).bind fun bt199 => (some (y193, bt199.1))) = some (r1, r2) := by first | (rw [hy193]; with_reducible exact H) | (have H2_ := (Option.bind_some _ _).symm.trans H; rw [hy193]; with_reducible exact H2_) | (have H2_ := (Option.bind_some _ _).symm.trans H; with_reducible exact H2_) | with_reducible exact H | (rw [hy193]; exact H) | exact H
   have Ny193 := Aside0.mk hy193
   clear hy193
   obtain ⟨y196, hy196⟩ : ∃ y_ : List Int, y_ = (([20, 15, 12, 30, 18, 5, 201] : List Int)) := ⟨_, rfl⟩
   replace H : ((spec_l15Rd_num.f k t186 t192 y196).bind fun bt199 => (some (y193, bt199.1))) = some (r1, r2) := by first | (rw [hy196]; with_reducible exact H) | (have H2_ := (Option.bind_some _ _).symm.trans H; rw [hy196]; with_reducible exact H2_) | (have H2_ := (Option.bind_some _ _).symm.trans H; with_reducible exact H2_) | with_reducible exact H | (rw [hy196]; exact H) | exact H
   have Ny196 := Aside0.mk hy196
   clear hy196
   replace H := Option.bind_eq_some_iff.mp H
   obtain ⟨⟨t199, t200⟩, A60, H⟩ := H
   replace H : (some (y193, t199)) = some (r1, r2) := H
   have A6 := Aside0.mk A60
   clear A60
   simp only [Option.some.injEq, Prod.mk.injEq] at H
   obtain ⟨rfl, rfl⟩ := H
   go_enter Try.func37, Try.ntmps37
   go_wp2_with (first | ((with_reducible refine gate_callee (f := 62) rfl ?_); refine goesL_ (some 7) rfl rfl Try.func62 (by kernel_rfl) rfl #[.slice A0 l0.length c0] rfl (by (try simp only [List.map_toArray, List.map_cons, List.map_nil]); first | done | rfl | (simp only [List.length_drop, List.length_take]; rfl)) ?_; (with_reducible refine (spec_l15Open.calls _ _ l0 t186 t187 w _ ?side1 ?side2 ?side3 A2.out).mono ?_); (case side1 => repeat (first | (with_reducible first | exact HB.out | apply below_alloc | apply pw_below_drewN | apply below_drew1) | exact HB.out)); (case side2 => exact HR0.out); (case side3 => exact HC0.out); rintro e w7 ⟨g188, rfl, hi, hb, hb2⟩; refine ⟨_, rfl, ?_⟩; have n0_ := Aside0.mk (hb); have n1_ := Aside0.mk (hi); clear HB; have HB := n0_; have HI188 := n1_; clear n0_ n1_; (try clear hb); (try clear hb2); (try clear hk); (try clear hi)) | ((with_reducible refine gate_callee (f := 63) rfl ?_); refine goesL_ (some 9) rfl rfl Try.func63 (by kernel_rfl) rfl #[.pointer (some ⟨g188, 0, none⟩)] rfl (by (try simp only [List.map_toArray, List.map_cons, List.map_nil]); first | done | rfl | (simp only [List.length_drop, List.length_take]; rfl)) ?_; (with_reducible refine (spec_l12Words.calls k g188 t186 t187 t189 t192 w _ ?side1 ?side2 A3.out).mono ?_); (case side1 => repeat (first | (with_reducible first | exact HI188.out | apply IsS101.alloc | apply IsS101.drewN | apply IsS101.drew | apply IsS101.set_1) | exact HI188.out)); (case side2 => repeat (first | (with_reducible first | exact HB.out | apply below_alloc | apply pw_below_drewN | apply below_drew1 | refine below_set ?_ (IsS101.ge HI188.out)) | exact HB.out)); rintro e w8 ⟨v190, rfl, ho0, hi, hb, hk⟩; refine ⟨_, rfl, ?_⟩; have n0_ := Aside0.mk (Kd.R_lower ho0 (below_size (by repeat (first | (with_reducible first | exact HB.out | apply below_alloc | apply pw_below_drewN | apply below_drew1 | refine below_set ?_ (IsS101.ge HI188.out)) | exact HB.out)))); have n1_ := Aside0.mk (hb); have n2_ := Aside0.mk (hi); clear HB; clear HI188; have HO191 := n0_; have HB := n1_; have HI188 := n2_; clear n0_ n1_ n2_; (try clear hb); (try clear hb2); (try clear hk); (try clear hi); (try clear ho0); obtain ⟨Ao9, co9, eo9⟩ := Kd.R_slice HO191.out; subst eo9; have q10 : (4 : Int) ≤ ((t189.length : Int) : Int) := of_decide_eq_true (by first|(with_reducible assumption)|assumption); obtain ⟨i010, hi010, _, hsz10, _⟩ := info_parts info9; have hcut10 := cut_to (P := Try.prog) 39 9 .i64 Try.underlying39 hi010 Ao9 t189.length co9 4 (by omega) q10 (Kd.R_reads' HO191.out).2.1; have hr10 := Kd.R_take (m := (4 : Int).toNat) HO191.out (by omega); have hy10 : y193.length = (4 : Int).toNat := (by rw [Ny193.out, List.length_take]; omega); rw [← Ny193.out] at hr10; rw [← hy10] at hr10 hcut10; clear hy10 hi010 hsz10 HO191; have HO195 := Aside0.mk hr10; clear hr10; replace q10 := eq_true q10) | ((with_reducible refine gate_dst (N := 17) rfl ?_); refine Kd.R_lit (Kd.int .i64) _ 3 ?hg (N := 17) ?hd (xs := ([20, 15, 12, 30, 18, 5, 201] : List Int)) (inner := [.int .i64 20, .int .i64 15, .int .i64 12, .int .i64 30, .int .i64 18, .int .i64 5, .int .i64 201]) (ok := fun _ => True) (okp := fun _ => True) ?hr ?hp (fun _ hk => hk) trivial (Below.refl _ _) (Nat.le_refl _) (by simp) ?_; (case hd => rfl); (case hg => rfl); (case hr => first | (go_simp; done) | (go_simp; rfl)); (case hp => exact (Reps.one (show Kd.M (Kd.int .i64) _ _ _ 20 [.int .i64 20] from rfl) (Reps.one (show Kd.M (Kd.int .i64) _ _ _ 15 [.int .i64 15] from rfl) (Reps.one (show Kd.M (Kd.int .i64) _ _ _ 12 [.int .i64 12] from rfl) (Reps.one (show Kd.M (Kd.int .i64) _ _ _ 30 [.int .i64 30] from rfl) (Reps.one (show Kd.M (Kd.int .i64) _ _ _ 18 [.int .i64 18] from rfl) (Reps.one (show Kd.M (Kd.int .i64) _ _ _ 5 [.int .i64 5] from rfl) (Reps.one (show Kd.M (Kd.int .i64) _ _ _ 201 [.int .i64 201] from rfl) (Reps.none _ _))))))))); intro v197 w11 ho12 hb hg_ hnew_; clear hg_ hnew_; (first | rw [← Ny196.out] at ho12 | (simp only [Int.reduceToNat] at ho12; rw [← Ny196.out] at ho12)); have n0_ := Aside0.mk (Kd.R_below (by (with_reducible repeat (first|apply Kd.R_alloc|apply Kd.R_drewN|apply Kd.R_drew)); exact HO195.out) hb); have n1_ := Aside0.mk (Kd.R_lower ho12 (below_size (by repeat (first | (with_reducible first | exact HB.out | apply below_alloc | apply pw_below_drewN | apply below_drew1 | refine below_set ?_ (IsS101.ge HI188.out)) | exact HB.out)))); have n2_ := Aside0.mk (IsS101.below (by repeat (first | (with_reducible first | exact HI188.out | apply IsS101.alloc | apply IsS101.drewN | apply IsS101.drew | apply IsS101.set_1) | exact HI188.out)) hb); have n3_ := Aside0.mk (below_step (by repeat (first | (with_reducible first | exact HB.out | apply below_alloc | apply pw_below_drewN | apply below_drew1 | refine below_set ?_ (IsS101.ge HI188.out)) | exact HB.out)) hb); clear HO195; clear HI188; clear HB; have HO195 := n0_; have HO198 := n1_; have HI188 := n2_; have HB := n3_; clear n0_ n1_ n2_ n3_; clear hb ho12; obtain ⟨Ao13, co13, eo13⟩ := Kd.R_slice HO198.out; subst eo13) | ((with_reducible refine gate_callee (f := 64) rfl ?_); refine goesL_ (some 18) rfl rfl Try.func64 (by kernel_rfl) rfl #[.pointer (some ⟨g188, 0, none⟩), .slice Ao13 y196.length co13] rfl (by (try simp only [List.map_toArray, List.map_cons, List.map_nil]); first | done | rfl | (simp only [List.length_drop, List.length_take]; rfl)) ?_; (with_reducible refine (spec_l15Rd_num.calls k g188 t186 t192 _ _ y196 t199 t200 w _ ?side1 ?side2 ?side3 ?side4 ?side5 A6.out).mono ?_); (case side1 => repeat (first | (with_reducible first | exact HI188.out | apply IsS101.alloc | apply IsS101.drewN | apply IsS101.drew | apply IsS101.set_1) | exact HI188.out)); (case side2 => repeat (first | (with_reducible first | exact HB.out | apply below_alloc | apply pw_below_drewN | apply below_drew1 | refine below_set ?_ (IsS101.ge HI188.out)) | exact HB.out)); (case side3 => repeat (first | exact (Kd.R_reads' HO198.out).2.2 | (with_reducible refine Kd.C_alloc ?_ _) | (with_reducible refine Kd.C_drewN ?_ _) | (with_reducible refine Kd.C_drew ?_))); (case side4 => exact (Kd.R_reads' HO198.out).2.1); (case side5 => exact far_slice (IsS101.own_ne HI188.out HO198.out (by decide))); rintro e w14 ⟨rfl, hi, hb, hk⟩; refine ⟨_, rfl, ?_⟩; have n0_ := Aside0.mk (Kd.R_mono (Kd.R_keep (IsS101.apart (show IsS101 w _ g188 t186 t192 from by repeat (first | (with_reducible first | exact HI188.out | apply IsS101.alloc | apply IsS101.drewN | apply IsS101.drew | apply IsS101.set_1) | exact HI188.out)) (by (with_reducible repeat (first|apply Kd.R_alloc|apply Kd.R_drewN|apply Kd.R_drew)); exact HO195.out) (by decide)) hk (fun _ h => h.2)) (fun _ h => h.1)); have n1_ := Aside0.mk (Kd.R_mono (Kd.R_keep (IsS101.apart (show IsS101 w _ g188 t186 t192 from by repeat (first | (with_reducible first | exact HI188.out | apply IsS101.alloc | apply IsS101.drewN | apply IsS101.drew | apply IsS101.set_1) | exact HI188.out)) (by (with_reducible repeat (first|apply Kd.R_alloc|apply Kd.R_drewN|apply Kd.R_drew)); exact HO198.out) (by decide)) hk (fun _ h => h.2)) (fun _ h => h.1)); have n2_ := Aside0.mk (hb); have n3_ := Aside0.mk (hi); clear HO195; clear HO198; clear HB; clear HI188; have HO195 := n0_; have HO198 := n1_; have HB := n2_; have HI188 := n3_; clear n0_ n1_ n2_ n3_; (try clear hb); (try clear hb2); (try clear hk); (try clear hi)))
   go_ret2
   exact ⟨_, by first | rfl | (simp [errW_none, errW_some] <;> rfl) | (simp [*, errW_none, errW_some] <;> rfl), by (with_reducible repeat (first|apply Kd.R_alloc|apply Kd.R_drewN|apply Kd.R_drew)); exact HO195.out, by repeat (first | (with_reducible first | exact HB.out | apply below_alloc | apply pw_below_drewN | apply below_drew1 | refine below_set ?_ (IsS101.ge HI188.out)) | exact HB.out)⟩
  ·rw [if_neg c5] at H
   exact absurd H (by simp)
 ·rw [if_neg c4] at H
  have c4b0 : decide (4 < (t189.length : Int)) = false := decide_eq_false c4
  have c4b1 : decide (4 < t189.length) = false := decide_eq_false (by omega)
  clear c4
  obtain ⟨y201, hy201⟩ : ∃ y_ : List Int, y_ = (([20, 15, 12, 30, 18, 5, 201] : List Int)) := ⟨_, rfl⟩
  replace H : ((spec_l15Rd_num.f k t186 t192 y201).bind fun bt204 => (some (t189, bt204.1))) = some (r1, r2) := by first | (rw [hy201]; with_reducible exact H) | (have H2_ := (Option.bind_some _ _).symm.trans H; rw [hy201]; with_reducible exact H2_) | (have H2_ := (Option.bind_some _ _).symm.trans H; with_reducible exact H2_) | with_reducible exact H | (rw [hy201]; exact H) | exact H
  have Ny201 := Aside0.mk hy201
  clear hy201
  replace H := Option.bind_eq_some_iff.mp H
  obtain ⟨⟨t204, t205⟩, A150, H⟩ := H
  replace H : (some (t189, t204)) = some (r1, r2) := H
  have A15 := Aside0.mk A150
  clear A150
  simp only [Option.some.injEq, Prod.mk.injEq] at H
  obtain ⟨rfl, rfl⟩ := H
  go_enter Try.func37, Try.ntmps37
  go_wp2_with (first | ((with_reducible refine gate_callee (f := 62) rfl ?_); refine goesL_ (some 7) rfl rfl Try.func62 (by kernel_rfl) rfl #[.slice A0 l0.length c0] rfl (by (try simp only [List.map_toArray, List.map_cons, List.map_nil]); first | done | rfl | (simp only [List.length_drop, List.length_take]; rfl)) ?_; (with_reducible refine (spec_l15Open.calls _ _ l0 t186 t187 w _ ?side1 ?side2 ?side3 A2.out).mono ?_); (case side1 => repeat (first | (with_reducible first | exact HB.out | apply below_alloc | apply pw_below_drewN | apply below_drew1) | exact HB.out)); (case side2 => exact HR0.out); (case side3 => exact HC0.out); rintro e w16 ⟨g188, rfl, hi, hb, hb2⟩; refine ⟨_, rfl, ?_⟩; have n0_ := Aside0.mk (hb); have n1_ := Aside0.mk (hi); clear HB; have HB := n0_; have HI188 := n1_; clear n0_ n1_; (try clear hb); (try clear hb2); (try clear hk); (try clear hi)) | ((with_reducible refine gate_callee (f := 63) rfl ?_); refine goesL_ (some 9) rfl rfl Try.func63 (by kernel_rfl) rfl #[.pointer (some ⟨g188, 0, none⟩)] rfl (by (try simp only [List.map_toArray, List.map_cons, List.map_nil]); first | done | rfl | (simp only [List.length_drop, List.length_take]; rfl)) ?_; (with_reducible refine (spec_l12Words.calls k g188 t186 t187 t189 t192 w _ ?side1 ?side2 A3.out).mono ?_); (case side1 => repeat (first | (with_reducible first | exact HI188.out | apply IsS101.alloc | apply IsS101.drewN | apply IsS101.drew | apply IsS101.set_1) | exact HI188.out)); (case side2 => repeat (first | (with_reducible first | exact HB.out | apply below_alloc | apply pw_below_drewN | apply below_drew1 | refine below_set ?_ (IsS101.ge HI188.out)) | exact HB.out)); rintro e w17 ⟨v190, rfl, ho0, hi, hb, hk⟩; refine ⟨_, rfl, ?_⟩; have n0_ := Aside0.mk (Kd.R_lower ho0 (below_size (by repeat (first | (with_reducible first | exact HB.out | apply below_alloc | apply pw_below_drewN | apply below_drew1 | refine below_set ?_ (IsS101.ge HI188.out)) | exact HB.out)))); have n1_ := Aside0.mk (hb); have n2_ := Aside0.mk (hi); clear HB; clear HI188; have HO191 := n0_; have HB := n1_; have HI188 := n2_; clear n0_ n1_ n2_; (try clear hb); (try clear hb2); (try clear hk); (try clear hi); (try clear ho0); obtain ⟨Ao18, co18, eo18⟩ := Kd.R_slice HO191.out; subst eo18) | ((with_reducible refine gate_dst (N := 17) rfl ?_); refine Kd.R_lit (Kd.int .i64) _ 3 ?hg (N := 17) ?hd (xs := ([20, 15, 12, 30, 18, 5, 201] : List Int)) (inner := [.int .i64 20, .int .i64 15, .int .i64 12, .int .i64 30, .int .i64 18, .int .i64 5, .int .i64 201]) (ok := fun _ => True) (okp := fun _ => True) ?hr ?hp (fun _ hk => hk) trivial (Below.refl _ _) (Nat.le_refl _) (by simp) ?_; (case hd => rfl); (case hg => rfl); (case hr => first | (go_simp; done) | (go_simp; rfl)); (case hp => exact (Reps.one (show Kd.M (Kd.int .i64) _ _ _ 20 [.int .i64 20] from rfl) (Reps.one (show Kd.M (Kd.int .i64) _ _ _ 15 [.int .i64 15] from rfl) (Reps.one (show Kd.M (Kd.int .i64) _ _ _ 12 [.int .i64 12] from rfl) (Reps.one (show Kd.M (Kd.int .i64) _ _ _ 30 [.int .i64 30] from rfl) (Reps.one (show Kd.M (Kd.int .i64) _ _ _ 18 [.int .i64 18] from rfl) (Reps.one (show Kd.M (Kd.int .i64) _ _ _ 5 [.int .i64 5] from rfl) (Reps.one (show Kd.M (Kd.int .i64) _ _ _ 201 [.int .i64 201] from rfl) (Reps.none _ _))))))))); intro v202 w19 ho20 hb hg_ hnew_; clear hg_ hnew_; (first | rw [← Ny201.out] at ho20 | (simp only [Int.reduceToNat] at ho20; rw [← Ny201.out] at ho20)); have n0_ := Aside0.mk (Kd.R_below (by (with_reducible repeat (first|apply Kd.R_alloc|apply Kd.R_drewN|apply Kd.R_drew)); exact HO191.out) hb); have n1_ := Aside0.mk (Kd.R_lower ho20 (below_size (by repeat (first | (with_reducible first | exact HB.out | apply below_alloc | apply pw_below_drewN | apply below_drew1 | refine below_set ?_ (IsS101.ge HI188.out)) | exact HB.out)))); have n2_ := Aside0.mk (IsS101.below (by repeat (first | (with_reducible first | exact HI188.out | apply IsS101.alloc | apply IsS101.drewN | apply IsS101.drew | apply IsS101.set_1) | exact HI188.out)) hb); have n3_ := Aside0.mk (below_step (by repeat (first | (with_reducible first | exact HB.out | apply below_alloc | apply pw_below_drewN | apply below_drew1 | refine below_set ?_ (IsS101.ge HI188.out)) | exact HB.out)) hb); clear HO191; clear HI188; clear HB; have HO191 := n0_; have HO203 := n1_; have HI188 := n2_; have HB := n3_; clear n0_ n1_ n2_ n3_; clear hb ho20; obtain ⟨Ao21, co21, eo21⟩ := Kd.R_slice HO203.out; subst eo21) | ((with_reducible refine gate_callee (f := 64) rfl ?_); refine goesL_ (some 18) rfl rfl Try.func64 (by kernel_rfl) rfl #[.pointer (some ⟨g188, 0, none⟩), .slice Ao21 y201.length co21] rfl (by (try simp only [List.map_toArray, List.map_cons, List.map_nil]); first | done | rfl | (simp only [List.length_drop, List.length_take]; rfl)) ?_; (with_reducible refine (spec_l15Rd_num.calls k g188 t186 t192 _ _ y201 t204 t205 w _ ?side1 ?side2 ?side3 ?side4 ?side5 A15.out).mono ?_); (case side1 => repeat (first | (with_reducible first | exact HI188.out | apply IsS101.alloc | apply IsS101.drewN | apply IsS101.drew | apply IsS101.set_1) | exact HI188.out)); (case side2 => repeat (first | (with_reducible first | exact HB.out | apply below_alloc | apply pw_below_drewN | apply below_drew1 | refine below_set ?_ (IsS101.ge HI188.out)) | exact HB.out)); (case side3 => repeat (first | exact (Kd.R_reads' HO203.out).2.2 | (with_reducible refine Kd.C_alloc ?_ _) | (with_reducible refine Kd.C_drewN ?_ _) | (with_reducible refine Kd.C_drew ?_))); (case side4 => exact (Kd.R_reads' HO203.out).2.1); (case side5 => exact far_slice (IsS101.own_ne HI188.out HO203.out (by decide))); rintro e w22 ⟨rfl, hi, hb, hk⟩; refine ⟨_, rfl, ?_⟩; have n0_ := Aside0.mk (Kd.R_mono (Kd.R_keep (IsS101.apart (show IsS101 w _ g188 t186 t192 from by repeat (first | (with_reducible first | exact HI188.out | apply IsS101.alloc | apply IsS101.drewN | apply IsS101.drew | apply IsS101.set_1) | exact HI188.out)) (by (with_reducible repeat (first|apply Kd.R_alloc|apply Kd.R_drewN|apply Kd.R_drew)); exact HO191.out) (by decide)) hk (fun _ h => h.2)) (fun _ h => h.1)); have n1_ := Aside0.mk (Kd.R_mono (Kd.R_keep (IsS101.apart (show IsS101 w _ g188 t186 t192 from by repeat (first | (with_reducible first | exact HI188.out | apply IsS101.alloc | apply IsS101.drewN | apply IsS101.drew | apply IsS101.set_1) | exact HI188.out)) (by (with_reducible repeat (first|apply Kd.R_alloc|apply Kd.R_drewN|apply Kd.R_drew)); exact HO203.out) (by decide)) hk (fun _ h => h.2)) (fun _ h => h.1)); have n2_ := Aside0.mk (hb); have n3_ := Aside0.mk (hi); clear HO191; clear HO203; clear HB; clear HI188; have HO191 := n0_; have HO203 := n1_; have HB := n2_; have HI188 := n3_; clear n0_ n1_ n2_ n3_; (try clear hb); (try clear hb2); (try clear hk); (try clear hi)))
  go_ret2
  exact ⟨_, by first | rfl | (simp [errW_none, errW_some] <;> rfl) | (simp [*, errW_none, errW_some] <;> rfl), by (with_reducible repeat (first|apply Kd.R_alloc|apply Kd.R_drewN|apply Kd.R_drew)); exact HO191.out, by repeat (first | (with_reducible first | exact HB.out | apply below_alloc | apply pw_below_drewN | apply below_drew1 | refine below_set ?_ (IsS101.ge HI188.out)) | exact HB.out)⟩

/-! ### laws_FnJustifyEven: function 10 -/
mutual
def laws_FnJustifyEven.j0 : Nat → ByteArray → Bool → ByteArray → Bool → Bool → Option (Bool)
 | 0, _, _, _, _, _ => none
 | k + 1, x5, x6, x7, x8, x44 => if x44 = true then (if x5.toList = x7.toList then (some (x6 == x8)) else (some false)) else (laws_FnJustifyEven.l0 k x5 (x5.size : Int) 0 0 0)
def laws_FnJustifyEven.l0 : Nat → ByteArray → Int → Int → Int → Int → Option (Bool)
 | 0, _, _, _, _, _ => none
 | k + 1, x5, x9, x10, x11, x12 => if x12 < (x5.size : Int) then (if 0 ≤ x12 then (if (bt x5 x12) = 32 then (laws_FnJustifyEven.l0 k x5 x9 x10 (wrap64 (x11 + 1)) (wrap64 (x12 + 1))) else (if x11 > 0 then (laws_FnJustifyEven.j2 k x5 x9 x10 x11 x12 (decide (x11 < x9))) else (laws_FnJustifyEven.j2 k x5 x9 x10 x11 x12 false))) else (none)) else (if (wrap64 (x10 - x9)) ≤ 1 then (some (decide (x9 ≥ 1))) else (some false))
def laws_FnJustifyEven.j2 : Nat → ByteArray → Int → Int → Int → Int → Bool → Option (Bool)
 | 0, _, _, _, _, _, _ => none
 | k + 1, x5, x9, x10, x11, x12, x73 => if x73 = true then (if x11 > x10 then (laws_FnJustifyEven.l0 k x5 x11 x11 0 (wrap64 (x12 + 1))) else (laws_FnJustifyEven.l0 k x5 x11 x10 0 (wrap64 (x12 + 1)))) else (if x11 > x10 then (laws_FnJustifyEven.l0 k x5 x9 x11 0 (wrap64 (x12 + 1))) else (laws_FnJustifyEven.l0 k x5 x9 x10 0 (wrap64 (x12 + 1))))
end
def laws_FnJustifyEven.f (k : Nat) (l0 : List Int) : Option (Bool) := if (l0.length : Int) > 1048576 then (some true) else ((spec_DrawJustifyLine.f k l0).bind fun bt206 => ((impl_JustifyLine.f k bt206.1 bt206.2).bind fun bt210 => ((spec_JustifyLine.f k bt206.1 bt206.2).bind fun bt212 => (if bt210.1.toList = bt212.1.toList then (if (bt210.2 != bt212.2) = true then (laws_FnJustifyEven.j0 k bt210.1 bt210.2 bt212.1 bt212.2 true) else (laws_FnJustifyEven.j0 k bt210.1 bt210.2 bt212.1 bt212.2 (!bt210.2))) else (laws_FnJustifyEven.j0 k bt210.1 bt210.2 bt212.1 bt212.2 true)))))
theorem laws_FnJustifyEven.mono_l : ∀ k, (∀ y0 y1 y2 y3 y4, LeO (laws_FnJustifyEven.j0 k y0 y1 y2 y3 y4) (laws_FnJustifyEven.j0 (k + 1) y0 y1 y2 y3 y4)) ∧ (∀ y0 y1 y2 y3 y4, LeO (laws_FnJustifyEven.l0 k y0 y1 y2 y3 y4) (laws_FnJustifyEven.l0 (k + 1) y0 y1 y2 y3 y4)) ∧ (∀ y0 y1 y2 y3 y4 y5, LeO (laws_FnJustifyEven.j2 k y0 y1 y2 y3 y4 y5) (laws_FnJustifyEven.j2 (k + 1) y0 y1 y2 y3 y4 y5))
 | 0 => ⟨fun _ _ _ _ _ r h => by simp [laws_FnJustifyEven.j0] at h, fun _ _ _ _ _ r h => by simp [laws_FnJustifyEven.l0] at h, fun _ _ _ _ _ _ r h => by simp [laws_FnJustifyEven.j2] at h⟩
 | k + 1 => by
  obtain ⟨ih0, ih1, ih2⟩ := laws_FnJustifyEven.mono_l k
  refine ⟨?_, ?_, ?_⟩
  ·intro y0 y1 y2 y3 y4
   unfold laws_FnJustifyEven.j0
   repeat' first
   | (with_reducible exact ih0 _ _ _ _ _)
   | (with_reducible exact ih1 _ _ _ _ _)
   | (with_reducible exact ih2 _ _ _ _ _ _)
   | (with_reducible exact impl_JustifyLine.mono _ _ _)
   | (with_reducible exact spec_DrawJustifyLine.mono _ _)
   | (with_reducible exact spec_JustifyLine.mono _ _ _)
   | (with_reducible exact LeO.refl _)
   | (with_reducible exact LeO.none _)
   | (with_reducible refine LeO.ite ?_ ?_)
   | (with_reducible refine LeO.bind ?_ (fun _ => ?_))
   | exact ih0 _ _ _ _ _
   | exact ih1 _ _ _ _ _
   | exact ih2 _ _ _ _ _ _
   | exact impl_JustifyLine.mono _ _ _
   | exact spec_DrawJustifyLine.mono _ _
   | exact spec_JustifyLine.mono _ _ _
   | exact LeO.none _
   | refine LeO.ite ?_ ?_
   | refine LeO.bind ?_ (fun _ => ?_)
  ·intro y0 y1 y2 y3 y4
   unfold laws_FnJustifyEven.l0
   repeat' first
   | (with_reducible exact ih0 _ _ _ _ _)
   | (with_reducible exact ih1 _ _ _ _ _)
   | (with_reducible exact ih2 _ _ _ _ _ _)
   | (with_reducible exact impl_JustifyLine.mono _ _ _)
   | (with_reducible exact spec_DrawJustifyLine.mono _ _)
   | (with_reducible exact spec_JustifyLine.mono _ _ _)
   | (with_reducible exact LeO.refl _)
   | (with_reducible exact LeO.none _)
   | (with_reducible refine LeO.ite ?_ ?_)
   | (with_reducible refine LeO.bind ?_ (fun _ => ?_))
   | exact ih0 _ _ _ _ _
   | exact ih1 _ _ _ _ _
   | exact ih2 _ _ _ _ _ _
   | exact impl_JustifyLine.mono _ _ _
   | exact spec_DrawJustifyLine.mono _ _
   | exact spec_JustifyLine.mono _ _ _
   | exact LeO.none _
   | refine LeO.ite ?_ ?_
   | refine LeO.bind ?_ (fun _ => ?_)
  ·intro y0 y1 y2 y3 y4 y5
   unfold laws_FnJustifyEven.j2
   repeat' first
   | (with_reducible exact ih0 _ _ _ _ _)
   | (with_reducible exact ih1 _ _ _ _ _)
   | (with_reducible exact ih2 _ _ _ _ _ _)
   | (with_reducible exact impl_JustifyLine.mono _ _ _)
   | (with_reducible exact spec_DrawJustifyLine.mono _ _)
   | (with_reducible exact spec_JustifyLine.mono _ _ _)
   | (with_reducible exact LeO.refl _)
   | (with_reducible exact LeO.none _)
   | (with_reducible refine LeO.ite ?_ ?_)
   | (with_reducible refine LeO.bind ?_ (fun _ => ?_))
   | exact ih0 _ _ _ _ _
   | exact ih1 _ _ _ _ _
   | exact ih2 _ _ _ _ _ _
   | exact impl_JustifyLine.mono _ _ _
   | exact spec_DrawJustifyLine.mono _ _
   | exact spec_JustifyLine.mono _ _ _
   | exact LeO.none _
   | refine LeO.ite ?_ ?_
   | refine LeO.bind ?_ (fun _ => ?_)
theorem laws_FnJustifyEven.mono : ∀ a0 k, LeO (laws_FnJustifyEven.f k a0) (laws_FnJustifyEven.f (k + 1) a0) := by
 intro a0 k
 obtain ⟨ih0, ih1, ih2⟩ := laws_FnJustifyEven.mono_l k
 unfold laws_FnJustifyEven.f
 repeat' first
   | (with_reducible exact ih0 _ _ _ _ _)
   | (with_reducible exact ih1 _ _ _ _ _)
   | (with_reducible exact ih2 _ _ _ _ _ _)
   | (with_reducible exact impl_JustifyLine.mono _ _ _)
   | (with_reducible exact spec_DrawJustifyLine.mono _ _)
   | (with_reducible exact spec_JustifyLine.mono _ _ _)
   | (with_reducible exact LeO.refl _)
   | (with_reducible exact LeO.none _)
   | (with_reducible refine LeO.ite ?_ ?_)
   | (with_reducible refine LeO.bind ?_ (fun _ => ?_))
   | exact ih0 _ _ _ _ _
   | exact ih1 _ _ _ _ _
   | exact ih2 _ _ _ _ _ _
   | exact impl_JustifyLine.mono _ _ _
   | exact spec_DrawJustifyLine.mono _ _
   | exact spec_JustifyLine.mono _ _ _
   | exact LeO.none _
   | refine LeO.ite ?_ ?_
   | refine LeO.bind ?_ (fun _ => ?_)
set_option maxHeartbeats 8000000 in
set_option maxRecDepth 100000 in
theorem laws_FnJustifyEven.calls (k : Nat) (A0 : Option Addr) (c0 : Nat) (l0 : List Int) (r : Bool) (w : World) (hr0 : Kd.C (Kd.int .u8) w A0 l0.length l0) (hc0 : l0.length ≤ c0) (h : laws_FnJustifyEven.f k l0 = some r) :
  Calls Try.prog 10 #[.slice A0 l0.length c0] w fun e w' => e = .returned (.bool r) ∧ Below w.heap.size w w' := by
 have HR0 := Aside0.mk hr0
 have HC0 := Aside0.mk hc0
 clear hr0 hc0
 have HB := Aside0.mk (Below.refl w.heap.size w)
 have H : (if (l0.length : Int) > 1048576 then (some true) else ((spec_DrawJustifyLine.f k l0).bind fun bt206 => ((impl_JustifyLine.f k bt206.1 bt206.2).bind fun bt210 => ((spec_JustifyLine.f k bt206.1 bt206.2).bind fun bt212 => (if bt210.1.toList = bt212.1.toList then (if (bt210.2 != bt212.2) = true then (laws_FnJustifyEven.j0 k bt210.1 bt210.2 bt212.1 bt212.2 true) else (laws_FnJustifyEven.j0 k bt210.1 bt210.2 bt212.1 bt212.2 (!bt210.2))) else (laws_FnJustifyEven.j0 k bt210.1 bt210.2 bt212.1 bt212.2 true)))))) = some r := h
 clear h
 by_cases c2 : (l0.length : Int) > 1048576
 ·rw [if_pos c2] at H
  have c2b0 : decide (1048576 < (l0.length : Int)) = true := decide_eq_true c2
  have c2b1 : decide (1048576 < l0.length) = true := decide_eq_true (by omega)
  clear c2
  obtain rfl := Option.some.inj H
  go_enter Try.func10, Try.ntmps10
  go_wp2
  go_ret
  exact ⟨by first | rfl | (simp [errW_none, errW_some] <;> rfl) | (simp [*, errW_none, errW_some] <;> rfl), by repeat (first|(with_reducible first|exact HB.out|apply below_alloc|apply pw_below_drewN|apply below_drew1)|exact HB.out)⟩
 ·rw [if_neg c2] at H
  have c2b0 : decide (1048576 < (l0.length : Int)) = false := decide_eq_false c2
  have c2b1 : decide (1048576 < l0.length) = false := decide_eq_false (by omega)
  clear c2
  replace H := Option.bind_eq_some_iff.mp H
  obtain ⟨⟨t206, t207⟩, A30, H⟩ := H
  replace H : ((impl_JustifyLine.f k t206 t207).bind fun bt210 => ((spec_JustifyLine.f k t206 t207).bind fun bt212 => (if bt210.1.toList = bt212.1.toList then (if (bt210.2 != bt212.2) = true then (laws_FnJustifyEven.j0 k bt210.1 bt210.2 bt212.1 bt212.2 true) else (laws_FnJustifyEven.j0 k bt210.1 bt210.2 bt212.1 bt212.2 (!bt210.2))) else (laws_FnJustifyEven.j0 k bt210.1 bt210.2 bt212.1 bt212.2 true)))) = some r := H
  have A3 := Aside0.mk A30
  clear A30
  replace H := Option.bind_eq_some_iff.mp H
  obtain ⟨⟨t210, t211⟩, A40, H⟩ := H
  replace H : ((spec_JustifyLine.f k t206 t207).bind fun bt212 => (if t210.toList = bt212.1.toList then (if (t211 != bt212.2) = true then (laws_FnJustifyEven.j0 k t210 t211 bt212.1 bt212.2 true) else (laws_FnJustifyEven.j0 k t210 t211 bt212.1 bt212.2 (!t211))) else (laws_FnJustifyEven.j0 k t210 t211 bt212.1 bt212.2 true))) = some r := H
  have A4 := Aside0.mk A40
  clear A40
  replace H := Option.bind_eq_some_iff.mp H
  obtain ⟨⟨t212, t213⟩, A50, H⟩ := H
  replace H : (if t210.toList = t212.toList then (if (t211 != t213) = true then (laws_FnJustifyEven.j0 k t210 t211 t212 t213 true) else (laws_FnJustifyEven.j0 k t210 t211 t212 t213 (!t211))) else (laws_FnJustifyEven.j0 k t210 t211 t212 t213 true)) = some r := H
  have A5 := Aside0.mk A50
  clear A50
  have HC6 := Aside0.mk H
  clear H
  go_enter Try.func10, Try.ntmps10
  go_upto_region 6 with (first | ((with_reducible refine gate_callee (f := 37) rfl ?_); refine goesL_ (some 18) rfl rfl Try.func37 (by kernel_rfl) rfl #[.slice A0 l0.length c0] rfl (by (try simp only [List.map_toArray, List.map_cons, List.map_nil]); first | done | rfl | (simp only [List.length_drop, List.length_take]; rfl)) ?_; (with_reducible refine (spec_DrawJustifyLine.calls k _ _ l0 t206 t207 _ ?side1 ?side2 A3.out).mono ?_); (case side1 => repeat (first | exact HR0.out | (with_reducible refine Kd.C_alloc ?_ _) | (with_reducible refine Kd.C_drewN ?_ _) | (with_reducible refine Kd.C_drew ?_))); (case side2 => exact HC0.out); rintro e w7 ⟨v208, rfl, ho0, hb⟩; refine ⟨_, rfl, ?_⟩; have n0_ := Aside0.mk (Kd.R_lower ho0 (below_size (by repeat (first|(with_reducible first|exact HB.out|apply below_alloc|apply pw_below_drewN|apply below_drew1)|exact HB.out)))); have n1_ := Aside0.mk (below_step (by repeat (first|(with_reducible first|exact HB.out|apply below_alloc|apply pw_below_drewN|apply below_drew1)|exact HB.out)) hb); clear HB; have HO209 := n0_; have HB := n1_; clear n0_ n1_; (try clear hb); (try clear hb2); (try clear hk); (try clear hi); (try clear ho0); obtain ⟨Ao8, co8, eo8⟩ := Kd.R_slice HO209.out; subst eo8) | ((with_reducible refine gate_callee (f := 36) rfl ?_); refine goesL_ (some 24) rfl rfl Try.func36 (by kernel_rfl) rfl #[.slice Ao8 t206.length co8, .int .i64 t207] rfl (by (try simp only [List.map_toArray, List.map_cons, List.map_nil]); first | done | rfl | (simp only [List.length_drop, List.length_take]; rfl)) ?_; (with_reducible refine (impl_JustifyLine.calls k _ _ t206 t207 t210 t211 _ ?side1 ?side2 A4.out).mono ?_); (case side1 => repeat (first | exact (Kd.R_reads' HO209.out).2.2 | (with_reducible refine Kd.C_alloc ?_ _) | (with_reducible refine Kd.C_drewN ?_ _) | (with_reducible refine Kd.C_drew ?_))); (case side2 => exact (Kd.R_reads' HO209.out).2.1); rintro e w9 ⟨rfl, hb⟩; refine ⟨_, rfl, ?_⟩; have n0_ := Aside0.mk (Kd.R_below (by (with_reducible repeat (first|apply Kd.R_alloc|apply Kd.R_drewN|apply Kd.R_drew)); exact HO209.out) hb); have n1_ := Aside0.mk (below_step (by repeat (first|(with_reducible first|exact HB.out|apply below_alloc|apply pw_below_drewN|apply below_drew1)|exact HB.out)) hb); clear HO209; clear HB; have HO209 := n0_; have HB := n1_; clear n0_ n1_; (try clear hb); (try clear hb2); (try clear hk); (try clear hi)) | ((with_reducible refine gate_callee (f := 35) rfl ?_); refine goesL_ (some 30) rfl rfl Try.func35 (by kernel_rfl) rfl #[.slice Ao8 t206.length co8, .int .i64 t207] rfl (by (try simp only [List.map_toArray, List.map_cons, List.map_nil]); first | done | rfl | (simp only [List.length_drop, List.length_take]; rfl)) ?_; (with_reducible refine (spec_JustifyLine.calls k _ _ t206 t207 t212 t213 _ ?side1 ?side2 A5.out).mono ?_); (case side1 => repeat (first | exact (Kd.R_reads' HO209.out).2.2 | (with_reducible refine Kd.C_alloc ?_ _) | (with_reducible refine Kd.C_drewN ?_ _) | (with_reducible refine Kd.C_drew ?_))); (case side2 => exact (Kd.R_reads' HO209.out).2.1); rintro e w' ⟨rfl, ⟨nd, rfl⟩⟩; refine ⟨_, rfl, ?_⟩))
  (try simp only [Act.put, List.setIfInBounds_toArray, List.set_cons_zero, List.set_cons_succ])
  go_cut [44] (fun v44 wc => ∃ (kq : Nat) (x44_5 : Bool), v44 = .bool x44_5 ∧ Aside0 (laws_FnJustifyEven.j0 kq t210 t211 t212 t213 x44_5 = some r) ∧ Aside0 (kq ≤ k) ∧ Aside0 (Below w.heap.size w wc))
  case first =>
   have H := HC6.out
   clear HC6
   by_cases c10 : t210.toList = t212.toList
   ·rw [if_pos c10] at H
    have c10b0 : (t210.toList == t212.toList) = true := beq_iff_eq.mpr c10
    have c10b1 : (t210.toList != t212.toList) = false := bne_eq_false_iff_eq.mpr c10
    clear c10
    (first | rw [c10b0] | (simp only [i64_w, i32_w]; rw [c10b0]) | skip)
    by_cases c11 : (t211 != t213) = true
    ·rw [if_pos c11] at H
     have c11b0 : (t211 != t213) = true := c11
     (try (have c11b1 : decide (t211 = t213) = false := by simpa using c11))
     (try (have c11b2 : (t211 == t213) = false := by simpa using c11))
     (try (have c11b3 : ¬ (t211 = t213) := by simpa using c11))
     clear c11
     have H' := Aside0.mk H
     clear H
     go_wp2
     go_meet
     case rel => exact ⟨_, (true), (by first|rfl|(simp;done)|(simp[*];done)), H', ⟨by first | omega | exact Nat.le_refl _⟩, ⟨by repeat (first|(with_reducible first|exact HB.out|apply below_alloc|apply pw_below_drewN|apply below_drew1)|exact HB.out)⟩⟩
    ·rw [if_neg c11] at H
     have c11b0 : (t211 != t213) = false := by simpa using c11
     (try (have c11b1 : decide (t211 = t213) = true := by simpa using c11))
     (try (have c11b2 : (t211 == t213) = true := by simpa using c11))
     clear c11
     have H' := Aside0.mk H
     clear H
     go_wp2
     go_meet
     case rel => exact ⟨_, (!t211), (by first|rfl|(simp;done)|(simp[*];done)), H', ⟨by first | omega | exact Nat.le_refl _⟩, ⟨by repeat (first|(with_reducible first|exact HB.out|apply below_alloc|apply pw_below_drewN|apply below_drew1)|exact HB.out)⟩⟩
   ·rw [if_neg c10] at H
    have c10b0 : (t210.toList == t212.toList) = false := beq_eq_false_iff_ne.mpr c10
    have c10b1 : (t210.toList != t212.toList) = true := bne_iff_ne.mpr c10
    (first | rw [c10b0] | (simp only [i64_w, i32_w]; rw [c10b0]) | skip)
    have H' := Aside0.mk H
    clear H
    go_wp2
    go_meet
    case rel => exact ⟨_, (true), (by first|rfl|(simp;done)|(simp[*];done)), H', ⟨by first | omega | exact Nat.le_refl _⟩, ⟨by repeat (first|(with_reducible first|exact HB.out|apply below_alloc|apply pw_below_drewN|apply below_drew1)|exact HB.out)⟩⟩
  case rest =>
   clear HC6
   try clear c1
   try clear c2
   try clear c2b0
   try clear c2b1
   try clear p2
   try clear c3
   try clear c10
   try clear c10b0
   try clear c10b1
   try clear c11
   try clear c11b0
   try clear c11b1
   try clear c11b2
   obtain ⟨kq, x44_5, rfl, HA, HJ5, HB⟩ := hcut
   cases kq with
   | zero => exact absurd HA.out (by simp [laws_FnJustifyEven.j0])
   | succ kj5 =>
    have H := HA.out
    clear HA
    simp only [laws_FnJustifyEven.j0] at H
    by_cases c12 : x44_5 = true
    ·subst c12
     have H1 : (if t210.toList = t212.toList then (some (t211 == t213)) else (some false)) = some r := by rw [if_pos rfl] at H; exact H
     clear H
     have H := H1
     clear H1
     by_cases c13 : t210.toList = t212.toList
     ·rw [if_pos c13] at H
      have c13b0 : (t210.toList == t212.toList) = true := beq_iff_eq.mpr c13
      have c13b1 : (t210.toList != t212.toList) = false := bne_eq_false_iff_eq.mpr c13
      clear c13
      obtain rfl := Option.some.inj H
      go_wp2
      go_ret
      exact ⟨by first | rfl | (simp [errW_none, errW_some] <;> rfl) | (simp [*, errW_none, errW_some] <;> rfl), by repeat (first|(with_reducible first|exact HB.out|apply below_alloc|apply pw_below_drewN|apply below_drew1)|exact HB.out)⟩
     ·rw [if_neg c13] at H
      have c13b0 : (t210.toList == t212.toList) = false := beq_eq_false_iff_ne.mpr c13
      have c13b1 : (t210.toList != t212.toList) = true := bne_iff_ne.mpr c13
      obtain rfl := Option.some.inj H
      go_wp2
      go_ret
      exact ⟨by first | rfl | (simp [errW_none, errW_some] <;> rfl) | (simp [*, errW_none, errW_some] <;> rfl), by repeat (first|(with_reducible first|exact HB.out|apply below_alloc|apply pw_below_drewN|apply below_drew1)|exact HB.out)⟩
    ·replace c12 := Bool.eq_false_iff.mpr c12
     subst c12
     have H1 : (laws_FnJustifyEven.l0 kj5 t210 (t210.size : Int) 0 0 0) = some r := by rw [if_neg (show ¬ (false = true) by decide)] at H; exact H
     clear H
     have H := H1
     clear H1
     have H' := Aside0.mk H
     clear H
     go_wp2
     go_loopg [9, 10, 11, 12] kj5 (fun kq v9 v10 v11 v12 w' => ∃ (x9_2 : Int) (x10_2 : Int) (x11_2 : Int) (x12_2 : Int), v9 = .int .i64 x9_2 ∧ v10 = .int .i64 x10_2 ∧ v11 = .int .i64 x11_2 ∧ v12 = .int .i64 x12_2 ∧ Aside0 (laws_FnJustifyEven.l0 kq t210 x9_2 x10_2 x11_2 x12_2 = some r) ∧ Aside0 (kq ≤ kj5) ∧ Aside0 (Below w.heap.size w w'))
     case atStart => exact ⟨((t210.size : Int)), (0), (0), (0), (by first|rfl|(simp;done)|(simp[*];done)), (by first|rfl|(simp;done)|(simp[*];done)), (by first|rfl|(simp;done)|(simp[*];done)), (by first|rfl|(simp;done)|(simp[*];done)), H', ⟨Nat.le_refl _⟩, ⟨by repeat (first|(with_reducible first|exact HB.out|apply below_alloc|apply pw_below_drewN|apply below_drew1)|exact HB.out)⟩⟩
     case round =>
      clear H'
      try clear c1
      try clear c2
      try clear c2b0
      try clear c2b1
      try clear p2
      try clear c3
      try clear c10
      try clear c10b0
      try clear c10b1
      try clear c11
      try clear c11b0
      try clear c11b1
      try clear c11b2
      try clear c12
      try clear c13
      try clear c13b0
      try clear c13b1
      try clear p2
      obtain ⟨x9_2, x10_2, x11_2, x12_2, rfl, rfl, rfl, rfl, HA, HK2, HB⟩ := hrel
      cases gk with
      | zero => exact absurd HA.out (by simp [laws_FnJustifyEven.l0])
      | succ k2 =>
       have H := HA.out
       clear HA
       simp only [laws_FnJustifyEven.l0] at H
       by_cases c14 : x12_2 < (t210.size : Int)
       ·rw [if_pos c14] at H
        have c14b0 : decide (x12_2 < (t210.size : Int)) = true := decide_eq_true c14
        clear c14
        by_cases c15 : 0 ≤ x12_2
        ·rw [if_pos c15] at H
         have c15b0 : decide (0 ≤ x12_2) = true := decide_eq_true c15
         clear c15
         by_cases c17 : (bt t210 x12_2) = 32
         ·rw [if_pos c17] at H
          have c17b0 : ((bt t210 x12_2) == 32) = true := beq_iff_eq.mpr c17
          have c17b1 : ((bt t210 x12_2) != 32) = false := bne_eq_false_iff_eq.mpr c17
          clear c17
          have H' := Aside0.mk H
          clear H
          have p16 : 0 ≤ (x12_2 : Int) := of_decide_eq_true (by first|(with_reducible assumption)|assumption)
          have q16 : x12_2 < (t210.size : Int) := of_decide_eq_true (by first|(with_reducible assumption)|assumption)
          have hx16 := bt_at t210 x12_2
          replace p16 := eq_true p16
          replace q16 := eq_true q16
          go_wp2
          go_roundg k2
          case measure => have := HJ5.out; have := HK2.out; omega
          case rel => exact ⟨(x9_2), (x10_2), (wrap64 (x11_2 + 1)), (wrap64 (x12_2 + 1)), (by first|rfl|(simp;done)|(simp[*];done)), (by first|rfl|(simp;done)|(simp[*];done)), (by first|rfl|(simp;done)|(simp[*];done)), (by first|rfl|(simp;done)|(simp[*];done)), H', ⟨by have := HJ5.out; have := HK2.out; omega⟩, ⟨by repeat (first|(with_reducible first|exact HB.out|apply below_alloc|apply pw_below_drewN|apply below_drew1)|exact HB.out)⟩⟩
         ·rw [if_neg c17] at H
          have c17b0 : ((bt t210 x12_2) == 32) = false := beq_eq_false_iff_ne.mpr c17
          have c17b1 : ((bt t210 x12_2) != 32) = true := bne_iff_ne.mpr c17
          have HC18 := Aside0.mk H
          clear H
          have p16 : 0 ≤ (x12_2 : Int) := of_decide_eq_true (by first|(with_reducible assumption)|assumption)
          have q16 : x12_2 < (t210.size : Int) := of_decide_eq_true (by first|(with_reducible assumption)|assumption)
          have hx16 := bt_at t210 x12_2
          replace p16 := eq_true p16
          replace q16 := eq_true q16
          go_upto_region 16 with (fail)
          go_cut [73] (fun v73 wc => ∃ (kq : Nat) (x73_17 : Bool), v73 = .bool x73_17 ∧ Aside0 (laws_FnJustifyEven.j2 kq t210 x9_2 x10_2 x11_2 x12_2 x73_17 = some r) ∧ Aside0 (kq ≤ k2) ∧ Aside0 (Below w.heap.size w wc))
          case first =>
           have H := HC18.out
           clear HC18
           by_cases c19 : x11_2 > 0
           ·rw [if_pos c19] at H
            have c19b0 : decide (0 < x11_2) = true := decide_eq_true c19
            clear c19
            (first | rw [c19b0] | (simp only [i64_w, i32_w]; rw [c19b0]) | skip)
            have H' := Aside0.mk H
            clear H
            go_wp2
            go_meet
            case rel => exact ⟨_, (decide (x11_2 < x9_2)), (by first|rfl|(simp;done)|(simp[*];done)), H', ⟨by have := HJ5.out; have := HK2.out; first | omega | exact Nat.le_refl _⟩, ⟨by repeat (first|(with_reducible first|exact HB.out|apply below_alloc|apply pw_below_drewN|apply below_drew1)|exact HB.out)⟩⟩
           ·rw [if_neg c19] at H
            have c19b0 : decide (0 < x11_2) = false := decide_eq_false c19
            clear c19
            (first | rw [c19b0] | (simp only [i64_w, i32_w]; rw [c19b0]) | skip)
            have H' := Aside0.mk H
            clear H
            go_wp2
            go_meet
            case rel => exact ⟨_, (false), (by first|rfl|(simp;done)|(simp[*];done)), H', ⟨by have := HJ5.out; have := HK2.out; first | omega | exact Nat.le_refl _⟩, ⟨by repeat (first|(with_reducible first|exact HB.out|apply below_alloc|apply pw_below_drewN|apply below_drew1)|exact HB.out)⟩⟩
          case rest =>
           clear HC18
           try clear c1
           try clear p1
           try clear q1
           try clear hx1
           try clear c2
           try clear c2b0
           try clear c2b1
           try clear p2
           try clear c3
           try clear p6
           try clear c10
           try clear c10b0
           try clear c10b1
           try clear c11
           try clear c11b0
           try clear c11b1
           try clear c11b2
           try clear c12
           try clear c13
           try clear c13b0
           try clear c13b1
           try clear c14
           try clear c14b0
           try clear c15
           try clear c15b0
           try clear p16
           try clear q16
           try clear hx16
           try clear c17
           try clear c17b0
           try clear c17b1
           try clear c19
           try clear c19b0
           try clear p16
           try clear p2
           try clear q16
           obtain ⟨kq, x73_17, rfl, HA, HJ17, HB⟩ := hcut
           cases kq with
           | zero => exact absurd HA.out (by simp [laws_FnJustifyEven.j2])
           | succ kj17 =>
            have H := HA.out
            clear HA
            simp only [laws_FnJustifyEven.j2] at H
            by_cases c20 : x73_17 = true
            ·subst c20
             have H1 : (if x11_2 > x10_2 then (laws_FnJustifyEven.l0 kj17 t210 x11_2 x11_2 0 (wrap64 (x12_2 + 1))) else (laws_FnJustifyEven.l0 kj17 t210 x11_2 x10_2 0 (wrap64 (x12_2 + 1)))) = some r := by rw [if_pos rfl] at H; exact H
             clear H
             have H := H1
             clear H1
             by_cases c21 : x11_2 > x10_2
             ·rw [if_pos c21] at H
              have c21b0 : decide (x10_2 < x11_2) = true := decide_eq_true c21
              clear c21
              have H' := Aside0.mk H
              clear H
              go_wp2
              go_roundg kj17
              case measure => have := HJ5.out; have := HK2.out; have := HJ17.out; omega
              case rel => exact ⟨(x11_2), (x11_2), (0), (wrap64 (x12_2 + 1)), (by first|rfl|(simp;done)|(simp[*];done)), (by first|rfl|(simp;done)|(simp[*];done)), (by first|rfl|(simp;done)|(simp[*];done)), (by first|rfl|(simp;done)|(simp[*];done)), H', ⟨by have := HJ5.out; have := HK2.out; have := HJ17.out; omega⟩, ⟨by repeat (first|(with_reducible first|exact HB.out|apply below_alloc|apply pw_below_drewN|apply below_drew1)|exact HB.out)⟩⟩
             ·rw [if_neg c21] at H
              have c21b0 : decide (x10_2 < x11_2) = false := decide_eq_false c21
              clear c21
              have H' := Aside0.mk H
              clear H
              go_wp2
              go_roundg kj17
              case measure => have := HJ5.out; have := HK2.out; have := HJ17.out; omega
              case rel => exact ⟨(x11_2), (x10_2), (0), (wrap64 (x12_2 + 1)), (by first|rfl|(simp;done)|(simp[*];done)), (by first|rfl|(simp;done)|(simp[*];done)), (by first|rfl|(simp;done)|(simp[*];done)), (by first|rfl|(simp;done)|(simp[*];done)), H', ⟨by have := HJ5.out; have := HK2.out; have := HJ17.out; omega⟩, ⟨by repeat (first|(with_reducible first|exact HB.out|apply below_alloc|apply pw_below_drewN|apply below_drew1)|exact HB.out)⟩⟩
            ·replace c20 := Bool.eq_false_iff.mpr c20
             subst c20
             have H1 : (if x11_2 > x10_2 then (laws_FnJustifyEven.l0 kj17 t210 x9_2 x11_2 0 (wrap64 (x12_2 + 1))) else (laws_FnJustifyEven.l0 kj17 t210 x9_2 x10_2 0 (wrap64 (x12_2 + 1)))) = some r := by rw [if_neg (show ¬ (false = true) by decide)] at H; exact H
             clear H
             have H := H1
             clear H1
             by_cases c22 : x11_2 > x10_2
             ·rw [if_pos c22] at H
              have c22b0 : decide (x10_2 < x11_2) = true := decide_eq_true c22
              clear c22
              have H' := Aside0.mk H
              clear H
              go_wp2
              go_roundg kj17
              case measure => have := HJ5.out; have := HK2.out; have := HJ17.out; omega
              case rel => exact ⟨(x9_2), (x11_2), (0), (wrap64 (x12_2 + 1)), (by first|rfl|(simp;done)|(simp[*];done)), (by first|rfl|(simp;done)|(simp[*];done)), (by first|rfl|(simp;done)|(simp[*];done)), (by first|rfl|(simp;done)|(simp[*];done)), H', ⟨by have := HJ5.out; have := HK2.out; have := HJ17.out; omega⟩, ⟨by repeat (first|(with_reducible first|exact HB.out|apply below_alloc|apply pw_below_drewN|apply below_drew1)|exact HB.out)⟩⟩
             ·rw [if_neg c22] at H
              have c22b0 : decide (x10_2 < x11_2) = false := decide_eq_false c22
              clear c22
              have H' := Aside0.mk H
              clear H
              go_wp2
              go_roundg kj17
              case measure => have := HJ5.out; have := HK2.out; have := HJ17.out; omega
              case rel => exact ⟨(x9_2), (x10_2), (0), (wrap64 (x12_2 + 1)), (by first|rfl|(simp;done)|(simp[*];done)), (by first|rfl|(simp;done)|(simp[*];done)), (by first|rfl|(simp;done)|(simp[*];done)), (by first|rfl|(simp;done)|(simp[*];done)), H', ⟨by have := HJ5.out; have := HK2.out; have := HJ17.out; omega⟩, ⟨by repeat (first|(with_reducible first|exact HB.out|apply below_alloc|apply pw_below_drewN|apply below_drew1)|exact HB.out)⟩⟩
        ·rw [if_neg c15] at H
         exact absurd H (by simp)
       ·rw [if_neg c14] at H
        have c14b0 : decide (x12_2 < (t210.size : Int)) = false := decide_eq_false c14
        clear c14
        by_cases c23 : (wrap64 (x10_2 - x9_2)) ≤ 1
        ·rw [if_pos c23] at H
         have c23b0 : decide ((wrap64 (x10_2 - x9_2)) ≤ 1) = true := decide_eq_true c23
         clear c23
         obtain rfl := Option.some.inj H
         go_wp2
         go_ret
         exact ⟨by first | rfl | (simp [errW_none, errW_some] <;> rfl) | (simp [*, errW_none, errW_some] <;> rfl), by repeat (first|(with_reducible first|exact HB.out|apply below_alloc|apply pw_below_drewN|apply below_drew1)|exact HB.out)⟩
        ·rw [if_neg c23] at H
         have c23b0 : decide ((wrap64 (x10_2 - x9_2)) ≤ 1) = false := decide_eq_false c23
         clear c23
         obtain rfl := Option.some.inj H
         go_wp2
         go_ret
         exact ⟨by first | rfl | (simp [errW_none, errW_some] <;> rfl) | (simp [*, errW_none, errW_some] <;> rfl), by repeat (first|(with_reducible first|exact HB.out|apply below_alloc|apply pw_below_drewN|apply below_drew1)|exact HB.out)⟩

/-- THE ONE PURE STATEMENT of laws_FnJustifyEven: yours. -/
def laws_FnJustifyEven.Pure : Prop := ∀ (l0 : List Int), l0.length ≤ maxLen → l0.length * 1 ≤ 140737488351232 → (∀ x ∈ l0, (Lit.int .u8 x).wf = true) → ∃ k, laws_FnJustifyEven.f k l0 = some true
theorem laws_FnJustifyEven.walk (P : laws_FnJustifyEven.Pure) (a0 : Option Addr) (len0 cap0 : Nat) (z0 : List Int) (w : World) (w0 : (a0 = none ∧ len0 = 0 ∧ cap0 = 0 ∧ z0 = []) ∨ ∃ x, a0 = some x ∧ len0 ≤ cap0 ∧ cap0 ≤ maxLen ∧ z0.length = cap0 ∧ (∀ i, i < z0.length → w.cell? (x.add i) = some (.int .u8 (z0.getD i 0))) ∧ ∀ n ∈ z0, (Lit.int .u8 n).wf = true) (y0 : len0 * 1 ≤ 140737488351232) :
  Calls Try.prog 10 #[.slice a0 len0 cap0] w fun e w' => e = .returned (.bool true) ∧ Below w.heap.size w w' := by
 obtain ⟨l0, rfl, hr0, hm0, hw0, hc0⟩ := ReadsInt.ofRowC w0
 obtain ⟨k, h⟩ := P l0 hm0 y0 hw0
 refine (laws_FnJustifyEven.calls k _ _ l0 true w (Kd.C_of_reads (d := (0 : Int)) (h1 := fun _ => rfl) hr0) hc0 h).mono ?_
 rintro e w' ⟨rfl, hd⟩
 exact ⟨rfl, hd⟩

end Go.Proofs.Ythcfocpimoghbaa.PJu
