-- Written by a program of this session (xprint). -- COMPACT
import Derived.Test.YtkcpimhohadjkaaPOox0
namespace Go.Proofs.Ytkcpimhohadjkaa.POo
open Go.RowKit Go.Proofs.YtkcpimhohadjkaaW.PrintWords Go.Proofs.YtkcpimhohadjkaaW.PrintLast Go.Proofs.YtkcpimhohadjkaaW.PrintMore
attribute [local go_sem] max2_int min2_int max_two min_two max_three min_three max_four min_four   -- for this text's walks alone
set_option linter.unusedVariables false
set_option linter.unusedSimpArgs false

/-! ### spec_l2Nest: function 90 -/
def spec_l2Nest.l0 : Nat → Int → List (S59) → Int → Option ((List (S59)))
 | 0, _, _, _ => none
 | k + 1, x0, x5, x6 => if x6 < (x5.length : Int) then (if 0 ≤ x6 then (spec_l2Nest.l0 k x0 (x5.set (x6 : Int).toNat (⟨wrap64 (((rd_T59 x5 x6).f0) + x0), (rd_T59 x5 x6).f1⟩ : S59)) (wrap64 (x6 + 1))) else (none)) else (some x5)
def spec_l2Nest.f (k : Nat) (a0 : Int) (l1 : List (S59)) : Option ((List (S59))) := (some (([] : List (S59)) : List (S59))).bind fun y139 => (if y139.length + l1.length < 5864062014805 then (spec_l2Nest.l0 k a0 (y139 ++ l1) 1) else (none))
set_option maxHeartbeats 8000000 in
set_option maxRecDepth 100000 in
theorem spec_l2Nest.calls (k : Nat) (a0 : Int) (A1 : Option Addr) (c1 : Nat) (l1 : List (S59)) (r : List (S59)) (w : World) (hr1 : Kd.C k59 w A1 l1.length l1) (hc1 : l1.length ≤ c1) (h : spec_l2Nest.f k a0 l1 = some r) :
  Calls Try.prog 90 #[.int .i64 a0, .slice A1 l1.length c1] w fun e w' => ∃ v0_ : Value, e = .returned (v0_) ∧ Kd.R k59 59 w' w.heap.size (fun _ => True) v0_ r ∧ Below w.heap.size w w' := by
 have HR1 := Aside0.mk hr1
 have HC1 := Aside0.mk hc1
 clear hr1 hc1
 have HB := Aside0.mk (Below.refl w.heap.size w)
 have H : ((some (([] : List (S59)) : List (S59))).bind fun y139 => (if y139.length + l1.length < 5864062014805 then (spec_l2Nest.l0 k a0 (y139 ++ l1) 1) else (none))) = some r := h
 clear h
 obtain ⟨y139, hy139⟩ : ∃ y_ : List (S59), y_ = (([] : List (S59))) := ⟨_, rfl⟩
 replace H : (if y139.length + l1.length < 5864062014805 then (spec_l2Nest.l0 k a0 (y139 ++ l1) 1) else (none)) = some r := by first | (rw [hy139]; with_reducible exact H) | (have H2_ := (Option.bind_some _ _).symm.trans H; rw [hy139]; with_reducible exact H2_) | (have H2_ := (Option.bind_some _ _).symm.trans H; with_reducible exact H2_) | with_reducible exact H | (rw [hy139]; exact H) | exact H
 have Ny139 := Aside0.mk hy139
 clear hy139
 by_cases c3 : y139.length + l1.length < 5864062014805
 ·rw [if_pos c3] at H
  have LMc3 := Aside0.mk c3
  clear c3
  obtain ⟨y142, hy142⟩ : ∃ y_ : List (S59), y_ = (y139 ++ l1) := ⟨_, rfl⟩
  replace H : (spec_l2Nest.l0 k a0 y142 1) = some r := by first | (rw [hy142]; with_reducible exact H) | (have H2_ := (Option.bind_some _ _).symm.trans H; rw [hy142]; with_reducible exact H2_) | (have H2_ := (Option.bind_some _ _).symm.trans H; with_reducible exact H2_) | with_reducible exact H | (rw [hy142]; exact H) | exact H
  have Ny142 := Aside0.mk hy142
  clear hy142
  have H' := Aside0.mk H
  clear H
  go_enter Try.func90, Try.ntmps90
  go_wp2_with (first | ((with_reducible refine gate_dst (N := 7) rfl ?_); refine Kd.R_lit k59 _ 59 ?hg (N := 7) ?hd (xs := ([] : List (S59))) (inner := []) (ok := fun _ => True) (okp := fun _ => True) ?hr ?hp (fun _ hk => hk) trivial (Below.refl _ _) (Nat.le_refl _) (by simp) ?_; (case hd => rfl); (case hg => rfl); (case hr => first | (go_simp; done) | (go_simp; rfl)); (case hp => exact (Reps.none _ _)); intro v140 w4 ho5 hb hg_ hnew_; clear hg_ hnew_; (first | rw [← Ny139.out] at ho5 | (simp only [Int.reduceToNat] at ho5; rw [← Ny139.out] at ho5)); have n0_ := Aside0.mk (Kd.R_lower ho5 (below_size aB)); have n1_ := Aside0.mk (below_step aB hb); clear HB; have HO141 := n0_; have HB := n1_; clear n0_ n1_; clear hb ho5) | ((with_reducible refine gate_builtin (b := .append) (xs := #[.tmp 7, .tmp 8]) rfl ?_); at_builtin; refine Kd.R_append_rows k59 (w0 := w) w.heap.size rfl (.tmp 7) (.tmp 8) 27 59 (.agg #[(.int .i64 0), (.string ⟨#[]⟩)]) 24 rfl Try.underlying27 info59 rfl (by decide) (by omega) v140 y139 l1 _ _ _ (fun _ => True) (fun _ => False) rfl rfl ?aO ?aR (fun _ _ h => h) (fun _ h => h.elim) ?aF ?aB ?aS ?aL ?_; (case aR => repeat (first | exact (Kd.C_below HR1.out HB.out) | (with_reducible refine Kd.C_alloc ?_ _) | (with_reducible refine Kd.C_drewN ?_ _) | (with_reducible refine Kd.C_drew ?_))); (case aB => exact aB); (case aF => exact (fun _ _ => trivial)); (case aO => exact (aP HO141.out)); (case aS => exact (below_size aB)); (case aL => have := LMc3.out; omega); intro v143 w6 ho hb hg hat; rw [← Ny142.out] at ho; have n0_ := Aside0.mk (hb); have n1_ := Aside0.mk (ho); clear HB; clear HO141; have HB := n0_; have HO144 := n1_; clear n0_ n1_; clear ho hb hg hat))
  go_loopg [6] k (fun kq v6 w' => ∃ (x5_1 : List (S59)) (x6_1 : Int), v6 = .int .i64 x6_1 ∧ Aside0 (spec_l2Nest.l0 kq a0 x5_1 x6_1 = some r) ∧ Aside0 (kq ≤ k) ∧ Aside0 (Kd.R k59 59 w' w.heap.size (fun _ => True) v143 x5_1) ∧ Aside0 (Below w.heap.size w w'))
  case atStart => exact ⟨(y142), (1), aR, H', ⟨Nat.le_refl _⟩, ⟨by (with_reducible repeat (first|apply Kd.R_alloc|apply Kd.R_drewN|apply Kd.R_drew)); exact HO144.out⟩, ⟨by repeat (first|(with_reducible first|exact HB.out|apply below_alloc|apply pw_below_drewN|apply below_drew1)|exact HB.out)⟩⟩
  case round =>
   clear H'
   try clear c1
   try clear p2
   try clear c3
   obtain ⟨x5_1, x6_1, rfl, HA, HK1, HO_5, HB⟩ := hrel
   cases gk with
   | zero => exact absurd HA.out (by simp [spec_l2Nest.l0])
   | succ k1 =>
    have H := HA.out
    clear HA
    simp only [spec_l2Nest.l0] at H
    by_cases c7 : x6_1 < (x5_1.length : Int)
    ·rw [if_pos c7] at H
     have c7b0 : decide (x6_1 < (x5_1.length : Int)) = true := decide_eq_true c7
     clear c7
     by_cases c8 : 0 ≤ x6_1
     ·rw [if_pos c8] at H
      have c8b0 : decide (0 ≤ x6_1) = true := decide_eq_true c8
      clear c8
      obtain ⟨y146, hy146⟩ : ∃ y_ : List (S59), y_ = (x5_1.set (x6_1 : Int).toNat (⟨wrap64 (((rd_T59 x5_1 x6_1).f0) + a0), (rd_T59 x5_1 x6_1).f1⟩ : S59)) := ⟨_, rfl⟩
      replace H : (spec_l2Nest.l0 k1 a0 y146 (wrap64 (x6_1 + 1))) = some r := by first | (rw [hy146]; with_reducible exact H) | (have H2_ := (Option.bind_some _ _).symm.trans H; rw [hy146]; with_reducible exact H2_) | (have H2_ := (Option.bind_some _ _).symm.trans H; with_reducible exact H2_) | with_reducible exact H | (rw [hy146]; exact H) | exact H
      have Ny146 := Aside0.mk hy146
      clear hy146
      have H' := Aside0.mk H
      clear H
      obtain ⟨Ao10, co10, eo10⟩ := Kd.R_slice HO_5.out
      subst eo10
      have p145 : 0 ≤ (x6_1 : Int) := of_decide_eq_true aQ
      have q145 : x6_1 < (x5_1.length : Int) := of_decide_eq_true aQ
      obtain ⟨ad145, e145, hx145_0, hx145_1⟩ := at_T59 (Kd.R_reads' HO_5.out).2.2 x6_1 p145 q145
      cases e145
      replace p145 := eq_true p145
      replace q145 := eq_true q145
      have p9 : 0 ≤ (x6_1 : Int) := of_decide_eq_true aQ
      have q9 : (x6_1 : Int) < ((x5_1.length : Int) : Int) := of_decide_eq_true aQ
      obtain ⟨go9, co9, eo9, gb9, gl9, cl9, HG9⟩ := Kd.R_form HO_5.out (by omega)
      (first | cases eo9 | (injection eo9 with ea_ en_ ec_; (first | subst ea_ | (injection ea_ with ea_; subst ea_)); subst ec_; clear en_))
      have GB9 := Aside0.mk gb9
      have GG9 := Aside0.mk HG9
      clear gb9 gl9 HG9
      (first | simp only [add_plain] at hx145_0 | skip)
      (first | simp only [add_plain] at hx145_1 | skip)
      obtain ⟨ce9, hcl9, hM9, hcc9, hfr9⟩ := Kd.R_elem HO_5.out z59 (x6_1 : Int) p9 q9
      obtain rfl := k59_openM hM9
      have hx9_0 : wr.cell? ⟨go9, (x6_1 : Int).toNat * 2, none⟩ = some (.int .i64 ((rd_T59 x5_1 x6_1).f0)) := hcc9 0 _ rfl
      have hx9_1 : wr.cell? ⟨go9, (x6_1 : Int).toNat * 2 + 1, none⟩ = some (.string ((rd_T59 x5_1 x6_1).f1)) := hcc9 1 _ rfl
      have hf9_0 : wr.frozen? ⟨go9, (x6_1 : Int).toNat * 2, none⟩ = false := hfr9 0
      have hf9_1 : wr.frozen? ⟨go9, (x6_1 : Int).toNat * 2 + 1, none⟩ = false := hfr9 1
      clear hcl9 hcc9 hfr9 hM9
      replace p9 := eq_true p9
      replace q9 := eq_true q9
      have HX11 := Aside0.mk (show Kd.R k59 59 wr w.heap.size (fun _ => True) (.slice (some ⟨go9, 0, none⟩) x5_1.length co10) x5_1 from (aP HO_5.out))
      obtain ⟨ce11, hcl11, hM11, hcc11, hfr11⟩ := Kd.R_elem HX11.out z59 (x6_1 : Int) (of_decide_eq_true aQ) (by have h_ : (x6_1 : Int) < ((x5_1.length : Int) : Int) := of_decide_eq_true aQ; first | exact h_ | (have e_ := (Kd.R_reads' HO_5.out).1; omega) | simpa using h_)
      obtain rfl := k59_openM hM11
      have HP11 := Kd.R_seg HX11.out (x6_1 : Int) (of_decide_eq_true aQ) (by have h_ : (x6_1 : Int) < ((x5_1.length : Int) : Int) := of_decide_eq_true aQ; first | exact h_ | (have e_ := (Kd.R_reads' HO_5.out).1; omega) | simpa using h_) (seg := [.int .i64 (wrap64 (((rd_T59 x5_1 x6_1).f0) + a0))]) (j := 0) hcl11 hcc11 (show 1 ≤ 2 from by decide) (x' := (⟨wrap64 (((rd_T59 x5_1 x6_1).f0) + a0), (rd_T59 x5_1 x6_1).f1⟩ : S59)) (k59_mkM _ _ _ (⟨wrap64 (((rd_T59 x5_1 x6_1).f0) + a0), (rd_T59 x5_1 x6_1).f1⟩ : S59) ) (fun _ hk => hk)
      have hx11_0 := hcc11 0 _ rfl
      (try simp only [show (k59).sz = 2 from rfl, Nat.mul_one, Nat.add_zero] at hx11_0)
      have hf11_0 := hfr11 0
      (try simp only [show (k59).sz = 2 from rfl, Nat.mul_one, Nat.add_zero] at hf11_0)
      clear hcl11 hcc11 hfr11 hM11
      go_wp2_with (first | ((with_reducible refine gate_store (t := 3) (p := 26) rfl ?_); refine store_event (t := 3) (p := 26) (v := ?vo_w12) (w1 := (wr.setCell ⟨go9, (x6_1 : Int).toNat * 2, none⟩ (.int .i64 (wrap64 (((rd_T59 x5_1 x6_1).f0) + a0))))) ?hg ?ho ?hn ?hr ?_; (case ho => rfl); (case hg => rfl); (case hn => rfl); (case hr => first | (go_simp; done) | (go_simp; rfl)); intro w12 hw; have hg : wr.grownBy w12 (some go9) := (by rw [hw]; exact HP11.2); have hp_ : Kd.R k59 59 w12 w.heap.size (fun _ => True) (.slice (some ⟨go9, 0, none⟩) x5_1.length co10) y146 := (by rw [hw, Ny146.out]; exact HP11.1); clear HP11; have n0_ := Aside0.mk (hp_); have n1_ := Aside0.mk ((by rw [hw]; exact below_set (HB.out) GB9.out : Below w.heap.size w w12)); clear HO_5; clear HB; have HO_5 := n0_; have HB := n1_; clear n0_ n1_; clear hg hw hp_))
      go_roundg k1
      case measure => have := HK1.out; omega
      case rel => exact ⟨(y146), (wrap64 (x6_1 + 1)), aR, H', ⟨by have := HK1.out; omega⟩, ⟨by (with_reducible repeat (first|apply Kd.R_alloc|apply Kd.R_drewN|apply Kd.R_drew)); exact HO_5.out⟩, ⟨by repeat (first|(with_reducible first|exact HB.out|apply below_alloc|apply pw_below_drewN|apply below_drew1)|exact HB.out)⟩⟩
     ·rw [if_neg c8] at H
      exact absurd H (by simp)
    ·rw [if_neg c7] at H
     have c7b0 : decide (x6_1 < (x5_1.length : Int)) = false := decide_eq_false c7
     clear c7
     obtain rfl := Option.some.inj H
     obtain ⟨Ao13, co13, eo13⟩ := Kd.R_slice HO_5.out
     subst eo13
     go_wp2
     go_ret
     exact ⟨_, by first | rfl | (simp [errW_none, errW_some] <;> rfl) | (simp [*, errW_none, errW_some] <;> rfl), by (with_reducible repeat (first|apply Kd.R_alloc|apply Kd.R_drewN|apply Kd.R_drew)); exact HO_5.out, by repeat (first|(with_reducible first|exact HB.out|apply below_alloc|apply pw_below_drewN|apply below_drew1)|exact HB.out)⟩
 ·rw [if_neg c3] at H
  exact absurd H (by simp)

/-! ### spec_l2Cat: function 91 -/
def spec_l2Cat.f (l0 : List (S59)) (l1 : List (S59)) : Option ((List (S59))) := (some (([] : List (S59)) : List (S59))).bind fun y147 => (if y147.length + l0.length < 5864062014805 then ((some (y147 ++ l0 : List (S59))).bind fun y150 => (if 0 ≤ (wrap64 ((y150.length : Int) - 1)) then (if (wrap64 ((y150.length : Int) - 1)) < (y150.length : Int) then (if 0 < (l1.length : Int) then (if ((rd_T59 y150 (wrap64 ((y150.length : Int) - 1))).f1).size + ((rd_T59 l1 0).f1).size ≤ 9223372036854775807 then ((some (y150.set ((wrap64 ((y150.length : Int) - 1)) : Int).toNat (⟨(rd_T59 y150 (wrap64 ((y150.length : Int) - 1))).f0, ((rd_T59 y150 (wrap64 ((y150.length : Int) - 1))).f1) ++ ((rd_T59 l1 0).f1)⟩ : S59) : List (S59))).bind fun y155 => (if 1 ≤ (l1.length : Int) then ((some (l1.drop 1 : List (S59))).bind fun y156 => (if y155.length + y156.length < 5864062014805 then (some (y155 ++ y156)) else (none))) else (none))) else (none)) else (none)) else (none)) else (none))) else (none))
def spec_l2Cat.T3 : Bool × List (List Nat × List Nat) := (true, [([], []), ([], []), ([], []), ([], []), ([2, 3], [2, 3]), ([4], [4]), ([5], [5]), ([], []), ([7], [7]), ([8], [8]), ([9], [9]), ([6, 10], [6, 10]), ([0, 1, 0, 1, 2, 3, 4, 5, 6, 7, 8, 9, 10, 11], [0, 1]), ([12, 0, 1, 2, 3, 4, 5, 6, 7, 8, 9, 10, 11], [12]), ([13, 11, 0, 1, 2, 3, 4, 5, 6, 7, 8, 9, 10, 11], [11, 13])])
def spec_l2Cat.B3 : List Nat := [0, 0, 0, 0, 12, 28, 60, 0, 128, 384, 896, 2044, 4095, 8191, 16383]
theorem spec_l2Cat.tab3 : rtab .any (opsOf Try.f91 3) = spec_l2Cat.T3 := by kernel_rfl
theorem spec_l2Cat.bits3 : waitsOk spec_l2Cat.T3.2 spec_l2Cat.B3 = true := by kernel_rfl
set_option maxHeartbeats 8000000 in
set_option maxRecDepth 100000 in
theorem spec_l2Cat.calls (A0 : Option Addr) (c0 : Nat) (l0 : List (S59)) (A1 : Option Addr) (c1 : Nat) (l1 : List (S59)) (r : List (S59)) (w : World) (hr0 : Kd.C k59 w A0 l0.length l0) (hc0 : l0.length ≤ c0) (hr1 : Kd.C k59 w A1 l1.length l1) (hc1 : l1.length ≤ c1) (h : spec_l2Cat.f l0 l1 = some r) :
  Calls Try.prog 91 #[.slice A0 l0.length c0, .slice A1 l1.length c1] w fun e w' => ∃ v0_ : Value, e = .returned (v0_) ∧ Kd.R k59 59 w' w.heap.size (fun _ => True) v0_ r ∧ Below w.heap.size w w' := by
 have HR0 := Aside0.mk hr0
 have HC0 := Aside0.mk hc0
 clear hr0 hc0
 have HR1 := Aside0.mk hr1
 have HC1 := Aside0.mk hc1
 clear hr1 hc1
 have HB := Aside0.mk (Below.refl w.heap.size w)
 have H : ((some (([] : List (S59)) : List (S59))).bind fun y147 => (if y147.length + l0.length < 5864062014805 then ((some (y147 ++ l0 : List (S59))).bind fun y150 => (if 0 ≤ (wrap64 ((y150.length : Int) - 1)) then (if (wrap64 ((y150.length : Int) - 1)) < (y150.length : Int) then (if 0 < (l1.length : Int) then (if ((rd_T59 y150 (wrap64 ((y150.length : Int) - 1))).f1).size + ((rd_T59 l1 0).f1).size ≤ 9223372036854775807 then ((some (y150.set ((wrap64 ((y150.length : Int) - 1)) : Int).toNat (⟨(rd_T59 y150 (wrap64 ((y150.length : Int) - 1))).f0, ((rd_T59 y150 (wrap64 ((y150.length : Int) - 1))).f1) ++ ((rd_T59 l1 0).f1)⟩ : S59) : List (S59))).bind fun y155 => (if 1 ≤ (l1.length : Int) then ((some (l1.drop 1 : List (S59))).bind fun y156 => (if y155.length + y156.length < 5864062014805 then (some (y155 ++ y156)) else (none))) else (none))) else (none)) else (none)) else (none)) else (none))) else (none))) = some r := h
 clear h
 obtain ⟨y147, hy147⟩ : ∃ y_ : List (S59), y_ = (([] : List (S59))) := ⟨_, rfl⟩
 replace H : (if y147.length + l0.length < 5864062014805 then ((some (y147 ++ l0 : List (S59))).bind fun y150 => (if 0 ≤ (wrap64 ((y150.length : Int) - 1)) then (if (wrap64 ((y150.length : Int) - 1)) < (y150.length : Int) then (if 0 < (l1.length : Int) then (if ((rd_T59 y150 (wrap64 ((y150.length : Int) - 1))).f1).size + ((rd_T59 l1 0).f1).size ≤ 9223372036854775807 then ((some (y150.set ((wrap64 ((y150.length : Int) - 1)) : Int).toNat (⟨(rd_T59 y150 (wrap64 ((y150.length : Int) - 1))).f0, ((rd_T59 y150 (wrap64 ((y150.length : Int) - 1))).f1) ++ ((rd_T59 l1 0).f1)⟩ : S59) : List (S59))).bind fun y155 => (if 1 ≤ (l1.length : Int) then ((some (l1.drop 1 : List (S59))).bind fun y156 => (if y155.length + y156.length < 5864062014805 then (some (y155 ++ y156)) else (none))) else (none))) else (none)) else (none)) else (none)) else (none))) else (none)) = some r := by first | (rw [hy147]; with_reducible exact H) | (have H2_ := (Option.bind_some _ _).symm.trans H; rw [hy147]; with_reducible exact H2_) | (have H2_ := (Option.bind_some _ _).symm.trans H; with_reducible exact H2_) | with_reducible exact H | (rw [hy147]; exact H) | exact H
 have Ny147 := Aside0.mk hy147
 clear hy147
 by_cases c3 : y147.length + l0.length < 5864062014805
 ·rw [if_pos c3] at H
  have LMc3 := Aside0.mk c3
  clear c3
  obtain ⟨y150, hy150⟩ : ∃ y_ : List (S59), y_ = (y147 ++ l0) := ⟨_, rfl⟩
  replace H : (if 0 ≤ (wrap64 ((y150.length : Int) - 1)) then (if (wrap64 ((y150.length : Int) - 1)) < (y150.length : Int) then (if 0 < (l1.length : Int) then (if ((rd_T59 y150 (wrap64 ((y150.length : Int) - 1))).f1).size + ((rd_T59 l1 0).f1).size ≤ 9223372036854775807 then ((some (y150.set ((wrap64 ((y150.length : Int) - 1)) : Int).toNat (⟨(rd_T59 y150 (wrap64 ((y150.length : Int) - 1))).f0, ((rd_T59 y150 (wrap64 ((y150.length : Int) - 1))).f1) ++ ((rd_T59 l1 0).f1)⟩ : S59) : List (S59))).bind fun y155 => (if 1 ≤ (l1.length : Int) then ((some (l1.drop 1 : List (S59))).bind fun y156 => (if y155.length + y156.length < 5864062014805 then (some (y155 ++ y156)) else (none))) else (none))) else (none)) else (none)) else (none)) else (none)) = some r := by first | (rw [hy150]; with_reducible exact H) | (have H2_ := (Option.bind_some _ _).symm.trans H; rw [hy150]; with_reducible exact H2_) | (have H2_ := (Option.bind_some _ _).symm.trans H; with_reducible exact H2_) | with_reducible exact H | (rw [hy150]; exact H) | exact H
  have Ny150 := Aside0.mk hy150
  clear hy150
  obtain ⟨ji4, hji4⟩ : ∃ j_ : Int, (wrap64 ((y150.length : Int) - 1)) = j_ := ⟨_, rfl⟩
  replace H : (if 0 ≤ (ji4) then (if (ji4) < (y150.length : Int) then (if 0 < (l1.length : Int) then (if ((rd_T59 y150 (ji4)).f1).size + ((rd_T59 l1 0).f1).size ≤ 9223372036854775807 then ((some (y150.set ((ji4) : Int).toNat (⟨(rd_T59 y150 (ji4)).f0, ((rd_T59 y150 (ji4)).f1) ++ ((rd_T59 l1 0).f1)⟩ : S59) : List (S59))).bind fun y155 => (if 1 ≤ (l1.length : Int) then ((some (l1.drop 1 : List (S59))).bind fun y156 => (if y155.length + y156.length < 5864062014805 then (some (y155 ++ y156)) else (none))) else (none))) else (none)) else (none)) else (none)) else (none)) = some r := by first | (rw [hji4] at H; exact H) | (simp only [hji4] at H ⊢; exact H)
  have hji4w : (IntKind.i64.wrap ((y150.length : Int) - 1)) = ji4 := (i64_w _).trans hji4
  by_cases c5 : 0 ≤ (ji4)
  ·rw [if_pos c5] at H
   have c5b0 : decide (0 ≤ (ji4)) = true := decide_eq_true c5
   clear c5
   by_cases c6 : (ji4) < (y150.length : Int)
   ·rw [if_pos c6] at H
    have c6b0 : decide ((ji4) < (y150.length : Int)) = true := decide_eq_true c6
    clear c6
    by_cases c7 : 0 < (l1.length : Int)
    ·rw [if_pos c7] at H
     have c7b0 : decide (0 < (l1.length : Int)) = true := decide_eq_true c7
     have c7b1 : decide (0 < l1.length) = true := decide_eq_true (by omega)
     clear c7
     by_cases c8 : ((rd_T59 y150 (ji4)).f1).size + ((rd_T59 l1 0).f1).size ≤ 9223372036854775807
     ·rw [if_pos c8] at H
      have c8b0 := eq_true c8
      have c8b1 : decide (((rd_T59 y150 (ji4)).f1).size + ((rd_T59 l1 0).f1).size ≤ 9223372036854775807) = true := decide_eq_true c8
      try have c8b2 : (9223372036854775807 < ((rd_T59 y150 (ji4)).f1).size + ((rd_T59 l1 0).f1).size) = False := eq_false (Nat.not_lt.2 c8)
      obtain ⟨y155, hy155⟩ : ∃ y_ : List (S59), y_ = (y150.set ((ji4) : Int).toNat (⟨(rd_T59 y150 (ji4)).f0, ((rd_T59 y150 (ji4)).f1) ++ ((rd_T59 l1 0).f1)⟩ : S59)) := ⟨_, rfl⟩
      replace H : (if 1 ≤ (l1.length : Int) then ((some (l1.drop 1 : List (S59))).bind fun y156 => (if y155.length + y156.length < 5864062014805 then (some (y155 ++ y156)) else (none))) else (none)) = some r := by first | (rw [hy155]; with_reducible exact H) | (have H2_ := (Option.bind_some _ _).symm.trans H; rw [hy155]; with_reducible exact H2_) | (have H2_ := (Option.bind_some _ _).symm.trans H; with_reducible exact H2_) | with_reducible exact H | (rw [hy155]; exact H) | exact H
      have Ny155 := Aside0.mk hy155
      clear hy155
      by_cases c10 : 1 ≤ (l1.length : Int)
      ·rw [if_pos c10] at H
       have c10b0 := eq_true c10
       have c10b1 : decide (1 ≤ (l1.length : Int)) = true := decide_eq_true c10
       clear c10
       obtain ⟨y156, hy156⟩ : ∃ y_ : List (S59), y_ = (l1.drop 1) := ⟨_, rfl⟩
       replace H : (if y155.length + y156.length < 5864062014805 then (some (y155 ++ y156)) else (none)) = some r := by first | (rw [hy156]; with_reducible exact H) | (have H2_ := (Option.bind_some _ _).symm.trans H; rw [hy156]; with_reducible exact H2_) | (have H2_ := (Option.bind_some _ _).symm.trans H; with_reducible exact H2_) | with_reducible exact H | (rw [hy156]; exact H) | exact H
       have Ny156 := Aside0.mk hy156
       clear hy156
       by_cases c11 : y155.length + y156.length < 5864062014805
       ·rw [if_pos c11] at H
        have LMc11 := Aside0.mk c11
        clear c11
        obtain ⟨y160, hy160⟩ : ∃ y_ : List (S59), y_ = (y155 ++ y156) := ⟨_, rfl⟩
        replace H : (some y160) = some r := by first | (rw [hy160]; with_reducible exact H) | (have H2_ := (Option.bind_some _ _).symm.trans H; rw [hy160]; with_reducible exact H2_) | (have H2_ := (Option.bind_some _ _).symm.trans H; with_reducible exact H2_) | with_reducible exact H | (rw [hy160]; exact H) | exact H
        have Ny160 := Aside0.mk hy160
        clear hy160
        obtain rfl := Option.some.inj H
        go_enter Try.func91, Try.ntmps91
        try go_wp2_with (first | ((with_reducible refine gate_dst (N := 7) rfl ?_); refine Kd.R_lit k59 _ 59 ?hg (N := 7) ?hd (xs := ([] : List (S59))) (inner := []) (ok := fun _ => True) (okp := fun _ => True) ?hr ?hp (fun _ hk => hk) trivial (Below.refl _ _) (Nat.le_refl _) (by simp) ?_; (case hd => rfl); (case hg => rfl); (case hr => first | (go_simp; done) | (go_simp; rfl)); (case hp => exact (Reps.none _ _)); intro v148 w12 ho13 hb hg_ hnew_; clear hg_ hnew_; (first | rw [← Ny147.out] at ho13 | (simp only [Int.reduceToNat] at ho13; rw [← Ny147.out] at ho13)); have n0_ := Aside0.mk (Kd.R_lower ho13 (below_size aB)); have n1_ := Aside0.mk (below_step aB hb); clear HB; have HO149 := n0_; have HB := n1_; clear n0_ n1_; clear hb ho13) | ((with_reducible refine gate_builtin (b := .append) (xs := #[.tmp 7, .tmp 8]) rfl ?_); at_builtin; refine Kd.R_append_rows k59 (w0 := w) w.heap.size rfl (.tmp 7) (.tmp 8) 27 59 (.agg #[(.int .i64 0), (.string ⟨#[]⟩)]) 24 rfl Try.underlying27 info59 rfl (by decide) (by omega) v148 y147 l0 _ _ _ (fun _ => True) (fun _ => False) rfl rfl ?aO ?aR (fun _ _ h => h) (fun _ h => h.elim) ?aF ?aB ?aS ?aL ?_; (case aR => repeat (first | exact (Kd.C_below HR0.out HB.out) | (with_reducible refine Kd.C_alloc ?_ _) | (with_reducible refine Kd.C_drewN ?_ _) | (with_reducible refine Kd.C_drew ?_))); (case aB => exact aB); (case aF => exact (fun _ _ => trivial)); (case aO => exact (aP HO149.out)); (case aS => exact (below_size aB)); (case aL => have := LMc3.out; omega); intro v151 w14 ho hb hg hat; rw [← Ny150.out] at ho; have n0_ := Aside0.mk (hb); have n1_ := Aside0.mk (ho); clear HB; clear HO149; have HB := n0_; have HO152 := n1_; clear n0_ n1_; clear ho hb hg hat; obtain ⟨Ao15, co15, eo15⟩ := Kd.R_slice HO152.out; subst eo15))
        have n0_ := Aside0.mk (Kd.R_drew HO152.out)
        have n1_ := Aside0.mk (below_drew1 HB.out)
        clear HO152
        clear HB
        have HO152 := n0_
        have HB := n1_
        clear n0_ n1_
        have p153 : 0 ≤ ((ji4) : Int) := of_decide_eq_true aQ
        have q153 : (ji4) < (y150.length : Int) := of_decide_eq_true aQ
        obtain ⟨ad153, e153, hx153_0, hx153_1⟩ := at_T59 (Kd.R_reads' HO152.out).2.2 (ji4) p153 q153
        cases e153
        replace p153 := eq_true p153
        replace q153 := eq_true q153
        have p154 : 0 ≤ (0 : Int) := (by omega)
        have q154 : 0 < (l1.length : Int) := of_decide_eq_true aQ
        obtain ⟨ad154, e154, hx154_0, hx154_1⟩ := at_T59 HR1.out 0 p154 q154
        have hw154_1 := hx154_1
        (try rw [show ((0 : Int)).toNat = 0 from rfl] at hw154_1)
        (try rw [show 0 * 2 = 0 from rfl] at hw154_1)
        (try rw [Addr.add_zero'] at hw154_1)
        have hw154_0 := hx154_0
        (try rw [show ((0 : Int)).toNat = 0 from rfl] at hw154_0)
        (try rw [show 0 * 2 = 0 from rfl] at hw154_0)
        (try rw [Addr.add_zero'] at hw154_0)
        cases e154
        have qi154 : (0 < l1.length) = True := eq_true (by omega)
        (try rw [show ((0 : Int)).toNat = 0 from rfl] at hx154_0)
        (try rw [show 0 * 2 = 0 from rfl] at hx154_0)
        (try rw [Addr.add_zero'] at hx154_0)
        (try rw [show ((0 : Int)).toNat = 0 from rfl] at hx154_1)
        (try rw [show 0 * 2 = 0 from rfl] at hx154_1)
        (try rw [Addr.add_zero'] at hx154_1)
        replace hx154_0 := (HB.out.cell (World.block_lt_of_cell? w _ hx154_0)).trans hx154_0
        replace hx154_1 := (HB.out.cell (World.block_lt_of_cell? w _ hx154_1)).trans hx154_1
        replace p154 := eq_true p154
        replace q154 := eq_true q154
        have p9 : 0 ≤ ((ji4) : Int) := of_decide_eq_true aQ
        have q9 : ((ji4) : Int) < ((y150.length : Int) : Int) := of_decide_eq_true aQ
        obtain ⟨go9, co9, eo9, gb9, gl9, cl9, HG9⟩ := Kd.R_form HO152.out (by omega)
        (first | cases eo9 | (injection eo9 with ea_ en_ ec_; (first | subst ea_ | (injection ea_ with ea_; subst ea_)); subst ec_; clear en_))
        have GB9 := Aside0.mk gb9
        have GG9 := Aside0.mk HG9
        clear gb9 gl9 HG9
        (first | simp only [add_plain] at hx153_0 | skip)
        (first | simp only [add_plain] at hx153_1 | skip)
        obtain ⟨ce9, hcl9, hM9, hcc9, hfr9⟩ := Kd.R_elem HO152.out z59 ((ji4) : Int) p9 q9
        obtain rfl := k59_openM hM9
        have hx9_0 : World.cell? _ ⟨go9, ((ji4) : Int).toNat * 2, none⟩ = some (.int .i64 ((rd_T59 y150 (ji4)).f0)) := hcc9 0 _ rfl
        have hx9_1 : World.cell? _ ⟨go9, ((ji4) : Int).toNat * 2 + 1, none⟩ = some (.string ((rd_T59 y150 (ji4)).f1)) := hcc9 1 _ rfl
        have hf9_0 : World.frozen? _ ⟨go9, ((ji4) : Int).toNat * 2, none⟩ = false := hfr9 0
        have hf9_1 : World.frozen? _ ⟨go9, ((ji4) : Int).toNat * 2 + 1, none⟩ = false := hfr9 1
        clear hcl9 hcc9 hfr9 hM9
        replace p9 := eq_true p9
        replace q9 := eq_true q9
        obtain ⟨ce17, hcl17, hM17, hcc17, hfr17⟩ := Kd.R_elem HO152.out z59 ((ji4) : Int) (of_decide_eq_true aQ) (by have h_ : ((ji4) : Int) < ((y150.length : Int) : Int) := of_decide_eq_true aQ; first | exact h_ | (have e_ := (Kd.R_reads' HO152.out).1; omega) | simpa using h_)
        obtain rfl := k59_openM hM17
        have HP17 := (Kd.R_seg HO152.out ((ji4) : Int) (of_decide_eq_true aQ) (by have h_ : ((ji4) : Int) < ((y150.length : Int) : Int) := of_decide_eq_true aQ; first | exact h_ | (have e_ := (Kd.R_reads' HO152.out).1; omega) | simpa using h_) (seg := [.string (((rd_T59 y150 (ji4)).f1) ++ ((rd_T59 l1 0).f1))]) (j := 1) hcl17 hcc17 (show 2 ≤ 2 from by decide) (x' := (⟨(rd_T59 y150 (ji4)).f0, ((rd_T59 y150 (ji4)).f1) ++ ((rd_T59 l1 0).f1)⟩ : S59)) (k59_mkM _ _ _ (⟨(rd_T59 y150 (ji4)).f0, ((rd_T59 y150 (ji4)).f1) ++ ((rd_T59 l1 0).f1)⟩ : S59) ) (fun _ hk => hk)).1
        rw [← Ny155.out] at HP17
        have HQ17 := Aside0.mk HP17
        clear hcl17 hcc17 hfr17 hM17 HP17
        refine start_ (n := 15) (S := fun w' => w'.cell? ⟨go9, (((ji4)).toNat * 2), none⟩ = some (.int .i64 ((rd_T59 y150 (ji4)).f0)) ∧ w'.cell? ⟨go9, (((ji4)).toNat * 2) + 1, none⟩ = some (.string ((rd_T59 y150 (ji4)).f1)) ∧ w'.cell? ad154 = some (.int .i64 ((rd_T59 l1 0).f0)) ∧ w'.cell? ⟨ad154.block, ad154.off + 1, none⟩ = some (.string ((rd_T59 l1 0).f1))) (ds := [14]) #[false, false, false, false, false, false, false, false, false, false, false, false, false, false, false] aK rfl rfl ⟨hx153_0, hx153_1, ((HB.out.cell (World.block_lt_of_cell? w _ hw154_0)).trans hw154_0), ((HB.out.cell (World.block_lt_of_cell? w _ hw154_1)).trans hw154_1)⟩ (fun hHeld => ?_); refine with_tabW spec_l2Cat.tab3 spec_l2Cat.bits3 (fun HT_ HW_ => ?_)
        generalize w14.drew = w16 at HO152 HB GG9 HQ17 hf9_0 hf9_1 hx153_0 hx153_1 hx154_0 hx154_1 hx9_0 hx9_1 hHeld ⊢
        refine pure_ (i := 0) (N := some 13) (v := ?_) (a' := ?_) #[true, false, false, false, false, false, false, false, false, false, false, false, false, false, false] rfl rfl (any_of HT_.out aK) (fun _ _ _ h => h) (Or.inl ⟨by rfl, ?_⟩) ?_ ?_
        rotate_left
        ·exact aV
        rotate_left
        ·exact aA
        refine pure_ (i := 1) (N := some 14) (v := ?_) (a' := ?_) #[true, true, false, false, false, false, false, false, false, false, false, false, false, false, false] rfl rfl (any_of HT_.out aK) (fun _ _ _ h => h) (Or.inl ⟨by rfl, ?_⟩) ?_ ?_
        rotate_left
        ·exact aV
        rotate_left
        ·exact aA
        refine pure_ (i := 2) (N := some 15) (v := ?_) (a' := ?_) #[true, true, true, false, false, false, false, false, false, false, false, false, false, false, false] rfl rfl (any_of HT_.out aK) (fun _ _ _ h => h) (Or.inl ⟨by rfl, ?_⟩) ?_ ?_
        rotate_left
        ·exact aV
        rotate_left
        ·exact aA
        refine pure_ (i := 3) (N := some 16) (v := ?_) (a' := ?_) #[true, true, true, true, false, false, false, false, false, false, false, false, false, false, false] rfl rfl (any_of HT_.out aK) (fun _ _ _ h => h) (Or.inl ⟨by rfl, ?_⟩) ?_ ?_
        rotate_left
        ·exact aV
        rotate_left
        ·exact aA
        refine pure_ (i := 4) (N := some 17) (v := ?_) (a' := ?_) #[true, true, true, true, true, false, false, false, false, false, false, false, false, false, false] rfl rfl (any_of HT_.out aK) (fun _ _ _ h => h) (Or.inl ⟨by rfl, ?_⟩) ?_ ?_
        rotate_left
        ·exact aV
        rotate_left
        ·exact aA
        refine pure_ (i := 5) (N := some 18) (v := ?_) (a' := ?_) #[true, true, true, true, true, true, false, false, false, false, false, false, false, false, false] rfl rfl (any_of HT_.out aK) (fun _ _ _ h => h) (Or.inl ⟨by rfl, ?_⟩) ?_ ?_
        rotate_left
        ·exact aV
        rotate_left
        ·exact aA
        refine pure_ (i := 7) (N := some 20) (v := ?_) (a' := ?_) #[true, true, true, true, true, true, false, true, false, false, false, false, false, false, false] rfl rfl (any_of HT_.out aK) (fun _ _ _ h => h) (Or.inl ⟨by rfl, ?_⟩) ?_ ?_
        rotate_left
        ·exact aV
        rotate_left
        ·exact aA
        refine pure_ (i := 8) (N := some 21) (v := ?_) (a' := ?_) #[true, true, true, true, true, true, false, true, true, false, false, false, false, false, false] rfl rfl (any_of HT_.out aK) (fun _ _ _ h => h) (Or.inl ⟨by rfl, ?_⟩) ?_ ?_
        rotate_left
        ·exact aV
        rotate_left
        ·exact aA
        refine pure_ (i := 9) (N := some 22) (v := ?_) (a' := ?_) #[true, true, true, true, true, true, false, true, true, true, false, false, false, false, false] rfl rfl (any_of HT_.out aK) (fun _ _ _ h => h) (Or.inl ⟨by rfl, ?_⟩) ?_ ?_
        rotate_left
        ·exact aV
        rotate_left
        ·exact aA
        refine take_ (i := 6) (N := some 19) (v := ?_) (a' := ?_) #[true, true, true, true, true, true, true, true, true, true, false, false, false, false, false] rfl rfl (take_ofW HT_.out HW_.out aK) (fun _ _ _ h => h) (Or.inl ⟨by rfl, ?_⟩) hHeld ?_ ?_
        rotate_left
        ·rintro w' ⟨s0, s1, s2, s3⟩
         go_simp
         with_reducible rfl
        rotate_left
        ·exact aA
        refine take_ (i := 10) (N := some 23) (v := ?_) (a' := ?_) #[true, true, true, true, true, true, true, true, true, true, true, false, false, false, false] rfl rfl (take_ofW HT_.out HW_.out aK) (fun _ _ _ h => h) (Or.inl ⟨by rfl, ?_⟩) hHeld ?_ ?_
        rotate_left
        ·rintro w' ⟨s0, s1, s2, s3⟩
         go_simp
         with_reducible rfl
        rotate_left
        ·exact aA
        refine pure_ (i := 11) (N := some 24) (v := ?_) (a' := ?_) #[true, true, true, true, true, true, true, true, true, true, true, true, false, false, false] rfl rfl (any_of HT_.out aK) (fun _ _ _ h => h) (Or.inl ⟨by rfl, ?_⟩) ?_ ?_
        rotate_left
        ·exact aV
        rotate_left
        ·exact aA
        refine pure_ (i := 12) (N := some 25) (v := ?_) (a' := ?_) #[true, true, true, true, true, true, true, true, true, true, true, true, true, false, false] rfl rfl (any_of HT_.out aK) (fun _ _ _ h => h) (Or.inl ⟨by rfl, ?_⟩) ?_ ?_
        rotate_left
        ·exact aV
        rotate_left
        ·exact aA
        refine pure_ (i := 13) (N := some 26) (v := ?_) (a' := ?_) #[true, true, true, true, true, true, true, true, true, true, true, true, true, true, false] rfl rfl (any_of HT_.out aK) (fun _ _ _ h => h) (Or.inl ⟨by rfl, ?_⟩) ?_ ?_
        rotate_left
        ·exact aV
        rotate_left
        ·exact aA
        refine last_ (i := 14) (N := none) #[true, true, true, true, true, true, true, true, true, true, true, true, true, true, true] rfl rfl (one_of HT_.out aK) (by decide) (fun K hK => ?_)
        refine skip_ (w1 := ?_) (by rfl) rfl ?_ ?_
        rotate_left
        ·go_simp
         rfl
        refine hK.out _ _ ?_
        clear hK K
        refine done_ (done_of HT_.out aK) ?_
        have n0_ : Aside0 (Kd.R k59 59 (w16.setCell ⟨go9, ((ji4) : Int).toNat * 2 + 1, none⟩ (.string (((rd_T59 y150 (ji4)).f1) ++ ((rd_T59 l1 0).f1)))) w.heap.size (fun _ => True) (.slice (some ⟨go9, 0, none⟩) y150.length co15) y155) := ⟨by (with_reducible repeat (first|apply Kd.R_alloc|apply Kd.R_drewN|apply Kd.R_drew)); exact HQ17.out⟩
        have n1_ : Aside0 (Below w.heap.size w (w16.setCell ⟨go9, ((ji4) : Int).toNat * 2 + 1, none⟩ (.string (((rd_T59 y150 (ji4)).f1) ++ ((rd_T59 l1 0).f1))))) := ⟨by repeat (first | (with_reducible first | exact HB.out | apply below_alloc | apply pw_below_drewN | apply below_drew1 | refine below_set ?_ GB9.out) | exact HB.out)⟩
        (try clear HO152)
        (try clear HB)
        generalize (w16.setCell ⟨go9, ((ji4) : Int).toNat * 2 + 1, none⟩ (.string (((rd_T59 y150 (ji4)).f1) ++ ((rd_T59 l1 0).f1)))) = w18 at n0_ n1_ ⊢
        have HO152 := n0_
        have HB := n1_
        clear n0_ n1_
        have q19 : (1 : Int) ≤ ((l1.length : Int) : Int) := of_decide_eq_true aQ
        obtain ⟨i019, hi019, _, hsz19, _⟩ := info_parts info59
        have hroom19 : l1.length ≤ c1 := HC1.out
        have hC19 : Kd.C k59 _ (some ad154) l1.length l1 := HR1.out
        have hcut19 := cut_from (P := Try.prog) 27 59 .i64 Try.underlying27 hi019 2 hsz19 (some ad154) l1.length c1 1 (by omega) q19
        have hr19 := Kd.C_drop (m := (1 : Int).toNat) (c := c1) hC19 (by omega) hroom19
        obtain ⟨A19, hA19⟩ : ∃ A_, A_ = (if c1 = (1 : Int).toNat then (some ad154) else ((some ad154) : Option Addr).map (·.add ((1 : Int).toNat * 2))) := ⟨_, rfl⟩
        obtain ⟨c19, hc19⟩ : ∃ c_, c_ = c1 - (1 : Int).toNat := ⟨_, rfl⟩
        have hy19 : y156.length = l1.length - (1 : Int).toNat := (by rw [Ny156.out, List.length_drop] <;> omega)
        rw [show (l1).drop (1 : Int).toNat = y156 from Ny156.out.symm] at hr19
        replace hr19 : Kd.C k59 _ A19 y156.length y156 := (by rw [hA19]; exact hr19)
        rw [← hy19, ← hA19, ← hc19] at hcut19
        have HR159 := Aside0.mk hr19
        have HC159 := Aside0.mk (show y156.length ≤ c19 from by rw [hy19, hc19]; exact Nat.sub_le_sub_right hroom19 _)
        clear hr19 hC19 hroom19 hi019 hsz19 hc19
        have KY19 := Aside0.mk hy19
        have KA19 := Aside0.mk hA19
        clear hy19 hA19
        replace q19 := eq_true q19
        try go_wp2_with (first | ((with_reducible refine gate_builtin (b := .append) (xs := #[.tmp 27, .tmp 29]) rfl ?_); at_builtin; refine Kd.R_append_rows k59 (w0 := w) w.heap.size rfl (.tmp 27) (.tmp 29) 27 59 (.agg #[(.int .i64 0), (.string ⟨#[]⟩)]) 24 rfl Try.underlying27 info59 rfl (by decide) (by omega) (.slice (some ⟨go9, 0, none⟩) y150.length co15) y155 y156 _ _ _ (fun _ => True) (fun _ => False) rfl rfl ?aO ?aR (fun _ _ h => h) (fun _ h => h.elim) ?aF ?aB ?aS ?aL ?_; (case aR => repeat (first | exact (Kd.C_below HR159.out HB.out) | (with_reducible refine Kd.C_alloc ?_ _) | (with_reducible refine Kd.C_drewN ?_ _) | (with_reducible refine Kd.C_drew ?_))); (case aB => exact aB); (case aF => exact (fun _ _ => trivial)); (case aO => exact (aP HO152.out)); (case aS => exact (below_size aB)); (case aL => have := LMc11.out; omega); intro v161 w20 ho hb hg hat; rw [← Ny160.out] at ho; have n0_ := Aside0.mk (hb); have n1_ := Aside0.mk (ho); clear HB; clear HO152; have HB := n0_; have HO162 := n1_; clear n0_ n1_; clear ho hb hg hat))
        go_ret
        exact ⟨_, by first | rfl | (simp [errW_none, errW_some] <;> rfl) | (simp only [← hji4]; first | rfl | (simp [errW_none, errW_some] <;> rfl)) | (simp [*, errW_none, errW_some] <;> rfl), by (with_reducible repeat (first|apply Kd.R_alloc|apply Kd.R_drewN|apply Kd.R_drew)); exact HO162.out, by repeat (first|(with_reducible first|exact HB.out|apply below_alloc|apply pw_below_drewN|apply below_drew1)|exact HB.out)⟩
       ·rw [if_neg c11] at H
        exact absurd H (by simp)
      ·rw [if_neg c10] at H
       exact absurd H (by simp)
     ·rw [if_neg c8] at H
      exact absurd H (by simp)
    ·rw [if_neg c7] at H
     exact absurd H (by simp)
   ·rw [if_neg c6] at H
    exact absurd H (by simp)
  ·rw [if_neg c5] at H
   exact absurd H (by simp)
 ·rw [if_neg c3] at H
  exact absurd H (by simp)

end Go.Proofs.Ytkcpimhohadjkaa.POo
