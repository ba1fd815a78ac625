-- Written by a program of this session (xprint). -- COMPACT
import Derived.Test.YtkpnmninkmnbjaaDoorPKax0
import Derived.Test.YtkpnmninkmnbjaaDoorPKax2
import Derived.Test.YtkpnmninkmnbjaaDoorPKax7
import Derived.Test.YtkpnmninkmnbjaaDoorPKax8
namespace Go.Proofs.YtkpnmninkmnbjaaDoor.PKa
open Go.RowKit Go.Proofs.YtkpnmninkmnbjaaDoorW.PrintWords Go.Proofs.YtkpnmninkmnbjaaDoorW.PrintLast Go.Proofs.YtkpnmninkmnbjaaDoorW.PrintMore
attribute [local go_sem] max2_int min2_int max_two min_two max_three min_three max_four min_four   -- for this text's walks alone
set_option linter.unusedVariables false
set_option linter.unusedSimpArgs false

/-! ### impl_WrapBest: function 24 -/
mutual
def impl_WrapBest.l0 : Nat → List ByteArray → Int → Int → List Int → List Int → Int → Option (List ByteArray × Bool)
 | 0, _, _, _, _, _, _ => none
 | k + 1, x0, x1, x6, x7, x8, x9 => if x9 ≥ 0 then (impl_WrapBest.l1 k x0 x1 x6 x7 x8 x9 (-1) (wrap64 (x9 + 1))) else (impl_WrapBest.l2 k x0 x6 x8 (([] : List ByteArray)) 0)
def impl_WrapBest.l1 : Nat → List ByteArray → Int → Int → List Int → List Int → Int → Int → Int → Option (List ByteArray × Bool)
 | 0, _, _, _, _, _, _, _, _ => none
 | k + 1, x0, x1, x6, x7, x8, x9, x10, x11 => if x11 ≤ x6 then (if 0 ≤ (wrap64 (x11 - 1)) then (if (wrap64 (x11 - 1)) < (x0.length : Int) then ((impl_lineCost.f (wrap64 (x10 + (wrap64 (1 + ((rdOf ByteArray.empty x0 (wrap64 (x11 - 1))).size : Int))))) x1 (x11 == x6)).bind fun t337 => (if 0 ≤ x11 then (if x11 < (x7.length : Int) then (if x11 = (wrap64 (x9 + 1)) then (if 0 ≤ x9 then (if x9 < (x7.length : Int) then (if x9 < (x8.length : Int) then (impl_WrapBest.l1 k x0 x1 x6 (x7.set (x9 : Int).toNat (wrap64 (t337 + (rd x7 x11)))) (x8.set (x9 : Int).toNat x11) x9 (wrap64 (x10 + (wrap64 (1 + ((rdOf ByteArray.empty x0 (wrap64 (x11 - 1))).size : Int))))) (wrap64 (x11 + 1))) else (none)) else (none)) else (none)) else (if 0 ≤ x9 then (if x9 < (x7.length : Int) then (if (wrap64 (t337 + (rd x7 x11))) < (rd x7 x9) then (if x9 < (x8.length : Int) then (impl_WrapBest.l1 k x0 x1 x6 (x7.set (x9 : Int).toNat (wrap64 (t337 + (rd x7 x11)))) (x8.set (x9 : Int).toNat x11) x9 (wrap64 (x10 + (wrap64 (1 + ((rdOf ByteArray.empty x0 (wrap64 (x11 - 1))).size : Int))))) (wrap64 (x11 + 1))) else (none)) else (impl_WrapBest.l1 k x0 x1 x6 x7 x8 x9 (wrap64 (x10 + (wrap64 (1 + ((rdOf ByteArray.empty x0 (wrap64 (x11 - 1))).size : Int))))) (wrap64 (x11 + 1)))) else (none)) else (none))) else (none)) else (none))) else (none)) else (none)) else (impl_WrapBest.l0 k x0 x1 x6 x7 x8 (wrap64 (x9 - 1)))
def impl_WrapBest.l2 : Nat → List ByteArray → Int → List Int → List ByteArray → Int → Option (List ByteArray × Bool)
 | 0, _, _, _, _, _ => none
 | k + 1, x0, x6, x8, x13, x14 => if x14 < x6 then (if 0 ≤ x14 then (if x14 < (x8.length : Int) then (if x14 ≤ (rd x8 x14) then (if (rd x8 x14) ≤ (x0.length : Int) then ((strings_Join.f ((x0.take ((rd x8 x14) : Int).toNat).drop (x14 : Int).toNat) (⟨#[32]⟩ : ByteArray)).bind fun t349 => (if x13.length < 8796093022208 then (impl_WrapBest.l2 k x0 x6 x8 (x13 ++ [t349]) (rd x8 x14)) else (none))) else (none)) else (none)) else (none)) else (none)) else (some (x13, true))
end
def impl_WrapBest.f (k : Nat) (l0 : List ByteArray) (a1 : Int) : Option (List ByteArray × Bool) := (impl_wrapOk.f k l0 a1).bind fun t329 => (if t329 = true then (if 0 ≤ (wrap64 ((l0.length : Int) + 1)) then (if (wrap64 ((l0.length : Int) + 1) : Int).toNat ≤ 35184372088832 then (impl_WrapBest.l0 k l0 a1 (l0.length : Int) (List.replicate (wrap64 ((l0.length : Int) + 1) : Int).toNat 0) (List.replicate (wrap64 ((l0.length : Int) + 1) : Int).toNat 0) (wrap64 ((l0.length : Int) - 1))) else (none)) else (none)) else (some (([] : List ByteArray), false)))
def impl_WrapBest.T4 : Bool × List (List Nat × List Nat) := (true, [([], []), ([0], [0]), ([1, 1], [1]), ([], []), ([3], [3]), ([4, 4], [4]), ([2, 0, 1, 2], [2]), ([5, 6, 0, 1, 2, 3, 4, 5, 6], [5])])
def impl_WrapBest.B4 : List Nat := [0, 1, 3, 0, 8, 24, 7, 127]
theorem impl_WrapBest.tab4 : rtab .any (opsOf Tryd.f24 4) = impl_WrapBest.T4 := by kernel_rfl
theorem impl_WrapBest.bits4 : waitsOk impl_WrapBest.T4.2 impl_WrapBest.B4 = true := by kernel_rfl
def impl_WrapBest.T13 : Bool × List (List Nat × List Nat) := (true, [([], []), ([], []), ([], []), ([], []), ([2, 3], [2, 3]), ([0, 1, 4], [0, 1, 4]), ([], []), ([], []), ([6, 7], [6, 7]), ([8], [8]), ([5, 9], [5, 9]), ([10, 5, 0, 1, 2, 3, 4, 5, 6, 7, 8, 9, 10], [10])])
def impl_WrapBest.B13 : List Nat := [0, 0, 0, 0, 12, 31, 0, 0, 192, 448, 1023, 2047]
theorem impl_WrapBest.tab13 : rtab .any (opsOf Tryd.f24 13) = impl_WrapBest.T13 := by kernel_rfl
theorem impl_WrapBest.bits13 : waitsOk impl_WrapBest.T13.2 impl_WrapBest.B13 = true := by kernel_rfl
set_option maxHeartbeats 8000000 in
set_option maxRecDepth 100000 in
theorem impl_WrapBest.calls (k : Nat) (A0 : Option Addr) (c0 : Nat) (l0 : List ByteArray) (a1 : Int) (r1 : List ByteArray) (r2 : Bool) (w : World) (hr0 : Kd.C Kd.string w A0 l0.length l0) (hc0 : l0.length ≤ c0) (h : impl_WrapBest.f k l0 a1 = some (r1, r2)) :
  Calls Tryd.prog 24 #[.slice A0 l0.length c0, .int .i64 a1] w fun e w' => ∃ v0_ : Value, e = .returned (.tuple #[v0_, .bool r2]) ∧ Kd.R Kd.string 9 w' w.heap.size (fun _ => True) v0_ r1 ∧ Below w.heap.size w w' := by
 have HR0 := Aside0.mk hr0
 have HC0 := Aside0.mk hc0
 clear hr0 hc0
 have HB := Aside0.mk (Below.refl w.heap.size w)
 have H : ((impl_wrapOk.f k l0 a1).bind fun t329 => (if t329 = true then (if 0 ≤ (wrap64 ((l0.length : Int) + 1)) then (if (wrap64 ((l0.length : Int) + 1) : Int).toNat ≤ 35184372088832 then (impl_WrapBest.l0 k l0 a1 (l0.length : Int) (List.replicate (wrap64 ((l0.length : Int) + 1) : Int).toNat 0) (List.replicate (wrap64 ((l0.length : Int) + 1) : Int).toNat 0) (wrap64 ((l0.length : Int) - 1))) else (none)) else (none)) else (some (([] : List ByteArray), false)))) = some (r1, r2) := h
 clear h
 replace H := Option.bind_eq_some_iff.mp H
 obtain ⟨t329, A30, H⟩ := H
 replace H : (if t329 = true then (if 0 ≤ (wrap64 ((l0.length : Int) + 1)) then (if (wrap64 ((l0.length : Int) + 1) : Int).toNat ≤ 35184372088832 then (impl_WrapBest.l0 k l0 a1 (l0.length : Int) (List.replicate (wrap64 ((l0.length : Int) + 1) : Int).toNat 0) (List.replicate (wrap64 ((l0.length : Int) + 1) : Int).toNat 0) (wrap64 ((l0.length : Int) - 1))) else (none)) else (none)) else (some (([] : List ByteArray), false))) = some (r1, r2) := H
 have A3 := Aside0.mk A30
 clear A30
 by_cases c4 : t329 = true
 ·subst c4
  have H1 : (if 0 ≤ (wrap64 ((l0.length : Int) + 1)) then (if (wrap64 ((l0.length : Int) + 1) : Int).toNat ≤ 35184372088832 then (impl_WrapBest.l0 k l0 a1 (l0.length : Int) (List.replicate (wrap64 ((l0.length : Int) + 1) : Int).toNat 0) (List.replicate (wrap64 ((l0.length : Int) + 1) : Int).toNat 0) (wrap64 ((l0.length : Int) - 1))) else (none)) else (none)) = some (r1, r2) := by rw [if_pos rfl] at H; exact H
  clear H
  have H := H1
  clear H1
  obtain ⟨ji5, hji5⟩ : ∃ j_ : Int, (wrap64 ((l0.length : Int) + 1)) = j_ := ⟨_, rfl⟩
  replace H : (if 0 ≤ (ji5) then (if (ji5 : Int).toNat ≤ 35184372088832 then (impl_WrapBest.l0 k l0 a1 (l0.length : Int) (List.replicate (ji5 : Int).toNat 0) (List.replicate (ji5 : Int).toNat 0) (wrap64 ((l0.length : Int) - 1))) else (none)) else (none)) = some (r1, r2) := by first | (rw [hji5] at H; exact H) | (simp only [hji5] at H ⊢; exact H)
  (try rw [hji5] at A3)
  have hji5w : (IntKind.i64.wrap ((l0.length : Int) + 1)) = ji5 := (i64_w _).trans hji5
  by_cases c6 : 0 ≤ (ji5)
  ·rw [if_pos c6] at H
   have c6b0 := eq_true c6
   have c6b1 : decide (0 ≤ (ji5)) = true := decide_eq_true c6
   clear c6
   by_cases c7 : (ji5 : Int).toNat ≤ 35184372088832
   ·rw [if_pos c7] at H
    have c7b0 := eq_true c7
    have c7b1 : decide ((ji5 : Int).toNat ≤ 35184372088832) = true := decide_eq_true c7
    clear c7
    obtain ⟨y330, hy330⟩ : ∃ y_ : List Int, y_ = (List.replicate (ji5 : Int).toNat 0) := ⟨_, rfl⟩
    replace H : (impl_WrapBest.l0 k l0 a1 (l0.length : Int) y330 (List.replicate (ji5 : Int).toNat 0) (wrap64 ((l0.length : Int) - 1))) = some (r1, r2) := by first | (rw [hy330]; with_reducible exact H) | (have H2_ := (Option.bind_some _ _).symm.trans H; rw [hy330]; with_reducible exact H2_) | (have H2_ := (Option.bind_some _ _).symm.trans H; with_reducible exact H2_) | with_reducible exact H | (rw [hy330]; exact H) | exact H
    have Ny330 := Aside0.mk hy330
    clear hy330
    obtain ⟨y333, hy333⟩ : ∃ y_ : List Int, y_ = (List.replicate (ji5 : Int).toNat 0) := ⟨_, rfl⟩
    replace H : (impl_WrapBest.l0 k l0 a1 (l0.length : Int) y330 y333 (wrap64 ((l0.length : Int) - 1))) = some (r1, r2) := by first | (rw [hy333]; with_reducible exact H) | (have H2_ := (Option.bind_some _ _).symm.trans H; rw [hy333]; with_reducible exact H2_) | (have H2_ := (Option.bind_some _ _).symm.trans H; with_reducible exact H2_) | with_reducible exact H | (rw [hy333]; exact H) | exact H
    have Ny333 := Aside0.mk hy333
    clear hy333
    have H' := Aside0.mk H
    clear H
    go_enter Tryd.func24, Tryd.ntmps24
    try go_wp2_with (first | ((with_reducible refine gate_callee (f := 28) rfl ?_); refine goesL_ (some 17) rfl rfl Tryd.func28 (by kernel_rfl) rfl #[.slice A0 l0.length c0, .int .i64 a1] rfl (by (try simp only [List.map_toArray, List.map_cons, List.map_nil]); first | done | rfl | (simp only [List.length_drop, List.length_take]; rfl)) ?_; (with_reducible refine (impl_wrapOk.calls k _ _ l0 a1 true _ ?side1 ?side2 A3.out).mono ?_); (case side1 => repeat (first | exact HR0.out | (with_reducible refine Kd.C_alloc ?_ _) | (with_reducible refine Kd.C_drewN ?_ _) | (with_reducible refine Kd.C_drew ?_))); (case side2 => exact HC0.out); rintro e w' ⟨rfl, ⟨nd, rfl⟩⟩; refine ⟨_, rfl, ?_⟩))
    have n0_ := Aside0.mk (below_drew1 (pw_below_drewN HB.out nd))
    clear HB
    have HB := n0_
    clear n0_
    refine start_ (n := 8) (S := fun w' => True) (ds := []) #[false, false, false, false, false, false, false, false] (by kernel_rfl) rfl rfl trivial (fun hHeld => ?_); refine with_tabW impl_WrapBest.tab4 impl_WrapBest.bits4 (fun HT_ HW_ => ?_)
    generalize (w.drewN nd).drew = w8 at HB hHeld ⊢
    refine pure_ (i := 0) (N := some 21) (v := ?_) (a' := ?_) #[true, false, false, false, false, false, false, false] rfl rfl (any_of HT_.out (by kernel_rfl)) (fun _ _ _ h => h) (Or.inl ⟨by rfl, ?_⟩) ?_ ?_
    rotate_left
    ·intro w'
     go_simp
     with_reducible rfl
    rotate_left
    ·simp only [Act.put, List.setIfInBounds_toArray, List.set_cons_zero, List.set_cons_succ, i64_w, i32_w]
     rfl
    refine pure_ (i := 1) (N := some 22) (v := ?_) (a' := ?_) #[true, true, false, false, false, false, false, false] rfl rfl (any_of HT_.out (by kernel_rfl)) (fun _ _ _ h => h) (Or.inl ⟨by rfl, ?_⟩) ?_ ?_
    rotate_left
    ·intro w'
     go_simp
     with_reducible rfl
    rotate_left
    ·simp only [Act.put, List.setIfInBounds_toArray, List.set_cons_zero, List.set_cons_succ, i64_w, i32_w]
     rfl
    refine pure_ (i := 3) (N := some 24) (v := ?_) (a' := ?_) #[true, true, false, true, false, false, false, false] rfl rfl (any_of HT_.out (by kernel_rfl)) (fun _ _ _ h => h) (Or.inl ⟨by rfl, ?_⟩) ?_ ?_
    rotate_left
    ·intro w'
     go_simp
     with_reducible rfl
    rotate_left
    ·simp only [Act.put, List.setIfInBounds_toArray, List.set_cons_zero, List.set_cons_succ, i64_w, i32_w]
     rfl
    refine pure_ (i := 4) (N := some 25) (v := ?_) (a' := ?_) #[true, true, false, true, true, false, false, false] rfl rfl (any_of HT_.out (by kernel_rfl)) (fun _ _ _ h => h) (Or.inl ⟨by rfl, ?_⟩) ?_ ?_
    rotate_left
    ·intro w'
     go_simp
     with_reducible rfl
    rotate_left
    ·simp only [Act.put, List.setIfInBounds_toArray, List.set_cons_zero, List.set_cons_succ, i64_w, i32_w]
     rfl
    refine join_ (σ := Value × Value) 1 #[true, true, true, true, true, true, true, false] (fun s_ => [(23, s_.1), (26, s_.2), (7, s_.1)]) (fun s_ w' => (Kd.R (Kd.int .i64) 3 w' w.heap.size (fun k_ => some k_ ≠ (s_.2 : Value).ownBlock) s_.1 y330) ∧ (Kd.R (Kd.int .i64) 3 w' w.heap.size (fun k_ => some k_ ≠ (s_.1 : Value).ownBlock) s_.2 y333) ∧ (Below w.heap.size w w')) ?_ ?_
    rotate_left
    ·intro hCont
     refine two_ (i := 2) (j := 5) (Ni := some 23) (Nj := some 26) #[true, true, true, true, true, false, false, false] #[true, true, false, true, true, true, false, false] rfl rfl rfl rfl (two_of HT_.out (by kernel_rfl)) (by decide) (by decide) (fun K hK => ?_) (fun K hK => ?_)
     ·skip
      refine Kd.R_make_step (Kd.int .i64) _ 3 (by rfl) (N := 23) rfl 43 _ _ rfl ji5 rfl rfl Tryd.underlying43 (.int .i64 0) 8 info3 rfl (by decide) (by omega) 0 (ok := fun _ => True) (okp := fun _ => True) rfl (fun _ hk => hk) trivial (of_decide_eq_true (by first|(with_reducible assumption)|assumption)) (Nat.le_trans (Nat.mul_le_mul_right _ (of_decide_eq_true (by first|(with_reducible assumption)|assumption) : ji5.toNat ≤ 35184372088832)) (by omega)) (Below.refl _ _) (Nat.le_refl _) ?_
      intro v331 w9 ho10 hb hg_ hnew_
      clear hg_ hnew_
      (first | rw [← Ny330.out] at ho10 | (simp only [Int.reduceToNat] at ho10; rw [← Ny330.out] at ho10))
      have n0_ := Aside0.mk (Kd.R_lower ho10 (below_size (by repeat (first|(with_reducible first|exact HB.out|apply below_alloc|apply pw_below_drewN|apply below_drew1)|exact HB.out))))
      have n1_ := Aside0.mk (below_step (by repeat (first|(with_reducible first|exact HB.out|apply below_alloc|apply pw_below_drewN|apply below_drew1)|exact HB.out)) hb)
      clear HB
      have HO332 := n0_
      have HB := n1_
      clear n0_ n1_
      clear hb ho10
      refine hK.out _ _ trivial (fun hHeld => ?_)
      clear hK K
      refine norm_ (a' := ?_) ?_ ?_
      rotate_left
      ·show Act.put _ (some 23) _ = _
       simp only [Act.put, List.setIfInBounds_toArray, List.set_cons_zero, List.set_cons_succ, i64_w, i32_w]
       rfl
      refine pure_ (i := 6) (N := some 7) (v := ?_) (a' := ?_) #[true, true, true, true, true, false, true, false] rfl rfl (any_of HT_.out (by kernel_rfl)) (fun _ _ _ h => h) (Or.inl ⟨by rfl, ?_⟩) ?_ ?_
      rotate_left
      ·intro w'
       go_simp
       with_reducible rfl
      rotate_left
      ·simp only [Act.put, List.setIfInBounds_toArray, List.set_cons_zero, List.set_cons_succ, i64_w, i32_w]
       rfl
      refine one_ (i := 5) (N := some 26) #[true, true, true, true, true, true, true, false] rfl rfl (one_of HT_.out (by kernel_rfl)) (by decide) (fun K hK => ?_)
      refine Kd.R_make_step (Kd.int .i64) _ 3 (by rfl) (N := 26) rfl 43 _ _ rfl ji5 rfl rfl Tryd.underlying43 (.int .i64 0) 8 info3 rfl (by decide) (by omega) 0 (ok := fun _ => True) (okp := fun _ => True) rfl (fun _ hk => hk) trivial (of_decide_eq_true (by first|(with_reducible assumption)|assumption)) (Nat.le_trans (Nat.mul_le_mul_right _ (of_decide_eq_true (by first|(with_reducible assumption)|assumption) : ji5.toNat ≤ 35184372088832)) (by omega)) (Below.refl _ _) (Nat.le_refl _) ?_
      intro v334 w11 ho12 hb hg_ hnew_
      clear hg_ hnew_
      (first | rw [← Ny333.out] at ho12 | (simp only [Int.reduceToNat] at ho12; rw [← Ny333.out] at ho12))
      have n0_ := Aside0.mk (Kd.R_elder' (by (with_reducible repeat (first|apply Kd.R_alloc|apply Kd.R_drewN|apply Kd.R_drew)); exact HO332.out) (Kd.R_base ho12) hb)
      have n1_ := Aside0.mk (Kd.R_lower (Kd.R_new' ho12 (Kd.R_lt (by (with_reducible repeat (first|apply Kd.R_alloc|apply Kd.R_drewN|apply Kd.R_drew)); exact HO332.out))) (below_size (by repeat (first|(with_reducible first|exact HB.out|apply below_alloc|apply pw_below_drewN|apply below_drew1)|exact HB.out))))
      have n2_ := Aside0.mk (below_step (by repeat (first|(with_reducible first|exact HB.out|apply below_alloc|apply pw_below_drewN|apply below_drew1)|exact HB.out)) hb)
      clear HO332
      clear HB
      have HO332 := n0_
      have HO335 := n1_
      have HB := n2_
      clear n0_ n1_ n2_
      clear hb ho12
      refine hK.out _ _ trivial (fun hHeld => ?_)
      clear hK K
      refine norm_ (a' := ?_) ?_ ?_
      rotate_left
      ·show Act.put _ (some 26) _ = _
       simp only [Act.put, List.setIfInBounds_toArray, List.set_cons_zero, List.set_cons_succ, i64_w, i32_w]
       rfl
      exact norm_ (by simp only [putAll, Act.put, List.setIfInBounds_toArray, List.set_cons_zero, List.set_cons_succ]) (hCont (v331, v334) _ ⟨(by (with_reducible repeat (first|apply Kd.R_alloc|apply Kd.R_drewN|apply Kd.R_drew)); exact Kd.R_mono HO332.out (fun _ hk => hk.2)), (by (with_reducible repeat (first|apply Kd.R_alloc|apply Kd.R_drewN|apply Kd.R_drew)); exact Kd.R_mono HO335.out (fun _ hk => hk.2)), (by repeat (first|(with_reducible first|exact HB.out|apply below_alloc|apply pw_below_drewN|apply below_drew1)|exact HB.out))⟩)
     ·skip
      refine Kd.R_make_step (Kd.int .i64) _ 3 (by rfl) (N := 26) rfl 43 _ _ rfl ji5 rfl rfl Tryd.underlying43 (.int .i64 0) 8 info3 rfl (by decide) (by omega) 0 (ok := fun _ => True) (okp := fun _ => True) rfl (fun _ hk => hk) trivial (of_decide_eq_true (by first|(with_reducible assumption)|assumption)) (Nat.le_trans (Nat.mul_le_mul_right _ (of_decide_eq_true (by first|(with_reducible assumption)|assumption) : ji5.toNat ≤ 35184372088832)) (by omega)) (Below.refl _ _) (Nat.le_refl _) ?_
      intro v334 w9 ho10 hb hg_ hnew_
      clear hg_ hnew_
      (first | rw [← Ny333.out] at ho10 | (simp only [Int.reduceToNat] at ho10; rw [← Ny333.out] at ho10))
      have n0_ := Aside0.mk (Kd.R_lower ho10 (below_size (by repeat (first|(with_reducible first|exact HB.out|apply below_alloc|apply pw_below_drewN|apply below_drew1)|exact HB.out))))
      have n1_ := Aside0.mk (below_step (by repeat (first|(with_reducible first|exact HB.out|apply below_alloc|apply pw_below_drewN|apply below_drew1)|exact HB.out)) hb)
      clear HB
      have HO335 := n0_
      have HB := n1_
      clear n0_ n1_
      clear hb ho10
      refine hK.out _ _ trivial (fun hHeld => ?_)
      clear hK K
      refine norm_ (a' := ?_) ?_ ?_
      rotate_left
      ·show Act.put _ (some 26) _ = _
       simp only [Act.put, List.setIfInBounds_toArray, List.set_cons_zero, List.set_cons_succ, i64_w, i32_w]
       rfl
      refine one_ (i := 2) (N := some 23) #[true, true, true, true, true, true, false, false] rfl rfl (one_of HT_.out (by kernel_rfl)) (by decide) (fun K hK => ?_)
      refine Kd.R_make_step (Kd.int .i64) _ 3 (by rfl) (N := 23) rfl 43 _ _ rfl ji5 rfl rfl Tryd.underlying43 (.int .i64 0) 8 info3 rfl (by decide) (by omega) 0 (ok := fun _ => True) (okp := fun _ => True) rfl (fun _ hk => hk) trivial (of_decide_eq_true (by first|(with_reducible assumption)|assumption)) (Nat.le_trans (Nat.mul_le_mul_right _ (of_decide_eq_true (by first|(with_reducible assumption)|assumption) : ji5.toNat ≤ 35184372088832)) (by omega)) (Below.refl _ _) (Nat.le_refl _) ?_
      intro v331 w11 ho12 hb hg_ hnew_
      clear hg_ hnew_
      (first | rw [← Ny330.out] at ho12 | (simp only [Int.reduceToNat] at ho12; rw [← Ny330.out] at ho12))
      have n0_ := Aside0.mk (Kd.R_elder' (by (with_reducible repeat (first|apply Kd.R_alloc|apply Kd.R_drewN|apply Kd.R_drew)); exact HO335.out) (Kd.R_base ho12) hb)
      have n1_ := Aside0.mk (Kd.R_lower (Kd.R_new' ho12 (Kd.R_lt (by (with_reducible repeat (first|apply Kd.R_alloc|apply Kd.R_drewN|apply Kd.R_drew)); exact HO335.out))) (below_size (by repeat (first|(with_reducible first|exact HB.out|apply below_alloc|apply pw_below_drewN|apply below_drew1)|exact HB.out))))
      have n2_ := Aside0.mk (below_step (by repeat (first|(with_reducible first|exact HB.out|apply below_alloc|apply pw_below_drewN|apply below_drew1)|exact HB.out)) hb)
      clear HO335
      clear HB
      have HO335 := n0_
      have HO332 := n1_
      have HB := n2_
      clear n0_ n1_ n2_
      clear hb ho12
      refine hK.out _ _ trivial (fun hHeld => ?_)
      clear hK K
      refine norm_ (a' := ?_) ?_ ?_
      rotate_left
      ·show Act.put _ (some 23) _ = _
       simp only [Act.put, List.setIfInBounds_toArray, List.set_cons_zero, List.set_cons_succ, i64_w, i32_w]
       rfl
      refine pure_ (i := 6) (N := some 7) (v := ?_) (a' := ?_) #[true, true, true, true, true, true, true, false] rfl rfl (any_of HT_.out (by kernel_rfl)) (fun _ _ _ h => h) (Or.inl ⟨by rfl, ?_⟩) ?_ ?_
      rotate_left
      ·intro w'
       go_simp
       with_reducible rfl
      rotate_left
      ·simp only [Act.put, List.setIfInBounds_toArray, List.set_cons_zero, List.set_cons_succ, i64_w, i32_w]
       rfl
      exact norm_ (by simp only [putAll, Act.put, List.setIfInBounds_toArray, List.set_cons_zero, List.set_cons_succ]) (hCont (v331, v334) _ ⟨(by (with_reducible repeat (first|apply Kd.R_alloc|apply Kd.R_drewN|apply Kd.R_drew)); exact Kd.R_mono HO332.out (fun _ hk => hk.2)), (by (with_reducible repeat (first|apply Kd.R_alloc|apply Kd.R_drewN|apply Kd.R_drew)); exact Kd.R_mono HO335.out (fun _ hk => hk.2)), (by repeat (first|(with_reducible first|exact HB.out|apply below_alloc|apply pw_below_drewN|apply below_drew1)|exact HB.out))⟩)
    rintro ⟨v331, v334⟩ w13 ⟨h0_, h1_, h2_⟩
    have n0_ : Aside0 (Kd.R (Kd.int .i64) 3 w13 w.heap.size (fun k_ => some k_ ≠ (v334 : Value).ownBlock) v331 y330) := ⟨h0_⟩
    have n1_ : Aside0 (Kd.R (Kd.int .i64) 3 w13 w.heap.size (fun k_ => some k_ ≠ (v331 : Value).ownBlock) v334 y333) := ⟨h1_⟩
    have n2_ : Aside0 (Below w.heap.size w w13) := ⟨h2_⟩
    clear HB
    clear h0_ h1_ h2_
    have HO332 := n0_
    have HO335 := n1_
    have HB := n2_
    clear n0_ n1_ n2_
    have hHeld := trivial
    refine norm_ (a' := ?_) ?_ ?_
    rotate_left
    ·simp only [putAll, Act.put, List.setIfInBounds_toArray, List.set_cons_zero, List.set_cons_succ]
     rfl
    refine pure_ (i := 7) (N := some 8) (v := ?_) (a' := ?_) #[true, true, true, true, true, true, true, true] rfl rfl (any_of HT_.out (by kernel_rfl)) (fun _ _ _ h => h) (Or.inl ⟨by rfl, ?_⟩) ?_ ?_
    rotate_left
    ·intro w'
     go_simp
     with_reducible rfl
    rotate_left
    ·simp only [Act.put, List.setIfInBounds_toArray, List.set_cons_zero, List.set_cons_succ, i64_w, i32_w]
     rfl
    refine done_ (done_of HT_.out (by kernel_rfl)) ?_
    try go_wp2
    go_loopg [9] k (fun kq v9 w' => ∃ (x7_1 : List Int) (x8_1 : List Int) (x9_1 : Int), v9 = .int .i64 x9_1 ∧ Aside0 (impl_WrapBest.l0 kq l0 a1 (l0.length : Int) x7_1 x8_1 x9_1 = some (r1, r2)) ∧ Aside0 (kq ≤ k) ∧ Aside0 (Kd.R (Kd.int .i64) 3 w' w.heap.size (fun k_ => some k_ ≠ (v334 : Value).ownBlock) v331 x7_1) ∧ Aside0 (Kd.R (Kd.int .i64) 3 w' w.heap.size (fun k_ => some k_ ≠ (v331 : Value).ownBlock) v334 x8_1) ∧ Aside0 (Below w.heap.size w w'))
    case atStart => exact ⟨(y330), (y333), (wrap64 ((l0.length : Int) - 1)), (by first|rfl|(simp;done)|(simp[*];done)), H', ⟨Nat.le_refl _⟩, ⟨by (with_reducible repeat (first|apply Kd.R_alloc|apply Kd.R_drewN|apply Kd.R_drew)); exact HO332.out⟩, ⟨by (with_reducible repeat (first|apply Kd.R_alloc|apply Kd.R_drewN|apply Kd.R_drew)); exact HO335.out⟩, ⟨by repeat (first|(with_reducible first|exact HB.out|apply below_alloc|apply pw_below_drewN|apply below_drew1)|exact HB.out)⟩⟩
    case round =>
     clear H'
     try clear c2
     try clear p2
     try clear c4
     try clear c6
     try clear c6b0
     try clear c6b1
     try clear p6
     try clear c7
     try clear c7b0
     try clear c7b1
     obtain ⟨x7_1, x8_1, x9_1, rfl, HA, HK1, HO_7, HO_8, HB⟩ := hrel
     cases gk with
     | zero => exact absurd HA.out (by simp [impl_WrapBest.l0])
     | succ k1 =>
      have H := HA.out
      clear HA
      simp only [impl_WrapBest.l0] at H
      by_cases c14 : x9_1 ≥ 0
      ·rw [if_pos c14] at H
       have c14b0 : decide (0 ≤ x9_1) = true := decide_eq_true c14
       clear c14
       have H' := Aside0.mk H
       clear H
       go_wp2
       go_loopg [10, 11] k1 (fun kq v10 v11 w' => ∃ (x7_2 : List Int) (x8_2 : List Int) (x10_2 : Int) (x11_2 : Int), v10 = .int .i64 x10_2 ∧ v11 = .int .i64 x11_2 ∧ Aside0 (impl_WrapBest.l1 kq l0 a1 (l0.length : Int) x7_2 x8_2 x9_1 x10_2 x11_2 = some (r1, r2)) ∧ Aside0 (kq ≤ k1) ∧ Aside0 (Kd.R (Kd.int .i64) 3 w' w.heap.size (fun k_ => some k_ ≠ (v334 : Value).ownBlock) v331 x7_2) ∧ Aside0 (Kd.R (Kd.int .i64) 3 w' w.heap.size (fun k_ => some k_ ≠ (v331 : Value).ownBlock) v334 x8_2) ∧ Aside0 (Below w.heap.size w w'))
       case atStart => exact ⟨(x7_1), (x8_1), ((-1)), (wrap64 (x9_1 + 1)), (by first|rfl|(simp;done)|(simp[*];done)), (by first|rfl|(simp;done)|(simp[*];done)), H', ⟨Nat.le_refl _⟩, ⟨by (with_reducible repeat (first|apply Kd.R_alloc|apply Kd.R_drewN|apply Kd.R_drew)); exact HO_7.out⟩, ⟨by (with_reducible repeat (first|apply Kd.R_alloc|apply Kd.R_drewN|apply Kd.R_drew)); exact HO_8.out⟩, ⟨by repeat (first|(with_reducible first|exact HB.out|apply below_alloc|apply pw_below_drewN|apply below_drew1)|exact HB.out)⟩⟩
       case round =>
        clear H'
        try clear c1
        try clear c2
        try clear p2
        try clear c4
        try clear c6
        try clear c6b0
        try clear c6b1
        try clear p6
        try clear c7
        try clear c7b0
        try clear c7b1
        try clear c14
        try clear c14b0
        try clear p2
        try clear p6
        obtain ⟨x7_2, x8_2, x10_2, x11_2, rfl, rfl, HA, HK2, HO_7, HO_8, HB⟩ := hrel
        cases gk with
        | zero => exact absurd HA.out (by simp [impl_WrapBest.l1])
        | succ k2 =>
         have H := HA.out
         clear HA
         simp only [impl_WrapBest.l1] at H
         by_cases c15 : x11_2 ≤ (l0.length : Int)
         ·rw [if_pos c15] at H
          have c15b0 : decide (x11_2 ≤ (l0.length : Int)) = true := decide_eq_true c15
          clear c15
          obtain ⟨ji16, hji16⟩ : ∃ j_ : Int, (wrap64 (x11_2 - 1)) = j_ := ⟨_, rfl⟩
          replace H : (if 0 ≤ (ji16) then (if (ji16) < (l0.length : Int) then ((impl_lineCost.f (wrap64 (x10_2 + (wrap64 (1 + ((rdOf ByteArray.empty l0 (ji16)).size : Int))))) a1 (x11_2 == (l0.length : Int))).bind fun t337 => (if 0 ≤ x11_2 then (if x11_2 < (x7_2.length : Int) then (if x11_2 = (wrap64 (x9_1 + 1)) then (if 0 ≤ x9_1 then (if x9_1 < (x7_2.length : Int) then (if x9_1 < (x8_2.length : Int) then (impl_WrapBest.l1 k2 l0 a1 (l0.length : Int) (x7_2.set (x9_1 : Int).toNat (wrap64 (t337 + (rd x7_2 x11_2)))) (x8_2.set (x9_1 : Int).toNat x11_2) x9_1 (wrap64 (x10_2 + (wrap64 (1 + ((rdOf ByteArray.empty l0 (ji16)).size : Int))))) (wrap64 (x11_2 + 1))) else (none)) else (none)) else (none)) else (if 0 ≤ x9_1 then (if x9_1 < (x7_2.length : Int) then (if (wrap64 (t337 + (rd x7_2 x11_2))) < (rd x7_2 x9_1) then (if x9_1 < (x8_2.length : Int) then (impl_WrapBest.l1 k2 l0 a1 (l0.length : Int) (x7_2.set (x9_1 : Int).toNat (wrap64 (t337 + (rd x7_2 x11_2)))) (x8_2.set (x9_1 : Int).toNat x11_2) x9_1 (wrap64 (x10_2 + (wrap64 (1 + ((rdOf ByteArray.empty l0 (ji16)).size : Int))))) (wrap64 (x11_2 + 1))) else (none)) else (impl_WrapBest.l1 k2 l0 a1 (l0.length : Int) x7_2 x8_2 x9_1 (wrap64 (x10_2 + (wrap64 (1 + ((rdOf ByteArray.empty l0 (ji16)).size : Int))))) (wrap64 (x11_2 + 1)))) else (none)) else (none))) else (none)) else (none))) else (none)) else (none)) = some (r1, r2) := by first | (rw [hji16] at H; exact H) | (simp only [hji16] at H ⊢; exact H)
          have hji16w : (IntKind.i64.wrap (x11_2 - 1)) = ji16 := (i64_w _).trans hji16
          by_cases c17 : 0 ≤ (ji16)
          ·rw [if_pos c17] at H
           have c17b0 : decide (0 ≤ (ji16)) = true := decide_eq_true c17
           clear c17
           by_cases c18 : (ji16) < (l0.length : Int)
           ·rw [if_pos c18] at H
            have c18b0 : decide ((ji16) < (l0.length : Int)) = true := decide_eq_true c18
            clear c18
            replace H := Option.bind_eq_some_iff.mp H
            obtain ⟨t337, A190, H⟩ := H
            replace H : (if 0 ≤ x11_2 then (if x11_2 < (x7_2.length : Int) then (if x11_2 = (wrap64 (x9_1 + 1)) then (if 0 ≤ x9_1 then (if x9_1 < (x7_2.length : Int) then (if x9_1 < (x8_2.length : Int) then (impl_WrapBest.l1 k2 l0 a1 (l0.length : Int) (x7_2.set (x9_1 : Int).toNat (wrap64 (t337 + (rd x7_2 x11_2)))) (x8_2.set (x9_1 : Int).toNat x11_2) x9_1 (wrap64 (x10_2 + (wrap64 (1 + ((rdOf ByteArray.empty l0 (ji16)).size : Int))))) (wrap64 (x11_2 + 1))) else (none)) else (none)) else (none)) else (if 0 ≤ x9_1 then (if x9_1 < (x7_2.length : Int) then (if (wrap64 (t337 + (rd x7_2 x11_2))) < (rd x7_2 x9_1) then (if x9_1 < (x8_2.length : Int) then (impl_WrapBest.l1 k2 l0 a1 (l0.length : Int) (x7_2.set (x9_1 : Int).toNat (wrap64 (t337 + (rd x7_2 x11_2)))) (x8_2.set (x9_1 : Int).toNat x11_2) x9_1 (wrap64 (x10_2 + (wrap64 (1 + ((rdOf ByteArray.empty l0 (ji16)).size : Int))))) (wrap64 (x11_2 + 1))) else (none)) else (impl_WrapBest.l1 k2 l0 a1 (l0.length : Int) x7_2 x8_2 x9_1 (wrap64 (x10_2 + (wrap64 (1 + ((rdOf ByteArray.empty l0 (ji16)).size : Int))))) (wrap64 (x11_2 + 1)))) else (none)) else (none))) else (none)) else (none)) = some (r1, r2) := H
            have A19 := Aside0.mk A190
            clear A190
            by_cases c20 : 0 ≤ x11_2
            ·rw [if_pos c20] at H
             have c20b0 : decide (0 ≤ x11_2) = true := decide_eq_true c20
             clear c20
             by_cases c21 : x11_2 < (x7_2.length : Int)
             ·rw [if_pos c21] at H
              have c21b0 : decide (x11_2 < (x7_2.length : Int)) = true := decide_eq_true c21
              clear c21
              by_cases c22 : x11_2 = (wrap64 (x9_1 + 1))
              ·rw [if_pos c22] at H
               have c22b0 : (x11_2 == (wrap64 (x9_1 + 1))) = true := beq_iff_eq.mpr c22
               have c22b1 : (x11_2 != (wrap64 (x9_1 + 1))) = false := bne_eq_false_iff_eq.mpr c22
               clear c22
               by_cases c23 : 0 ≤ x9_1
               ·rw [if_pos c23] at H
                have c23b0 : decide (0 ≤ x9_1) = true := decide_eq_true c23
                clear c23
                by_cases c24 : x9_1 < (x7_2.length : Int)
                ·rw [if_pos c24] at H
                 have c24b0 : decide (x9_1 < (x7_2.length : Int)) = true := decide_eq_true c24
                 clear c24
                 obtain ⟨y339, hy339⟩ : ∃ y_ : List Int, y_ = (x7_2.set (x9_1 : Int).toNat (wrap64 (t337 + (rd x7_2 x11_2)))) := ⟨_, rfl⟩
                 replace H : (if x9_1 < (x8_2.length : Int) then (impl_WrapBest.l1 k2 l0 a1 (l0.length : Int) y339 (x8_2.set (x9_1 : Int).toNat x11_2) x9_1 (wrap64 (x10_2 + (wrap64 (1 + ((rdOf ByteArray.empty l0 (ji16)).size : Int))))) (wrap64 (x11_2 + 1))) else (none)) = some (r1, r2) := by first | (rw [hy339]; with_reducible exact H) | (have H2_ := (Option.bind_some _ _).symm.trans H; rw [hy339]; with_reducible exact H2_) | (have H2_ := (Option.bind_some _ _).symm.trans H; with_reducible exact H2_) | with_reducible exact H | (rw [hy339]; exact H) | exact H
                 have Ny339 := Aside0.mk hy339
                 clear hy339
                 by_cases c26 : x9_1 < (x8_2.length : Int)
                 ·rw [if_pos c26] at H
                  have c26b0 : decide (x9_1 < (x8_2.length : Int)) = true := decide_eq_true c26
                  clear c26
                  obtain ⟨y340, hy340⟩ : ∃ y_ : List Int, y_ = (x8_2.set (x9_1 : Int).toNat x11_2) := ⟨_, rfl⟩
                  replace H : (impl_WrapBest.l1 k2 l0 a1 (l0.length : Int) y339 y340 x9_1 (wrap64 (x10_2 + (wrap64 (1 + ((rdOf ByteArray.empty l0 (ji16)).size : Int))))) (wrap64 (x11_2 + 1))) = some (r1, r2) := by first | (rw [hy340]; with_reducible exact H) | (have H2_ := (Option.bind_some _ _).symm.trans H; rw [hy340]; with_reducible exact H2_) | (have H2_ := (Option.bind_some _ _).symm.trans H; with_reducible exact H2_) | with_reducible exact H | (rw [hy340]; exact H) | exact H
                  have Ny340 := Aside0.mk hy340
                  clear hy340
                  have H' := Aside0.mk H
                  clear H
                  have p336 : 0 ≤ ((ji16) : Int) := of_decide_eq_true (by first|(with_reducible assumption)|assumption)
                  have q336 : (ji16) < (l0.length : Int) := of_decide_eq_true (by first|(with_reducible assumption)|assumption)
                  obtain ⟨ad336, e336, hx336_0⟩ := Kd.at_string HR0.out (ji16) p336 q336
                  cases e336
                  replace hx336_0 := (HB.out.cell (World.block_lt_of_cell? w _ hx336_0)).trans hx336_0
                  replace p336 := eq_true p336
                  replace q336 := eq_true q336
                  try go_wp2
                  have n0_ := Aside0.mk (Kd.R_drew HO_7.out)
                  have n1_ := Aside0.mk (Kd.R_drew HO_8.out)
                  have n2_ := Aside0.mk (below_drew1 HB.out)
                  clear HO_7
                  clear HO_8
                  clear HB
                  have HO_7 := n0_
                  have HO_8 := n1_
                  have HB := n2_
                  clear n0_ n1_ n2_
                  obtain ⟨Ao29, co29, eo29⟩ := Kd.R_slice HO_7.out
                  (first | subst eo29 | (injection eo29 with f1_ f2_ f3_; have f4_ := f1_.symm; have f5_ := f3_.symm; clear f1_ f2_ f3_; subst f4_; subst f5_))
                  have p338 : 0 ≤ (x11_2 : Int) := of_decide_eq_true (by first|(with_reducible assumption)|assumption)
                  have q338 : x11_2 < (x7_2.length : Int) := of_decide_eq_true (by first|(with_reducible assumption)|assumption)
                  obtain ⟨ad338, e338, hx338_0⟩ := Kd.at_int (Kd.R_reads' HO_7.out).2.2 x11_2 p338 q338
                  cases e338
                  replace p338 := eq_true p338
                  replace q338 := eq_true q338
                  refine start_ (n := 12) (S := fun w' => w'.cell? (ad338.add (x11_2).toNat) = some (.int .i64 (rd x7_2 x11_2))) (ds := []) #[false, false, false, false, false, false, false, false, false, false, false, false] (by kernel_rfl) rfl rfl (hx338_0) (fun hHeld => ?_); refine with_tabW impl_WrapBest.tab13 impl_WrapBest.bits13 (fun HT_ HW_ => ?_)
                  generalize wr.drew = w28 at HO_7 HO_8 HB hx338_0 hHeld ⊢
                  refine pure_ (i := 0) (N := some 49) (v := ?_) (a' := ?_) #[true, false, false, false, false, false, false, false, false, false, false, false] rfl rfl (any_of HT_.out (by kernel_rfl)) (fun _ _ _ h => h) (Or.inl ⟨by rfl, ?_⟩) ?_ ?_
                  rotate_left
                  ·intro w'
                   go_simp
                   with_reducible rfl
                  rotate_left
                  ·simp only [Act.put, List.setIfInBounds_toArray, List.set_cons_zero, List.set_cons_succ, i64_w, i32_w]
                   rfl
                  refine pure_ (i := 1) (N := some 50) (v := ?_) (a' := ?_) #[true, true, false, false, false, false, false, false, false, false, false, false] rfl rfl (any_of HT_.out (by kernel_rfl)) (fun _ _ _ h => h) (Or.inl ⟨by rfl, ?_⟩) ?_ ?_
                  rotate_left
                  ·intro w'
                   go_simp
                   with_reducible rfl
                  rotate_left
                  ·simp only [Act.put, List.setIfInBounds_toArray, List.set_cons_zero, List.set_cons_succ, i64_w, i32_w]
                   rfl
                  refine pure_ (i := 2) (N := some 51) (v := ?_) (a' := ?_) #[true, true, true, false, false, false, false, false, false, false, false, false] rfl rfl (any_of HT_.out (by kernel_rfl)) (fun _ _ _ h => h) (Or.inl ⟨by rfl, ?_⟩) ?_ ?_
                  rotate_left
                  ·intro w'
                   go_simp
                   with_reducible rfl
                  rotate_left
                  ·simp only [Act.put, List.setIfInBounds_toArray, List.set_cons_zero, List.set_cons_succ, i64_w, i32_w]
                   rfl
                  refine pure_ (i := 3) (N := some 52) (v := ?_) (a' := ?_) #[true, true, true, true, false, false, false, false, false, false, false, false] rfl rfl (any_of HT_.out (by kernel_rfl)) (fun _ _ _ h => h) (Or.inl ⟨by rfl, ?_⟩) ?_ ?_
                  rotate_left
                  ·intro w'
                   go_simp
                   with_reducible rfl
                  rotate_left
                  ·simp only [Act.put, List.setIfInBounds_toArray, List.set_cons_zero, List.set_cons_succ, i64_w, i32_w]
                   rfl
                  refine pure_ (i := 4) (N := some 53) (v := ?_) (a' := ?_) #[true, true, true, true, true, false, false, false, false, false, false, false] rfl rfl (any_of HT_.out (by kernel_rfl)) (fun _ _ _ h => h) (Or.inl ⟨by rfl, ?_⟩) ?_ ?_
                  rotate_left
                  ·intro w'
                   go_simp
                   with_reducible rfl
                  rotate_left
                  ·simp only [Act.put, List.setIfInBounds_toArray, List.set_cons_zero, List.set_cons_succ, i64_w, i32_w]
                   rfl
                  refine pure_ (i := 6) (N := some 55) (v := ?_) (a' := ?_) #[true, true, true, true, true, false, true, false, false, false, false, false] rfl rfl (any_of HT_.out (by kernel_rfl)) (fun _ _ _ h => h) (Or.inl ⟨by rfl, ?_⟩) ?_ ?_
                  rotate_left
                  ·intro w'
                   go_simp
                   with_reducible rfl
                  rotate_left
                  ·simp only [Act.put, List.setIfInBounds_toArray, List.set_cons_zero, List.set_cons_succ, i64_w, i32_w]
                   rfl
                  refine pure_ (i := 7) (N := some 56) (v := ?_) (a' := ?_) #[true, true, true, true, true, false, true, true, false, false, false, false] rfl rfl (any_of HT_.out (by kernel_rfl)) (fun _ _ _ h => h) (Or.inl ⟨by rfl, ?_⟩) ?_ ?_
                  rotate_left
                  ·intro w'
                   go_simp
                   with_reducible rfl
                  rotate_left
                  ·simp only [Act.put, List.setIfInBounds_toArray, List.set_cons_zero, List.set_cons_succ, i64_w, i32_w]
                   rfl
                  refine pure_ (i := 8) (N := some 57) (v := ?_) (a' := ?_) #[true, true, true, true, true, false, true, true, true, false, false, false] rfl rfl (any_of HT_.out (by kernel_rfl)) (fun _ _ _ h => h) (Or.inl ⟨by rfl, ?_⟩) ?_ ?_
                  rotate_left
                  ·intro w'
                   go_simp
                   with_reducible rfl
                  rotate_left
                  ·simp only [Act.put, List.setIfInBounds_toArray, List.set_cons_zero, List.set_cons_succ, i64_w, i32_w]
                   rfl
                  refine take_ (i := 9) (N := some 58) (v := ?_) (a' := ?_) #[true, true, true, true, true, false, true, true, true, true, false, false] rfl rfl (take_ofW HT_.out HW_.out (by kernel_rfl)) (fun _ _ _ h => h) (Or.inl ⟨by rfl, ?_⟩) hHeld ?_ ?_
                  rotate_left
                  ·intro w' s0
                   go_simp
                   with_reducible rfl
                  rotate_left
                  ·simp only [Act.put, List.setIfInBounds_toArray, List.set_cons_zero, List.set_cons_succ, i64_w, i32_w]
                   rfl
                  refine one_ (i := 5) (N := some 54) #[true, true, true, true, true, true, true, true, true, true, false, false] rfl rfl (one_of HT_.out (by kernel_rfl)) (by decide) (fun K hK => ?_)
                  refine goes_ Tryd.func32 (by kernel_rfl) rfl #[.int .i64 (wrap64 (x10_2 + (wrap64 (1 + ((rdOf ByteArray.empty l0 (ji16)).size : Int))))), .int .i64 a1, .bool (x11_2 == (l0.length : Int))] (by rfl) rfl rfl (by (try simp only [List.map_toArray, List.map_cons, List.map_nil]); first | done | (simp only [hji16]; rfl) | rfl | (simp only [List.length_drop, List.length_take]; rfl)) ?_
                  with_reducible refine (impl_lineCost.calls (wrap64 (x10_2 + (wrap64 (1 + ((rdOf ByteArray.empty l0 (ji16)).size : Int))))) a1 (x11_2 == (l0.length : Int)) t337 _ A19.out).mono ?_
                  rintro e w' ⟨rfl, ⟨nd, rfl⟩⟩
                  refine ⟨_, rfl, ?_⟩
                  refine hK.out _ _ (hHeld) (fun hHeld => ?_)
                  clear hK K
                  refine norm_ (a' := ?_) ?_ ?_
                  rotate_left
                  ·show Act.put _ (some 54) _ = _
                   simp only [Act.put, List.setIfInBounds_toArray, List.set_cons_zero, List.set_cons_succ, i64_w, i32_w]
                   rfl
                  refine pure_ (i := 10) (N := some 59) (v := ?_) (a' := ?_) #[true, true, true, true, true, true, true, true, true, true, true, false] rfl rfl (any_of HT_.out (by kernel_rfl)) (fun _ _ _ h => h) (Or.inl ⟨by rfl, ?_⟩) ?_ ?_
                  rotate_left
                  ·intro w'
                   go_simp
                   with_reducible rfl
                  rotate_left
                  ·simp only [Act.put, List.setIfInBounds_toArray, List.set_cons_zero, List.set_cons_succ, i64_w, i32_w]
                   rfl
                  refine pure_ (i := 11) (N := some 12) (v := ?_) (a' := ?_) #[true, true, true, true, true, true, true, true, true, true, true, true] rfl rfl (any_of HT_.out (by kernel_rfl)) (fun _ _ _ h => h) (Or.inl ⟨by rfl, ?_⟩) ?_ ?_
                  rotate_left
                  ·intro w'
                   go_simp
                   with_reducible rfl
                  rotate_left
                  ·simp only [Act.put, List.setIfInBounds_toArray, List.set_cons_zero, List.set_cons_succ, i64_w, i32_w]
                   rfl
                  refine done_ (done_of HT_.out (by kernel_rfl)) ?_
                  have m_ := Aside0.mk (Kd.R_drewN HO_7.out nd); clear HO_7; have HO_7 := m_; clear m_
                  have m_ := Aside0.mk (Kd.R_drewN HO_8.out nd); clear HO_8; have HO_8 := m_; clear m_
                  have m_ := Aside0.mk (pw_below_drewN HB.out nd); clear HB; have HB := m_; clear m_
                  change World.cell? (w28.drewN nd) _ = _ at hx338_0
                  generalize w28.drewN nd = w28 at HO_7 HO_8 HB hx338_0 ⊢
                  have p25 : 0 ≤ (x9_1 : Int) := of_decide_eq_true (by first|(with_reducible assumption)|assumption)
                  have q25 : (x9_1 : Int) < ((x7_2.length : Int) : Int) := of_decide_eq_true (by first|(with_reducible assumption)|assumption)
                  obtain ⟨go25, co25, eo25, gb25, gl25, cl25, HG25⟩ := Kd.R_form HO_7.out (by omega)
                  (first | cases eo25 | (injection eo25 with ea_ en_ ec_; (first | subst ea_ | (injection ea_ with ea_; subst ea_)); subst ec_; clear en_))
                  have GB25 := Aside0.mk gb25
                  have GG25 := Aside0.mk HG25
                  clear gb25 gl25 HG25
                  (first | simp only [add_plain] at hx338_0 | skip)
                  obtain ⟨hx25_0, hf25_0⟩ := Kd.R_celln 0 HO_7.out (x9_1 : Int) p25 q25
                  replace p25 := eq_true p25
                  replace q25 := eq_true q25
                  obtain ⟨hy30_, hz30_⟩ := Kd.R_celln 0 HO_7.out (x9_1 : Int) (of_decide_eq_true (by first|(with_reducible assumption)|assumption)) (of_decide_eq_true (by first|(with_reducible assumption)|assumption))
                  have HP30 := Kd.R_putg HO_7.out (x9_1 : Int) (wrap64 (t337 + (rd x7_2 x11_2)))
                  try go_wp2_with (first | ((with_reducible refine gate_store (t := 3) (p := 78) rfl ?_); refine store_event (t := 3) (p := 78) (v := ?vo_w31) (w1 := (w28.setCell ⟨go25, (x9_1 : Int).toNat, none⟩ (.int .i64 (wrap64 (t337 + (rd x7_2 x11_2)))))) ?hg ?ho ?hn ?hr ?_; (case ho => rfl); (case hg => rfl); (case hn => rfl); (case hr => first | (go_simp; done) | (go_simp; rfl)); intro w31 hw; have hg : w28.grownBy w31 (some go25) := (by rw [hw]; exact HP30.2); have hp_ : Kd.R (Kd.int .i64) 3 w31 w.heap.size (fun k_ => some k_ ≠ (v334 : Value).ownBlock) (.slice (some ⟨go25, 0, none⟩) x7_2.length co29) y339 := (by rw [hw, Ny339.out]; exact HP30.1); clear HP30; have n0_ := Aside0.mk (hp_); have n1_ := Aside0.mk (Kd.R_after (v := (.slice (some ⟨go25, 0, none⟩) x7_2.length co29)) (v1 := (.slice (some ⟨go25, 0, none⟩) x7_2.length co29)) (ok := (fun _ => True)) (by (with_reducible repeat (first|apply Kd.R_alloc|apply Kd.R_drewN|apply Kd.R_drew)); exact Kd.R_mono HO_8.out (fun _ hk => ⟨trivial, hk⟩)) hg (.inl rfl)); have n2_ := Aside0.mk ((by rw [hw]; exact below_set (HB.out) GB25.out : Below w.heap.size w w31)); clear HO_7; clear HO_8; clear HB; have HO_7 := n0_; have HO_8 := n1_; have HB := n2_; clear n0_ n1_ n2_; clear hg hw hp_; have p27 : 0 ≤ (x9_1 : Int) := of_decide_eq_true (by first|(with_reducible assumption)|assumption); have q27 : (x9_1 : Int) < ((x8_2.length : Int) : Int) := of_decide_eq_true (by first|(with_reducible assumption)|assumption); obtain ⟨go27, co27, eo27, gb27, gl27, cl27, HG27⟩ := Kd.R_form HO_8.out (by omega); (first | cases eo27 | (injection eo27 with ea_ en_ ec_; (first | subst ea_ | (injection ea_ with ea_; subst ea_)); subst ec_; clear en_)); have GB27 := Aside0.mk gb27; have GG27 := Aside0.mk HG27; clear gb27 gl27 HG27; obtain ⟨hx27_0, hf27_0⟩ := Kd.R_celln 0 HO_8.out (x9_1 : Int) p27 q27; replace p27 := eq_true p27; replace q27 := eq_true q27; have n_ := Aside0.mk (Kd.R_mono (ok' := (fun k_ => some k_ ≠ (.slice (some ⟨go25, 0, none⟩) x7_2.length co29 : Value).ownBlock)) HO_8.out (fun k_ hk => hk.2)); clear HO_8; have HO_8 := n_; clear n_; obtain ⟨hy32_, hz32_⟩ := Kd.R_celln 0 HO_8.out (x9_1 : Int) (of_decide_eq_true (by first|(with_reducible assumption)|assumption)) (of_decide_eq_true (by first|(with_reducible assumption)|assumption)); have HP32 := Kd.R_putg HO_8.out (x9_1 : Int) x11_2) | ((with_reducible refine gate_store (t := 3) (p := 79) rfl ?_); refine store_event (t := 3) (p := 79) (v := ?vo_w33) (w1 := (w31.setCell ⟨go27, (x9_1 : Int).toNat, none⟩ (.int .i64 x11_2))) ?hg ?ho ?hn ?hr ?_; (case ho => rfl); (case hg => rfl); (case hn => rfl); (case hr => first | (go_simp; done) | (go_simp; rfl)); intro w33 hw; have hg : w31.grownBy w33 (some go27) := (by rw [hw]; exact HP32.2); have hp_ : Kd.R (Kd.int .i64) 3 w33 w.heap.size (fun k_ => some k_ ≠ (.slice (some ⟨go25, 0, none⟩) x7_2.length co29 : Value).ownBlock) (.slice (some ⟨go27, 0, none⟩) x8_2.length co27) y340 := (by rw [hw, Ny340.out]; exact HP32.1); clear HP32; have n0_ := Aside0.mk (Kd.R_after (v := (.slice (some ⟨go27, 0, none⟩) x8_2.length co27)) (v1 := (.slice (some ⟨go27, 0, none⟩) x8_2.length co27)) (ok := (fun _ => True)) (by (with_reducible repeat (first|apply Kd.R_alloc|apply Kd.R_drewN|apply Kd.R_drew)); exact Kd.R_mono HO_7.out (fun _ hk => ⟨trivial, hk⟩)) hg (.inl rfl)); have n1_ := Aside0.mk (hp_); have n2_ := Aside0.mk ((by rw [hw]; exact below_set (HB.out) GB27.out : Below w.heap.size w w33)); clear HO_7; clear HO_8; clear HB; have HO_7 := n0_; have HO_8 := n1_; have HB := n2_; clear n0_ n1_ n2_; clear hg hw hp_))
                  go_roundg k2
                  case measure => have := HK1.out; have := HK2.out; omega
                  case rel => exact ⟨(y339), (y340), (wrap64 (x10_2 + (wrap64 (1 + ((rdOf ByteArray.empty l0 (ji16)).size : Int))))), (wrap64 (x11_2 + 1)), (by first | rfl | (simp; done) | (simp only [← hji16] <;> (first | rfl | simp)) | (simp [*]; done)), (by first|rfl|(simp;done)|(simp[*];done)), H', ⟨by have := HK1.out; have := HK2.out; omega⟩, ⟨by (with_reducible repeat (first|apply Kd.R_alloc|apply Kd.R_drewN|apply Kd.R_drew)); exact Kd.R_mono HO_7.out (fun _ hk => hk.2)⟩, ⟨by (with_reducible repeat (first|apply Kd.R_alloc|apply Kd.R_drewN|apply Kd.R_drew)); exact HO_8.out⟩, ⟨by repeat (first|(with_reducible first|exact HB.out|apply below_alloc|apply pw_below_drewN|apply below_drew1)|exact HB.out)⟩⟩
                 ·rw [if_neg c26] at H
                  exact absurd H (by simp)
                ·rw [if_neg c24] at H
                 exact absurd H (by simp)
               ·rw [if_neg c23] at H
                exact absurd H (by simp)
              ·rw [if_neg c22] at H
               have c22b0 : (x11_2 == (wrap64 (x9_1 + 1))) = false := beq_eq_false_iff_ne.mpr c22
               have c22b1 : (x11_2 != (wrap64 (x9_1 + 1))) = true := bne_iff_ne.mpr c22
               by_cases c34 : 0 ≤ x9_1
               ·rw [if_pos c34] at H
                have c34b0 : decide (0 ≤ x9_1) = true := decide_eq_true c34
                clear c34
                by_cases c35 : x9_1 < (x7_2.length : Int)
                ·rw [if_pos c35] at H
                 have c35b0 : decide (x9_1 < (x7_2.length : Int)) = true := decide_eq_true c35
                 clear c35
                 by_cases c36 : (wrap64 (t337 + (rd x7_2 x11_2))) < (rd x7_2 x9_1)
                 ·rw [if_pos c36] at H
                  have c36b0 : decide ((wrap64 (t337 + (rd x7_2 x11_2))) < (rd x7_2 x9_1)) = true := decide_eq_true c36
                  clear c36
                  obtain ⟨y342, hy342⟩ : ∃ y_ : List Int, y_ = (x7_2.set (x9_1 : Int).toNat (wrap64 (t337 + (rd x7_2 x11_2)))) := ⟨_, rfl⟩
                  replace H : (if x9_1 < (x8_2.length : Int) then (impl_WrapBest.l1 k2 l0 a1 (l0.length : Int) y342 (x8_2.set (x9_1 : Int).toNat x11_2) x9_1 (wrap64 (x10_2 + (wrap64 (1 + ((rdOf ByteArray.empty l0 (ji16)).size : Int))))) (wrap64 (x11_2 + 1))) else (none)) = some (r1, r2) := by first | (rw [hy342]; with_reducible exact H) | (have H2_ := (Option.bind_some _ _).symm.trans H; rw [hy342]; with_reducible exact H2_) | (have H2_ := (Option.bind_some _ _).symm.trans H; with_reducible exact H2_) | with_reducible exact H | (rw [hy342]; exact H) | exact H
                  have Ny342 := Aside0.mk hy342
                  clear hy342
                  by_cases c38 : x9_1 < (x8_2.length : Int)
                  ·rw [if_pos c38] at H
                   have c38b0 : decide (x9_1 < (x8_2.length : Int)) = true := decide_eq_true c38
                   clear c38
                   obtain ⟨y343, hy343⟩ : ∃ y_ : List Int, y_ = (x8_2.set (x9_1 : Int).toNat x11_2) := ⟨_, rfl⟩
                   replace H : (impl_WrapBest.l1 k2 l0 a1 (l0.length : Int) y342 y343 x9_1 (wrap64 (x10_2 + (wrap64 (1 + ((rdOf ByteArray.empty l0 (ji16)).size : Int))))) (wrap64 (x11_2 + 1))) = some (r1, r2) := by first | (rw [hy343]; with_reducible exact H) | (have H2_ := (Option.bind_some _ _).symm.trans H; rw [hy343]; with_reducible exact H2_) | (have H2_ := (Option.bind_some _ _).symm.trans H; with_reducible exact H2_) | with_reducible exact H | (rw [hy343]; exact H) | exact H
                   have Ny343 := Aside0.mk hy343
                   clear hy343
                   have H' := Aside0.mk H
                   clear H
                   have p336 : 0 ≤ ((ji16) : Int) := of_decide_eq_true (by first|(with_reducible assumption)|assumption)
                   have q336 : (ji16) < (l0.length : Int) := of_decide_eq_true (by first|(with_reducible assumption)|assumption)
                   obtain ⟨ad336, e336, hx336_0⟩ := Kd.at_string HR0.out (ji16) p336 q336
                   cases e336
                   replace hx336_0 := (HB.out.cell (World.block_lt_of_cell? w _ hx336_0)).trans hx336_0
                   replace p336 := eq_true p336
                   replace q336 := eq_true q336
                   try go_wp2
                   have n0_ := Aside0.mk (Kd.R_drew HO_7.out)
                   have n1_ := Aside0.mk (Kd.R_drew HO_8.out)
                   have n2_ := Aside0.mk (below_drew1 HB.out)
                   clear HO_7
                   clear HO_8
                   clear HB
                   have HO_7 := n0_
                   have HO_8 := n1_
                   have HB := n2_
                   clear n0_ n1_ n2_
                   obtain ⟨Ao41, co41, eo41⟩ := Kd.R_slice HO_7.out
                   (first | subst eo41 | (injection eo41 with f1_ f2_ f3_; have f4_ := f1_.symm; have f5_ := f3_.symm; clear f1_ f2_ f3_; subst f4_; subst f5_))
                   have p338 : 0 ≤ (x11_2 : Int) := of_decide_eq_true (by first|(with_reducible assumption)|assumption)
                   have q338 : x11_2 < (x7_2.length : Int) := of_decide_eq_true (by first|(with_reducible assumption)|assumption)
                   obtain ⟨ad338, e338, hx338_0⟩ := Kd.at_int (Kd.R_reads' HO_7.out).2.2 x11_2 p338 q338
                   cases e338
                   replace p338 := eq_true p338
                   replace q338 := eq_true q338
                   refine start_ (n := 12) (S := fun w' => w'.cell? (ad338.add (x11_2).toNat) = some (.int .i64 (rd x7_2 x11_2))) (ds := []) #[false, false, false, false, false, false, false, false, false, false, false, false] (by kernel_rfl) rfl rfl (hx338_0) (fun hHeld => ?_); refine with_tabW impl_WrapBest.tab13 impl_WrapBest.bits13 (fun HT_ HW_ => ?_)
                   generalize wr.drew = w40 at HO_7 HO_8 HB hx338_0 hHeld ⊢
                   refine pure_ (i := 0) (N := some 49) (v := ?_) (a' := ?_) #[true, false, false, false, false, false, false, false, false, false, false, false] rfl rfl (any_of HT_.out (by kernel_rfl)) (fun _ _ _ h => h) (Or.inl ⟨by rfl, ?_⟩) ?_ ?_
                   rotate_left
                   ·intro w'
                    go_simp
                    with_reducible rfl
                   rotate_left
                   ·simp only [Act.put, List.setIfInBounds_toArray, List.set_cons_zero, List.set_cons_succ, i64_w, i32_w]
                    rfl
                   refine pure_ (i := 1) (N := some 50) (v := ?_) (a' := ?_) #[true, true, false, false, false, false, false, false, false, false, false, false] rfl rfl (any_of HT_.out (by kernel_rfl)) (fun _ _ _ h => h) (Or.inl ⟨by rfl, ?_⟩) ?_ ?_
                   rotate_left
                   ·intro w'
                    go_simp
                    with_reducible rfl
                   rotate_left
                   ·simp only [Act.put, List.setIfInBounds_toArray, List.set_cons_zero, List.set_cons_succ, i64_w, i32_w]
                    rfl
                   refine pure_ (i := 2) (N := some 51) (v := ?_) (a' := ?_) #[true, true, true, false, false, false, false, false, false, false, false, false] rfl rfl (any_of HT_.out (by kernel_rfl)) (fun _ _ _ h => h) (Or.inl ⟨by rfl, ?_⟩) ?_ ?_
                   rotate_left
                   ·intro w'
                    go_simp
                    with_reducible rfl
                   rotate_left
                   ·simp only [Act.put, List.setIfInBounds_toArray, List.set_cons_zero, List.set_cons_succ, i64_w, i32_w]
                    rfl
                   refine pure_ (i := 3) (N := some 52) (v := ?_) (a' := ?_) #[true, true, true, true, false, false, false, false, false, false, false, false] rfl rfl (any_of HT_.out (by kernel_rfl)) (fun _ _ _ h => h) (Or.inl ⟨by rfl, ?_⟩) ?_ ?_
                   rotate_left
                   ·intro w'
                    go_simp
                    with_reducible rfl
                   rotate_left
                   ·simp only [Act.put, List.setIfInBounds_toArray, List.set_cons_zero, List.set_cons_succ, i64_w, i32_w]
                    rfl
                   refine pure_ (i := 4) (N := some 53) (v := ?_) (a' := ?_) #[true, true, true, true, true, false, false, false, false, false, false, false] rfl rfl (any_of HT_.out (by kernel_rfl)) (fun _ _ _ h => h) (Or.inl ⟨by rfl, ?_⟩) ?_ ?_
                   rotate_left
                   ·intro w'
                    go_simp
                    with_reducible rfl
                   rotate_left
                   ·simp only [Act.put, List.setIfInBounds_toArray, List.set_cons_zero, List.set_cons_succ, i64_w, i32_w]
                    rfl
                   refine pure_ (i := 6) (N := some 55) (v := ?_) (a' := ?_) #[true, true, true, true, true, false, true, false, false, false, false, false] rfl rfl (any_of HT_.out (by kernel_rfl)) (fun _ _ _ h => h) (Or.inl ⟨by rfl, ?_⟩) ?_ ?_
                   rotate_left
                   ·intro w'
                    go_simp
                    with_reducible rfl
                   rotate_left
                   ·simp only [Act.put, List.setIfInBounds_toArray, List.set_cons_zero, List.set_cons_succ, i64_w, i32_w]
                    rfl
                   refine pure_ (i := 7) (N := some 56) (v := ?_) (a' := ?_) #[true, true, true, true, true, false, true, true, false, false, false, false] rfl rfl (any_of HT_.out (by kernel_rfl)) (fun _ _ _ h => h) (Or.inl ⟨by rfl, ?_⟩) ?_ ?_
                   rotate_left
                   ·intro w'
                    go_simp
                    with_reducible rfl
                   rotate_left
                   ·simp only [Act.put, List.setIfInBounds_toArray, List.set_cons_zero, List.set_cons_succ, i64_w, i32_w]
                    rfl
                   refine pure_ (i := 8) (N := some 57) (v := ?_) (a' := ?_) #[true, true, true, true, true, false, true, true, true, false, false, false] rfl rfl (any_of HT_.out (by kernel_rfl)) (fun _ _ _ h => h) (Or.inl ⟨by rfl, ?_⟩) ?_ ?_
                   rotate_left
                   ·intro w'
                    go_simp
                    with_reducible rfl
                   rotate_left
                   ·simp only [Act.put, List.setIfInBounds_toArray, List.set_cons_zero, List.set_cons_succ, i64_w, i32_w]
                    rfl
                   refine take_ (i := 9) (N := some 58) (v := ?_) (a' := ?_) #[true, true, true, true, true, false, true, true, true, true, false, false] rfl rfl (take_ofW HT_.out HW_.out (by kernel_rfl)) (fun _ _ _ h => h) (Or.inl ⟨by rfl, ?_⟩) hHeld ?_ ?_
                   rotate_left
                   ·intro w' s0
                    go_simp
                    with_reducible rfl
                   rotate_left
                   ·simp only [Act.put, List.setIfInBounds_toArray, List.set_cons_zero, List.set_cons_succ, i64_w, i32_w]
                    rfl
                   refine one_ (i := 5) (N := some 54) #[true, true, true, true, true, true, true, true, true, true, false, false] rfl rfl (one_of HT_.out (by kernel_rfl)) (by decide) (fun K hK => ?_)
                   refine goes_ Tryd.func32 (by kernel_rfl) rfl #[.int .i64 (wrap64 (x10_2 + (wrap64 (1 + ((rdOf ByteArray.empty l0 (ji16)).size : Int))))), .int .i64 a1, .bool (x11_2 == (l0.length : Int))] (by rfl) rfl rfl (by (try simp only [List.map_toArray, List.map_cons, List.map_nil]); first | done | (simp only [hji16]; rfl) | rfl | (simp only [List.length_drop, List.length_take]; rfl)) ?_
                   with_reducible refine (impl_lineCost.calls (wrap64 (x10_2 + (wrap64 (1 + ((rdOf ByteArray.empty l0 (ji16)).size : Int))))) a1 (x11_2 == (l0.length : Int)) t337 _ A19.out).mono ?_
                   rintro e w' ⟨rfl, ⟨nd, rfl⟩⟩
                   refine ⟨_, rfl, ?_⟩
                   refine hK.out _ _ (hHeld) (fun hHeld => ?_)
                   clear hK K
                   refine norm_ (a' := ?_) ?_ ?_
                   rotate_left
                   ·show Act.put _ (some 54) _ = _
                    simp only [Act.put, List.setIfInBounds_toArray, List.set_cons_zero, List.set_cons_succ, i64_w, i32_w]
                    rfl
                   refine pure_ (i := 10) (N := some 59) (v := ?_) (a' := ?_) #[true, true, true, true, true, true, true, true, true, true, true, false] rfl rfl (any_of HT_.out (by kernel_rfl)) (fun _ _ _ h => h) (Or.inl ⟨by rfl, ?_⟩) ?_ ?_
                   rotate_left
                   ·intro w'
                    go_simp
                    with_reducible rfl
                   rotate_left
                   ·simp only [Act.put, List.setIfInBounds_toArray, List.set_cons_zero, List.set_cons_succ, i64_w, i32_w]
                    rfl
                   refine pure_ (i := 11) (N := some 12) (v := ?_) (a' := ?_) #[true, true, true, true, true, true, true, true, true, true, true, true] rfl rfl (any_of HT_.out (by kernel_rfl)) (fun _ _ _ h => h) (Or.inl ⟨by rfl, ?_⟩) ?_ ?_
                   rotate_left
                   ·intro w'
                    go_simp
                    with_reducible rfl
                   rotate_left
                   ·simp only [Act.put, List.setIfInBounds_toArray, List.set_cons_zero, List.set_cons_succ, i64_w, i32_w]
                    rfl
                   refine done_ (done_of HT_.out (by kernel_rfl)) ?_
                   have m_ := Aside0.mk (Kd.R_drewN HO_7.out nd); clear HO_7; have HO_7 := m_; clear m_
                   have m_ := Aside0.mk (Kd.R_drewN HO_8.out nd); clear HO_8; have HO_8 := m_; clear m_
                   have m_ := Aside0.mk (pw_below_drewN HB.out nd); clear HB; have HB := m_; clear m_
                   change World.cell? (w40.drewN nd) _ = _ at hx338_0
                   generalize w40.drewN nd = w40 at HO_7 HO_8 HB hx338_0 ⊢
                   have p341 : 0 ≤ (x9_1 : Int) := of_decide_eq_true (by first|(with_reducible assumption)|assumption)
                   have q341 : x9_1 < (x7_2.length : Int) := of_decide_eq_true (by first|(with_reducible assumption)|assumption)
                   obtain ⟨ad341, e341, hx341_0⟩ := Kd.at_int (Kd.R_reads' HO_7.out).2.2 x9_1 p341 q341
                   obtain rfl : ad338 = ad341 := (by injection e341)
                   replace p341 := eq_true p341
                   replace q341 := eq_true q341
                   have p37 : 0 ≤ (x9_1 : Int) := of_decide_eq_true (by first|(with_reducible assumption)|assumption)
                   have q37 : (x9_1 : Int) < ((x7_2.length : Int) : Int) := of_decide_eq_true (by first|(with_reducible assumption)|assumption)
                   obtain ⟨go37, co37, eo37, gb37, gl37, cl37, HG37⟩ := Kd.R_form HO_7.out (by omega)
                   (first | cases eo37 | (injection eo37 with ea_ en_ ec_; (first | subst ea_ | (injection ea_ with ea_; subst ea_)); subst ec_; clear en_))
                   have GB37 := Aside0.mk gb37
                   have GG37 := Aside0.mk HG37
                   clear gb37 gl37 HG37
                   (first | simp only [add_plain] at hx338_0 | skip)
                   (first | simp only [add_plain] at hx341_0 | skip)
                   obtain ⟨hx37_0, hf37_0⟩ := Kd.R_celln 0 HO_7.out (x9_1 : Int) p37 q37
                   replace p37 := eq_true p37
                   replace q37 := eq_true q37
                   obtain ⟨hy42_, hz42_⟩ := Kd.R_celln 0 HO_7.out (x9_1 : Int) (of_decide_eq_true (by first|(with_reducible assumption)|assumption)) (of_decide_eq_true (by first|(with_reducible assumption)|assumption))
                   have HP42 := Kd.R_putg HO_7.out (x9_1 : Int) (wrap64 (t337 + (rd x7_2 x11_2)))
                   try go_wp2_with (first | ((with_reducible refine gate_store (t := 3) (p := 78) rfl ?_); refine store_event (t := 3) (p := 78) (v := ?vo_w43) (w1 := (w40.setCell ⟨go37, (x9_1 : Int).toNat, none⟩ (.int .i64 (wrap64 (t337 + (rd x7_2 x11_2)))))) ?hg ?ho ?hn ?hr ?_; (case ho => rfl); (case hg => rfl); (case hn => rfl); (case hr => first | (go_simp; done) | (go_simp; rfl)); intro w43 hw; have hg : w40.grownBy w43 (some go37) := (by rw [hw]; exact HP42.2); have hp_ : Kd.R (Kd.int .i64) 3 w43 w.heap.size (fun k_ => some k_ ≠ (v334 : Value).ownBlock) (.slice (some ⟨go37, 0, none⟩) x7_2.length co41) y342 := (by rw [hw, Ny342.out]; exact HP42.1); clear HP42; have n0_ := Aside0.mk (hp_); have n1_ := Aside0.mk (Kd.R_after (v := (.slice (some ⟨go37, 0, none⟩) x7_2.length co41)) (v1 := (.slice (some ⟨go37, 0, none⟩) x7_2.length co41)) (ok := (fun _ => True)) (by (with_reducible repeat (first|apply Kd.R_alloc|apply Kd.R_drewN|apply Kd.R_drew)); exact Kd.R_mono HO_8.out (fun _ hk => ⟨trivial, hk⟩)) hg (.inl rfl)); have n2_ := Aside0.mk ((by rw [hw]; exact below_set (HB.out) GB37.out : Below w.heap.size w w43)); clear HO_7; clear HO_8; clear HB; have HO_7 := n0_; have HO_8 := n1_; have HB := n2_; clear n0_ n1_ n2_; clear hg hw hp_; have p39 : 0 ≤ (x9_1 : Int) := of_decide_eq_true (by first|(with_reducible assumption)|assumption); have q39 : (x9_1 : Int) < ((x8_2.length : Int) : Int) := of_decide_eq_true (by first|(with_reducible assumption)|assumption); obtain ⟨go39, co39, eo39, gb39, gl39, cl39, HG39⟩ := Kd.R_form HO_8.out (by omega); (first | cases eo39 | (injection eo39 with ea_ en_ ec_; (first | subst ea_ | (injection ea_ with ea_; subst ea_)); subst ec_; clear en_)); have GB39 := Aside0.mk gb39; have GG39 := Aside0.mk HG39; clear gb39 gl39 HG39; obtain ⟨hx39_0, hf39_0⟩ := Kd.R_celln 0 HO_8.out (x9_1 : Int) p39 q39; replace p39 := eq_true p39; replace q39 := eq_true q39; have n_ := Aside0.mk (Kd.R_mono (ok' := (fun k_ => some k_ ≠ (.slice (some ⟨go37, 0, none⟩) x7_2.length co41 : Value).ownBlock)) HO_8.out (fun k_ hk => hk.2)); clear HO_8; have HO_8 := n_; clear n_; obtain ⟨hy44_, hz44_⟩ := Kd.R_celln 0 HO_8.out (x9_1 : Int) (of_decide_eq_true (by first|(with_reducible assumption)|assumption)) (of_decide_eq_true (by first|(with_reducible assumption)|assumption)); have HP44 := Kd.R_putg HO_8.out (x9_1 : Int) x11_2) | ((with_reducible refine gate_store (t := 3) (p := 79) rfl ?_); refine store_event (t := 3) (p := 79) (v := ?vo_w45) (w1 := (w43.setCell ⟨go39, (x9_1 : Int).toNat, none⟩ (.int .i64 x11_2))) ?hg ?ho ?hn ?hr ?_; (case ho => rfl); (case hg => rfl); (case hn => rfl); (case hr => first | (go_simp; done) | (go_simp; rfl)); intro w45 hw; have hg : w43.grownBy w45 (some go39) := (by rw [hw]; exact HP44.2); have hp_ : Kd.R (Kd.int .i64) 3 w45 w.heap.size (fun k_ => some k_ ≠ (.slice (some ⟨go37, 0, none⟩) x7_2.length co41 : Value).ownBlock) (.slice (some ⟨go39, 0, none⟩) x8_2.length co39) y343 := (by rw [hw, Ny343.out]; exact HP44.1); clear HP44; have n0_ := Aside0.mk (Kd.R_after (v := (.slice (some ⟨go39, 0, none⟩) x8_2.length co39)) (v1 := (.slice (some ⟨go39, 0, none⟩) x8_2.length co39)) (ok := (fun _ => True)) (by (with_reducible repeat (first|apply Kd.R_alloc|apply Kd.R_drewN|apply Kd.R_drew)); exact Kd.R_mono HO_7.out (fun _ hk => ⟨trivial, hk⟩)) hg (.inl rfl)); have n1_ := Aside0.mk (hp_); have n2_ := Aside0.mk ((by rw [hw]; exact below_set (HB.out) GB39.out : Below w.heap.size w w45)); clear HO_7; clear HO_8; clear HB; have HO_7 := n0_; have HO_8 := n1_; have HB := n2_; clear n0_ n1_ n2_; clear hg hw hp_))
                   go_roundg k2
                   case measure => have := HK1.out; have := HK2.out; omega
                   case rel => exact ⟨(y342), (y343), (wrap64 (x10_2 + (wrap64 (1 + ((rdOf ByteArray.empty l0 (ji16)).size : Int))))), (wrap64 (x11_2 + 1)), (by first | rfl | (simp; done) | (simp only [← hji16] <;> (first | rfl | simp)) | (simp [*]; done)), (by first|rfl|(simp;done)|(simp[*];done)), H', ⟨by have := HK1.out; have := HK2.out; omega⟩, ⟨by (with_reducible repeat (first|apply Kd.R_alloc|apply Kd.R_drewN|apply Kd.R_drew)); exact Kd.R_mono HO_7.out (fun _ hk => hk.2)⟩, ⟨by (with_reducible repeat (first|apply Kd.R_alloc|apply Kd.R_drewN|apply Kd.R_drew)); exact HO_8.out⟩, ⟨by repeat (first|(with_reducible first|exact HB.out|apply below_alloc|apply pw_below_drewN|apply below_drew1)|exact HB.out)⟩⟩
                  ·rw [if_neg c38] at H
                   exact absurd H (by simp)
                 ·rw [if_neg c36] at H
                  have c36b0 : decide ((wrap64 (t337 + (rd x7_2 x11_2))) < (rd x7_2 x9_1)) = false := decide_eq_false c36
                  clear c36
                  have H' := Aside0.mk H
                  clear H
                  have p336 : 0 ≤ ((ji16) : Int) := of_decide_eq_true (by first|(with_reducible assumption)|assumption)
                  have q336 : (ji16) < (l0.length : Int) := of_decide_eq_true (by first|(with_reducible assumption)|assumption)
                  obtain ⟨ad336, e336, hx336_0⟩ := Kd.at_string HR0.out (ji16) p336 q336
                  cases e336
                  replace hx336_0 := (HB.out.cell (World.block_lt_of_cell? w _ hx336_0)).trans hx336_0
                  replace p336 := eq_true p336
                  replace q336 := eq_true q336
                  try go_wp2
                  have n0_ := Aside0.mk (Kd.R_drew HO_7.out)
                  have n1_ := Aside0.mk (Kd.R_drew HO_8.out)
                  have n2_ := Aside0.mk (below_drew1 HB.out)
                  clear HO_7
                  clear HO_8
                  clear HB
                  have HO_7 := n0_
                  have HO_8 := n1_
                  have HB := n2_
                  clear n0_ n1_ n2_
                  obtain ⟨Ao47, co47, eo47⟩ := Kd.R_slice HO_7.out
                  (first | subst eo47 | (injection eo47 with f1_ f2_ f3_; have f4_ := f1_.symm; have f5_ := f3_.symm; clear f1_ f2_ f3_; subst f4_; subst f5_))
                  have p338 : 0 ≤ (x11_2 : Int) := of_decide_eq_true (by first|(with_reducible assumption)|assumption)
                  have q338 : x11_2 < (x7_2.length : Int) := of_decide_eq_true (by first|(with_reducible assumption)|assumption)
                  obtain ⟨ad338, e338, hx338_0⟩ := Kd.at_int (Kd.R_reads' HO_7.out).2.2 x11_2 p338 q338
                  cases e338
                  replace p338 := eq_true p338
                  replace q338 := eq_true q338
                  refine start_ (n := 12) (S := fun w' => w'.cell? (ad338.add (x11_2).toNat) = some (.int .i64 (rd x7_2 x11_2))) (ds := []) #[false, false, false, false, false, false, false, false, false, false, false, false] (by kernel_rfl) rfl rfl (hx338_0) (fun hHeld => ?_); refine with_tabW impl_WrapBest.tab13 impl_WrapBest.bits13 (fun HT_ HW_ => ?_)
                  generalize wr.drew = w46 at HO_7 HO_8 HB hx338_0 hHeld ⊢
                  refine pure_ (i := 0) (N := some 49) (v := ?_) (a' := ?_) #[true, false, false, false, false, false, false, false, false, false, false, false] rfl rfl (any_of HT_.out (by kernel_rfl)) (fun _ _ _ h => h) (Or.inl ⟨by rfl, ?_⟩) ?_ ?_
                  rotate_left
                  ·intro w'
                   go_simp
                   with_reducible rfl
                  rotate_left
                  ·simp only [Act.put, List.setIfInBounds_toArray, List.set_cons_zero, List.set_cons_succ, i64_w, i32_w]
                   rfl
                  refine pure_ (i := 1) (N := some 50) (v := ?_) (a' := ?_) #[true, true, false, false, false, false, false, false, false, false, false, false] rfl rfl (any_of HT_.out (by kernel_rfl)) (fun _ _ _ h => h) (Or.inl ⟨by rfl, ?_⟩) ?_ ?_
                  rotate_left
                  ·intro w'
                   go_simp
                   with_reducible rfl
                  rotate_left
                  ·simp only [Act.put, List.setIfInBounds_toArray, List.set_cons_zero, List.set_cons_succ, i64_w, i32_w]
                   rfl
                  refine pure_ (i := 2) (N := some 51) (v := ?_) (a' := ?_) #[true, true, true, false, false, false, false, false, false, false, false, false] rfl rfl (any_of HT_.out (by kernel_rfl)) (fun _ _ _ h => h) (Or.inl ⟨by rfl, ?_⟩) ?_ ?_
                  rotate_left
                  ·intro w'
                   go_simp
                   with_reducible rfl
                  rotate_left
                  ·simp only [Act.put, List.setIfInBounds_toArray, List.set_cons_zero, List.set_cons_succ, i64_w, i32_w]
                   rfl
                  refine pure_ (i := 3) (N := some 52) (v := ?_) (a' := ?_) #[true, true, true, true, false, false, false, false, false, false, false, false] rfl rfl (any_of HT_.out (by kernel_rfl)) (fun _ _ _ h => h) (Or.inl ⟨by rfl, ?_⟩) ?_ ?_
                  rotate_left
                  ·intro w'
                   go_simp
                   with_reducible rfl
                  rotate_left
                  ·simp only [Act.put, List.setIfInBounds_toArray, List.set_cons_zero, List.set_cons_succ, i64_w, i32_w]
                   rfl
                  refine pure_ (i := 4) (N := some 53) (v := ?_) (a' := ?_) #[true, true, true, true, true, false, false, false, false, false, false, false] rfl rfl (any_of HT_.out (by kernel_rfl)) (fun _ _ _ h => h) (Or.inl ⟨by rfl, ?_⟩) ?_ ?_
                  rotate_left
                  ·intro w'
                   go_simp
                   with_reducible rfl
                  rotate_left
                  ·simp only [Act.put, List.setIfInBounds_toArray, List.set_cons_zero, List.set_cons_succ, i64_w, i32_w]
                   rfl
                  refine pure_ (i := 6) (N := some 55) (v := ?_) (a' := ?_) #[true, true, true, true, true, false, true, false, false, false, false, false] rfl rfl (any_of HT_.out (by kernel_rfl)) (fun _ _ _ h => h) (Or.inl ⟨by rfl, ?_⟩) ?_ ?_
                  rotate_left
                  ·intro w'
                   go_simp
                   with_reducible rfl
                  rotate_left
                  ·simp only [Act.put, List.setIfInBounds_toArray, List.set_cons_zero, List.set_cons_succ, i64_w, i32_w]
                   rfl
                  refine pure_ (i := 7) (N := some 56) (v := ?_) (a' := ?_) #[true, true, true, true, true, false, true, true, false, false, false, false] rfl rfl (any_of HT_.out (by kernel_rfl)) (fun _ _ _ h => h) (Or.inl ⟨by rfl, ?_⟩) ?_ ?_
                  rotate_left
                  ·intro w'
                   go_simp
                   with_reducible rfl
                  rotate_left
                  ·simp only [Act.put, List.setIfInBounds_toArray, List.set_cons_zero, List.set_cons_succ, i64_w, i32_w]
                   rfl
                  refine pure_ (i := 8) (N := some 57) (v := ?_) (a' := ?_) #[true, true, true, true, true, false, true, true, true, false, false, false] rfl rfl (any_of HT_.out (by kernel_rfl)) (fun _ _ _ h => h) (Or.inl ⟨by rfl, ?_⟩) ?_ ?_
                  rotate_left
                  ·intro w'
                   go_simp
                   with_reducible rfl
                  rotate_left
                  ·simp only [Act.put, List.setIfInBounds_toArray, List.set_cons_zero, List.set_cons_succ, i64_w, i32_w]
                   rfl
                  refine take_ (i := 9) (N := some 58) (v := ?_) (a' := ?_) #[true, true, true, true, true, false, true, true, true, true, false, false] rfl rfl (take_ofW HT_.out HW_.out (by kernel_rfl)) (fun _ _ _ h => h) (Or.inl ⟨by rfl, ?_⟩) hHeld ?_ ?_
                  rotate_left
                  ·intro w' s0
                   go_simp
                   with_reducible rfl
                  rotate_left
                  ·simp only [Act.put, List.setIfInBounds_toArray, List.set_cons_zero, List.set_cons_succ, i64_w, i32_w]
                   rfl
                  refine one_ (i := 5) (N := some 54) #[true, true, true, true, true, true, true, true, true, true, false, false] rfl rfl (one_of HT_.out (by kernel_rfl)) (by decide) (fun K hK => ?_)
                  refine goes_ Tryd.func32 (by kernel_rfl) rfl #[.int .i64 (wrap64 (x10_2 + (wrap64 (1 + ((rdOf ByteArray.empty l0 (ji16)).size : Int))))), .int .i64 a1, .bool (x11_2 == (l0.length : Int))] (by rfl) rfl rfl (by (try simp only [List.map_toArray, List.map_cons, List.map_nil]); first | done | (simp only [hji16]; rfl) | rfl | (simp only [List.length_drop, List.length_take]; rfl)) ?_
                  with_reducible refine (impl_lineCost.calls (wrap64 (x10_2 + (wrap64 (1 + ((rdOf ByteArray.empty l0 (ji16)).size : Int))))) a1 (x11_2 == (l0.length : Int)) t337 _ A19.out).mono ?_
                  rintro e w' ⟨rfl, ⟨nd, rfl⟩⟩
                  refine ⟨_, rfl, ?_⟩
                  refine hK.out _ _ (hHeld) (fun hHeld => ?_)
                  clear hK K
                  refine norm_ (a' := ?_) ?_ ?_
                  rotate_left
                  ·show Act.put _ (some 54) _ = _
                   simp only [Act.put, List.setIfInBounds_toArray, List.set_cons_zero, List.set_cons_succ, i64_w, i32_w]
                   rfl
                  refine pure_ (i := 10) (N := some 59) (v := ?_) (a' := ?_) #[true, true, true, true, true, true, true, true, true, true, true, false] rfl rfl (any_of HT_.out (by kernel_rfl)) (fun _ _ _ h => h) (Or.inl ⟨by rfl, ?_⟩) ?_ ?_
                  rotate_left
                  ·intro w'
                   go_simp
                   with_reducible rfl
                  rotate_left
                  ·simp only [Act.put, List.setIfInBounds_toArray, List.set_cons_zero, List.set_cons_succ, i64_w, i32_w]
                   rfl
                  refine pure_ (i := 11) (N := some 12) (v := ?_) (a' := ?_) #[true, true, true, true, true, true, true, true, true, true, true, true] rfl rfl (any_of HT_.out (by kernel_rfl)) (fun _ _ _ h => h) (Or.inl ⟨by rfl, ?_⟩) ?_ ?_
                  rotate_left
                  ·intro w'
                   go_simp
                   with_reducible rfl
                  rotate_left
                  ·simp only [Act.put, List.setIfInBounds_toArray, List.set_cons_zero, List.set_cons_succ, i64_w, i32_w]
                   rfl
                  refine done_ (done_of HT_.out (by kernel_rfl)) ?_
                  have p341 : 0 ≤ (x9_1 : Int) := of_decide_eq_true (by first|(with_reducible assumption)|assumption)
                  have q341 : x9_1 < (x7_2.length : Int) := of_decide_eq_true (by first|(with_reducible assumption)|assumption)
                  obtain ⟨ad341, e341, hx341_0⟩ := Kd.at_int (Kd.R_reads' HO_7.out).2.2 x9_1 p341 q341
                  obtain rfl : ad338 = ad341 := (by injection e341)
                  replace p341 := eq_true p341
                  replace q341 := eq_true q341
                  try go_wp2
                  go_roundg k2
                  case measure => have := HK1.out; have := HK2.out; omega
                  case rel => exact ⟨(x7_2), (x8_2), (wrap64 (x10_2 + (wrap64 (1 + ((rdOf ByteArray.empty l0 (ji16)).size : Int))))), (wrap64 (x11_2 + 1)), (by first | rfl | (simp; done) | (simp only [← hji16] <;> (first | rfl | simp)) | (simp [*]; done)), (by first|rfl|(simp;done)|(simp[*];done)), H', ⟨by have := HK1.out; have := HK2.out; omega⟩, ⟨by (with_reducible repeat (first|apply Kd.R_alloc|apply Kd.R_drewN|apply Kd.R_drew)); exact HO_7.out⟩, ⟨by (with_reducible repeat (first|apply Kd.R_alloc|apply Kd.R_drewN|apply Kd.R_drew)); exact HO_8.out⟩, ⟨by repeat (first|(with_reducible first|exact HB.out|apply below_alloc|apply pw_below_drewN|apply below_drew1)|exact HB.out)⟩⟩
                ·rw [if_neg c35] at H
                 exact absurd H (by simp)
               ·rw [if_neg c34] at H
                exact absurd H (by simp)
             ·rw [if_neg c21] at H
              exact absurd H (by simp)
            ·rw [if_neg c20] at H
             exact absurd H (by simp)
           ·rw [if_neg c18] at H
            exact absurd H (by simp)
          ·rw [if_neg c17] at H
           exact absurd H (by simp)
         ·rw [if_neg c15] at H
          have c15b0 : decide (x11_2 ≤ (l0.length : Int)) = false := decide_eq_false c15
          clear c15
          have H' := Aside0.mk H
          clear H
          go_wp2
          go_roundg k2
          case measure => have := HK1.out; have := HK2.out; omega
          case rel => exact ⟨(x7_2), (x8_2), (wrap64 (x9_1 - 1)), (by first|rfl|(simp;done)|(simp[*];done)), H', ⟨by have := HK1.out; have := HK2.out; omega⟩, ⟨by (with_reducible repeat (first|apply Kd.R_alloc|apply Kd.R_drewN|apply Kd.R_drew)); exact HO_7.out⟩, ⟨by (with_reducible repeat (first|apply Kd.R_alloc|apply Kd.R_drewN|apply Kd.R_drew)); exact HO_8.out⟩, ⟨by repeat (first|(with_reducible first|exact HB.out|apply below_alloc|apply pw_below_drewN|apply below_drew1)|exact HB.out)⟩⟩
      ·rw [if_neg c14] at H
       have c14b0 : decide (0 ≤ x9_1) = false := decide_eq_false c14
       clear c14
       obtain ⟨y344, hy344⟩ : ∃ y_ : List ByteArray, y_ = (([] : List ByteArray)) := ⟨_, rfl⟩
       replace H : (impl_WrapBest.l2 k1 l0 (l0.length : Int) x8_1 y344 0) = some (r1, r2) := by first | (rw [hy344]; with_reducible exact H) | (have H2_ := (Option.bind_some _ _).symm.trans H; rw [hy344]; with_reducible exact H2_) | (have H2_ := (Option.bind_some _ _).symm.trans H; with_reducible exact H2_) | with_reducible exact H | (rw [hy344]; exact H) | exact H
       have Ny344 := Aside0.mk hy344
       clear hy344
       have H' := Aside0.mk H
       clear H
       go_wp2_with (first | ((with_reducible refine gate_dst (N := 80) rfl ?_); refine Kd.R_lit Kd.string _ 9 ?hg (N := 80) ?hd (xs := ([] : List ByteArray)) (inner := []) (ok := fun _ => True) (okp := fun _ => True) ?hr ?hp (fun _ hk => hk) trivial (Below.refl _ _) (Nat.le_refl _) (by simp) ?_; (case hd => rfl); (case hg => rfl); (case hr => first | (go_simp; done) | (go_simp; rfl)); (case hp => exact (Reps.none _ _)); intro v345 w48 ho49 hb hg_ hnew_; clear hg_ hnew_; (first | rw [← Ny344.out] at ho49 | (simp only [Int.reduceToNat] at ho49; rw [← Ny344.out] at ho49)); have n0_ := Aside0.mk (Kd.R_below (by (with_reducible repeat (first|apply Kd.R_alloc|apply Kd.R_drewN|apply Kd.R_drew)); exact HO_7.out) hb); have n1_ := Aside0.mk (Kd.R_below (by (with_reducible repeat (first|apply Kd.R_alloc|apply Kd.R_drewN|apply Kd.R_drew)); exact HO_8.out) hb); have n2_ := Aside0.mk (Kd.R_lower ho49 (below_size (by repeat (first|(with_reducible first|exact HB.out|apply below_alloc|apply pw_below_drewN|apply below_drew1)|exact HB.out)))); have n3_ := Aside0.mk (below_step (by repeat (first|(with_reducible first|exact HB.out|apply below_alloc|apply pw_below_drewN|apply below_drew1)|exact HB.out)) hb); clear HO_7; clear HO_8; clear HB; have HO_7 := n0_; have HO_8 := n1_; have HO346 := n2_; have HB := n3_; clear n0_ n1_ n2_ n3_; clear hb ho49))
       go_loopg [13, 14] k1 (fun kq v13 v14 w' => ∃ (x13_2 : List ByteArray) (x14_2 : Int), v14 = .int .i64 x14_2 ∧ Aside0 (impl_WrapBest.l2 kq l0 (l0.length : Int) x8_1 x13_2 x14_2 = some (r1, r2)) ∧ Aside0 (kq ≤ k1) ∧ Aside0 (Kd.R (Kd.int .i64) 3 w' w.heap.size (fun _ => True) v334 x8_1) ∧ Aside0 (Kd.R Kd.string 9 w' w.heap.size (fun _ => True) v13 x13_2) ∧ Aside0 (Below w.heap.size w w'))
       case atStart => exact ⟨(y344), (0), (by first|rfl|(simp;done)|(simp[*];done)), H', ⟨Nat.le_refl _⟩, ⟨by (with_reducible repeat (first|apply Kd.R_alloc|apply Kd.R_drewN|apply Kd.R_drew)); exact Kd.R_mono HO_8.out (fun _ hk => trivial)⟩, ⟨by (with_reducible repeat (first|apply Kd.R_alloc|apply Kd.R_drewN|apply Kd.R_drew)); exact HO346.out⟩, ⟨by repeat (first|(with_reducible first|exact HB.out|apply below_alloc|apply pw_below_drewN|apply below_drew1)|exact HB.out)⟩⟩
       case round =>
        clear H'
        try clear c1
        try clear c2
        try clear p2
        try clear q2
        try clear hx2
        try clear hf2
        try clear c3
        try clear p3
        try clear q3
        try clear hx3
        try clear hf3
        try clear c4
        try clear c6
        try clear c6b0
        try clear c6b1
        try clear p6
        try clear c7
        try clear c7b0
        try clear c7b1
        try clear c14
        try clear c14b0
        try clear c15
        try clear c15b0
        try clear c17
        try clear c17b0
        try clear c18
        try clear c18b0
        try clear c20
        try clear c20b0
        try clear c21
        try clear c21b0
        try clear c22
        try clear c22b0
        try clear c22b1
        try clear c23
        try clear c23b0
        try clear c24
        try clear c24b0
        try clear p25
        try clear q25
        try clear hx25
        try clear hf25
        try clear c26
        try clear c26b0
        try clear p27
        try clear q27
        try clear hx27
        try clear hf27
        try clear c32
        try clear p33
        try clear q33
        try clear hx33
        try clear c34
        try clear c34b0
        try clear p34
        try clear q34
        try clear hx34
        try clear c35
        try clear c35b0
        try clear c36
        try clear c36b0
        try clear p37
        try clear q37
        try clear hx37
        try clear hf37
        try clear c38
        try clear c38b0
        try clear p39
        try clear q39
        try clear hx39
        try clear hf39
        try clear hx25_0
        try clear hx27_0
        try clear hx336_0
        try clear hx338_0
        try clear hx341_0
        try clear hx37_0
        try clear hx39_0
        try clear p2
        try clear p25
        try clear p27
        try clear p336
        try clear p338
        try clear p341
        try clear p37
        try clear p39
        try clear p6
        try clear q25
        try clear q27
        try clear q336
        try clear q338
        try clear q341
        try clear q37
        try clear q39
        obtain ⟨x13_2, x14_2, rfl, HA, HK2, HO_8, HO_13, HB⟩ := hrel
        cases gk with
        | zero => exact absurd HA.out (by simp [impl_WrapBest.l2])
        | succ k2 =>
         have H := HA.out
         clear HA
         simp only [impl_WrapBest.l2] at H
         by_cases c50 : x14_2 < (l0.length : Int)
         ·rw [if_pos c50] at H
          have c50b0 : decide (x14_2 < (l0.length : Int)) = true := decide_eq_true c50
          clear c50
          by_cases c51 : 0 ≤ x14_2
          ·rw [if_pos c51] at H
           have c51b0 : decide (0 ≤ x14_2) = true := decide_eq_true c51
           clear c51
           by_cases c52 : x14_2 < (x8_1.length : Int)
           ·rw [if_pos c52] at H
            have c52b0 : decide (x14_2 < (x8_1.length : Int)) = true := decide_eq_true c52
            clear c52
            have c53b0 := eq_true (of_decide_eq_true (by first|(with_reducible assumption)|assumption) : 0 ≤ x14_2)
            by_cases c54 : x14_2 ≤ (rd x8_1 x14_2)
            ·rw [if_pos c54] at H
             have c54b0 := eq_true c54
             have c54b1 : decide (x14_2 ≤ (rd x8_1 x14_2)) = true := decide_eq_true c54
             clear c54
             by_cases c55 : (rd x8_1 x14_2) ≤ (l0.length : Int)
             ·rw [if_pos c55] at H
              have c55b0 := eq_true c55
              have c55b1 : decide ((rd x8_1 x14_2) ≤ (l0.length : Int)) = true := decide_eq_true c55
              clear c55
              replace H := Option.bind_eq_some_iff.mp H
              obtain ⟨t349, A560, H⟩ := H
              replace H : (if x13_2.length < 8796093022208 then (impl_WrapBest.l2 k2 l0 (l0.length : Int) x8_1 (x13_2 ++ [t349]) (rd x8_1 x14_2)) else (none)) = some (r1, r2) := H
              have A56 := Aside0.mk A560
              clear A560
              by_cases c57 : x13_2.length < 8796093022208
              ·rw [if_pos c57] at H
               have LMc57 := Aside0.mk c57
               clear c57
               obtain ⟨y350, hy350⟩ : ∃ y_ : List ByteArray, y_ = (x13_2 ++ [t349]) := ⟨_, rfl⟩
               replace H : (impl_WrapBest.l2 k2 l0 (l0.length : Int) x8_1 y350 (rd x8_1 x14_2)) = some (r1, r2) := by first | (rw [hy350]; with_reducible exact H) | (have H2_ := (Option.bind_some _ _).symm.trans H; rw [hy350]; with_reducible exact H2_) | (have H2_ := (Option.bind_some _ _).symm.trans H; with_reducible exact H2_) | with_reducible exact H | (rw [hy350]; exact H) | exact H
               have Ny350 := Aside0.mk hy350
               clear hy350
               have H' := Aside0.mk H
               clear H
               obtain ⟨Ao58, co58, eo58⟩ := Kd.R_slice HO_8.out
               subst eo58
               have p347 : 0 ≤ (x14_2 : Int) := of_decide_eq_true (by first|(with_reducible assumption)|assumption)
               have q347 : x14_2 < (x8_1.length : Int) := of_decide_eq_true (by first|(with_reducible assumption)|assumption)
               obtain ⟨ad347, e347, hx347_0⟩ := Kd.at_int (Kd.R_reads' HO_8.out).2.2 x14_2 p347 q347
               cases e347
               replace p347 := eq_true p347
               replace q347 := eq_true q347
               obtain ⟨i059, hi059, _, hsz59, _⟩ := info_parts info9
               obtain ⟨A59, hcut59, hA59, hC59⟩ := print_mid_of (P := Tryd.prog) Value.string (⟨#[]⟩ : ByteArray) 23 9 .i64 .i64 Tryd.underlying23 hi059 hsz59 A0 c0 l0 x14_2 (rd x8_1 x14_2) (of_decide_eq_true (by first|(with_reducible assumption)|assumption)) (by first | omega | exact of_decide_eq_true (by first|(with_reducible assumption)|assumption)) (of_decide_eq_true (by first|(with_reducible assumption)|assumption)) HC0.out
               have HR348 := Aside0.mk (Kd.C_of_reads (h1 := fun _ => rfl) (hA59 _ (Kd.reads_of_C HR0.out)))
               have HC348 := Aside0.mk hC59
               clear hA59 hC59 hi059 hsz59
               go_wp2_with (first | ((with_reducible refine gate_callee (f := 36) rfl ?_); refine goesL_ (some 96) rfl rfl Tryd.func36 (by kernel_rfl) rfl #[.slice A59 ((l0.take ((rd x8_1 x14_2) : Int).toNat).drop (x14_2 : Int).toNat).length (c0 - x14_2.toNat), .string (⟨#[32]⟩ : ByteArray)] rfl (by (try simp only [List.map_toArray, List.map_cons, List.map_nil]); first | done | (rw [show ((l0.take ((rd x8_1 x14_2) : Int).toNat).drop (x14_2 : Int).toNat).length = ((rd x8_1 x14_2).toNat - x14_2.toNat) from (by rw [List.length_drop, List.length_take]; have h_ : ((rd x8_1 x14_2) : Int) ≤ (l0.length : Int) := of_decide_eq_true (by first|(with_reducible assumption)|assumption); omega)] <;> rfl) | rfl | (simp only [List.length_drop, List.length_take]; rfl)) ?_; (with_reducible refine (strings_Join.calls _ _ ((l0.take ((rd x8_1 x14_2) : Int).toNat).drop (x14_2 : Int).toNat) (⟨#[32]⟩ : ByteArray) t349 _ ?side1 ?side2 A56.out).mono ?_); (case side1 => repeat (first | exact (Kd.C_below HR348.out HB.out) | (with_reducible refine Kd.C_alloc ?_ _) | (with_reducible refine Kd.C_drewN ?_ _) | (with_reducible refine Kd.C_drew ?_))); (case side2 => exact HC348.out); rintro e w60 ⟨rfl, hb⟩; refine ⟨_, rfl, ?_⟩; have n0_ := Aside0.mk (Kd.R_below (by (with_reducible repeat (first|apply Kd.R_alloc|apply Kd.R_drewN|apply Kd.R_drew)); exact HO_8.out) hb); have n1_ := Aside0.mk (Kd.R_below (by (with_reducible repeat (first|apply Kd.R_alloc|apply Kd.R_drewN|apply Kd.R_drew)); exact HO_13.out) hb); have n2_ := Aside0.mk (below_step (by repeat (first|(with_reducible first|exact HB.out|apply below_alloc|apply pw_below_drewN|apply below_drew1)|exact HB.out)) hb); clear HO_8; clear HO_13; clear HB; have HO_8 := n0_; have HO_13 := n1_; have HB := n2_; clear n0_ n1_ n2_; (try clear hb); (try clear hb2); (try clear hk); (try clear hi)) | ((with_reducible refine gate_builtin (b := .append) (xs := #[.tmp 88, .tmp 97]) rfl ?_); at_builtin; refine Kd.R_append Kd.string (w0 := w) w.heap.size rfl (.tmp 88) (.tmp 97) 23 9 (.string ⟨#[]⟩) 16 rfl Tryd.underlying23 info9 rfl (by decide) (by omega) u13 x13_2 t349 [.string t349] (fun _ => True) (fun _ => False) rfl rfl ?aP (fun _ hk => hk.elim) ?aF ?aO ?aB ?aS ?aL ?_; (case aP => exact rfl); (case aB => exact (by repeat (first|(with_reducible first|exact HB.out|apply below_alloc|apply pw_below_drewN|apply below_drew1)|exact HB.out))); (case aF => exact (fun _ _ => trivial)); (case aO => exact (by (with_reducible repeat (first|apply Kd.R_alloc|apply Kd.R_drewN|apply Kd.R_drew)); exact HO_13.out)); (case aS => exact (below_size (by repeat (first|(with_reducible first|exact HB.out|apply below_alloc|apply pw_below_drewN|apply below_drew1)|exact HB.out)))); (case aL => have := LMc57.out; omega); intro v351 w61 ho hb hg hat; rw [← Ny350.out] at ho; have n0_ := Aside0.mk (Kd.R_over' (by (with_reducible repeat (first|apply Kd.R_alloc|apply Kd.R_drewN|apply Kd.R_drew)); exact HO_8.out) (Kd.R_typed (by (with_reducible repeat (first|apply Kd.R_alloc|apply Kd.R_drewN|apply Kd.R_drew)); exact HO_13.out)) (by decide) hg); have n1_ := Aside0.mk (hb); have n2_ := Aside0.mk (ho); clear HO_8; clear HB; clear HO_13; have HO_8 := n0_; have HB := n1_; have HO352 := n2_; clear n0_ n1_ n2_; clear ho hb hg hat; have p353 : 0 ≤ (x14_2 : Int) := of_decide_eq_true (by first|(with_reducible assumption)|assumption); have q353 : x14_2 < (x8_1.length : Int) := of_decide_eq_true (by first|(with_reducible assumption)|assumption); obtain ⟨ad353, e353, hx353_0⟩ := Kd.at_int (Kd.R_reads' HO_8.out).2.2 x14_2 p353 q353; obtain rfl : ad347 = ad353 := (by injection e353); replace p353 := eq_true p353; replace q353 := eq_true q353))
               go_roundg k2
               case measure => have := HK1.out; have := HK2.out; omega
               case rel => exact ⟨(y350), (rd x8_1 x14_2), (by first|rfl|(simp;done)|(simp[*];done)), H', ⟨by have := HK1.out; have := HK2.out; omega⟩, ⟨by (with_reducible repeat (first|apply Kd.R_alloc|apply Kd.R_drewN|apply Kd.R_drew)); exact HO_8.out⟩, ⟨by (with_reducible repeat (first|apply Kd.R_alloc|apply Kd.R_drewN|apply Kd.R_drew)); exact HO352.out⟩, ⟨by repeat (first|(with_reducible first|exact HB.out|apply below_alloc|apply pw_below_drewN|apply below_drew1)|exact HB.out)⟩⟩
              ·rw [if_neg c57] at H
               exact absurd H (by simp)
             ·rw [if_neg c55] at H
              exact absurd H (by simp)
            ·rw [if_neg c54] at H
             exact absurd H (by simp)
           ·rw [if_neg c52] at H
            exact absurd H (by simp)
          ·rw [if_neg c51] at H
           exact absurd H (by simp)
         ·rw [if_neg c50] at H
          have c50b0 : decide (x14_2 < (l0.length : Int)) = false := decide_eq_false c50
          clear c50
          simp only [Option.some.injEq, Prod.mk.injEq] at H
          obtain ⟨rfl, rfl⟩ := H
          go_wp2
          go_ret2
          exact ⟨_, by first | rfl | (simp [errW_none, errW_some] <;> rfl) | (simp only [← hji5]; first | rfl | (simp [errW_none, errW_some] <;> rfl)) | (simp [*, errW_none, errW_some] <;> rfl), by (with_reducible repeat (first|apply Kd.R_alloc|apply Kd.R_drewN|apply Kd.R_drew)); exact HO_13.out, by repeat (first|(with_reducible first|exact HB.out|apply below_alloc|apply pw_below_drewN|apply below_drew1)|exact HB.out)⟩
   ·rw [if_neg c7] at H
    exact absurd H (by simp)
  ·rw [if_neg c6] at H
   exact absurd H (by simp)
 ·replace c4 := Bool.eq_false_iff.mpr c4
  subst c4
  have H1 : (some (([] : List ByteArray), false)) = some (r1, r2) := by rw [if_neg (show ¬ (false = true) by decide)] at H; exact H
  clear H
  have H := H1
  clear H1
  simp only [Option.some.injEq, Prod.mk.injEq] at H
  obtain ⟨rfl, rfl⟩ := H
  go_enter Tryd.func24, Tryd.ntmps24
  go_wp2_with (first | ((with_reducible refine gate_callee (f := 28) rfl ?_); refine goesL_ (some 17) rfl rfl Tryd.func28 (by kernel_rfl) rfl #[.slice A0 l0.length c0, .int .i64 a1] rfl (by (try simp only [List.map_toArray, List.map_cons, List.map_nil]); first | done | rfl | (simp only [List.length_drop, List.length_take]; rfl)) ?_; (with_reducible refine (impl_wrapOk.calls k _ _ l0 a1 false _ ?side1 ?side2 A3.out).mono ?_); (case side1 => repeat (first | exact HR0.out | (with_reducible refine Kd.C_alloc ?_ _) | (with_reducible refine Kd.C_drewN ?_ _) | (with_reducible refine Kd.C_drew ?_))); (case side2 => exact HC0.out); rintro e w' ⟨rfl, ⟨nd, rfl⟩⟩; refine ⟨_, rfl, ?_⟩))
  go_ret2
  exact ⟨_, by first | rfl | (simp [errW_none, errW_some] <;> rfl) | (simp [*, errW_none, errW_some] <;> rfl), by first | exact Kd.R_nil _ _ _ _ _ | exact Kd.N_nil _ _ _ _ _ | exact Kd.V_nil _ _ _ _ _ | exact Kd.Q_nil _ _ _ _ _ | exact Kd.S_nil _ _ _ _ _, by repeat (first|(with_reducible first|exact HB.out|apply below_alloc|apply pw_below_drewN|apply below_drew1)|exact HB.out)⟩

end Go.Proofs.YtkpnmninkmnbjaaDoor.PKa
