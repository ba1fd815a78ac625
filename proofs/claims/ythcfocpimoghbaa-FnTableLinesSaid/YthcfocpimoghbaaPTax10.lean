-- Written by a program of this session (xprint). -- COMPACT
import Derived.Test.YthcfocpimoghbaaPTax0
import Derived.Test.YthcfocpimoghbaaPTax1
import Derived.Test.YthcfocpimoghbaaPTax2
import Derived.Test.YthcfocpimoghbaaPTax4
import Derived.Test.YthcfocpimoghbaaPTax5
import Derived.Test.YthcfocpimoghbaaPTax8
namespace Go.Proofs.Ythcfocpimoghbaa.PTa
open Go.RowKit Go.Proofs.YthcfocpimoghbaaW.PrintWords Go.Proofs.YthcfocpimoghbaaW.PrintLast Go.Proofs.YthcfocpimoghbaaW.PrintMore
attribute [local go_sem] max2_int min2_int max_two min_two max_three min_three max_four min_four   -- for this text's walks alone
set_option linter.unusedVariables false
set_option linter.unusedSimpArgs false

/-! ### laws_FnTableLines: function 13 -/
mutual
def laws_FnTableLines.j0 : Nat → List (List ByteArray) → Int → List ByteArray → Bool → List ByteArray → Bool → Bool → Option (Bool)
 | 0, _, _, _, _, _, _, _ => none
 | k + 1, x3, x4, x5, x6, x7, x8, x46 => if x46 = true then ((laws_daTexts.f k x5 x7).bind fun t289 => (if t289 = true then (some (x6 == x8)) else (some false))) else ((impl_ColumnWidths.f k x3).bind fun bt290 => (laws_FnTableLines.l0 k x3 x4 x5 bt290.1 bt290.2 0))
def laws_FnTableLines.l0 : Nat → List (List ByteArray) → Int → List ByteArray → List Int → Bool → Int → Option (Bool)
 | 0, _, _, _, _, _, _ => none
 | k + 1, x3, x4, x5, x9, x10, x11 => if x11 < (x5.length : Int) then (laws_FnTableLines.l1 k x3 x4 x5 x9 x10 x11 0 0) else (if x10 = true then (some ((x5.length : Int) == (x3.length : Int))) else (some false))
def laws_FnTableLines.l1 : Nat → List (List ByteArray) → Int → List ByteArray → List Int → Bool → Int → Int → Int → Option (Bool)
 | 0, _, _, _, _, _, _, _, _ => none
 | k + 1, x3, x4, x5, x9, x10, x11, x12, x13 => if x13 < (x9.length : Int) then (if 0 ≤ x11 then (if x11 < (x5.length : Int) then (if x11 < (x3.length : Int) then (if 0 ≤ x13 then (if x13 < ((rd_L3 x3 x11).length : Int) then (if ((rdOf ByteArray.empty x5 x11).size : Int) < (wrap64 (x12 + ((rdOf ByteArray.empty (rd_L3 x3 x11) x13).size : Int))) then (some false) else (if 0 ≤ x12 then (if x12 ≤ (wrap64 (x12 + ((rdOf ByteArray.empty (rd_L3 x3 x11) x13).size : Int))) then (if (wrap64 (x12 + ((rdOf ByteArray.empty (rd_L3 x3 x11) x13).size : Int))) ≤ ((rdOf ByteArray.empty x5 x11).size : Int) then (if ((rdOf ByteArray.empty x5 x11).extract (x12 : Int).toNat ((wrap64 (x12 + ((rdOf ByteArray.empty (rd_L3 x3 x11) x13).size : Int))) : Int).toNat).toList = (rdOf ByteArray.empty (rd_L3 x3 x11) x13).toList then (laws_FnTableLines.l1 k x3 x4 x5 x9 x10 x11 (wrap64 ((wrap64 (x12 + (rd x9 x13))) + x4)) (wrap64 (x13 + 1))) else (some false)) else (none)) else (none)) else (none))) else (none)) else (none)) else (none)) else (none)) else (none)) else (if 0 ≤ x11 then (if x11 < (x5.length : Int) then (if ((rdOf ByteArray.empty x5 x11).size : Int) = (wrap64 (x12 - x4)) then (laws_FnTableLines.l0 k x3 x4 x5 x9 x10 (wrap64 (x11 + 1))) else (some false)) else (none)) else (none))
end
def laws_FnTableLines.f (k : Nat) (l0 : List Int) : Option (Bool) := if (l0.length : Int) > 1048576 then (some true) else ((spec_DrawTableLines.f k l0).bind fun bt276 => ((impl_TableLines.f k bt276.1 bt276.2).bind fun bt280 => ((spec_TableLines.f k bt276.1 bt276.2).bind fun bt284 => ((laws_daTexts.f k bt280.1 bt284.1).bind fun t288 => (if t288 = true then (if (bt280.2 != bt284.2) = true then (laws_FnTableLines.j0 k bt276.1 bt276.2 bt280.1 bt280.2 bt284.1 bt284.2 true) else (laws_FnTableLines.j0 k bt276.1 bt276.2 bt280.1 bt280.2 bt284.1 bt284.2 (!bt280.2))) else (laws_FnTableLines.j0 k bt276.1 bt276.2 bt280.1 bt280.2 bt284.1 bt284.2 true))))))
theorem laws_FnTableLines.mono_l : ∀ k, (∀ y0 y1 y2 y3 y4 y5 y6, LeO (laws_FnTableLines.j0 k y0 y1 y2 y3 y4 y5 y6) (laws_FnTableLines.j0 (k + 1) y0 y1 y2 y3 y4 y5 y6)) ∧ (∀ y0 y1 y2 y3 y4 y5, LeO (laws_FnTableLines.l0 k y0 y1 y2 y3 y4 y5) (laws_FnTableLines.l0 (k + 1) y0 y1 y2 y3 y4 y5)) ∧ (∀ y0 y1 y2 y3 y4 y5 y6 y7, LeO (laws_FnTableLines.l1 k y0 y1 y2 y3 y4 y5 y6 y7) (laws_FnTableLines.l1 (k + 1) y0 y1 y2 y3 y4 y5 y6 y7))
 | 0 => ⟨fun _ _ _ _ _ _ _ r h => by simp [laws_FnTableLines.j0] at h, fun _ _ _ _ _ _ r h => by simp [laws_FnTableLines.l0] at h, fun _ _ _ _ _ _ _ _ r h => by simp [laws_FnTableLines.l1] at h⟩
 | k + 1 => by
  obtain ⟨ih0, ih1, ih2⟩ := laws_FnTableLines.mono_l k
  refine ⟨?_, ?_, ?_⟩
  ·intro y0 y1 y2 y3 y4 y5 y6
   unfold laws_FnTableLines.j0
   repeat' first
   | (with_reducible exact ih0 _ _ _ _ _ _ _)
   | (with_reducible exact ih1 _ _ _ _ _ _)
   | (with_reducible exact ih2 _ _ _ _ _ _ _ _)
   | (with_reducible exact impl_ColumnWidths.mono _ _)
   | (with_reducible exact impl_TableLines.mono _ _ _)
   | (with_reducible exact laws_daTexts.mono _ _ _)
   | (with_reducible exact spec_DrawTableLines.mono _ _)
   | (with_reducible exact spec_TableLines.mono _ _ _)
   | (with_reducible exact LeO.refl _)
   | (with_reducible exact LeO.none _)
   | (with_reducible refine LeO.ite ?_ ?_)
   | (with_reducible refine LeO.bind ?_ (fun _ => ?_))
   | exact ih0 _ _ _ _ _ _ _
   | exact ih1 _ _ _ _ _ _
   | exact ih2 _ _ _ _ _ _ _ _
   | exact impl_ColumnWidths.mono _ _
   | exact impl_TableLines.mono _ _ _
   | exact laws_daTexts.mono _ _ _
   | exact spec_DrawTableLines.mono _ _
   | exact spec_TableLines.mono _ _ _
   | exact LeO.none _
   | refine LeO.ite ?_ ?_
   | refine LeO.bind ?_ (fun _ => ?_)
  ·intro y0 y1 y2 y3 y4 y5
   unfold laws_FnTableLines.l0
   repeat' first
   | (with_reducible exact ih0 _ _ _ _ _ _ _)
   | (with_reducible exact ih1 _ _ _ _ _ _)
   | (with_reducible exact ih2 _ _ _ _ _ _ _ _)
   | (with_reducible exact impl_ColumnWidths.mono _ _)
   | (with_reducible exact impl_TableLines.mono _ _ _)
   | (with_reducible exact laws_daTexts.mono _ _ _)
   | (with_reducible exact spec_DrawTableLines.mono _ _)
   | (with_reducible exact spec_TableLines.mono _ _ _)
   | (with_reducible exact LeO.refl _)
   | (with_reducible exact LeO.none _)
   | (with_reducible refine LeO.ite ?_ ?_)
   | (with_reducible refine LeO.bind ?_ (fun _ => ?_))
   | exact ih0 _ _ _ _ _ _ _
   | exact ih1 _ _ _ _ _ _
   | exact ih2 _ _ _ _ _ _ _ _
   | exact impl_ColumnWidths.mono _ _
   | exact impl_TableLines.mono _ _ _
   | exact laws_daTexts.mono _ _ _
   | exact spec_DrawTableLines.mono _ _
   | exact spec_TableLines.mono _ _ _
   | exact LeO.none _
   | refine LeO.ite ?_ ?_
   | refine LeO.bind ?_ (fun _ => ?_)
  ·intro y0 y1 y2 y3 y4 y5 y6 y7
   unfold laws_FnTableLines.l1
   repeat' first
   | (with_reducible exact ih0 _ _ _ _ _ _ _)
   | (with_reducible exact ih1 _ _ _ _ _ _)
   | (with_reducible exact ih2 _ _ _ _ _ _ _ _)
   | (with_reducible exact impl_ColumnWidths.mono _ _)
   | (with_reducible exact impl_TableLines.mono _ _ _)
   | (with_reducible exact laws_daTexts.mono _ _ _)
   | (with_reducible exact spec_DrawTableLines.mono _ _)
   | (with_reducible exact spec_TableLines.mono _ _ _)
   | (with_reducible exact LeO.refl _)
   | (with_reducible exact LeO.none _)
   | (with_reducible refine LeO.ite ?_ ?_)
   | (with_reducible refine LeO.bind ?_ (fun _ => ?_))
   | exact ih0 _ _ _ _ _ _ _
   | exact ih1 _ _ _ _ _ _
   | exact ih2 _ _ _ _ _ _ _ _
   | exact impl_ColumnWidths.mono _ _
   | exact impl_TableLines.mono _ _ _
   | exact laws_daTexts.mono _ _ _
   | exact spec_DrawTableLines.mono _ _
   | exact spec_TableLines.mono _ _ _
   | exact LeO.none _
   | refine LeO.ite ?_ ?_
   | refine LeO.bind ?_ (fun _ => ?_)
theorem laws_FnTableLines.mono : ∀ a0 k, LeO (laws_FnTableLines.f k a0) (laws_FnTableLines.f (k + 1) a0) := by
 intro a0 k
 obtain ⟨ih0, ih1, ih2⟩ := laws_FnTableLines.mono_l k
 unfold laws_FnTableLines.f
 repeat' first
   | (with_reducible exact ih0 _ _ _ _ _ _ _)
   | (with_reducible exact ih1 _ _ _ _ _ _)
   | (with_reducible exact ih2 _ _ _ _ _ _ _ _)
   | (with_reducible exact impl_ColumnWidths.mono _ _)
   | (with_reducible exact impl_TableLines.mono _ _ _)
   | (with_reducible exact laws_daTexts.mono _ _ _)
   | (with_reducible exact spec_DrawTableLines.mono _ _)
   | (with_reducible exact spec_TableLines.mono _ _ _)
   | (with_reducible exact LeO.refl _)
   | (with_reducible exact LeO.none _)
   | (with_reducible refine LeO.ite ?_ ?_)
   | (with_reducible refine LeO.bind ?_ (fun _ => ?_))
   | exact ih0 _ _ _ _ _ _ _
   | exact ih1 _ _ _ _ _ _
   | exact ih2 _ _ _ _ _ _ _ _
   | exact impl_ColumnWidths.mono _ _
   | exact impl_TableLines.mono _ _ _
   | exact laws_daTexts.mono _ _ _
   | exact spec_DrawTableLines.mono _ _
   | exact spec_TableLines.mono _ _ _
   | exact LeO.none _
   | refine LeO.ite ?_ ?_
   | refine LeO.bind ?_ (fun _ => ?_)
set_option maxHeartbeats 8000000 in
set_option maxRecDepth 100000 in
theorem laws_FnTableLines.calls (k : Nat) (A0 : Option Addr) (c0 : Nat) (l0 : List Int) (r : Bool) (w : World) (hr0 : Kd.C (Kd.int .u8) w A0 l0.length l0) (hc0 : l0.length ≤ c0) (h : laws_FnTableLines.f k l0 = some r) :
  Calls Try.prog 13 #[.slice A0 l0.length c0] w fun e w' => e = .returned (.bool r) ∧ Below w.heap.size w w' := by
 have HR0 := Aside0.mk hr0
 have HC0 := Aside0.mk hc0
 clear hr0 hc0
 have HB := Aside0.mk (Below.refl w.heap.size w)
 have H : (if (l0.length : Int) > 1048576 then (some true) else ((spec_DrawTableLines.f k l0).bind fun bt276 => ((impl_TableLines.f k bt276.1 bt276.2).bind fun bt280 => ((spec_TableLines.f k bt276.1 bt276.2).bind fun bt284 => ((laws_daTexts.f k bt280.1 bt284.1).bind fun t288 => (if t288 = true then (if (bt280.2 != bt284.2) = true then (laws_FnTableLines.j0 k bt276.1 bt276.2 bt280.1 bt280.2 bt284.1 bt284.2 true) else (laws_FnTableLines.j0 k bt276.1 bt276.2 bt280.1 bt280.2 bt284.1 bt284.2 (!bt280.2))) else (laws_FnTableLines.j0 k bt276.1 bt276.2 bt280.1 bt280.2 bt284.1 bt284.2 true))))))) = some r := h
 clear h
 by_cases c2 : (l0.length : Int) > 1048576
 ·rw [if_pos c2] at H
  have c2b0 : decide (1048576 < (l0.length : Int)) = true := decide_eq_true c2
  have c2b1 : decide (1048576 < l0.length) = true := decide_eq_true (by omega)
  clear c2
  obtain rfl := Option.some.inj H
  go_enter Try.func13, Try.ntmps13
  go_wp2
  repeat (go_quiet (fail); try go_wp2)
  go_ret
  exact ⟨by first | rfl | (simp [errW_none, errW_some] <;> rfl) | (simp [*, errW_none, errW_some] <;> rfl), by repeat (first|(with_reducible first|exact HB.out|apply below_alloc|apply pw_below_drewN|apply below_drew1)|exact HB.out)⟩
 ·rw [if_neg c2] at H
  have c2b0 : decide (1048576 < (l0.length : Int)) = false := decide_eq_false c2
  have c2b1 : decide (1048576 < l0.length) = false := decide_eq_false (by omega)
  clear c2
  replace H := Option.bind_eq_some_iff.mp H
  obtain ⟨⟨t276, t277⟩, A30, H⟩ := H
  replace H : ((impl_TableLines.f k t276 t277).bind fun bt280 => ((spec_TableLines.f k t276 t277).bind fun bt284 => ((laws_daTexts.f k bt280.1 bt284.1).bind fun t288 => (if t288 = true then (if (bt280.2 != bt284.2) = true then (laws_FnTableLines.j0 k t276 t277 bt280.1 bt280.2 bt284.1 bt284.2 true) else (laws_FnTableLines.j0 k t276 t277 bt280.1 bt280.2 bt284.1 bt284.2 (!bt280.2))) else (laws_FnTableLines.j0 k t276 t277 bt280.1 bt280.2 bt284.1 bt284.2 true))))) = some r := H
  have A3 := Aside0.mk A30
  clear A30
  replace H := Option.bind_eq_some_iff.mp H
  obtain ⟨⟨t280, t281⟩, A40, H⟩ := H
  replace H : ((spec_TableLines.f k t276 t277).bind fun bt284 => ((laws_daTexts.f k t280 bt284.1).bind fun t288 => (if t288 = true then (if (t281 != bt284.2) = true then (laws_FnTableLines.j0 k t276 t277 t280 t281 bt284.1 bt284.2 true) else (laws_FnTableLines.j0 k t276 t277 t280 t281 bt284.1 bt284.2 (!t281))) else (laws_FnTableLines.j0 k t276 t277 t280 t281 bt284.1 bt284.2 true)))) = some r := H
  have A4 := Aside0.mk A40
  clear A40
  replace H := Option.bind_eq_some_iff.mp H
  obtain ⟨⟨t284, t285⟩, A50, H⟩ := H
  replace H : ((laws_daTexts.f k t280 t284).bind fun t288 => (if t288 = true then (if (t281 != t285) = true then (laws_FnTableLines.j0 k t276 t277 t280 t281 t284 t285 true) else (laws_FnTableLines.j0 k t276 t277 t280 t281 t284 t285 (!t281))) else (laws_FnTableLines.j0 k t276 t277 t280 t281 t284 t285 true))) = some r := H
  have A5 := Aside0.mk A50
  clear A50
  have HC6 := Aside0.mk H
  clear H
  go_enter Try.func13, Try.ntmps13
  go_upto_region 6 with (first | (go_at_call 38; (with_reducible refine (spec_DrawTableLines.calls k _ _ l0 t276 t277 _ ?side1 ?side2 A3.out).mono ?_); (case side1 => repeat (first | exact HR0.out | (with_reducible refine Kd.C_alloc ?_ _) | (with_reducible refine Kd.C_drewN ?_ _) | (with_reducible refine Kd.C_drew ?_))); (case side2 => exact HC0.out); rintro e w7 ⟨v278, rfl, ho0, hb⟩; have n0_ := Aside0.mk (Kd.S_lower ho0 (below_size (by repeat (first|(with_reducible first|exact HB.out|apply below_alloc|apply pw_below_drewN|apply below_drew1)|exact HB.out)))); have n1_ := Aside0.mk (below_step (by repeat (first|(with_reducible first|exact HB.out|apply below_alloc|apply pw_below_drewN|apply below_drew1)|exact HB.out)) hb); clear HB; have HO279 := n0_; have HB := n1_; clear n0_ n1_; (try clear hb); (try clear hb2); (try clear hk); (try clear hi); (try clear ho0); obtain ⟨Ao8, co8, eo8⟩ := Kd.S_slice HO279.out; subst eo8) | (go_at_call 39; (with_reducible refine (impl_TableLines.calls k _ _ t276 t277 t280 t281 _ ?side1 ?side2 A4.out).mono ?_); (case side1 => repeat (first | exact (Kd.S_reads' HO279.out).2.2 | (with_reducible refine Kd.C_alloc ?_ _) | (with_reducible refine Kd.C_drewN ?_ _) | (with_reducible refine Kd.C_drew ?_))); (case side2 => exact (Kd.S_reads' HO279.out).2.1); rintro e w9 ⟨v282, rfl, ho0, hb⟩; have n0_ := Aside0.mk (Kd.S_elder' (by (with_reducible repeat (first | apply Kd.S_alloc | apply Kd.S_drewN | apply Kd.S_drew)); exact HO279.out) (Kd.R_base ho0) hb); have n1_ := Aside0.mk (Kd.R_lower ho0 (below_size (by repeat (first|(with_reducible first|exact HB.out|apply below_alloc|apply pw_below_drewN|apply below_drew1)|exact HB.out)))); have n2_ := Aside0.mk (below_step (by repeat (first|(with_reducible first|exact HB.out|apply below_alloc|apply pw_below_drewN|apply below_drew1)|exact HB.out)) hb); clear HO279; clear HB; have HO279 := n0_; have HO283 := n1_; have HB := n2_; clear n0_ n1_ n2_; (try clear hb); (try clear hb2); (try clear hk); (try clear hi); (try clear ho0)) | (go_at_call 40; (with_reducible refine (spec_TableLines.calls k _ _ t276 t277 t284 t285 _ ?side1 ?side2 A5.out).mono ?_); (case side1 => repeat (first | exact (Kd.S_reads' HO279.out).2.2 | (with_reducible refine Kd.C_alloc ?_ _) | (with_reducible refine Kd.C_drewN ?_ _) | (with_reducible refine Kd.C_drew ?_))); (case side2 => exact (Kd.S_reads' HO279.out).2.1); rintro e w10 ⟨v286, rfl, ho0, hb⟩; have n0_ := Aside0.mk (Kd.S_elder' (by (with_reducible repeat (first | apply Kd.S_alloc | apply Kd.S_drewN | apply Kd.S_drew)); exact HO279.out) (Kd.R_base ho0) hb); have n1_ := Aside0.mk (Kd.R_elder' (by (with_reducible repeat (first|apply Kd.R_alloc|apply Kd.R_drewN|apply Kd.R_drew)); exact HO283.out) (Kd.R_base ho0) hb); have n2_ := Aside0.mk (Kd.R_lower (Kd.R_new' ho0 (Kd.R_lt (by (with_reducible repeat (first|apply Kd.R_alloc|apply Kd.R_drewN|apply Kd.R_drew)); exact HO283.out))) (below_size (by repeat (first|(with_reducible first|exact HB.out|apply below_alloc|apply pw_below_drewN|apply below_drew1)|exact HB.out)))); have n3_ := Aside0.mk (below_step (by repeat (first|(with_reducible first|exact HB.out|apply below_alloc|apply pw_below_drewN|apply below_drew1)|exact HB.out)) hb); clear HO279; clear HO283; clear HB; have HO279 := n0_; have HO283 := n1_; have HO287 := n2_; have HB := n3_; clear n0_ n1_ n2_ n3_; (try clear hb); (try clear hb2); (try clear hk); (try clear hi); (try clear ho0)))
  repeat (go_quiet (first | (go_at_call 38; (with_reducible refine (spec_DrawTableLines.calls k _ _ l0 t276 t277 _ ?side1 ?side2 A3.out).mono ?_); (case side1 => repeat (first | exact HR0.out | (with_reducible refine Kd.C_alloc ?_ _) | (with_reducible refine Kd.C_drewN ?_ _) | (with_reducible refine Kd.C_drew ?_))); (case side2 => exact HC0.out); rintro e w7 ⟨v278, rfl, ho0, hb⟩; have n0_ := Aside0.mk (Kd.S_lower ho0 (below_size (by repeat (first|(with_reducible first|exact HB.out|apply below_alloc|apply pw_below_drewN|apply below_drew1)|exact HB.out)))); have n1_ := Aside0.mk (below_step (by repeat (first|(with_reducible first|exact HB.out|apply below_alloc|apply pw_below_drewN|apply below_drew1)|exact HB.out)) hb); clear HB; have HO279 := n0_; have HB := n1_; clear n0_ n1_; (try clear hb); (try clear hb2); (try clear hk); (try clear hi); (try clear ho0); obtain ⟨Ao8, co8, eo8⟩ := Kd.S_slice HO279.out; subst eo8) | (go_at_call 39; (with_reducible refine (impl_TableLines.calls k _ _ t276 t277 t280 t281 _ ?side1 ?side2 A4.out).mono ?_); (case side1 => repeat (first | exact (Kd.S_reads' HO279.out).2.2 | (with_reducible refine Kd.C_alloc ?_ _) | (with_reducible refine Kd.C_drewN ?_ _) | (with_reducible refine Kd.C_drew ?_))); (case side2 => exact (Kd.S_reads' HO279.out).2.1); rintro e w9 ⟨v282, rfl, ho0, hb⟩; have n0_ := Aside0.mk (Kd.S_elder' (by (with_reducible repeat (first | apply Kd.S_alloc | apply Kd.S_drewN | apply Kd.S_drew)); exact HO279.out) (Kd.R_base ho0) hb); have n1_ := Aside0.mk (Kd.R_lower ho0 (below_size (by repeat (first|(with_reducible first|exact HB.out|apply below_alloc|apply pw_below_drewN|apply below_drew1)|exact HB.out)))); have n2_ := Aside0.mk (below_step (by repeat (first|(with_reducible first|exact HB.out|apply below_alloc|apply pw_below_drewN|apply below_drew1)|exact HB.out)) hb); clear HO279; clear HB; have HO279 := n0_; have HO283 := n1_; have HB := n2_; clear n0_ n1_ n2_; (try clear hb); (try clear hb2); (try clear hk); (try clear hi); (try clear ho0)) | (go_at_call 40; (with_reducible refine (spec_TableLines.calls k _ _ t276 t277 t284 t285 _ ?side1 ?side2 A5.out).mono ?_); (case side1 => repeat (first | exact (Kd.S_reads' HO279.out).2.2 | (with_reducible refine Kd.C_alloc ?_ _) | (with_reducible refine Kd.C_drewN ?_ _) | (with_reducible refine Kd.C_drew ?_))); (case side2 => exact (Kd.S_reads' HO279.out).2.1); rintro e w10 ⟨v286, rfl, ho0, hb⟩; have n0_ := Aside0.mk (Kd.S_elder' (by (with_reducible repeat (first | apply Kd.S_alloc | apply Kd.S_drewN | apply Kd.S_drew)); exact HO279.out) (Kd.R_base ho0) hb); have n1_ := Aside0.mk (Kd.R_elder' (by (with_reducible repeat (first|apply Kd.R_alloc|apply Kd.R_drewN|apply Kd.R_drew)); exact HO283.out) (Kd.R_base ho0) hb); have n2_ := Aside0.mk (Kd.R_lower (Kd.R_new' ho0 (Kd.R_lt (by (with_reducible repeat (first|apply Kd.R_alloc|apply Kd.R_drewN|apply Kd.R_drew)); exact HO283.out))) (below_size (by repeat (first|(with_reducible first|exact HB.out|apply below_alloc|apply pw_below_drewN|apply below_drew1)|exact HB.out)))); have n3_ := Aside0.mk (below_step (by repeat (first|(with_reducible first|exact HB.out|apply below_alloc|apply pw_below_drewN|apply below_drew1)|exact HB.out)) hb); clear HO279; clear HO283; clear HB; have HO279 := n0_; have HO283 := n1_; have HO287 := n2_; have HB := n3_; clear n0_ n1_ n2_ n3_; (try clear hb); (try clear hb2); (try clear hk); (try clear hi); (try clear ho0))); go_upto_region 6 with (first | (go_at_call 38; (with_reducible refine (spec_DrawTableLines.calls k _ _ l0 t276 t277 _ ?side1 ?side2 A3.out).mono ?_); (case side1 => repeat (first | exact HR0.out | (with_reducible refine Kd.C_alloc ?_ _) | (with_reducible refine Kd.C_drewN ?_ _) | (with_reducible refine Kd.C_drew ?_))); (case side2 => exact HC0.out); rintro e w7 ⟨v278, rfl, ho0, hb⟩; have n0_ := Aside0.mk (Kd.S_lower ho0 (below_size (by repeat (first|(with_reducible first|exact HB.out|apply below_alloc|apply pw_below_drewN|apply below_drew1)|exact HB.out)))); have n1_ := Aside0.mk (below_step (by repeat (first|(with_reducible first|exact HB.out|apply below_alloc|apply pw_below_drewN|apply below_drew1)|exact HB.out)) hb); clear HB; have HO279 := n0_; have HB := n1_; clear n0_ n1_; (try clear hb); (try clear hb2); (try clear hk); (try clear hi); (try clear ho0); obtain ⟨Ao8, co8, eo8⟩ := Kd.S_slice HO279.out; subst eo8) | (go_at_call 39; (with_reducible refine (impl_TableLines.calls k _ _ t276 t277 t280 t281 _ ?side1 ?side2 A4.out).mono ?_); (case side1 => repeat (first | exact (Kd.S_reads' HO279.out).2.2 | (with_reducible refine Kd.C_alloc ?_ _) | (with_reducible refine Kd.C_drewN ?_ _) | (with_reducible refine Kd.C_drew ?_))); (case side2 => exact (Kd.S_reads' HO279.out).2.1); rintro e w9 ⟨v282, rfl, ho0, hb⟩; have n0_ := Aside0.mk (Kd.S_elder' (by (with_reducible repeat (first | apply Kd.S_alloc | apply Kd.S_drewN | apply Kd.S_drew)); exact HO279.out) (Kd.R_base ho0) hb); have n1_ := Aside0.mk (Kd.R_lower ho0 (below_size (by repeat (first|(with_reducible first|exact HB.out|apply below_alloc|apply pw_below_drewN|apply below_drew1)|exact HB.out)))); have n2_ := Aside0.mk (below_step (by repeat (first|(with_reducible first|exact HB.out|apply below_alloc|apply pw_below_drewN|apply below_drew1)|exact HB.out)) hb); clear HO279; clear HB; have HO279 := n0_; have HO283 := n1_; have HB := n2_; clear n0_ n1_ n2_; (try clear hb); (try clear hb2); (try clear hk); (try clear hi); (try clear ho0)) | (go_at_call 40; (with_reducible refine (spec_TableLines.calls k _ _ t276 t277 t284 t285 _ ?side1 ?side2 A5.out).mono ?_); (case side1 => repeat (first | exact (Kd.S_reads' HO279.out).2.2 | (with_reducible refine Kd.C_alloc ?_ _) | (with_reducible refine Kd.C_drewN ?_ _) | (with_reducible refine Kd.C_drew ?_))); (case side2 => exact (Kd.S_reads' HO279.out).2.1); rintro e w10 ⟨v286, rfl, ho0, hb⟩; have n0_ := Aside0.mk (Kd.S_elder' (by (with_reducible repeat (first | apply Kd.S_alloc | apply Kd.S_drewN | apply Kd.S_drew)); exact HO279.out) (Kd.R_base ho0) hb); have n1_ := Aside0.mk (Kd.R_elder' (by (with_reducible repeat (first|apply Kd.R_alloc|apply Kd.R_drewN|apply Kd.R_drew)); exact HO283.out) (Kd.R_base ho0) hb); have n2_ := Aside0.mk (Kd.R_lower (Kd.R_new' ho0 (Kd.R_lt (by (with_reducible repeat (first|apply Kd.R_alloc|apply Kd.R_drewN|apply Kd.R_drew)); exact HO283.out))) (below_size (by repeat (first|(with_reducible first|exact HB.out|apply below_alloc|apply pw_below_drewN|apply below_drew1)|exact HB.out)))); have n3_ := Aside0.mk (below_step (by repeat (first|(with_reducible first|exact HB.out|apply below_alloc|apply pw_below_drewN|apply below_drew1)|exact HB.out)) hb); clear HO279; clear HO283; clear HB; have HO279 := n0_; have HO283 := n1_; have HO287 := n2_; have HB := n3_; clear n0_ n1_ n2_ n3_; (try clear hb); (try clear hb2); (try clear hk); (try clear hi); (try clear ho0))))
  (try simp only [Act.put, List.setIfInBounds_toArray, List.set_cons_zero, List.set_cons_succ])
  go_cut [46] (fun v46 wc => ∃ (kq : Nat) (x46_5 : Bool), v46 = .bool x46_5 ∧ Aside0 (laws_FnTableLines.j0 kq t276 t277 t280 t281 t284 t285 x46_5 = some r) ∧ Aside0 (kq ≤ k) ∧ Aside0 (Kd.S (Kd.slice 9 Kd.string) 39 wc w.heap.size (fun k_ => some k_ ≠ (v282 : Value).ownBlock ∧ some k_ ≠ (v286 : Value).ownBlock) (.slice Ao8 t276.length co8) t276) ∧ Aside0 (Kd.R Kd.string 9 wc w.heap.size (fun k_ => some k_ ≠ (v286 : Value).ownBlock) v282 t280) ∧ Aside0 (Kd.R Kd.string 9 wc w.heap.size (fun k_ => some k_ ≠ (v282 : Value).ownBlock) v286 t284) ∧ Aside0 (Below w.heap.size w wc))
  case first =>
   have H := HC6.out
   clear HC6
   replace H := Option.bind_eq_some_iff.mp H
   obtain ⟨t288, A110, H⟩ := H
   replace H : (if t288 = true then (if (t281 != t285) = true then (laws_FnTableLines.j0 k t276 t277 t280 t281 t284 t285 true) else (laws_FnTableLines.j0 k t276 t277 t280 t281 t284 t285 (!t281))) else (laws_FnTableLines.j0 k t276 t277 t280 t281 t284 t285 true)) = some r := H
   have A11 := Aside0.mk A110
   clear A110
   by_cases c12 : t288 = true
   ·subst c12
    have H1 : (if (t281 != t285) = true then (laws_FnTableLines.j0 k t276 t277 t280 t281 t284 t285 true) else (laws_FnTableLines.j0 k t276 t277 t280 t281 t284 t285 (!t281))) = some r := by rw [if_pos rfl] at H; exact H
    clear H
    have H := H1
    clear H1
    by_cases c13 : (t281 != t285) = true
    ·rw [if_pos c13] at H
     have c13b0 : (t281 != t285) = true := c13
     (try (have c13b1 : decide (t281 = t285) = false := by simpa using c13))
     (try (have c13b2 : (t281 == t285) = false := by simpa using c13))
     (try (have c13b3 : ¬ (t281 = t285) := by simpa using c13))
     clear c13
     (first | rw [c13b0] | (simp only [i64_w, i32_w]; rw [c13b0]) | skip)
     have H' := Aside0.mk H
     clear H
     obtain ⟨Ao14, co14, eo14⟩ := Kd.R_slice HO283.out
     subst eo14
     obtain ⟨Ao15, co15, eo15⟩ := Kd.R_slice HO287.out
     subst eo15
     go_wp2_with (first | (go_at_call 26; (with_reducible refine (laws_daTexts.calls k _ _ t280 _ _ t284 true _ ?side1 ?side2 ?side3 ?side4 A11.out).mono ?_); (case side1 => repeat (first | exact (Kd.R_reads' HO283.out).2.2 | (with_reducible refine Kd.C_alloc ?_ _) | (with_reducible refine Kd.C_drewN ?_ _) | (with_reducible refine Kd.C_drew ?_))); (case side2 => exact (Kd.R_reads' HO283.out).2.1); (case side3 => repeat (first | exact (Kd.R_reads' HO287.out).2.2 | (with_reducible refine Kd.C_alloc ?_ _) | (with_reducible refine Kd.C_drewN ?_ _) | (with_reducible refine Kd.C_drew ?_))); (case side4 => exact (Kd.R_reads' HO287.out).2.1); rintro e w' ⟨rfl, ⟨nd, rfl⟩⟩; (try first | exact ⟨rfl, _, World.drewN_drewN _ _ _⟩ | exact ⟨rfl, _, Eq.trans (World.drewN_drewN _ _ _) (congrArg (World.drewN _) (Nat.add_assoc _ _ _))⟩)))
     repeat (go_quiet (first | (go_at_call 26; (with_reducible refine (laws_daTexts.calls k _ _ t280 _ _ t284 true _ ?side1 ?side2 ?side3 ?side4 A11.out).mono ?_); (case side1 => repeat (first | exact (Kd.R_reads' HO283.out).2.2 | (with_reducible refine Kd.C_alloc ?_ _) | (with_reducible refine Kd.C_drewN ?_ _) | (with_reducible refine Kd.C_drew ?_))); (case side2 => exact (Kd.R_reads' HO283.out).2.1); (case side3 => repeat (first | exact (Kd.R_reads' HO287.out).2.2 | (with_reducible refine Kd.C_alloc ?_ _) | (with_reducible refine Kd.C_drewN ?_ _) | (with_reducible refine Kd.C_drew ?_))); (case side4 => exact (Kd.R_reads' HO287.out).2.1); rintro e w' ⟨rfl, ⟨nd, rfl⟩⟩; (try first | exact ⟨rfl, _, World.drewN_drewN _ _ _⟩ | exact ⟨rfl, _, Eq.trans (World.drewN_drewN _ _ _) (congrArg (World.drewN _) (Nat.add_assoc _ _ _))⟩))); try go_wp2_with (first | (go_at_call 26; (with_reducible refine (laws_daTexts.calls k _ _ t280 _ _ t284 true _ ?side1 ?side2 ?side3 ?side4 A11.out).mono ?_); (case side1 => repeat (first | exact (Kd.R_reads' HO283.out).2.2 | (with_reducible refine Kd.C_alloc ?_ _) | (with_reducible refine Kd.C_drewN ?_ _) | (with_reducible refine Kd.C_drew ?_))); (case side2 => exact (Kd.R_reads' HO283.out).2.1); (case side3 => repeat (first | exact (Kd.R_reads' HO287.out).2.2 | (with_reducible refine Kd.C_alloc ?_ _) | (with_reducible refine Kd.C_drewN ?_ _) | (with_reducible refine Kd.C_drew ?_))); (case side4 => exact (Kd.R_reads' HO287.out).2.1); rintro e w' ⟨rfl, ⟨nd, rfl⟩⟩; (try first | exact ⟨rfl, _, World.drewN_drewN _ _ _⟩ | exact ⟨rfl, _, Eq.trans (World.drewN_drewN _ _ _) (congrArg (World.drewN _) (Nat.add_assoc _ _ _))⟩))))
     go_meet
     case rel => exact ⟨_, (true), (by first|rfl|(simp;done)|(simp[*];done)), H', ⟨by first | omega | exact Nat.le_refl _⟩, ⟨by (with_reducible repeat (first | apply Kd.S_alloc | apply Kd.S_drewN | apply Kd.S_drew)); exact Kd.S_mono HO279.out (fun _ hk => ⟨hk.1.2, hk.2⟩)⟩, ⟨by (with_reducible repeat (first|apply Kd.R_alloc|apply Kd.R_drewN|apply Kd.R_drew)); exact Kd.R_mono HO283.out (fun _ hk => hk.2)⟩, ⟨by (with_reducible repeat (first|apply Kd.R_alloc|apply Kd.R_drewN|apply Kd.R_drew)); exact Kd.R_mono HO287.out (fun _ hk => hk.2)⟩, ⟨by repeat (first|(with_reducible first|exact HB.out|apply below_alloc|apply pw_below_drewN|apply below_drew1)|exact HB.out)⟩⟩
    ·rw [if_neg c13] at H
     have c13b0 : (t281 != t285) = false := by simpa using c13
     (try (have c13b1 : decide (t281 = t285) = true := by simpa using c13))
     (try (have c13b2 : (t281 == t285) = true := by simpa using c13))
     clear c13
     (first | rw [c13b0] | (simp only [i64_w, i32_w]; rw [c13b0]) | skip)
     have H' := Aside0.mk H
     clear H
     obtain ⟨Ao16, co16, eo16⟩ := Kd.R_slice HO283.out
     subst eo16
     obtain ⟨Ao17, co17, eo17⟩ := Kd.R_slice HO287.out
     subst eo17
     go_wp2_with (first | (go_at_call 26; (with_reducible refine (laws_daTexts.calls k _ _ t280 _ _ t284 true _ ?side1 ?side2 ?side3 ?side4 A11.out).mono ?_); (case side1 => repeat (first | exact (Kd.R_reads' HO283.out).2.2 | (with_reducible refine Kd.C_alloc ?_ _) | (with_reducible refine Kd.C_drewN ?_ _) | (with_reducible refine Kd.C_drew ?_))); (case side2 => exact (Kd.R_reads' HO283.out).2.1); (case side3 => repeat (first | exact (Kd.R_reads' HO287.out).2.2 | (with_reducible refine Kd.C_alloc ?_ _) | (with_reducible refine Kd.C_drewN ?_ _) | (with_reducible refine Kd.C_drew ?_))); (case side4 => exact (Kd.R_reads' HO287.out).2.1); rintro e w' ⟨rfl, ⟨nd, rfl⟩⟩; (try first | exact ⟨rfl, _, World.drewN_drewN _ _ _⟩ | exact ⟨rfl, _, Eq.trans (World.drewN_drewN _ _ _) (congrArg (World.drewN _) (Nat.add_assoc _ _ _))⟩)))
     repeat (go_quiet (first | (go_at_call 26; (with_reducible refine (laws_daTexts.calls k _ _ t280 _ _ t284 true _ ?side1 ?side2 ?side3 ?side4 A11.out).mono ?_); (case side1 => repeat (first | exact (Kd.R_reads' HO283.out).2.2 | (with_reducible refine Kd.C_alloc ?_ _) | (with_reducible refine Kd.C_drewN ?_ _) | (with_reducible refine Kd.C_drew ?_))); (case side2 => exact (Kd.R_reads' HO283.out).2.1); (case side3 => repeat (first | exact (Kd.R_reads' HO287.out).2.2 | (with_reducible refine Kd.C_alloc ?_ _) | (with_reducible refine Kd.C_drewN ?_ _) | (with_reducible refine Kd.C_drew ?_))); (case side4 => exact (Kd.R_reads' HO287.out).2.1); rintro e w' ⟨rfl, ⟨nd, rfl⟩⟩; (try first | exact ⟨rfl, _, World.drewN_drewN _ _ _⟩ | exact ⟨rfl, _, Eq.trans (World.drewN_drewN _ _ _) (congrArg (World.drewN _) (Nat.add_assoc _ _ _))⟩))); try go_wp2_with (first | (go_at_call 26; (with_reducible refine (laws_daTexts.calls k _ _ t280 _ _ t284 true _ ?side1 ?side2 ?side3 ?side4 A11.out).mono ?_); (case side1 => repeat (first | exact (Kd.R_reads' HO283.out).2.2 | (with_reducible refine Kd.C_alloc ?_ _) | (with_reducible refine Kd.C_drewN ?_ _) | (with_reducible refine Kd.C_drew ?_))); (case side2 => exact (Kd.R_reads' HO283.out).2.1); (case side3 => repeat (first | exact (Kd.R_reads' HO287.out).2.2 | (with_reducible refine Kd.C_alloc ?_ _) | (with_reducible refine Kd.C_drewN ?_ _) | (with_reducible refine Kd.C_drew ?_))); (case side4 => exact (Kd.R_reads' HO287.out).2.1); rintro e w' ⟨rfl, ⟨nd, rfl⟩⟩; (try first | exact ⟨rfl, _, World.drewN_drewN _ _ _⟩ | exact ⟨rfl, _, Eq.trans (World.drewN_drewN _ _ _) (congrArg (World.drewN _) (Nat.add_assoc _ _ _))⟩))))
     go_meet
     case rel => exact ⟨_, (!t281), (by first|rfl|(simp;done)|(simp[*];done)), H', ⟨by first | omega | exact Nat.le_refl _⟩, ⟨by (with_reducible repeat (first | apply Kd.S_alloc | apply Kd.S_drewN | apply Kd.S_drew)); exact Kd.S_mono HO279.out (fun _ hk => ⟨hk.1.2, hk.2⟩)⟩, ⟨by (with_reducible repeat (first|apply Kd.R_alloc|apply Kd.R_drewN|apply Kd.R_drew)); exact Kd.R_mono HO283.out (fun _ hk => hk.2)⟩, ⟨by (with_reducible repeat (first|apply Kd.R_alloc|apply Kd.R_drewN|apply Kd.R_drew)); exact Kd.R_mono HO287.out (fun _ hk => hk.2)⟩, ⟨by repeat (first|(with_reducible first|exact HB.out|apply below_alloc|apply pw_below_drewN|apply below_drew1)|exact HB.out)⟩⟩
   ·replace c12 := Bool.eq_false_iff.mpr c12
    subst c12
    have H1 : (laws_FnTableLines.j0 k t276 t277 t280 t281 t284 t285 true) = some r := by rw [if_neg (show ¬ (false = true) by decide)] at H; exact H
    clear H
    have H := H1
    clear H1
    have H' := Aside0.mk H
    clear H
    obtain ⟨Ao18, co18, eo18⟩ := Kd.R_slice HO283.out
    subst eo18
    obtain ⟨Ao19, co19, eo19⟩ := Kd.R_slice HO287.out
    subst eo19
    go_wp2_with (first | (go_at_call 26; (with_reducible refine (laws_daTexts.calls k _ _ t280 _ _ t284 false _ ?side1 ?side2 ?side3 ?side4 A11.out).mono ?_); (case side1 => repeat (first | exact (Kd.R_reads' HO283.out).2.2 | (with_reducible refine Kd.C_alloc ?_ _) | (with_reducible refine Kd.C_drewN ?_ _) | (with_reducible refine Kd.C_drew ?_))); (case side2 => exact (Kd.R_reads' HO283.out).2.1); (case side3 => repeat (first | exact (Kd.R_reads' HO287.out).2.2 | (with_reducible refine Kd.C_alloc ?_ _) | (with_reducible refine Kd.C_drewN ?_ _) | (with_reducible refine Kd.C_drew ?_))); (case side4 => exact (Kd.R_reads' HO287.out).2.1); rintro e w' ⟨rfl, ⟨nd, rfl⟩⟩; (try first | exact ⟨rfl, _, World.drewN_drewN _ _ _⟩ | exact ⟨rfl, _, Eq.trans (World.drewN_drewN _ _ _) (congrArg (World.drewN _) (Nat.add_assoc _ _ _))⟩)))
    repeat (go_quiet (first | (go_at_call 26; (with_reducible refine (laws_daTexts.calls k _ _ t280 _ _ t284 false _ ?side1 ?side2 ?side3 ?side4 A11.out).mono ?_); (case side1 => repeat (first | exact (Kd.R_reads' HO283.out).2.2 | (with_reducible refine Kd.C_alloc ?_ _) | (with_reducible refine Kd.C_drewN ?_ _) | (with_reducible refine Kd.C_drew ?_))); (case side2 => exact (Kd.R_reads' HO283.out).2.1); (case side3 => repeat (first | exact (Kd.R_reads' HO287.out).2.2 | (with_reducible refine Kd.C_alloc ?_ _) | (with_reducible refine Kd.C_drewN ?_ _) | (with_reducible refine Kd.C_drew ?_))); (case side4 => exact (Kd.R_reads' HO287.out).2.1); rintro e w' ⟨rfl, ⟨nd, rfl⟩⟩; (try first | exact ⟨rfl, _, World.drewN_drewN _ _ _⟩ | exact ⟨rfl, _, Eq.trans (World.drewN_drewN _ _ _) (congrArg (World.drewN _) (Nat.add_assoc _ _ _))⟩))); try go_wp2_with (first | (go_at_call 26; (with_reducible refine (laws_daTexts.calls k _ _ t280 _ _ t284 false _ ?side1 ?side2 ?side3 ?side4 A11.out).mono ?_); (case side1 => repeat (first | exact (Kd.R_reads' HO283.out).2.2 | (with_reducible refine Kd.C_alloc ?_ _) | (with_reducible refine Kd.C_drewN ?_ _) | (with_reducible refine Kd.C_drew ?_))); (case side2 => exact (Kd.R_reads' HO283.out).2.1); (case side3 => repeat (first | exact (Kd.R_reads' HO287.out).2.2 | (with_reducible refine Kd.C_alloc ?_ _) | (with_reducible refine Kd.C_drewN ?_ _) | (with_reducible refine Kd.C_drew ?_))); (case side4 => exact (Kd.R_reads' HO287.out).2.1); rintro e w' ⟨rfl, ⟨nd, rfl⟩⟩; (try first | exact ⟨rfl, _, World.drewN_drewN _ _ _⟩ | exact ⟨rfl, _, Eq.trans (World.drewN_drewN _ _ _) (congrArg (World.drewN _) (Nat.add_assoc _ _ _))⟩))))
    go_meet
    case rel => exact ⟨_, (true), (by first|rfl|(simp;done)|(simp[*];done)), H', ⟨by first | omega | exact Nat.le_refl _⟩, ⟨by (with_reducible repeat (first | apply Kd.S_alloc | apply Kd.S_drewN | apply Kd.S_drew)); exact Kd.S_mono HO279.out (fun _ hk => ⟨hk.1.2, hk.2⟩)⟩, ⟨by (with_reducible repeat (first|apply Kd.R_alloc|apply Kd.R_drewN|apply Kd.R_drew)); exact Kd.R_mono HO283.out (fun _ hk => hk.2)⟩, ⟨by (with_reducible repeat (first|apply Kd.R_alloc|apply Kd.R_drewN|apply Kd.R_drew)); exact Kd.R_mono HO287.out (fun _ hk => hk.2)⟩, ⟨by repeat (first|(with_reducible first|exact HB.out|apply below_alloc|apply pw_below_drewN|apply below_drew1)|exact HB.out)⟩⟩
  case rest =>
   clear HC6
   try clear c1
   try clear c2
   try clear c2b0
   try clear c2b1
   try clear p2
   try clear c12
   try clear c13
   try clear c13b0
   try clear c13b1
   try clear c13b2
   obtain ⟨kq, x46_5, rfl, HA, HJ5, HO_3, HO_5, HO_7, HB⟩ := hcut
   cases kq with
   | zero => exact absurd HA.out (by simp [laws_FnTableLines.j0])
   | succ kj5 =>
    have H := HA.out
    clear HA
    simp only [laws_FnTableLines.j0] at H
    by_cases c20 : x46_5 = true
    ·subst c20
     have H1 : ((laws_daTexts.f kj5 t280 t284).bind fun t289 => (if t289 = true then (some (t281 == t285)) else (some false))) = some r := by rw [if_pos rfl] at H; exact H
     clear H
     have H := H1
     clear H1
     replace H := Option.bind_eq_some_iff.mp H
     obtain ⟨t289, A210, H⟩ := H
     replace H : (if t289 = true then (some (t281 == t285)) else (some false)) = some r := H
     have A21 := Aside0.mk A210
     clear A210
     by_cases c22 : t289 = true
     ·subst c22
      have H1 : (some (t281 == t285)) = some r := by rw [if_pos rfl] at H; exact H
      clear H
      have H := H1
      clear H1
      obtain rfl := Option.some.inj H
      obtain ⟨Ao23, co23, eo23⟩ := Kd.R_slice HO_5.out
      subst eo23
      obtain ⟨Ao24, co24, eo24⟩ := Kd.R_slice HO_7.out
      subst eo24
      go_wp2_with (first | (go_at_call 26; (with_reducible refine (laws_daTexts.calls kj5 _ _ t280 _ _ t284 true _ ?side1 ?side2 ?side3 ?side4 A21.out).mono ?_); (case side1 => repeat (first | exact (Kd.R_reads' HO_5.out).2.2 | (with_reducible refine Kd.C_alloc ?_ _) | (with_reducible refine Kd.C_drewN ?_ _) | (with_reducible refine Kd.C_drew ?_))); (case side2 => exact (Kd.R_reads' HO_5.out).2.1); (case side3 => repeat (first | exact (Kd.R_reads' HO_7.out).2.2 | (with_reducible refine Kd.C_alloc ?_ _) | (with_reducible refine Kd.C_drewN ?_ _) | (with_reducible refine Kd.C_drew ?_))); (case side4 => exact (Kd.R_reads' HO_7.out).2.1); rintro e w' ⟨rfl, ⟨nd, rfl⟩⟩; (try first | exact ⟨rfl, _, World.drewN_drewN _ _ _⟩ | exact ⟨rfl, _, Eq.trans (World.drewN_drewN _ _ _) (congrArg (World.drewN _) (Nat.add_assoc _ _ _))⟩)))
      repeat (go_quiet (first | (go_at_call 26; (with_reducible refine (laws_daTexts.calls kj5 _ _ t280 _ _ t284 true _ ?side1 ?side2 ?side3 ?side4 A21.out).mono ?_); (case side1 => repeat (first | exact (Kd.R_reads' HO_5.out).2.2 | (with_reducible refine Kd.C_alloc ?_ _) | (with_reducible refine Kd.C_drewN ?_ _) | (with_reducible refine Kd.C_drew ?_))); (case side2 => exact (Kd.R_reads' HO_5.out).2.1); (case side3 => repeat (first | exact (Kd.R_reads' HO_7.out).2.2 | (with_reducible refine Kd.C_alloc ?_ _) | (with_reducible refine Kd.C_drewN ?_ _) | (with_reducible refine Kd.C_drew ?_))); (case side4 => exact (Kd.R_reads' HO_7.out).2.1); rintro e w' ⟨rfl, ⟨nd, rfl⟩⟩; (try first | exact ⟨rfl, _, World.drewN_drewN _ _ _⟩ | exact ⟨rfl, _, Eq.trans (World.drewN_drewN _ _ _) (congrArg (World.drewN _) (Nat.add_assoc _ _ _))⟩))); try go_wp2_with (first | (go_at_call 26; (with_reducible refine (laws_daTexts.calls kj5 _ _ t280 _ _ t284 true _ ?side1 ?side2 ?side3 ?side4 A21.out).mono ?_); (case side1 => repeat (first | exact (Kd.R_reads' HO_5.out).2.2 | (with_reducible refine Kd.C_alloc ?_ _) | (with_reducible refine Kd.C_drewN ?_ _) | (with_reducible refine Kd.C_drew ?_))); (case side2 => exact (Kd.R_reads' HO_5.out).2.1); (case side3 => repeat (first | exact (Kd.R_reads' HO_7.out).2.2 | (with_reducible refine Kd.C_alloc ?_ _) | (with_reducible refine Kd.C_drewN ?_ _) | (with_reducible refine Kd.C_drew ?_))); (case side4 => exact (Kd.R_reads' HO_7.out).2.1); rintro e w' ⟨rfl, ⟨nd, rfl⟩⟩; (try first | exact ⟨rfl, _, World.drewN_drewN _ _ _⟩ | exact ⟨rfl, _, Eq.trans (World.drewN_drewN _ _ _) (congrArg (World.drewN _) (Nat.add_assoc _ _ _))⟩))))
      go_ret
      exact ⟨by first | rfl | (simp [errW_none, errW_some] <;> rfl) | (simp [*, errW_none, errW_some] <;> rfl), by repeat (first|(with_reducible first|exact HB.out|apply below_alloc|apply pw_below_drewN|apply below_drew1)|exact HB.out)⟩
     ·replace c22 := Bool.eq_false_iff.mpr c22
      subst c22
      have H1 : (some false) = some r := by rw [if_neg (show ¬ (false = true) by decide)] at H; exact H
      clear H
      have H := H1
      clear H1
      obtain rfl := Option.some.inj H
      obtain ⟨Ao25, co25, eo25⟩ := Kd.R_slice HO_5.out
      subst eo25
      obtain ⟨Ao26, co26, eo26⟩ := Kd.R_slice HO_7.out
      subst eo26
      go_wp2_with (first | (go_at_call 26; (with_reducible refine (laws_daTexts.calls kj5 _ _ t280 _ _ t284 false _ ?side1 ?side2 ?side3 ?side4 A21.out).mono ?_); (case side1 => repeat (first | exact (Kd.R_reads' HO_5.out).2.2 | (with_reducible refine Kd.C_alloc ?_ _) | (with_reducible refine Kd.C_drewN ?_ _) | (with_reducible refine Kd.C_drew ?_))); (case side2 => exact (Kd.R_reads' HO_5.out).2.1); (case side3 => repeat (first | exact (Kd.R_reads' HO_7.out).2.2 | (with_reducible refine Kd.C_alloc ?_ _) | (with_reducible refine Kd.C_drewN ?_ _) | (with_reducible refine Kd.C_drew ?_))); (case side4 => exact (Kd.R_reads' HO_7.out).2.1); rintro e w' ⟨rfl, ⟨nd, rfl⟩⟩; (try first | exact ⟨rfl, _, World.drewN_drewN _ _ _⟩ | exact ⟨rfl, _, Eq.trans (World.drewN_drewN _ _ _) (congrArg (World.drewN _) (Nat.add_assoc _ _ _))⟩)))
      repeat (go_quiet (first | (go_at_call 26; (with_reducible refine (laws_daTexts.calls kj5 _ _ t280 _ _ t284 false _ ?side1 ?side2 ?side3 ?side4 A21.out).mono ?_); (case side1 => repeat (first | exact (Kd.R_reads' HO_5.out).2.2 | (with_reducible refine Kd.C_alloc ?_ _) | (with_reducible refine Kd.C_drewN ?_ _) | (with_reducible refine Kd.C_drew ?_))); (case side2 => exact (Kd.R_reads' HO_5.out).2.1); (case side3 => repeat (first | exact (Kd.R_reads' HO_7.out).2.2 | (with_reducible refine Kd.C_alloc ?_ _) | (with_reducible refine Kd.C_drewN ?_ _) | (with_reducible refine Kd.C_drew ?_))); (case side4 => exact (Kd.R_reads' HO_7.out).2.1); rintro e w' ⟨rfl, ⟨nd, rfl⟩⟩; (try first | exact ⟨rfl, _, World.drewN_drewN _ _ _⟩ | exact ⟨rfl, _, Eq.trans (World.drewN_drewN _ _ _) (congrArg (World.drewN _) (Nat.add_assoc _ _ _))⟩))); try go_wp2_with (first | (go_at_call 26; (with_reducible refine (laws_daTexts.calls kj5 _ _ t280 _ _ t284 false _ ?side1 ?side2 ?side3 ?side4 A21.out).mono ?_); (case side1 => repeat (first | exact (Kd.R_reads' HO_5.out).2.2 | (with_reducible refine Kd.C_alloc ?_ _) | (with_reducible refine Kd.C_drewN ?_ _) | (with_reducible refine Kd.C_drew ?_))); (case side2 => exact (Kd.R_reads' HO_5.out).2.1); (case side3 => repeat (first | exact (Kd.R_reads' HO_7.out).2.2 | (with_reducible refine Kd.C_alloc ?_ _) | (with_reducible refine Kd.C_drewN ?_ _) | (with_reducible refine Kd.C_drew ?_))); (case side4 => exact (Kd.R_reads' HO_7.out).2.1); rintro e w' ⟨rfl, ⟨nd, rfl⟩⟩; (try first | exact ⟨rfl, _, World.drewN_drewN _ _ _⟩ | exact ⟨rfl, _, Eq.trans (World.drewN_drewN _ _ _) (congrArg (World.drewN _) (Nat.add_assoc _ _ _))⟩))))
      go_ret
      exact ⟨by first | rfl | (simp [errW_none, errW_some] <;> rfl) | (simp [*, errW_none, errW_some] <;> rfl), by repeat (first|(with_reducible first|exact HB.out|apply below_alloc|apply pw_below_drewN|apply below_drew1)|exact HB.out)⟩
    ·replace c20 := Bool.eq_false_iff.mpr c20
     subst c20
     have H1 : ((impl_ColumnWidths.f kj5 t276).bind fun bt290 => (laws_FnTableLines.l0 kj5 t276 t277 t280 bt290.1 bt290.2 0)) = some r := by rw [if_neg (show ¬ (false = true) by decide)] at H; exact H
     clear H
     have H := H1
     clear H1
     replace H := Option.bind_eq_some_iff.mp H
     obtain ⟨⟨t290, t291⟩, A270, H⟩ := H
     replace H : (laws_FnTableLines.l0 kj5 t276 t277 t280 t290 t291 0) = some r := H
     have A27 := Aside0.mk A270
     clear A270
     have H' := Aside0.mk H
     clear H
     go_wp2_with (first | (go_at_call 41; (with_reducible refine (impl_ColumnWidths.calls kj5 _ _ t276 t290 t291 _ ?side1 ?side2 A27.out).mono ?_); (case side1 => repeat (first | exact (Kd.S_reads' HO_3.out).2.2 | (with_reducible refine Kd.C_alloc ?_ _) | (with_reducible refine Kd.C_drewN ?_ _) | (with_reducible refine Kd.C_drew ?_))); (case side2 => exact (Kd.S_reads' HO_3.out).2.1); rintro e w28 ⟨v292, rfl, ho0, hb⟩; have n0_ := Aside0.mk (Kd.S_below (by (with_reducible repeat (first | apply Kd.S_alloc | apply Kd.S_drewN | apply Kd.S_drew)); exact HO_3.out) hb); have n1_ := Aside0.mk (Kd.R_below (by (with_reducible repeat (first|apply Kd.R_alloc|apply Kd.R_drewN|apply Kd.R_drew)); exact HO_5.out) hb); have n2_ := Aside0.mk (Kd.R_below (by (with_reducible repeat (first|apply Kd.R_alloc|apply Kd.R_drewN|apply Kd.R_drew)); exact HO_7.out) hb); have n3_ := Aside0.mk (Kd.R_lower ho0 (below_size (by repeat (first|(with_reducible first|exact HB.out|apply below_alloc|apply pw_below_drewN|apply below_drew1)|exact HB.out)))); have n4_ := Aside0.mk (below_step (by repeat (first|(with_reducible first|exact HB.out|apply below_alloc|apply pw_below_drewN|apply below_drew1)|exact HB.out)) hb); clear HO_3; clear HO_5; clear HO_7; clear HB; have HO_3 := n0_; have HO_5 := n1_; have HO_7 := n2_; have HO293 := n3_; have HB := n4_; clear n0_ n1_ n2_ n3_ n4_; (try clear hb); (try clear hb2); (try clear hk); (try clear hi); (try clear ho0)))
     repeat (go_quiet (first | (go_at_call 41; (with_reducible refine (impl_ColumnWidths.calls kj5 _ _ t276 t290 t291 _ ?side1 ?side2 A27.out).mono ?_); (case side1 => repeat (first | exact (Kd.S_reads' HO_3.out).2.2 | (with_reducible refine Kd.C_alloc ?_ _) | (with_reducible refine Kd.C_drewN ?_ _) | (with_reducible refine Kd.C_drew ?_))); (case side2 => exact (Kd.S_reads' HO_3.out).2.1); rintro e w28 ⟨v292, rfl, ho0, hb⟩; have n0_ := Aside0.mk (Kd.S_below (by (with_reducible repeat (first | apply Kd.S_alloc | apply Kd.S_drewN | apply Kd.S_drew)); exact HO_3.out) hb); have n1_ := Aside0.mk (Kd.R_below (by (with_reducible repeat (first|apply Kd.R_alloc|apply Kd.R_drewN|apply Kd.R_drew)); exact HO_5.out) hb); have n2_ := Aside0.mk (Kd.R_below (by (with_reducible repeat (first|apply Kd.R_alloc|apply Kd.R_drewN|apply Kd.R_drew)); exact HO_7.out) hb); have n3_ := Aside0.mk (Kd.R_lower ho0 (below_size (by repeat (first|(with_reducible first|exact HB.out|apply below_alloc|apply pw_below_drewN|apply below_drew1)|exact HB.out)))); have n4_ := Aside0.mk (below_step (by repeat (first|(with_reducible first|exact HB.out|apply below_alloc|apply pw_below_drewN|apply below_drew1)|exact HB.out)) hb); clear HO_3; clear HO_5; clear HO_7; clear HB; have HO_3 := n0_; have HO_5 := n1_; have HO_7 := n2_; have HO293 := n3_; have HB := n4_; clear n0_ n1_ n2_ n3_ n4_; (try clear hb); (try clear hb2); (try clear hk); (try clear hi); (try clear ho0))); try go_wp2_with (first | (go_at_call 41; (with_reducible refine (impl_ColumnWidths.calls kj5 _ _ t276 t290 t291 _ ?side1 ?side2 A27.out).mono ?_); (case side1 => repeat (first | exact (Kd.S_reads' HO_3.out).2.2 | (with_reducible refine Kd.C_alloc ?_ _) | (with_reducible refine Kd.C_drewN ?_ _) | (with_reducible refine Kd.C_drew ?_))); (case side2 => exact (Kd.S_reads' HO_3.out).2.1); rintro e w28 ⟨v292, rfl, ho0, hb⟩; have n0_ := Aside0.mk (Kd.S_below (by (with_reducible repeat (first | apply Kd.S_alloc | apply Kd.S_drewN | apply Kd.S_drew)); exact HO_3.out) hb); have n1_ := Aside0.mk (Kd.R_below (by (with_reducible repeat (first|apply Kd.R_alloc|apply Kd.R_drewN|apply Kd.R_drew)); exact HO_5.out) hb); have n2_ := Aside0.mk (Kd.R_below (by (with_reducible repeat (first|apply Kd.R_alloc|apply Kd.R_drewN|apply Kd.R_drew)); exact HO_7.out) hb); have n3_ := Aside0.mk (Kd.R_lower ho0 (below_size (by repeat (first|(with_reducible first|exact HB.out|apply below_alloc|apply pw_below_drewN|apply below_drew1)|exact HB.out)))); have n4_ := Aside0.mk (below_step (by repeat (first|(with_reducible first|exact HB.out|apply below_alloc|apply pw_below_drewN|apply below_drew1)|exact HB.out)) hb); clear HO_3; clear HO_5; clear HO_7; clear HB; have HO_3 := n0_; have HO_5 := n1_; have HO_7 := n2_; have HO293 := n3_; have HB := n4_; clear n0_ n1_ n2_ n3_ n4_; (try clear hb); (try clear hb2); (try clear hk); (try clear hi); (try clear ho0))))
     go_loopg [11] kj5 (fun kq v11 w' => ∃ (x11_2 : Int), v11 = .int .i64 x11_2 ∧ Aside0 (laws_FnTableLines.l0 kq t276 t277 t280 t290 t291 x11_2 = some r) ∧ Aside0 (kq ≤ kj5) ∧ Aside0 (Kd.S (Kd.slice 9 Kd.string) 39 w' w.heap.size (fun k_ => some k_ ≠ (v282 : Value).ownBlock) (.slice Ao8 t276.length co8) t276) ∧ Aside0 (Kd.R Kd.string 9 w' w.heap.size (fun _ => True) v282 t280) ∧ Aside0 (Kd.R (Kd.int .i64) 3 w' w.heap.size (fun _ => True) v292 t290) ∧ Aside0 (Below w.heap.size w w'))
     case atStart => exact ⟨(0), (by first|rfl|(simp;done)|(simp[*];done)), H', ⟨Nat.le_refl _⟩, ⟨by (with_reducible repeat (first | apply Kd.S_alloc | apply Kd.S_drewN | apply Kd.S_drew)); exact Kd.S_mono HO_3.out (fun _ hk => hk.1)⟩, ⟨by (with_reducible repeat (first|apply Kd.R_alloc|apply Kd.R_drewN|apply Kd.R_drew)); exact Kd.R_mono HO_5.out (fun _ hk => trivial)⟩, ⟨by (with_reducible repeat (first|apply Kd.R_alloc|apply Kd.R_drewN|apply Kd.R_drew)); exact HO293.out⟩, ⟨by repeat (first|(with_reducible first|exact HB.out|apply below_alloc|apply pw_below_drewN|apply below_drew1)|exact HB.out)⟩⟩
     case round =>
      clear H'
      try clear c1
      try clear c2
      try clear c2b0
      try clear c2b1
      try clear p2
      try clear c12
      try clear c13
      try clear c13b0
      try clear c13b1
      try clear c13b2
      try clear c20
      try clear c22
      try clear p2
      obtain ⟨x11_2, rfl, HA, HK2, HO_3, HO_5, HO_9, HB⟩ := hrel
      cases gk with
      | zero => exact absurd HA.out (by simp [laws_FnTableLines.l0])
      | succ k2 =>
       have H := HA.out
       clear HA
       simp only [laws_FnTableLines.l0] at H
       by_cases c29 : x11_2 < (t280.length : Int)
       ·rw [if_pos c29] at H
        have c29b0 : decide (x11_2 < (t280.length : Int)) = true := decide_eq_true c29
        clear c29
        have H' := Aside0.mk H
        clear H
        obtain ⟨Ao30, co30, eo30⟩ := Kd.R_slice HO_5.out
        subst eo30
        go_wp2
        repeat (go_quiet (fail); try go_wp2)
        go_loopg [12, 13] k2 (fun kq v12 v13 w' => ∃ (x12_3 : Int) (x13_3 : Int), v12 = .int .i64 x12_3 ∧ v13 = .int .i64 x13_3 ∧ Aside0 (laws_FnTableLines.l1 kq t276 t277 t280 t290 t291 x11_2 x12_3 x13_3 = some r) ∧ Aside0 (kq ≤ k2) ∧ Aside0 (Kd.S (Kd.slice 9 Kd.string) 39 w' w.heap.size (fun k_ => some k_ ≠ ((.slice Ao30 t280.length co30) : Value).ownBlock) (.slice Ao8 t276.length co8) t276) ∧ Aside0 (Kd.R Kd.string 9 w' w.heap.size (fun _ => True) (.slice Ao30 t280.length co30) t280) ∧ Aside0 (Kd.R (Kd.int .i64) 3 w' w.heap.size (fun _ => True) v292 t290) ∧ Aside0 (Below w.heap.size w w'))
        case atStart => exact ⟨(0), (0), (by first|rfl|(simp;done)|(simp[*];done)), (by first|rfl|(simp;done)|(simp[*];done)), H', ⟨Nat.le_refl _⟩, ⟨by (with_reducible repeat (first | apply Kd.S_alloc | apply Kd.S_drewN | apply Kd.S_drew)); exact HO_3.out⟩, ⟨by (with_reducible repeat (first|apply Kd.R_alloc|apply Kd.R_drewN|apply Kd.R_drew)); exact HO_5.out⟩, ⟨by (with_reducible repeat (first|apply Kd.R_alloc|apply Kd.R_drewN|apply Kd.R_drew)); exact HO_9.out⟩, ⟨by repeat (first|(with_reducible first|exact HB.out|apply below_alloc|apply pw_below_drewN|apply below_drew1)|exact HB.out)⟩⟩
        case round =>
         clear H'
         try clear c1
         try clear c2
         try clear c2b0
         try clear c2b1
         try clear p2
         try clear c12
         try clear c13
         try clear c13b0
         try clear c13b1
         try clear c13b2
         try clear c20
         try clear c22
         try clear c29
         try clear c29b0
         try clear p2
         obtain ⟨x12_3, x13_3, rfl, rfl, HA, HK3, HO_3, HO_5, HO_9, HB⟩ := hrel
         cases gk with
         | zero => exact absurd HA.out (by simp [laws_FnTableLines.l1])
         | succ k3 =>
          have H := HA.out
          clear HA
          simp only [laws_FnTableLines.l1] at H
          by_cases c31 : x13_3 < (t290.length : Int)
          ·rw [if_pos c31] at H
           have c31b0 : decide (x13_3 < (t290.length : Int)) = true := decide_eq_true c31
           clear c31
           by_cases c32 : 0 ≤ x11_2
           ·rw [if_pos c32] at H
            have c32b0 : decide (0 ≤ x11_2) = true := decide_eq_true c32
            clear c32
            by_cases c33 : x11_2 < (t280.length : Int)
            ·rw [if_pos c33] at H
             have c33b0 : decide (x11_2 < (t280.length : Int)) = true := decide_eq_true c33
             clear c33
             by_cases c34 : x11_2 < (t276.length : Int)
             ·rw [if_pos c34] at H
              have c34b0 : decide (x11_2 < (t276.length : Int)) = true := decide_eq_true c34
              clear c34
              by_cases c35 : 0 ≤ x13_3
              ·rw [if_pos c35] at H
               have c35b0 : decide (0 ≤ x13_3) = true := decide_eq_true c35
               clear c35
               by_cases c36 : x13_3 < ((rd_L3 t276 x11_2).length : Int)
               ·rw [if_pos c36] at H
                have c36b0 : decide (x13_3 < ((rd_L3 t276 x11_2).length : Int)) = true := decide_eq_true c36
                clear c36
                by_cases c37 : ((rdOf ByteArray.empty t280 x11_2).size : Int) < (wrap64 (x12_3 + ((rdOf ByteArray.empty (rd_L3 t276 x11_2) x13_3).size : Int)))
                ·rw [if_pos c37] at H
                 have c37b0 : decide (((rdOf ByteArray.empty t280 x11_2).size : Int) < (wrap64 (x12_3 + ((rdOf ByteArray.empty (rd_L3 t276 x11_2) x13_3).size : Int)))) = true := decide_eq_true c37
                 clear c37
                 obtain rfl := Option.some.inj H
                 obtain ⟨Ao38, co38, eo38⟩ := Kd.R_slice HO_9.out
                 subst eo38
                 have p294 : 0 ≤ (x11_2 : Int) := of_decide_eq_true (by first|(with_reducible assumption)|assumption)
                 have q294 : x11_2 < (t280.length : Int) := of_decide_eq_true (by first|(with_reducible assumption)|assumption)
                 obtain ⟨ad294, e294, hx294_0⟩ := Kd.at_string (Kd.R_reads' HO_5.out).2.2 x11_2 p294 q294
                 cases e294
                 replace p294 := eq_true p294
                 replace q294 := eq_true q294
                 have p295 : 0 ≤ (x11_2 : Int) := of_decide_eq_true (by first|(with_reducible assumption)|assumption)
                 have q295 : x11_2 < (t276.length : Int) := of_decide_eq_true (by first|(with_reducible assumption)|assumption)
                 obtain ⟨ad295, A295_0, c295_0, e295, hx295_0, hl295_0, hi295_0⟩ := at_L3 (Kd.S_reads' HO_3.out).2.2 x11_2 p295 q295
                 cases e295
                 obtain ⟨ce295, hce295, hMe295, hcc295⟩ := Kd.S_get HO_3.out [] x11_2 p295 (by first | exact q295 | exact of_decide_eq_true (by first|(with_reducible assumption)|assumption) | (have e_ := (Kd.S_reads' HO_3.out).1; omega))
                 obtain ⟨ve295_0, rfl, ge295_0⟩ := hMe295
                 have hv295_0 := hcc295 0 _ rfl
                 rw [Nat.add_zero, show ((Kd.slice 9 Kd.string)).sz = 1 from rfl, Nat.mul_one] at hv295_0
                 replace hv295_0 := Option.some.inj (hv295_0.symm.trans hx295_0)
                 rw [hv295_0] at ge295_0
                 have HL295_0 := Aside0.mk (show Kd.R Kd.string 9 _ _ _ _ (rd_L3 t276 x11_2) from ge295_0)
                 clear hv295_0 ge295_0
                 clear hcc295 hce295
                 have HR295_0 := Aside0.mk hi295_0
                 have HC295_0 := Aside0.mk hl295_0
                 clear hi295_0 hl295_0
                 replace p295 := eq_true p295
                 replace q295 := eq_true q295
                 have p296 : 0 ≤ (x13_3 : Int) := of_decide_eq_true (by first|(with_reducible assumption)|assumption)
                 have q296 : x13_3 < ((rd_L3 t276 x11_2).length : Int) := of_decide_eq_true (by first|(with_reducible assumption)|assumption)
                 obtain ⟨ad296, e296, hx296_0⟩ := Kd.at_string (by repeat (first | (with_reducible exact HR295_0.out) | (with_reducible refine Kd.C_alloc ?_ _) | (with_reducible refine Kd.C_drewN ?_ _) | (with_reducible refine Kd.C_drew ?_) | exact HR295_0.out)) x13_3 p296 q296
                 cases e296
                 replace p296 := eq_true p296
                 replace q296 := eq_true q296
                 go_wp2
                 repeat (go_quiet (fail); try go_wp2)
                 go_ret
                 exact ⟨by first | rfl | (simp [errW_none, errW_some] <;> rfl) | (simp [*, errW_none, errW_some] <;> rfl), by repeat (first|(with_reducible first|exact HB.out|apply below_alloc|apply pw_below_drewN|apply below_drew1)|exact HB.out)⟩
                ·rw [if_neg c37] at H
                 have c37b0 : decide (((rdOf ByteArray.empty t280 x11_2).size : Int) < (wrap64 (x12_3 + ((rdOf ByteArray.empty (rd_L3 t276 x11_2) x13_3).size : Int)))) = false := decide_eq_false c37
                 clear c37
                 by_cases c39 : 0 ≤ x12_3
                 ·rw [if_pos c39] at H
                  have c39b0 := eq_true c39
                  have c39b1 : decide (0 ≤ x12_3) = true := decide_eq_true c39
                  clear c39
                  by_cases c40 : x12_3 ≤ (wrap64 (x12_3 + ((rdOf ByteArray.empty (rd_L3 t276 x11_2) x13_3).size : Int)))
                  ·rw [if_pos c40] at H
                   have c40b0 := eq_true c40
                   have c40b1 : decide (x12_3 ≤ (wrap64 (x12_3 + ((rdOf ByteArray.empty (rd_L3 t276 x11_2) x13_3).size : Int)))) = true := decide_eq_true c40
                   by_cases c41 : (wrap64 (x12_3 + ((rdOf ByteArray.empty (rd_L3 t276 x11_2) x13_3).size : Int))) ≤ ((rdOf ByteArray.empty t280 x11_2).size : Int)
                   ·rw [if_pos c41] at H
                    have c41b0 := eq_true c41
                    have c41b1 : decide ((wrap64 (x12_3 + ((rdOf ByteArray.empty (rd_L3 t276 x11_2) x13_3).size : Int))) ≤ ((rdOf ByteArray.empty t280 x11_2).size : Int)) = true := decide_eq_true c41
                    by_cases c42 : ((rdOf ByteArray.empty t280 x11_2).extract (x12_3 : Int).toNat ((wrap64 (x12_3 + ((rdOf ByteArray.empty (rd_L3 t276 x11_2) x13_3).size : Int))) : Int).toNat).toList = (rdOf ByteArray.empty (rd_L3 t276 x11_2) x13_3).toList
                    ·rw [if_pos c42] at H
                     have c42b0 : (((rdOf ByteArray.empty t280 x11_2).extract (x12_3 : Int).toNat ((wrap64 (x12_3 + ((rdOf ByteArray.empty (rd_L3 t276 x11_2) x13_3).size : Int))) : Int).toNat).toList == (rdOf ByteArray.empty (rd_L3 t276 x11_2) x13_3).toList) = true := beq_iff_eq.mpr c42
                     have c42b1 : (((rdOf ByteArray.empty t280 x11_2).extract (x12_3 : Int).toNat ((wrap64 (x12_3 + ((rdOf ByteArray.empty (rd_L3 t276 x11_2) x13_3).size : Int))) : Int).toNat).toList != (rdOf ByteArray.empty (rd_L3 t276 x11_2) x13_3).toList) = false := bne_eq_false_iff_eq.mpr c42
                     clear c42
                     have H' := Aside0.mk H
                     clear H
                     obtain ⟨Ao43, co43, eo43⟩ := Kd.R_slice HO_9.out
                     subst eo43
                     have p294 : 0 ≤ (x11_2 : Int) := of_decide_eq_true (by first|(with_reducible assumption)|assumption)
                     have q294 : x11_2 < (t280.length : Int) := of_decide_eq_true (by first|(with_reducible assumption)|assumption)
                     obtain ⟨ad294, e294, hx294_0⟩ := Kd.at_string (Kd.R_reads' HO_5.out).2.2 x11_2 p294 q294
                     cases e294
                     replace p294 := eq_true p294
                     replace q294 := eq_true q294
                     have p295 : 0 ≤ (x11_2 : Int) := of_decide_eq_true (by first|(with_reducible assumption)|assumption)
                     have q295 : x11_2 < (t276.length : Int) := of_decide_eq_true (by first|(with_reducible assumption)|assumption)
                     obtain ⟨ad295, A295_0, c295_0, e295, hx295_0, hl295_0, hi295_0⟩ := at_L3 (Kd.S_reads' HO_3.out).2.2 x11_2 p295 q295
                     cases e295
                     obtain ⟨ce295, hce295, hMe295, hcc295⟩ := Kd.S_get HO_3.out [] x11_2 p295 (by first | exact q295 | exact of_decide_eq_true (by first|(with_reducible assumption)|assumption) | (have e_ := (Kd.S_reads' HO_3.out).1; omega))
                     obtain ⟨ve295_0, rfl, ge295_0⟩ := hMe295
                     have hv295_0 := hcc295 0 _ rfl
                     rw [Nat.add_zero, show ((Kd.slice 9 Kd.string)).sz = 1 from rfl, Nat.mul_one] at hv295_0
                     replace hv295_0 := Option.some.inj (hv295_0.symm.trans hx295_0)
                     rw [hv295_0] at ge295_0
                     have HL295_0 := Aside0.mk (show Kd.R Kd.string 9 _ _ _ _ (rd_L3 t276 x11_2) from ge295_0)
                     clear hv295_0 ge295_0
                     clear hcc295 hce295
                     have HR295_0 := Aside0.mk hi295_0
                     have HC295_0 := Aside0.mk hl295_0
                     clear hi295_0 hl295_0
                     replace p295 := eq_true p295
                     replace q295 := eq_true q295
                     have p296 : 0 ≤ (x13_3 : Int) := of_decide_eq_true (by first|(with_reducible assumption)|assumption)
                     have q296 : x13_3 < ((rd_L3 t276 x11_2).length : Int) := of_decide_eq_true (by first|(with_reducible assumption)|assumption)
                     obtain ⟨ad296, e296, hx296_0⟩ := Kd.at_string (by repeat (first | (with_reducible exact HR295_0.out) | (with_reducible refine Kd.C_alloc ?_ _) | (with_reducible refine Kd.C_drewN ?_ _) | (with_reducible refine Kd.C_drew ?_) | exact HR295_0.out)) x13_3 p296 q296
                     cases e296
                     replace p296 := eq_true p296
                     replace q296 := eq_true q296
                     have p297 : 0 ≤ (x11_2 : Int) := of_decide_eq_true (by first|(with_reducible assumption)|assumption)
                     have q297 : x11_2 < (t280.length : Int) := of_decide_eq_true (by first|(with_reducible assumption)|assumption)
                     obtain ⟨ad297, e297, hx297_0⟩ := Kd.at_string (Kd.R_reads' HO_5.out).2.2 x11_2 p297 q297
                     obtain rfl : ad294 = ad297 := (by injection e297)
                     replace p297 := eq_true p297
                     replace q297 := eq_true q297
                     have p298 : 0 ≤ (x11_2 : Int) := of_decide_eq_true (by first|(with_reducible assumption)|assumption)
                     have q298 : x11_2 < (t276.length : Int) := of_decide_eq_true (by first|(with_reducible assumption)|assumption)
                     obtain ⟨ad298, A298_0, c298_0, e298, hx298_0, hl298_0, hi298_0⟩ := at_L3 (Kd.S_reads' HO_3.out).2.2 x11_2 p298 q298
                     obtain rfl : ad295 = ad298 := (by injection e298)
                     obtain ⟨ce298, hce298, hMe298, hcc298⟩ := Kd.S_get HO_3.out [] x11_2 p298 (by first | exact q298 | exact of_decide_eq_true (by first|(with_reducible assumption)|assumption) | (have e_ := (Kd.S_reads' HO_3.out).1; omega))
                     obtain ⟨ve298_0, rfl, ge298_0⟩ := hMe298
                     have hv298_0 := hcc298 0 _ rfl
                     rw [Nat.add_zero, show ((Kd.slice 9 Kd.string)).sz = 1 from rfl, Nat.mul_one] at hv298_0
                     replace hv298_0 := Option.some.inj (hv298_0.symm.trans hx298_0)
                     rw [hv298_0] at ge298_0
                     have HL298_0 := Aside0.mk (show Kd.R Kd.string 9 _ _ _ _ (rd_L3 t276 x11_2) from ge298_0)
                     clear hv298_0 ge298_0
                     clear hcc298 hce298
                     have HR298_0 := Aside0.mk hi298_0
                     have HC298_0 := Aside0.mk hl298_0
                     clear hi298_0 hl298_0
                     replace p298 := eq_true p298
                     replace q298 := eq_true q298
                     have ea_ := Option.some.inj (hx295_0.symm.trans hx298_0)
                     injection ea_ with ea_ en_ ec_
                     subst ea_
                     subst ec_
                     clear en_
                     have p299 : 0 ≤ (x13_3 : Int) := of_decide_eq_true (by first|(with_reducible assumption)|assumption)
                     have q299 : x13_3 < ((rd_L3 t276 x11_2).length : Int) := of_decide_eq_true (by first|(with_reducible assumption)|assumption)
                     obtain ⟨ad299, e299, hx299_0⟩ := Kd.at_string (by repeat (first | (with_reducible exact HR298_0.out) | (with_reducible refine Kd.C_alloc ?_ _) | (with_reducible refine Kd.C_drewN ?_ _) | (with_reducible refine Kd.C_drew ?_) | exact HR298_0.out)) x13_3 p299 q299
                     cases e299
                     replace p299 := eq_true p299
                     replace q299 := eq_true q299
                     have p300 : 0 ≤ (x11_2 : Int) := of_decide_eq_true (by first|(with_reducible assumption)|assumption)
                     have q300 : x11_2 < (t276.length : Int) := of_decide_eq_true (by first|(with_reducible assumption)|assumption)
                     obtain ⟨ad300, A300_0, c300_0, e300, hx300_0, hl300_0, hi300_0⟩ := at_L3 (Kd.S_reads' HO_3.out).2.2 x11_2 p300 q300
                     obtain rfl : ad295 = ad300 := (by injection e300)
                     obtain ⟨ce300, hce300, hMe300, hcc300⟩ := Kd.S_get HO_3.out [] x11_2 p300 (by first | exact q300 | exact of_decide_eq_true (by first|(with_reducible assumption)|assumption) | (have e_ := (Kd.S_reads' HO_3.out).1; omega))
                     obtain ⟨ve300_0, rfl, ge300_0⟩ := hMe300
                     have hv300_0 := hcc300 0 _ rfl
                     rw [Nat.add_zero, show ((Kd.slice 9 Kd.string)).sz = 1 from rfl, Nat.mul_one] at hv300_0
                     replace hv300_0 := Option.some.inj (hv300_0.symm.trans hx300_0)
                     rw [hv300_0] at ge300_0
                     have HL300_0 := Aside0.mk (show Kd.R Kd.string 9 _ _ _ _ (rd_L3 t276 x11_2) from ge300_0)
                     clear hv300_0 ge300_0
                     clear hcc300 hce300
                     have HR300_0 := Aside0.mk hi300_0
                     have HC300_0 := Aside0.mk hl300_0
                     clear hi300_0 hl300_0
                     replace p300 := eq_true p300
                     replace q300 := eq_true q300
                     have ea_ := Option.some.inj (hx295_0.symm.trans hx300_0)
                     injection ea_ with ea_ en_ ec_
                     subst ea_
                     subst ec_
                     clear en_
                     have p301 : 0 ≤ (x13_3 : Int) := of_decide_eq_true (by first|(with_reducible assumption)|assumption)
                     have q301 : x13_3 < ((rd_L3 t276 x11_2).length : Int) := of_decide_eq_true (by first|(with_reducible assumption)|assumption)
                     obtain ⟨ad301, e301, hx301_0⟩ := Kd.at_string (by repeat (first | (with_reducible exact HR300_0.out) | (with_reducible refine Kd.C_alloc ?_ _) | (with_reducible refine Kd.C_drewN ?_ _) | (with_reducible refine Kd.C_drew ?_) | exact HR300_0.out)) x13_3 p301 q301
                     cases e301
                     replace p301 := eq_true p301
                     replace q301 := eq_true q301
                     have p302 : 0 ≤ (x13_3 : Int) := of_decide_eq_true (by first|(with_reducible assumption)|assumption)
                     have q302 : x13_3 < (t290.length : Int) := of_decide_eq_true (by first|(with_reducible assumption)|assumption)
                     obtain ⟨ad302, e302, hx302_0⟩ := Kd.at_int (Kd.R_reads' HO_9.out).2.2 x13_3 p302 q302
                     cases e302
                     replace p302 := eq_true p302
                     replace q302 := eq_true q302
                     go_wp2
                     repeat (go_quiet (fail); try go_wp2)
                     go_roundg k3
                     case measure => have := HJ5.out; have := HK2.out; have := HK3.out; omega
                     case rel => exact ⟨(wrap64 ((wrap64 (x12_3 + (rd t290 x13_3))) + t277)), (wrap64 (x13_3 + 1)), (by first|rfl|(simp;done)|(simp[*];done)), (by first|rfl|(simp;done)|(simp[*];done)), H', ⟨by have := HJ5.out; have := HK2.out; have := HK3.out; omega⟩, ⟨by (with_reducible repeat (first | apply Kd.S_alloc | apply Kd.S_drewN | apply Kd.S_drew)); exact HO_3.out⟩, ⟨by (with_reducible repeat (first|apply Kd.R_alloc|apply Kd.R_drewN|apply Kd.R_drew)); exact HO_5.out⟩, ⟨by (with_reducible repeat (first|apply Kd.R_alloc|apply Kd.R_drewN|apply Kd.R_drew)); exact HO_9.out⟩, ⟨by repeat (first|(with_reducible first|exact HB.out|apply below_alloc|apply pw_below_drewN|apply below_drew1)|exact HB.out)⟩⟩
                    ·rw [if_neg c42] at H
                     have c42b0 : (((rdOf ByteArray.empty t280 x11_2).extract (x12_3 : Int).toNat ((wrap64 (x12_3 + ((rdOf ByteArray.empty (rd_L3 t276 x11_2) x13_3).size : Int))) : Int).toNat).toList == (rdOf ByteArray.empty (rd_L3 t276 x11_2) x13_3).toList) = false := beq_eq_false_iff_ne.mpr c42
                     have c42b1 : (((rdOf ByteArray.empty t280 x11_2).extract (x12_3 : Int).toNat ((wrap64 (x12_3 + ((rdOf ByteArray.empty (rd_L3 t276 x11_2) x13_3).size : Int))) : Int).toNat).toList != (rdOf ByteArray.empty (rd_L3 t276 x11_2) x13_3).toList) = true := bne_iff_ne.mpr c42
                     obtain rfl := Option.some.inj H
                     obtain ⟨Ao44, co44, eo44⟩ := Kd.R_slice HO_9.out
                     subst eo44
                     have p294 : 0 ≤ (x11_2 : Int) := of_decide_eq_true (by first|(with_reducible assumption)|assumption)
                     have q294 : x11_2 < (t280.length : Int) := of_decide_eq_true (by first|(with_reducible assumption)|assumption)
                     obtain ⟨ad294, e294, hx294_0⟩ := Kd.at_string (Kd.R_reads' HO_5.out).2.2 x11_2 p294 q294
                     cases e294
                     replace p294 := eq_true p294
                     replace q294 := eq_true q294
                     have p295 : 0 ≤ (x11_2 : Int) := of_decide_eq_true (by first|(with_reducible assumption)|assumption)
                     have q295 : x11_2 < (t276.length : Int) := of_decide_eq_true (by first|(with_reducible assumption)|assumption)
                     obtain ⟨ad295, A295_0, c295_0, e295, hx295_0, hl295_0, hi295_0⟩ := at_L3 (Kd.S_reads' HO_3.out).2.2 x11_2 p295 q295
                     cases e295
                     obtain ⟨ce295, hce295, hMe295, hcc295⟩ := Kd.S_get HO_3.out [] x11_2 p295 (by first | exact q295 | exact of_decide_eq_true (by first|(with_reducible assumption)|assumption) | (have e_ := (Kd.S_reads' HO_3.out).1; omega))
                     obtain ⟨ve295_0, rfl, ge295_0⟩ := hMe295
                     have hv295_0 := hcc295 0 _ rfl
                     rw [Nat.add_zero, show ((Kd.slice 9 Kd.string)).sz = 1 from rfl, Nat.mul_one] at hv295_0
                     replace hv295_0 := Option.some.inj (hv295_0.symm.trans hx295_0)
                     rw [hv295_0] at ge295_0
                     have HL295_0 := Aside0.mk (show Kd.R Kd.string 9 _ _ _ _ (rd_L3 t276 x11_2) from ge295_0)
                     clear hv295_0 ge295_0
                     clear hcc295 hce295
                     have HR295_0 := Aside0.mk hi295_0
                     have HC295_0 := Aside0.mk hl295_0
                     clear hi295_0 hl295_0
                     replace p295 := eq_true p295
                     replace q295 := eq_true q295
                     have p296 : 0 ≤ (x13_3 : Int) := of_decide_eq_true (by first|(with_reducible assumption)|assumption)
                     have q296 : x13_3 < ((rd_L3 t276 x11_2).length : Int) := of_decide_eq_true (by first|(with_reducible assumption)|assumption)
                     obtain ⟨ad296, e296, hx296_0⟩ := Kd.at_string (by repeat (first | (with_reducible exact HR295_0.out) | (with_reducible refine Kd.C_alloc ?_ _) | (with_reducible refine Kd.C_drewN ?_ _) | (with_reducible refine Kd.C_drew ?_) | exact HR295_0.out)) x13_3 p296 q296
                     cases e296
                     replace p296 := eq_true p296
                     replace q296 := eq_true q296
                     have p297 : 0 ≤ (x11_2 : Int) := of_decide_eq_true (by first|(with_reducible assumption)|assumption)
                     have q297 : x11_2 < (t280.length : Int) := of_decide_eq_true (by first|(with_reducible assumption)|assumption)
                     obtain ⟨ad297, e297, hx297_0⟩ := Kd.at_string (Kd.R_reads' HO_5.out).2.2 x11_2 p297 q297
                     obtain rfl : ad294 = ad297 := (by injection e297)
                     replace p297 := eq_true p297
                     replace q297 := eq_true q297
                     have p298 : 0 ≤ (x11_2 : Int) := of_decide_eq_true (by first|(with_reducible assumption)|assumption)
                     have q298 : x11_2 < (t276.length : Int) := of_decide_eq_true (by first|(with_reducible assumption)|assumption)
                     obtain ⟨ad298, A298_0, c298_0, e298, hx298_0, hl298_0, hi298_0⟩ := at_L3 (Kd.S_reads' HO_3.out).2.2 x11_2 p298 q298
                     obtain rfl : ad295 = ad298 := (by injection e298)
                     obtain ⟨ce298, hce298, hMe298, hcc298⟩ := Kd.S_get HO_3.out [] x11_2 p298 (by first | exact q298 | exact of_decide_eq_true (by first|(with_reducible assumption)|assumption) | (have e_ := (Kd.S_reads' HO_3.out).1; omega))
                     obtain ⟨ve298_0, rfl, ge298_0⟩ := hMe298
                     have hv298_0 := hcc298 0 _ rfl
                     rw [Nat.add_zero, show ((Kd.slice 9 Kd.string)).sz = 1 from rfl, Nat.mul_one] at hv298_0
                     replace hv298_0 := Option.some.inj (hv298_0.symm.trans hx298_0)
                     rw [hv298_0] at ge298_0
                     have HL298_0 := Aside0.mk (show Kd.R Kd.string 9 _ _ _ _ (rd_L3 t276 x11_2) from ge298_0)
                     clear hv298_0 ge298_0
                     clear hcc298 hce298
                     have HR298_0 := Aside0.mk hi298_0
                     have HC298_0 := Aside0.mk hl298_0
                     clear hi298_0 hl298_0
                     replace p298 := eq_true p298
                     replace q298 := eq_true q298
                     have ea_ := Option.some.inj (hx295_0.symm.trans hx298_0)
                     injection ea_ with ea_ en_ ec_
                     subst ea_
                     subst ec_
                     clear en_
                     have p299 : 0 ≤ (x13_3 : Int) := of_decide_eq_true (by first|(with_reducible assumption)|assumption)
                     have q299 : x13_3 < ((rd_L3 t276 x11_2).length : Int) := of_decide_eq_true (by first|(with_reducible assumption)|assumption)
                     obtain ⟨ad299, e299, hx299_0⟩ := Kd.at_string (by repeat (first | (with_reducible exact HR298_0.out) | (with_reducible refine Kd.C_alloc ?_ _) | (with_reducible refine Kd.C_drewN ?_ _) | (with_reducible refine Kd.C_drew ?_) | exact HR298_0.out)) x13_3 p299 q299
                     cases e299
                     replace p299 := eq_true p299
                     replace q299 := eq_true q299
                     have p300 : 0 ≤ (x11_2 : Int) := of_decide_eq_true (by first|(with_reducible assumption)|assumption)
                     have q300 : x11_2 < (t276.length : Int) := of_decide_eq_true (by first|(with_reducible assumption)|assumption)
                     obtain ⟨ad300, A300_0, c300_0, e300, hx300_0, hl300_0, hi300_0⟩ := at_L3 (Kd.S_reads' HO_3.out).2.2 x11_2 p300 q300
                     obtain rfl : ad295 = ad300 := (by injection e300)
                     obtain ⟨ce300, hce300, hMe300, hcc300⟩ := Kd.S_get HO_3.out [] x11_2 p300 (by first | exact q300 | exact of_decide_eq_true (by first|(with_reducible assumption)|assumption) | (have e_ := (Kd.S_reads' HO_3.out).1; omega))
                     obtain ⟨ve300_0, rfl, ge300_0⟩ := hMe300
                     have hv300_0 := hcc300 0 _ rfl
                     rw [Nat.add_zero, show ((Kd.slice 9 Kd.string)).sz = 1 from rfl, Nat.mul_one] at hv300_0
                     replace hv300_0 := Option.some.inj (hv300_0.symm.trans hx300_0)
                     rw [hv300_0] at ge300_0
                     have HL300_0 := Aside0.mk (show Kd.R Kd.string 9 _ _ _ _ (rd_L3 t276 x11_2) from ge300_0)
                     clear hv300_0 ge300_0
                     clear hcc300 hce300
                     have HR300_0 := Aside0.mk hi300_0
                     have HC300_0 := Aside0.mk hl300_0
                     clear hi300_0 hl300_0
                     replace p300 := eq_true p300
                     replace q300 := eq_true q300
                     have ea_ := Option.some.inj (hx295_0.symm.trans hx300_0)
                     injection ea_ with ea_ en_ ec_
                     subst ea_
                     subst ec_
                     clear en_
                     have p301 : 0 ≤ (x13_3 : Int) := of_decide_eq_true (by first|(with_reducible assumption)|assumption)
                     have q301 : x13_3 < ((rd_L3 t276 x11_2).length : Int) := of_decide_eq_true (by first|(with_reducible assumption)|assumption)
                     obtain ⟨ad301, e301, hx301_0⟩ := Kd.at_string (by repeat (first | (with_reducible exact HR300_0.out) | (with_reducible refine Kd.C_alloc ?_ _) | (with_reducible refine Kd.C_drewN ?_ _) | (with_reducible refine Kd.C_drew ?_) | exact HR300_0.out)) x13_3 p301 q301
                     cases e301
                     replace p301 := eq_true p301
                     replace q301 := eq_true q301
                     go_wp2
                     repeat (go_quiet (fail); try go_wp2)
                     go_ret
                     exact ⟨by first | rfl | (simp [errW_none, errW_some] <;> rfl) | (simp [*, errW_none, errW_some] <;> rfl), by repeat (first|(with_reducible first|exact HB.out|apply below_alloc|apply pw_below_drewN|apply below_drew1)|exact HB.out)⟩
                   ·rw [if_neg c41] at H
                    exact absurd H (by simp)
                  ·rw [if_neg c40] at H
                   exact absurd H (by simp)
                 ·rw [if_neg c39] at H
                  exact absurd H (by simp)
               ·rw [if_neg c36] at H
                exact absurd H (by simp)
              ·rw [if_neg c35] at H
               exact absurd H (by simp)
             ·rw [if_neg c34] at H
              exact absurd H (by simp)
            ·rw [if_neg c33] at H
             exact absurd H (by simp)
           ·rw [if_neg c32] at H
            exact absurd H (by simp)
          ·rw [if_neg c31] at H
           have c31b0 : decide (x13_3 < (t290.length : Int)) = false := decide_eq_false c31
           clear c31
           by_cases c45 : 0 ≤ x11_2
           ·rw [if_pos c45] at H
            have c45b0 : decide (0 ≤ x11_2) = true := decide_eq_true c45
            clear c45
            by_cases c46 : x11_2 < (t280.length : Int)
            ·rw [if_pos c46] at H
             have c46b0 : decide (x11_2 < (t280.length : Int)) = true := decide_eq_true c46
             clear c46
             by_cases c47 : ((rdOf ByteArray.empty t280 x11_2).size : Int) = (wrap64 (x12_3 - t277))
             ·rw [if_pos c47] at H
              have c47b0 : (((rdOf ByteArray.empty t280 x11_2).size : Int) == (wrap64 (x12_3 - t277))) = true := beq_iff_eq.mpr c47
              have c47b1 : (((rdOf ByteArray.empty t280 x11_2).size : Int) != (wrap64 (x12_3 - t277))) = false := bne_eq_false_iff_eq.mpr c47
              clear c47
              have H' := Aside0.mk H
              clear H
              obtain ⟨Ao48, co48, eo48⟩ := Kd.R_slice HO_9.out
              subst eo48
              have p303 : 0 ≤ (x11_2 : Int) := of_decide_eq_true (by first|(with_reducible assumption)|assumption)
              have q303 : x11_2 < (t280.length : Int) := of_decide_eq_true (by first|(with_reducible assumption)|assumption)
              obtain ⟨ad303, e303, hx303_0⟩ := Kd.at_string (Kd.R_reads' HO_5.out).2.2 x11_2 p303 q303
              cases e303
              replace p303 := eq_true p303
              replace q303 := eq_true q303
              go_wp2
              repeat (go_quiet (fail); try go_wp2)
              go_roundg k3
              case measure => have := HJ5.out; have := HK2.out; have := HK3.out; omega
              case rel => exact ⟨(wrap64 (x11_2 + 1)), (by first|rfl|(simp;done)|(simp[*];done)), H', ⟨by have := HJ5.out; have := HK2.out; have := HK3.out; omega⟩, ⟨by (with_reducible repeat (first | apply Kd.S_alloc | apply Kd.S_drewN | apply Kd.S_drew)); exact HO_3.out⟩, ⟨by (with_reducible repeat (first|apply Kd.R_alloc|apply Kd.R_drewN|apply Kd.R_drew)); exact HO_5.out⟩, ⟨by (with_reducible repeat (first|apply Kd.R_alloc|apply Kd.R_drewN|apply Kd.R_drew)); exact HO_9.out⟩, ⟨by repeat (first|(with_reducible first|exact HB.out|apply below_alloc|apply pw_below_drewN|apply below_drew1)|exact HB.out)⟩⟩
             ·rw [if_neg c47] at H
              have c47b0 : (((rdOf ByteArray.empty t280 x11_2).size : Int) == (wrap64 (x12_3 - t277))) = false := beq_eq_false_iff_ne.mpr c47
              have c47b1 : (((rdOf ByteArray.empty t280 x11_2).size : Int) != (wrap64 (x12_3 - t277))) = true := bne_iff_ne.mpr c47
              obtain rfl := Option.some.inj H
              obtain ⟨Ao49, co49, eo49⟩ := Kd.R_slice HO_9.out
              subst eo49
              have p303 : 0 ≤ (x11_2 : Int) := of_decide_eq_true (by first|(with_reducible assumption)|assumption)
              have q303 : x11_2 < (t280.length : Int) := of_decide_eq_true (by first|(with_reducible assumption)|assumption)
              obtain ⟨ad303, e303, hx303_0⟩ := Kd.at_string (Kd.R_reads' HO_5.out).2.2 x11_2 p303 q303
              cases e303
              replace p303 := eq_true p303
              replace q303 := eq_true q303
              go_wp2
              repeat (go_quiet (fail); try go_wp2)
              go_ret
              exact ⟨by first | rfl | (simp [errW_none, errW_some] <;> rfl) | (simp [*, errW_none, errW_some] <;> rfl), by repeat (first|(with_reducible first|exact HB.out|apply below_alloc|apply pw_below_drewN|apply below_drew1)|exact HB.out)⟩
            ·rw [if_neg c46] at H
             exact absurd H (by simp)
           ·rw [if_neg c45] at H
            exact absurd H (by simp)
       ·rw [if_neg c29] at H
        have c29b0 : decide (x11_2 < (t280.length : Int)) = false := decide_eq_false c29
        clear c29
        by_cases c50 : t291 = true
        ·subst c50
         have H1 : (some ((t280.length : Int) == (t276.length : Int))) = some r := by rw [if_pos rfl] at H; exact H
         clear H
         have H := H1
         clear H1
         obtain rfl := Option.some.inj H
         obtain ⟨Ao51, co51, eo51⟩ := Kd.R_slice HO_5.out
         subst eo51
         go_wp2
         repeat (go_quiet (fail); try go_wp2)
         go_ret
         exact ⟨by first | rfl | (simp [errW_none, errW_some] <;> rfl) | (simp [*, errW_none, errW_some] <;> rfl), by repeat (first|(with_reducible first|exact HB.out|apply below_alloc|apply pw_below_drewN|apply below_drew1)|exact HB.out)⟩
        ·replace c50 := Bool.eq_false_iff.mpr c50
         subst c50
         have H1 : (some false) = some r := by rw [if_neg (show ¬ (false = true) by decide)] at H; exact H
         clear H
         have H := H1
         clear H1
         obtain rfl := Option.some.inj H
         obtain ⟨Ao52, co52, eo52⟩ := Kd.R_slice HO_5.out
         subst eo52
         go_wp2
         repeat (go_quiet (fail); try go_wp2)
         go_ret
         exact ⟨by first | rfl | (simp [errW_none, errW_some] <;> rfl) | (simp [*, errW_none, errW_some] <;> rfl), by repeat (first|(with_reducible first|exact HB.out|apply below_alloc|apply pw_below_drewN|apply below_drew1)|exact HB.out)⟩

/-- THE ONE PURE STATEMENT of laws_FnTableLines: yours. -/
def laws_FnTableLines.Pure : Prop := ∀ (l0 : List Int), l0.length ≤ maxLen → l0.length * 1 ≤ 140737488351232 → (∀ x ∈ l0, (Lit.int .u8 x).wf = true) → ∃ k, laws_FnTableLines.f k l0 = some true
theorem laws_FnTableLines.walk (P : laws_FnTableLines.Pure) (a0 : Option Addr) (len0 cap0 : Nat) (z0 : List Int) (w : World) (w0 : (a0 = none ∧ len0 = 0 ∧ cap0 = 0 ∧ z0 = []) ∨ ∃ x, a0 = some x ∧ len0 ≤ cap0 ∧ cap0 ≤ maxLen ∧ z0.length = cap0 ∧ (∀ i, i < z0.length → w.cell? (x.add i) = some (.int .u8 (z0.getD i 0))) ∧ ∀ n ∈ z0, (Lit.int .u8 n).wf = true) (y0 : len0 * 1 ≤ 140737488351232) :
  Calls Try.prog 13 #[.slice a0 len0 cap0] w fun e w' => e = .returned (.bool true) ∧ Below w.heap.size w w' := by
 obtain ⟨l0, rfl, hr0, hm0, hw0, hc0⟩ := ReadsInt.ofRowC w0
 obtain ⟨k, h⟩ := P l0 hm0 y0 hw0
 refine (laws_FnTableLines.calls k _ _ l0 true w (Kd.C_of_reads (d := (0 : Int)) (h1 := fun _ => rfl) hr0) hc0 h).mono ?_
 rintro e w' ⟨rfl, hd⟩
 exact ⟨rfl, hd⟩

end Go.Proofs.Ythcfocpimoghbaa.PTa
