/- The printed helpers on slices of strings, in plain words: size, a copy, equality, marks. -/
import Derived.Test.YthcfocpimoghbaaPWbx0
import Derived.Test.YthcfocpimoghbaaPWbx7
import Derived.Test.YthcfocpimoghbaaPWbx8
import Derived.Test.YthcfocpimoghbaaBaseS
namespace DocPure
open Go.RowKit Go.Proofs.Ythcfocpimoghbaa.PWb Go.Proofs.YthcfocpimoghbaaW.PrintWords

theorem szStrs_l0 (x : List ByteArray) (hx : x.length ≤ 1048576) (hm : ∀ s ∈ x, s.size ≤ 9223372036854775807) : ∀ (d i : Nat) (left : Int), i + d = x.length → 0 ≤ left → left ≤ 1048576 →
    ∃ r, Tells (fun k => laws_szStringS.l0 k x left (i : Int)) r ∧ (r < 0 ∨ (0 ≤ r ∧ r ≤ 1048576 ∧ ∀ s ∈ x.drop i, s.size ≤ 1048576))
  | 0, i, left, hd, h0, h1 => by
    refine ⟨left, Tells.step (fun k => ?_) (Tells.pure _), .inr ⟨h0, h1, fun s hs => by rw [List.drop_of_length_le (by omega)] at hs; cases hs⟩⟩
    simp only [laws_szStringS.l0]
    rw [if_neg (by omega)]
  | d + 1, i, left, hd, h0, h1 => by
    have hm' := hm (x[i]'(by omega)) (List.getElem_mem _)
    have e : rdOf ByteArray.empty x (i : Int) = x[i]'(by omega) := rdS_get (by omega)
    by_cases hneg : left - ((x[i]'(by omega)).size : Int) < 0
    · refine ⟨-1, Tells.step (fun k => ?_) (Tells.pure _), .inl (by omega)⟩
      simp only [laws_szStringS.l0]
      rw [if_pos (by omega), if_pos (by omega), e, if_pos (by rw [wr64 (by omega) (by omega)]; exact hneg)]
    · obtain ⟨r, hr, hp⟩ := szStrs_l0 x hx hm d (i + 1) (left - ((x[i]'(by omega)).size : Int)) (by omega) (by omega) (by omega)
      refine ⟨r, Tells.step (fun k => ?_) hr, ?_⟩
      · simp only [laws_szStringS.l0]
        rw [if_pos (by omega), if_pos (by omega), e, wr64 (n := left - _) (by omega) (by omega), if_neg hneg, wr64 (by omega) (by omega)]; rfl
      · rcases hp with hp | ⟨g0, g1, hp⟩
        · exact .inl hp
        · refine .inr ⟨g0, g1, fun s hs => ?_⟩
          rw [List.drop_eq_getElem_cons (by omega)] at hs
          rcases List.mem_cons.1 hs with rfl | hs
          · omega
          · exact hp s hs

theorem szStrs (x : List ByteArray) (hl : x.length ≤ 9223372036854775807) (hm : ∀ s ∈ x, s.size ≤ 9223372036854775807) (left : Int) (h0 : 0 ≤ left) (h1 : left ≤ 1048576) :
    ∃ r, Tells (fun k => laws_szStringS.f k x left) r ∧ (r < 0 ∨ (0 ≤ r ∧ r ≤ 1048576 ∧ x.length ≤ 1048576 ∧ ∀ s ∈ x, s.size ≤ 1048576)) := by
  by_cases h : left - (x.length : Int) < 0
  · refine ⟨-1, Tells.of fun k => ?_, .inl (by omega)⟩
    unfold laws_szStringS.f
    rw [if_pos (by rw [wr64 (by omega) (by omega)]; exact h)]
  · obtain ⟨r, hr, hp⟩ := szStrs_l0 x (by omega) hm x.length 0 (left - x.length) (by omega) (by omega) (by omega)
    refine ⟨r, Tells.congr (fun k => ?_) hr, ?_⟩
    · unfold laws_szStringS.f
      rw [wr64 (by omega) (by omega), if_neg h]; rfl
    · rcases hp with hp | ⟨g0, g1, hp⟩
      · exact .inl hp
      · exact .inr ⟨g0, g1, by omega, hp⟩

theorem toStrs_l0 (x : List ByteArray) (hx : x.length ≤ 1048576) : ∀ (d i : Nat), i + d = x.length →
    Tells (fun k => laws_toStringS.l0 k x (x.take i ++ List.replicate d (⟨#[]⟩ : ByteArray)) (i : Int)) x
  | 0, i, hd => by
    refine Tells.step (fun k => ?_) (Tells.pure _)
    simp only [laws_toStringS.l0]
    rw [if_neg (by omega), List.take_of_length_le (by omega), List.replicate_zero, List.append_nil]
  | d + 1, i, hd => by
    refine Tells.step (fun k => ?_) (toStrs_l0 x hx d (i + 1) (by omega))
    simp only [laws_toStringS.l0]
    have hl : (x.take i ++ List.replicate (d + 1) (⟨#[]⟩ : ByteArray)).length = x.length := by simp; omega
    rw [if_pos (by omega), if_pos (by omega), if_pos (by omega), wr64 (by omega) (by omega), Int.toNat_natCast]
    congr 1
    rw [List.set_append_right _ _ (by simp; omega)]
    rw [show i - (x.take i).length = 0 from by simp; omega, List.replicate_succ, List.set_cons_zero, rdS_get (by omega), List.take_succ_eq_append_getElem (by omega), List.append_assoc]; rfl

theorem toStrs (x : List ByteArray) (hx : x.length ≤ 1048576) : Tells (fun k => laws_toStringS.f k x) x := by
  refine Tells.congr (fun k => ?_) (toStrs_l0 x hx x.length 0 (by omega))
  unfold laws_toStringS.f
  rw [if_pos (by omega), if_pos (by omega), List.take_zero, List.nil_append, Int.toNat_natCast]; rfl

theorem eqStrs_l0 (x y : List ByteArray) (hx : x.length ≤ 1048576) (hl : x.length = y.length) : ∀ (d i : Nat), i + d = x.length →
    Tells (fun k => laws_eqStringS.l0 k x y (i : Int)) (decide (x.drop i = y.drop i))
  | 0, i, hd => by
    refine Tells.step (fun k => ?_) (Tells.pure _)
    simp only [laws_eqStringS.l0]
    rw [if_neg (by omega), List.drop_of_length_le (by omega), List.drop_of_length_le (by omega)]; rfl
  | d + 1, i, hd => by
    have ex := List.drop_eq_getElem_cons (l := x) (i := i) (by omega)
    have ey := List.drop_eq_getElem_cons (l := y) (i := i) (by omega)
    by_cases h : x[i]'(by omega) = y[i]'(by omega)
    · have e : decide (x.drop i = y.drop i) = decide (x.drop (i + 1) = y.drop (i + 1)) := by rw [ex, ey, h]; exact decide_eq_decide.2 ⟨fun q => (List.cons.inj q).2, fun q => by rw [q]⟩
      rw [e]
      refine Tells.step (fun k => ?_) (eqStrs_l0 x y hx hl d (i + 1) (by omega))
      simp only [laws_eqStringS.l0]
      rw [if_pos (by omega), if_pos (by omega), if_pos (by omega), if_pos (by rw [rdS_get (by omega), rdS_get (by omega)]; exact (str_eq _ _).2 h), wr64 (by omega) (by omega)]; rfl
    · have e : decide (x.drop i = y.drop i) = false := decide_eq_false fun q => h (by rw [ex, ey] at q; exact (List.cons.inj q).1)
      rw [e]
      refine Tells.step (fun k => ?_) (Tells.pure _)
      simp only [laws_eqStringS.l0]
      rw [if_pos (by omega), if_pos (by omega), if_pos (by omega), if_neg (by rw [rdS_get (by omega), rdS_get (by omega)]; exact fun q => h ((str_eq _ _).1 q))]

theorem eqStrs (x y : List ByteArray) (hx : x.length ≤ 1048576) : Tells (fun k => laws_eqStringS.f k x y) (decide (x = y)) := by
  by_cases hl : x.length = y.length
  · refine Tells.congr (fun k => ?_) (eqStrs_l0 x y hx hl x.length 0 (by omega))
    unfold laws_eqStringS.f
    rw [if_pos (by omega)]; rfl
  · rw [decide_eq_false (fun h => hl (by rw [h]))]
    refine Tells.of fun k => ?_
    unfold laws_eqStringS.f
    rw [if_neg (by omega)]

end DocPure
