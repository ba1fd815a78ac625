/- The printed helpers on slices of strings, in plain words: size, a copy, equality, marks. -/
import Derived.Test.YtkpnmninkmnbjaaDoorPKax0
import Derived.Test.YtkpnmninkmnbjaaDoorPKax6
import Derived.Test.YtkpnmninkmnbjaaDoorPKax7
import Derived.Test.YtkpnmninkmnbjaaDoorKaStrs1
namespace DocPure
open Go.RowKit Go.Proofs.YtkpnmninkmnbjaaDoor.PKa Go.Proofs.YtkpnmninkmnbjaaDoorW.PrintWords

theorem szStrs_l0 (x : List ByteArray) (hx : x.length ≤ 1048576) (hm : ∀ s ∈ x, s.size ≤ 9223372036854775807) : ∀ (d i : Nat) (left : Int), i + d = x.length → 0 ≤ left → left ≤ 1048576 →
    ∃ r, Tells (fun k => laws_szStringS.l0 k x left (i : Int)) r ∧ (r < 0 ∨ (0 ≤ r ∧ r ≤ 1048576 ∧ ∀ s ∈ x.drop i, s.size ≤ 1048576))
  | 0, i, left, hd, h0, h1 => by
    refine ⟨left, Tells.step (fun k => ?_) (Tells.pure _), .inr ⟨h0, h1, fun s hs => by rw [List.drop_of_length_le (by omega)] at hs; cases hs⟩⟩
    simp only [laws_szStringS.l0]
    rw [if_neg (by omega)]
  | d + 1, i, left, hd, h0, h1 => by
    have hm' := hm (x[i]'(by omega)) (List.getElem_mem _)
    have e : rdOf ByteArray.empty x (i : Int) = x[i]'(by omega) := rdS_get (by omega)
    by_cases hneg : left - ((x[i]'(by omega)).size : Int) < 0
    · refine ⟨-1, Tells.step (fun k => ?_) (Tells.pure _), .inl (by omega)⟩
      simp only [laws_szStringS.l0]
      rw [if_pos (by omega), if_pos (by omega), e, if_pos (by rw [wr64 (by omega) (by omega)]; exact hneg)]
    · obtain ⟨r, hr, hp⟩ := szStrs_l0 x hx hm d (i + 1) (left - ((x[i]'(by omega)).size : Int)) (by omega) (by omega) (by omega)
      refine ⟨r, Tells.step (fun k => ?_) hr, ?_⟩
      · simp only [laws_szStringS.l0]
        rw [if_pos (by omega), if_pos (by omega), e, wr64 (n := left - _) (by omega) (by omega), if_neg hneg, wr64 (by omega) (by omega)]; rfl
      · rcases hp with hp | ⟨g0, g1, hp⟩
        · exact .inl hp
        · refine .inr ⟨g0, g1, fun s hs => ?_⟩
          rw [List.drop_eq_getElem_cons (by omega)] at hs
          rcases List.mem_cons.1 hs with rfl | hs
          · omega
          · exact hp s hs

theorem szStrs (x : List ByteArray) (hl : x.length ≤ 9223372036854775807) (hm : ∀ s ∈ x, s.size ≤ 9223372036854775807) (left : Int) (h0 : 0 ≤ left) (h1 : left ≤ 1048576) :
    ∃ r, Tells (fun k => laws_szStringS.f k x left) r ∧ (r < 0 ∨ (0 ≤ r ∧ r ≤ 1048576 ∧ x.length ≤ 1048576 ∧ ∀ s ∈ x, s.size ≤ 1048576)) := by
  by_cases h : left - (x.length : Int) < 0
  · refine ⟨-1, Tells.of fun k => ?_, .inl (by omega)⟩
    unfold laws_szStringS.f
    rw [if_pos (by rw [wr64 (by omega) (by omega)]; exact h)]
  · obtain ⟨r, hr, hp⟩ := szStrs_l0 x (by omega) hm x.length 0 (left - x.length) (by omega) (by omega) (by omega)
    refine ⟨r, Tells.congr (fun k => ?_) hr, ?_⟩
    · unfold laws_szStringS.f
      rw [wr64 (by omega) (by omega), if_neg h]; rfl
    · rcases hp with hp | ⟨g0, g1, hp⟩
      · exact .inl hp
      · exact .inr ⟨g0, g1, by omega, hp⟩

theorem toStrs_l0 (x : List ByteArray) (hx : x.length ≤ 1048576) : ∀ (d i : Nat), i + d = x.length →
    Tells (fun k => laws_toStringS.l0 k x (x.take i ++ List.replicate d (⟨#[]⟩ : ByteArray)) (i : Int)) x
  | 0, i, hd => by
    refine Tells.step (fun k => ?_) (Tells.pure _)
    simp only [laws_toStringS.l0]
    rw [if_neg (by omega), List.take_of_length_le (by omega), List.replicate_zero, List.append_nil]
  | d + 1, i, hd => by
    refine Tells.step (fun k => ?_) (toStrs_l0 x hx d (i + 1) (by omega))
    simp only [laws_toStringS.l0]
    have hl : (x.take i ++ List.replicate (d + 1) (⟨#[]⟩ : ByteArray)).length = x.length := by simp; omega
    rw [if_pos (by omega), if_pos (by omega), if_pos (by omega), wr64 (by omega) (by omega), Int.toNat_natCast]
    congr 1
    rw [List.set_append_right _ _ (by simp; omega)]
    rw [show i - (x.take i).length = 0 from by simp; omega, List.replicate_succ, List.set_cons_zero, rdS_get (by omega), List.take_succ_eq_append_getElem (by omega), List.append_assoc]; rfl

theorem toStrs (x : List ByteArray) (hx : x.length ≤ 1048576) : Tells (fun k => laws_toStringS.f k x) x := by
  refine Tells.congr (fun k => ?_) (toStrs_l0 x hx x.length 0 (by omega))
  unfold laws_toStringS.f
  rw [if_pos (by omega), if_pos (by omega), List.take_zero, List.nil_append, Int.toNat_natCast]; rfl

end DocPure
