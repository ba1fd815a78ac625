/- The printed helpers on slices of rows: size, a copy, equality. -/
import Derived.Test.YtkcpimhohadjkaaPPex0
import Derived.Test.YtkcpimhohadjkaaPPex1
import Derived.Test.YtkcpimhohadjkaaPPex4
import Derived.Test.YtkcpimhohadjkaaPPex6
import Derived.Test.YtkcpimhohadjkaaPeLayout
namespace DocPure
open Go.RowKit Go.Proofs.Ytkcpimhohadjkaa.PPe Go.Proofs.YtkcpimhohadjkaaW.PrintWords

theorem rdQ_get {l : List S69} {i : Nat} (h : i < l.length) : rd_T69 l (i : Int) = l[i] := by
  unfold rd_T69
  rw [Int.toNat_natCast, List.getD_eq_getElem?_getD, List.getElem?_eq_getElem h]; rfl

theorem szRows_l0 (x : List S69) (hx : x.length ≤ 1048576) (hm : ∀ s ∈ x, s.f1.size ≤ 9223372036854775807) : ∀ (d i : Nat) (left : Int), i + d = x.length → 0 ≤ left → left ≤ 1048576 →
    ∃ r, Tells (fun k => laws_szRowS.l0 k x left (i : Int)) r ∧ (r < 0 ∨ (0 ≤ r ∧ r ≤ 1048576 ∧ ∀ s ∈ x.drop i, s.f1.size ≤ 1048576))
  | 0, i, left, hd, h0, h1 => by
    refine ⟨left, Tells.step (fun k => ?_) (Tells.pure _), .inr ⟨h0, h1, fun s hs => by rw [List.drop_of_length_le (by omega)] at hs; cases hs⟩⟩
    simp only [laws_szRowS.l0]
    rw [if_neg (by omega)]
  | d + 1, i, left, hd, h0, h1 => by
    have hm' := hm (x[i]'(by omega)) (List.getElem_mem _)
    have e : rd_T69 x (i : Int) = x[i]'(by omega) := rdQ_get (by omega)
    by_cases hneg : left - ((x[i]'(by omega)).f1.size : Int) < 0
    · refine ⟨-1, Tells.step (fun k => ?_) (Tells.pure _), .inl (by omega)⟩
      simp only [laws_szRowS.l0, laws_szRow.f]
      rw [if_pos (by omega), if_pos (by omega), e, wr64 (by omega) (by omega), if_pos hneg, Option.bind_some, if_pos (by omega)]
    · obtain ⟨r, hr, hp⟩ := szRows_l0 x hx hm d (i + 1) (left - ((x[i]'(by omega)).f1.size : Int)) (by omega) (by omega) (by omega)
      refine ⟨r, Tells.step (fun k => ?_) hr, ?_⟩
      · simp only [laws_szRowS.l0, laws_szRow.f]
        rw [if_pos (by omega), if_pos (by omega), e, wr64 (n := left - _) (by omega) (by omega), if_neg hneg, Option.bind_some, if_neg hneg, wr64 (by omega) (by omega)]; rfl
      · rcases hp with hp | ⟨g0, g1, hp⟩
        · exact .inl hp
        · refine .inr ⟨g0, g1, fun s hs => ?_⟩
          rw [List.drop_eq_getElem_cons (by omega)] at hs
          rcases List.mem_cons.1 hs with rfl | hs
          · omega
          · exact hp s hs

theorem szRows (x : List S69) (hl : x.length ≤ 9223372036854775807) (hm : ∀ s ∈ x, s.f1.size ≤ 9223372036854775807) (left : Int) (h0 : 0 ≤ left) (h1 : left ≤ 1048576) :
    ∃ r, Tells (fun k => laws_szRowS.f k x left) r ∧ (r < 0 ∨ (0 ≤ r ∧ r ≤ 1048576 ∧ x.length ≤ 1048576 ∧ ∀ s ∈ x, s.f1.size ≤ 1048576)) := by
  by_cases h : left - (x.length : Int) < 0
  · refine ⟨-1, Tells.of fun k => ?_, .inl (by omega)⟩
    unfold laws_szRowS.f
    rw [if_pos (by rw [wr64 (by omega) (by omega)]; exact h)]
  · obtain ⟨r, hr, hp⟩ := szRows_l0 x (by omega) hm x.length 0 (left - x.length) (by omega) (by omega) (by omega)
    refine ⟨r, Tells.congr (fun k => ?_) hr, ?_⟩
    · unfold laws_szRowS.f
      rw [wr64 (by omega) (by omega), if_neg h]; rfl
    · rcases hp with hp | ⟨g0, g1, hp⟩
      · exact .inl hp
      · exact .inr ⟨g0, g1, by omega, hp⟩

/-- The laws' rows as the program's. -/
def toR (s : S69) : Row := ⟨s.f0, s.f1⟩

theorem toRows_l0 (x : List S69) (hx : x.length ≤ 1048576) : ∀ (d i : Nat), i + d = x.length →
    Tells (fun k => laws_toRowS.l0 k x ((x.take i).map toR ++ List.replicate d z59) (i : Int)) (x.map toR)
  | 0, i, hd => by
    refine Tells.step (fun k => ?_) (Tells.pure _)
    simp only [laws_toRowS.l0]
    rw [if_neg (by omega), List.take_of_length_le (by omega), List.replicate_zero, List.append_nil]
  | d + 1, i, hd => by
    refine Tells.step (fun k => ?_) (toRows_l0 x hx d (i + 1) (by omega))
    simp only [laws_toRowS.l0, laws_toRow.f, Option.bind_some]
    have hl : ((x.take i).map toR ++ List.replicate (d + 1) z59).length = x.length := by simp; omega
    rw [if_pos (by omega), if_pos (by omega), if_pos (by omega), wr64 (by omega) (by omega), Int.toNat_natCast]
    congr 1
    rw [List.set_append_right _ _ (by simp; omega)]
    rw [show i - ((x.take i).map toR).length = 0 from by simp; omega, List.replicate_succ, List.set_cons_zero, rdQ_get (by omega), List.take_succ_eq_append_getElem (by omega), List.map_append, List.append_assoc]; rfl

theorem toRows (x : List S69) (hx : x.length ≤ 1048576) : Tells (fun k => laws_toRowS.f k x) (x.map toR) := by
  refine Tells.congr (fun k => ?_) (toRows_l0 x hx x.length 0 (by omega))
  unfold laws_toRowS.f
  rw [if_pos (by omega), if_pos (by omega), List.take_zero, Int.toNat_natCast]; rfl

theorem eqRows_l0 (x : List Row) (hx : x.length ≤ 1048576) : ∀ (d i : Nat), i + d = x.length →
    Tells (fun k => laws_eqRowS.l0 k x x (i : Int)) true
  | 0, i, hd => by
    refine Tells.step (fun k => ?_) (Tells.pure _)
    simp only [laws_eqRowS.l0]
    rw [if_neg (by omega)]
  | d + 1, i, hd => by
    refine Tells.step (fun k => ?_) (eqRows_l0 x hx d (i + 1) (by omega))
    simp only [laws_eqRowS.l0, laws_eqRow.f, if_true, Option.bind_some]
    rw [if_pos (by omega), if_pos (by omega), if_pos (by omega), wr64 (by omega) (by omega)]; rfl

theorem eqRows (x : List Row) (hx : x.length ≤ 1048576) : Tells (fun k => laws_eqRowS.f k x x) true := by
  refine Tells.congr (fun k => ?_) (eqRows_l0 x hx x.length 0 (by omega))
  unfold laws_eqRowS.f
  rw [if_pos rfl]; rfl

theorem toRows_small (x : List S69) (hx : x.length ≤ 1048576) (h : ∀ s ∈ x, s.f1.size ≤ 1048576) : SmallR (x.map toR) := by
  refine ⟨by rw [List.length_map]; omega, fun r hr => ?_⟩
  obtain ⟨s, hs, rfl⟩ := List.mem_map.1 hr
  have := h s hs
  show s.f1.size ≤ _
  omega

end DocPure
