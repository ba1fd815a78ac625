/- The byte at an offset is that at its place, for every input. -/
import Derived.Test.YtkcpimhohadjkaaPOox0
import Derived.Test.YtkcpimhohadjkaaPOox14
import Derived.Test.YtkcpimhohadjkaaOoPlaceImpl
import Derived.Test.YtkcpimhohadjkaaOoOffImpl
import Derived.Test.YtkcpimhohadjkaaOoOffSpec
import Derived.Test.YtkcpimhohadjkaaOoLayText
import Derived.Test.YtkcpimhohadjkaaOoDrawOff
namespace DocPure
open Go.RowKit Go.Proofs.Ytkcpimhohadjkaa.POo Go.Proofs.YtkcpimhohadjkaaW.PrintWords

/-- The place of an offset that OffsetOf tells is the one it was asked for. -/
theorem place_back {rows : List Row} {a c : Int} (h : offOk rows a c = true) :
    placeAt rows (c + (offs (lens rows) a.toNat : Int)) = (a, c, true) ∧ c + (offs (lens rows) a.toNat : Int) ≤ ((layText rows).size : Int) ∧ 0 ≤ c + (offs (lens rows) a.toNat : Int) := by
  obtain ⟨hv, a0, a1, c0, c1⟩ := offOk_parts h
  obtain ⟨i, hi, rfl, hlen⟩ := lens_at a0 a1
  rw [hlen] at c1
  have hz := layText_size hv
  have hl : (lens rows).length = rows.length := by rw [lens, List.length_map]
  have hil : i < (lens rows).length := by omega
  have hs := offs_succ (lens rows) hil
  have hg : (lens rows)[i] = rowLen rows[i] := lens_get hi
  have hm := offs_mono (lens rows) ((lens rows).length - (i + 1)) (i + 1) (by omega)
  rw [show i + 1 + ((lens rows).length - (i + 1)) = (lens rows).length from by omega, hl] at hm
  rw [Int.toNat_natCast]
  obtain ⟨j, hj, b, e, b0, b1, hb⟩ := place_in (lens rows) 0 (c + (offs (lens rows) i : Int)) (by omega) (by rw [hl]; omega)
  have hij := place_one (lens rows) hj hil b0 b1 c0 (by rw [hg]; exact c1) (by omega)
  subst hij
  refine ⟨?_, by omega, by omega⟩
  unfold placeAt
  rw [hv, decide_eq_true (by omega), Bool.and_self, if_pos rfl, e, Nat.zero_add, show b = c from by omega]

theorem lawOffsetOf (l : List Int) (hl : ∀ x ∈ l, (Go.Lit.int .u8 x).wf = true) (hs : l.length ≤ 1048576) : Tells (fun k => laws_FnOffsetOf.f k l) true := by
  obtain ⟨rows, a, c, hd, hsm⟩ := drawOffsetOf hl
  refine Tells.congr (fun k => by unfold laws_FnOffsetOf.f; rw [if_neg (by omega)]) ?_
  refine Tells.bind hd (Tells.bind (impl_offset rows hsm a c) (Tells.bind (spec_offset rows hsm a c) (Tells.iteT rfl ?_)))
  simp only [bne_self_eq_false]
  refine Tells.iteF (by decide) ?_
  by_cases ho : offOk rows a c = true
  · obtain ⟨h1, h2, h3⟩ := place_back ho
    have e1 : offsetOf rows a c = (c + (offs (lens rows) a.toNat : Int), true) := by unfold offsetOf; rw [if_pos ho]
    have hv := (offOk_parts ho).1
    have hz := layText_size hv
    obtain ⟨-, hlr, hr⟩ := layout_parts hv
    have hof := offs_le (lens rows) 2400 (lens_le hr) rows.length (by rw [lens, List.length_map]; omega)
    have ho2 : rows.length * 2401 ≤ 200 * 2401 := Nat.mul_le_mul hlr (Nat.le_refl _)
    have hp := impl_place rows hsm (c + (offs (lens rows) a.toNat : Int)) (by omega)
    rw [h1] at hp
    rw [e1]
    refine Tells.step (fun k => by simp only [laws_FnOffsetOf.j0]; rw [if_neg (by decide)]) (Tells.bind hp (Tells.iteT rfl ?_))
    have ee : ((a == a) && (c == c)) = true := by rw [beq_self_eq_true, beq_self_eq_true]; rfl
    refine Tells.iteT ee (Tells.bind (text_tells rows hsm) ?_)
    rw [decide_eq_true h2]
    exact Tells.pure _
  · have e1 : offsetOf rows a c = (0, false) := by unfold offsetOf; rw [if_neg ho]
    rw [e1]
    refine Tells.step (fun k => ?_) (Tells.pure true)
    simp only [laws_FnOffsetOf.j0]
    rw [if_pos (by decide), if_pos trivial]; rfl

end DocPure
namespace Go.Proofs.Ytkcpimhohadjkaa.Pure
open Go.RowKit Go.Proofs.Ytkcpimhohadjkaa.POo Go.Proofs.YtkcpimhohadjkaaW.PrintWords Go.Proofs.YtkcpimhohadjkaaW.PrintLast

theorem FnOffsetOf : laws_FnOffsetOf.Pure := by
  intro l _ _ hl
  by_cases h : l.length ≤ 1048576
  · exact (DocPure.lawOffsetOf l hl h).ex
  · exact ⟨0, by unfold laws_FnOffsetOf.f; rw [if_pos (by omega)]⟩

end Go.Proofs.Ytkcpimhohadjkaa.Pure
