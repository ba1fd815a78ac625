/- The end of a page is at the place behind its last byte, for every input. -/
import Derived.Test.YtkcpimhohadjkaaPOex0
import Derived.Test.YtkcpimhohadjkaaPOex11
import Derived.Test.YtkcpimhohadjkaaOePlaceImpl
import Derived.Test.YtkcpimhohadjkaaOePlaceSpec
import Derived.Test.YtkcpimhohadjkaaOeLayText
import Derived.Test.YtkcpimhohadjkaaOeDrawPlace
namespace DocPure
open Go.RowKit Go.Proofs.Ytkcpimhohadjkaa.POe Go.Proofs.YtkcpimhohadjkaaW.PrintWords

theorem place_end {rows : List Row} (hv : layoutOk rows = true) : ∃ b : Int, placeAt rows ((layText rows).size : Int) = (((rows.length - 1 : Nat) : Int), b, true) := by
  obtain ⟨h1, hl, hr⟩ := layout_parts hv
  have hz := layText_size hv
  have hlen : (lens rows).length = rows.length := by rw [lens, List.length_map]
  obtain ⟨j, hj, b, e, b0, b1, hm⟩ := place_in (lens rows) 0 ((layText rows).size : Int) (by omega) (by rw [hlen]; omega)
  have hs := offs_succ (lens rows) hj
  have hlast : j + 1 = rows.length := by
    have := offs_mono (lens rows) ((lens rows).length - (j + 1)) (j + 1) (by omega)
    rw [show j + 1 + ((lens rows).length - (j + 1)) = (lens rows).length from by omega, hlen] at this
    omega
  refine ⟨b, ?_⟩
  unfold placeAt
  rw [hv, decide_eq_true (by omega), Bool.and_self, if_pos rfl, e, show 0 + j = rows.length - 1 from by omega]

theorem place_beyond {rows : List Row} (hv : layoutOk rows = true) : placeAt rows (((layText rows).size : Int) + 1) = (0, 0, false) := by
  have hz := layText_size hv
  have hlen : (lens rows).length = rows.length := by rw [lens, List.length_map]
  unfold placeAt
  rw [place_out (lens rows) 0 _ (by rw [hlen]; omega)]
  split <;> rfl

theorem lawOffsetEnd (l : List Int) (hl : ∀ x ∈ l, (Go.Lit.int .u8 x).wf = true) (hs : l.length ≤ 1048576) : Tells (fun k => laws_FnOffsetEnd.f k l) true := by
  obtain ⟨rows, n, hd, hsm, hn0, hn1⟩ := drawPlaceAt hl
  refine Tells.congr (fun k => by unfold laws_FnOffsetEnd.f; rw [if_neg (by omega)]) ?_
  refine Tells.bind hd (Tells.bind (impl_place rows hsm n (by omega)) (Tells.bind (spec_place rows hsm n (by omega)) ?_))
  simp only [beq_self_eq_true, Bool.not_true, Bool.or_self, bne_self_eq_false]
  refine Tells.iteF (by decide) (Tells.iteF (by decide) (Tells.bind (impl_layout rows hsm) ?_))
  by_cases hv : layoutOk rows = true
  · rw [hv]
    have hz := layText_size hv
    obtain ⟨h1, hlr, hr⟩ := layout_parts hv
    have ho := offs_le (lens rows) 2400 (lens_le hr) rows.length (by rw [lens, List.length_map]; omega)
    have ho2 : rows.length * 2401 ≤ 200 * 2401 := Nat.mul_le_mul hlr (Nat.le_refl _)
    obtain ⟨b, hp⟩ := place_end hv
    have h2 := impl_place rows hsm ((layText rows).size : Int) (by omega)
    have h3 := impl_place rows hsm (((layText rows).size : Int) + 1) (by omega)
    rw [hp] at h2
    rw [place_beyond hv] at h3
    refine Tells.step (fun k => by simp only [laws_FnOffsetEnd.j0]; rw [if_neg (by decide)]) (Tells.bind (text_tells rows hsm) (Tells.bind h2 ?_))
    rw [wr64 (n := ((layText rows).size : Int) + 1) (by omega) (by omega)]
    refine Tells.bind h3 (Tells.iteT rfl (Tells.iteT ?_ (Tells.pure true)))
    rw [wr64 (by omega) (by omega)]
    show ((rows.length - 1 : Nat) : Int) = _
    omega
  · rw [Bool.not_eq_true] at hv
    rw [hv]
    refine Tells.step (fun k => ?_) (Tells.pure true)
    simp only [laws_FnOffsetEnd.j0]
    rw [if_pos (by decide), if_pos (by simp)]
    simp

end DocPure
namespace Go.Proofs.Ytkcpimhohadjkaa.Pure
open Go.RowKit Go.Proofs.Ytkcpimhohadjkaa.POe Go.Proofs.YtkcpimhohadjkaaW.PrintWords Go.Proofs.YtkcpimhohadjkaaW.PrintLast

theorem FnOffsetEnd : laws_FnOffsetEnd.Pure := by
  intro l _ _ hl
  by_cases h : l.length ≤ 1048576
  · exact (DocPure.lawOffsetEnd l hl h).ex
  · exact ⟨0, by unfold laws_FnOffsetEnd.f; rw [if_pos (by omega)]⟩

end Go.Proofs.Ytkcpimhohadjkaa.Pure
