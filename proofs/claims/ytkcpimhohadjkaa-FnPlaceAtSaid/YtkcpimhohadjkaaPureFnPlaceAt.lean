/- The offset of a place is the one it is at, for every input. -/
import Derived.Test.YtkcpimhohadjkaaPOpx0
import Derived.Test.YtkcpimhohadjkaaPOpx12
import Derived.Test.YtkcpimhohadjkaaOpPlaceImpl
import Derived.Test.YtkcpimhohadjkaaOpPlaceSpec
import Derived.Test.YtkcpimhohadjkaaOpOffImpl
import Derived.Test.YtkcpimhohadjkaaOpLayText
import Derived.Test.YtkcpimhohadjkaaOpDrawPlace
namespace DocPure
open Go.RowKit Go.Proofs.Ytkcpimhohadjkaa.POp Go.Proofs.YtkcpimhohadjkaaW.PrintWords

/-- A place of an offset in the text, and its offset. -/
theorem place_of {rows : List Row} (hv : layoutOk rows = true) {n : Int} (h0 : 0 ≤ n) (h1 : n ≤ ((layText rows).size : Int)) :
    ∃ a c : Int, placeAt rows n = (a, c, true) ∧ offsetOf rows a c = (n, true) := by
  have hz := layText_size hv
  have hl : (lens rows).length = rows.length := by rw [lens, List.length_map]
  obtain ⟨j, hj, b, e, b0, b1, hb⟩ := place_in (lens rows) 0 n h0 (by rw [hl]; omega)
  have hjr : j < rows.length := by omega
  have hg : (lens rows)[j] = rowLen rows[j] := lens_get hjr
  refine ⟨(j : Int), b, ?_, ?_⟩
  · unfold placeAt
    rw [hv, decide_eq_true h0, Bool.and_self, if_pos rfl, e, Nat.zero_add]
  · have ho : offOk rows (j : Int) b = true := by
      obtain ⟨i, hi, hij, hlen⟩ := lens_at (rows := rows) (a := (j : Int)) (by omega) (by omega)
      have : i = j := by omega
      subst this
      unfold offOk
      rw [hv, hlen, decide_eq_true (p := 0 ≤ (i : Int) ∧ _) (by omega), decide_eq_true (p := 0 ≤ b ∧ _) (by omega)]; rfl
    unfold offsetOf
    rw [if_pos ho, Int.toNat_natCast, Int.add_comm, ← hb]

theorem place_none {rows : List Row} {n : Int} (h : ¬ (0 ≤ n ∧ n ≤ ((layText rows).size : Int))) (hv : layoutOk rows = true) : placeAt rows n = (0, 0, false) := by
  unfold placeAt
  by_cases h0 : 0 ≤ n
  · have hz := layText_size hv
    have hl : (lens rows).length = rows.length := by rw [lens, List.length_map]
    rw [place_out (lens rows) 0 n (by rw [hl]; omega)]
    split <;> rfl
  · rw [decide_eq_false h0, Bool.and_false]; rfl

theorem lawPlaceAt (l : List Int) (hl : ∀ x ∈ l, (Go.Lit.int .u8 x).wf = true) (hs : l.length ≤ 1048576) : Tells (fun k => laws_FnPlaceAt.f k l) true := by
  obtain ⟨rows, n, hd, hsm, hn0, hn1⟩ := drawPlaceAt hl
  refine Tells.congr (fun k => by unfold laws_FnPlaceAt.f; rw [if_neg (by omega)]) ?_
  refine Tells.bind hd (Tells.bind (impl_place rows hsm n (by omega)) (Tells.bind (spec_place rows hsm n (by omega)) ?_))
  simp only [beq_self_eq_true, Bool.not_true, Bool.or_self, bne_self_eq_false]
  refine Tells.iteF (by decide) (Tells.iteF (by decide) (Tells.bind (impl_layout rows hsm) ?_))
  by_cases hv : layoutOk rows = true
  · rw [hv]
    by_cases hin : 0 ≤ n ∧ n ≤ ((layText rows).size : Int)
    · obtain ⟨a, c, h1, h2⟩ := place_of hv hin.1 hin.2
      have ho := impl_offset rows hsm a c
      rw [h2] at ho
      rw [h1]
      refine Tells.step (fun k => by simp only [laws_FnPlaceAt.j0]; rw [if_neg (by decide)]) (Tells.bind ho ?_)
      refine Tells.iteT (show n ≥ 0 from hin.1) (Tells.bind (text_tells rows hsm) ?_)
      rw [decide_eq_true hin.2]
      refine Tells.of fun k => ?_
      show some (n == n) = some true
      rw [beq_self_eq_true]
    · have h1 := place_none hin hv
      have ho := impl_offset rows hsm 0 0
      rw [h1]
      refine Tells.step (fun k => by simp only [laws_FnPlaceAt.j0]; rw [if_neg (by decide)]) (Tells.bind ho ?_)
      by_cases h0 : n ≥ 0
      · refine Tells.iteT h0 (Tells.bind (text_tells rows hsm) ?_)
        rw [decide_eq_false (by omega)]
        exact Tells.of fun k => rfl
      · exact Tells.iteF h0 (Tells.of fun k => rfl)
  · rw [Bool.not_eq_true] at hv
    rw [hv]
    refine Tells.step (fun k => ?_) (Tells.pure true)
    simp only [laws_FnPlaceAt.j0]
    rw [if_pos (by decide), if_pos (by simp)]
    simp

end DocPure
namespace Go.Proofs.Ytkcpimhohadjkaa.Pure
open Go.RowKit Go.Proofs.Ytkcpimhohadjkaa.POp Go.Proofs.YtkcpimhohadjkaaW.PrintWords Go.Proofs.YtkcpimhohadjkaaW.PrintLast

theorem FnPlaceAt : laws_FnPlaceAt.Pure := by
  intro l _ _ hl
  by_cases h : l.length ≤ 1048576
  · exact (DocPure.lawPlaceAt l hl h).ex
  · exact ⟨0, by unfold laws_FnPlaceAt.f; rw [if_pos (by omega)]⟩

end Go.Proofs.Ytkcpimhohadjkaa.Pure
