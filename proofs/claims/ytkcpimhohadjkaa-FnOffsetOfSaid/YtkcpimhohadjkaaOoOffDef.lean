/- OffsetOf and PlaceAt, plain. -/
import Derived.Test.YtkcpimhohadjkaaPOox0
import Derived.Test.YtkcpimhohadjkaaOoLens
import Derived.Test.YtkcpimhohadjkaaOoOffs
namespace DocPure
open Go.RowKit Go.Proofs.Ytkcpimhohadjkaa.POo Go.Proofs.YtkcpimhohadjkaaW.PrintWords

def offOk (rows : List Row) (a b : Int) : Bool := layoutOk rows && (decide (0 ≤ a ∧ a < rows.length) && decide (0 ≤ b ∧ b ≤ ((lens rows).getD a.toNat 0 : Nat)))

def offsetOf (rows : List Row) (a b : Int) : Int × Bool := if offOk rows a b then (b + (offs (lens rows) a.toNat : Int), true) else (0, false)

theorem offOk_parts {rows : List Row} {a b : Int} (h : offOk rows a b = true) : layoutOk rows = true ∧ 0 ≤ a ∧ a < rows.length ∧ 0 ≤ b ∧ b ≤ ((lens rows).getD a.toNat 0 : Nat) := by
  unfold offOk at h
  rw [Bool.and_eq_true, Bool.and_eq_true, decide_eq_true_eq, decide_eq_true_eq] at h
  exact ⟨h.1, h.2.1.1, h.2.1.2, h.2.2.1, h.2.2.2⟩

theorem lens_at {rows : List Row} {a : Int} (h0 : 0 ≤ a) (h1 : a < rows.length) : ∃ i : Nat, ∃ hi : i < rows.length, a = (i : Int) ∧ (lens rows).getD a.toNat 0 = rowLen (rows[i]'hi) := by
  refine ⟨a.toNat, by omega, by omega, ?_⟩
  rw [List.getD_eq_getElem?_getD, List.getElem?_eq_getElem (by rw [lens, List.length_map]; omega), lens_get (by omega)]; rfl

def placeAt (rows : List Row) (n : Int) : Int × Int × Bool := if layoutOk rows && decide (0 ≤ n) then placeFrom 0 n (lens rows) else (0, 0, false)

end DocPure
