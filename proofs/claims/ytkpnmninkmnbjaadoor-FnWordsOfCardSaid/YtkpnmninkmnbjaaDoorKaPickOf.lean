/- The reference's draw of a text out of a list. -/
import Derived.Test.YtkpnmninkmnbjaaDoorPKax0
import Derived.Test.YtkpnmninkmnbjaaDoorPKax1
import Derived.Test.YtkpnmninkmnbjaaDoorKaPick
namespace DocPure
open Go.RowKit Go.Proofs.YtkpnmninkmnbjaaDoor.PKa Go.Proofs.YtkpnmninkmnbjaaDoorW.PrintWords

theorem of_tells {b : List Int} (hb : Code b) {p : Int} (h0 : 0 ≤ p) (hp : p < 1000000000000) (l : List ByteArray) (hl : 1 ≤ l.length) :
    ∃ x, x ∈ l ∧ Tells (fun k => spec_l15Rd_of.f k b p l) (x, p + 1) := by
  obtain ⟨r, hr, r0, r1⟩ := pick_tells hb h0 hp (n := l.length) (by omega)
  refine ⟨rdOf ByteArray.empty l r, ?_, Tells.congr (fun k => rfl) (Tells.bind hr (Tells.iteT r0 (Tells.iteT r1 (Tells.pure _))))⟩
  unfold rdOf
  rw [List.getD_eq_getElem?_getD, List.getElem?_eq_getElem (by omega)]
  exact List.getElem_mem _

end DocPure
