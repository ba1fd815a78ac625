/- Small facts on strings as rows of bytes. -/
import Derived.Test.YtkpnmninkmnbjaaDoorKaBase
import Derived.Laws.Strings
namespace DocPure
open Go.RowKit Go.Proofs.YtkpnmninkmnbjaaDoorW.PrintWords

theorem bytes_ext {a b : ByteArray} (h : a.data.toList = b.data.toList) : a = b := ByteArray.ext (Array.toList_inj.1 h)

theorem str_eq (a b : ByteArray) : a.toList = b.toList ↔ a = b := by
  rw [Go.ByteArray.toList_eq, Go.ByteArray.toList_eq]
  exact ⟨bytes_ext, fun h => by rw [h]⟩

abbrev rdS (l : List ByteArray) (i : Int) : ByteArray := rdOf ByteArray.empty l i

end DocPure
