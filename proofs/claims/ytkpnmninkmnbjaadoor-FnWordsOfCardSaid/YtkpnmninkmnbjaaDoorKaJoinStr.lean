/- strings.Join, as a plain function. -/
import Derived.Test.YtkpnmninkmnbjaaDoorPKax0
import Derived.Test.YtkpnmninkmnbjaaDoorPKax8
import Derived.Test.YtkpnmninkmnbjaaDoorKaBaseS
import Derived.Test.YtkpnmninkmnbjaaDoorKaLine
namespace DocPure
open Go.RowKit Go.Proofs.YtkpnmninkmnbjaaDoor.PKa Go.Proofs.YtkpnmninkmnbjaaDoorW.PrintWords

theorem join_bytes (ws : List ByteArray) (sep : ByteArray) : Go.Lib.join (ws.map (·.data.toList)) sep.data.toList = (lineWith sep ws).data.toList := by
  cases ws with
  | nil => rfl
  | cons w ws =>
    rw [List.map_cons, Go.Lib.join_cons]
    show _ = (glue sep w ws).data.toList
    rw [glue_data]
    unfold Go.Lib.joinTail
    rw [List.map_map]; rfl

theorem join_tells (ws : List ByteArray) (sep : ByteArray) (hl : ws.length ≤ 140737488355328) (hs : (lineWith sep ws).size ≤ 140737488355328) : strings_Join.f ws sep = some (lineWith sep ws) := by
  unfold strings_Join.f
  rw [join_bytes, if_pos ⟨hl, by rw [size_data]; exact hs⟩]

end DocPure
