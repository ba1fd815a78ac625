-- Written by a program of this session (xprint). -- COMPACT
import Derived.Test.YthcfocpimoghbaaProg
import Derived.Below
import Derived.Deep.Draws
import Derived.Deep.AppendLies
import Derived.Maps.AppendAt
import Derived.OwnWalk
import Derived.Laws.BytesArg
import Derived.Laws.MakeOwn
import Derived.Laws.OwnMore
import Derived.Deep.OwnRows
import Derived.Tactics
import Derived.Lib.ConvBytes
import Derived.Laws.Slices
import Derived.WalkKit
import Derived.KernelRfl
import Derived.RowKit3
import Derived.Deep.LoopGhost
import Derived.Deep.QuietTactic
import Derived.BigQuiet
import Derived.WideLaws
import Derived.Deep.DeepCutAuto
import Derived.Deep.CutBlock
import Derived.Deep.RegionHeld3
import Derived.Laws.Rows
import Derived.Lib.AppendStr
import Derived.ArgAppend
import Derived.Laws.IdiomCopy
import Derived.OrdersHeld
import Derived.Laws.BitsLemmas
import Derived.RowKit
import Derived.Test.YthcfocpimoghbaaShelf
import Derived.Test.YthcfocpimoghbaaWWords
import Derived.Test.YthcfocpimoghbaaWLast
import Derived.Test.YthcfocpimoghbaaWTab
import Derived.Test.YthcfocpimoghbaaWFour
import Derived.Test.YthcfocpimoghbaaWQPut
import Derived.Test.YthcfocpimoghbaaWApart
import Derived.Test.YthcfocpimoghbaaWArr
import Derived.Test.YthcfocpimoghbaaWZeros
import Derived.Test.YthcfocpimoghbaaWFoot
import Derived.Test.YthcfocpimoghbaaWKept
import Derived.Test.YthcfocpimoghbaaWShare
import Derived.Test.YthcfocpimoghbaaWN
import Derived.Test.YthcfocpimoghbaaWFootNe
import Derived.Test.YthcfocpimoghbaaWAt
import Derived.Test.YthcfocpimoghbaaWEqStruct
import Derived.Test.YthcfocpimoghbaaWRepsOne
import Derived.Test.YthcfocpimoghbaaWInv
import Derived.Test.YthcfocpimoghbaaWInvWords
import Derived.Test.YthcfocpimoghbaaWGuard
import Derived.Test.YthcfocpimoghbaaWNEv
import Derived.Test.YthcfocpimoghbaaWMore
namespace Go.Proofs.Ythcfocpimoghbaa.PWb
open Go.RowKit Go.Proofs.YthcfocpimoghbaaW.PrintWords Go.Proofs.YthcfocpimoghbaaW.PrintLast Go.Proofs.YthcfocpimoghbaaW.PrintMore
attribute [local go_sem] max2_int min2_int max_two min_two max_three min_three max_four min_four   -- for this text's walks alone
set_option linter.unusedVariables false
set_option linter.unusedSimpArgs false



def errW : Option Int → Value
 | none => .nilIface
 | some c => .iface 0 (.int .i64 c)
theorem errW_none : errW none = .nilIface := rfl
theorem errW_some (c : Int) : errW (some c) = .iface 0 (.int .i64 c) := rfl

theorem info3 : (Try.prog.info? 3).map (fun i => (i.zero, i.size, i.bytes)) = some (some (.int .i64 0), 1, 8) := by kernel_rfl
theorem info5 : (Try.prog.info? 5).map (fun i => (i.zero, i.size, i.bytes)) = some (some (.int .u8 0), 1, 1) := by kernel_rfl
theorem info9 : (Try.prog.info? 9).map (fun i => (i.zero, i.size, i.bytes)) = some (some (.string ⟨#[]⟩), 1, 16) := by kernel_rfl
-- the values' own types

end Go.Proofs.Ythcfocpimoghbaa.PWb
