/-
  No cell of these rows narrows 'for every input' (looked for: loops, veiled, ifaces, maps, wideKeys, modest, calm, conditions, laid).
  DERIVED. THE GIVEN ROWS OF THIS SEAT. 11 by the template 'for every input the law returns true; each argument reads behind the call as it read before'; 0 by the template 'total and deterministic' (their statements: YtcbjlaphoajngaaTotals.lean).
  GIVEN WITH THE SEED: the statements are not yours to turn. If you find one false, say at which input.
  Laid BY PROGRAM, IN A SANDBOX (cutbox-rows.mjs): the forced cells as the released guide's own fill.sh prints them over the translation 506fdcacf96bf44f… (all of the seat's roots in one cut). By AI agents, Wed Nov 11 2026. No macro, syntax, notation, axiom, sorry.
-/
import Derived.Test.YtcbjlaphoajngaaChecked
import GoSem.Claim
import GoSem.ClaimJoined
import GoSem.ClaimMapViews
import Derived.JoinedTies
import Derived.KernelRfl
namespace Go.Proofs.Ytcbjlaphoajngaa
/- THE CELL 'sum', in the pinned program and in every row, IS THE sha256 OF THE DUMP (.gsa) THAT YtcbjlaphoajngaaProg.lean LOADS. Nothing in Lean hashes anything: it is a label: what it is worth is what the hold of that sum in a sandbox is worth. -/
noncomputable def Try.pinned : Pinned := { name := "ytcbjlaphoajngaa", sum := "506fdcacf96bf44f7edb69d547a6e64f4dc4dd3dd50e605d03175988039a7de8", checked := Try.checked }
namespace Rows
def none {H : Type} : Left H := { results := [], args := [] }

/-- 'laws.FnExactWordsValid': WHATEVER THE INPUT: true; the input reads as it did. -/
def fnExactWordsValidSpec : ChangeSpec := { name := "fnExactWordsValid", fn := fun _ => fun
  | [d] => { results := [.lit (.bool true)], args := [d] }
  | _ => none }
def fnExactWordsValidRow : OpenClaim := { program := "ytcbjlaphoajngaa", sum := "506fdcacf96bf44f7edb69d547a6e64f4dc4dd3dd50e605d03175988039a7de8", func := "loop.example/docalgebra/laws.FnExactWordsValid", spec := "fnExactWordsValid", inPlace := ["internal/bytealg.IndexByteString"], apart := false }
def FnExactWordsValidSaid : Prop := fnExactWordsValidRow.holds Try.pinned (OpenSpec.ofChange fnExactWordsValidSpec)

/-- ITS FALSE NEIGHBOUR: 'it returns false'. Refute it at one input. -/
def fnExactWordsValidWrong : ChangeSpec := { name := "fnExactWordsValid", fn := fun _ => fun
  | [d] => { results := [.lit (.bool false)], args := [d] }
  | _ => none }
def FnExactWordsValidWrongFalsely : Prop := fnExactWordsValidRow.holds Try.pinned (OpenSpec.ofChange fnExactWordsValidWrong)

/-- 'laws.FnExactSplitWidths': WHATEVER THE INPUT: true; the input reads as it did. -/
def fnExactSplitWidthsSpec : ChangeSpec := { name := "fnExactSplitWidths", fn := fun _ => fun
  | [d1, d2] => { results := [.lit (.bool true)], args := [d1, d2] }
  | _ => none }
def fnExactSplitWidthsRow : OpenClaim := { program := "ytcbjlaphoajngaa", sum := "506fdcacf96bf44f7edb69d547a6e64f4dc4dd3dd50e605d03175988039a7de8", func := "loop.example/docalgebra/laws.FnExactSplitWidths", spec := "fnExactSplitWidths", apart := false }
def FnExactSplitWidthsSaid : Prop := fnExactSplitWidthsRow.holds Try.pinned (OpenSpec.ofChange fnExactSplitWidthsSpec)

/-- ITS FALSE NEIGHBOUR: 'it returns false'. Refute it at one input. -/
def fnExactSplitWidthsWrong : ChangeSpec := { name := "fnExactSplitWidths", fn := fun _ => fun
  | [d1, d2] => { results := [.lit (.bool false)], args := [d1, d2] }
  | _ => none }
def FnExactSplitWidthsWrongFalsely : Prop := fnExactSplitWidthsRow.holds Try.pinned (OpenSpec.ofChange fnExactSplitWidthsWrong)

/-- 'laws.FnSplitMore': WHATEVER THE INPUT: true; the input reads as it did. -/
def fnSplitMoreSpec : ChangeSpec := { name := "fnSplitMore", fn := fun _ => fun
  | [d] => { results := [.lit (.bool true)], args := [d] }
  | _ => none }
def fnSplitMoreRow : OpenClaim := { program := "ytcbjlaphoajngaa", sum := "506fdcacf96bf44f7edb69d547a6e64f4dc4dd3dd50e605d03175988039a7de8", func := "loop.example/docalgebra/laws.FnSplitMore", spec := "fnSplitMore", apart := false }
def FnSplitMoreSaid : Prop := fnSplitMoreRow.holds Try.pinned (OpenSpec.ofChange fnSplitMoreSpec)

/-- ITS FALSE NEIGHBOUR: 'it returns false'. Refute it at one input. -/
def fnSplitMoreWrong : ChangeSpec := { name := "fnSplitMore", fn := fun _ => fun
  | [d] => { results := [.lit (.bool false)], args := [d] }
  | _ => none }
def FnSplitMoreWrongFalsely : Prop := fnSplitMoreRow.holds Try.pinned (OpenSpec.ofChange fnSplitMoreWrong)

/-- 'laws.FnSplitWidths': WHATEVER THE INPUT: true; the input reads as it did. -/
def fnSplitWidthsSpec : ChangeSpec := { name := "fnSplitWidths", fn := fun _ => fun
  | [d] => { results := [.lit (.bool true)], args := [d] }
  | _ => none }
def fnSplitWidthsRow : OpenClaim := { program := "ytcbjlaphoajngaa", sum := "506fdcacf96bf44f7edb69d547a6e64f4dc4dd3dd50e605d03175988039a7de8", func := "loop.example/docalgebra/laws.FnSplitWidths", spec := "fnSplitWidths", apart := false }
def FnSplitWidthsSaid : Prop := fnSplitWidthsRow.holds Try.pinned (OpenSpec.ofChange fnSplitWidthsSpec)

/-- ITS FALSE NEIGHBOUR: 'it returns false'. Refute it at one input. -/
def fnSplitWidthsWrong : ChangeSpec := { name := "fnSplitWidths", fn := fun _ => fun
  | [d] => { results := [.lit (.bool false)], args := [d] }
  | _ => none }
def FnSplitWidthsWrongFalsely : Prop := fnSplitWidthsRow.holds Try.pinned (OpenSpec.ofChange fnSplitWidthsWrong)

/-- 'laws.FnWrapWider': WHATEVER THE INPUT: true; the input reads as it did. -/
def fnWrapWiderSpec : ChangeSpec := { name := "fnWrapWider", fn := fun _ => fun
  | [d] => { results := [.lit (.bool true)], args := [d] }
  | _ => none }
def fnWrapWiderRow : OpenClaim := { program := "ytcbjlaphoajngaa", sum := "506fdcacf96bf44f7edb69d547a6e64f4dc4dd3dd50e605d03175988039a7de8", func := "loop.example/docalgebra/laws.FnWrapWider", spec := "fnWrapWider", inPlace := ["internal/bytealg.IndexByteString"], apart := false }
def FnWrapWiderSaid : Prop := fnWrapWiderRow.holds Try.pinned (OpenSpec.ofChange fnWrapWiderSpec)

/-- ITS FALSE NEIGHBOUR: 'it returns false'. Refute it at one input. -/
def fnWrapWiderWrong : ChangeSpec := { name := "fnWrapWider", fn := fun _ => fun
  | [d] => { results := [.lit (.bool false)], args := [d] }
  | _ => none }
def FnWrapWiderWrongFalsely : Prop := fnWrapWiderRow.holds Try.pinned (OpenSpec.ofChange fnWrapWiderWrong)

/-- 'laws.FnExactWrapGreedy': WHATEVER THE INPUT: true; the input reads as it did. -/
def fnExactWrapGreedySpec : ChangeSpec := { name := "fnExactWrapGreedy", fn := fun _ => fun
  | [d1, d2] => { results := [.lit (.bool true)], args := [d1, d2] }
  | _ => none }
def fnExactWrapGreedyRow : OpenClaim := { program := "ytcbjlaphoajngaa", sum := "506fdcacf96bf44f7edb69d547a6e64f4dc4dd3dd50e605d03175988039a7de8", func := "loop.example/docalgebra/laws.FnExactWrapGreedy", spec := "fnExactWrapGreedy", inPlace := ["internal/bytealg.IndexByteString"], apart := false }
def FnExactWrapGreedySaid : Prop := fnExactWrapGreedyRow.holds Try.pinned (OpenSpec.ofChange fnExactWrapGreedySpec)

/-- ITS FALSE NEIGHBOUR: 'it returns false'. Refute it at one input. -/
def fnExactWrapGreedyWrong : ChangeSpec := { name := "fnExactWrapGreedy", fn := fun _ => fun
  | [d1, d2] => { results := [.lit (.bool false)], args := [d1, d2] }
  | _ => none }
def FnExactWrapGreedyWrongFalsely : Prop := fnExactWrapGreedyRow.holds Try.pinned (OpenSpec.ofChange fnExactWrapGreedyWrong)

/-- 'laws.FnFlipCells': WHATEVER THE INPUT: true; the input reads as it did. -/
def fnFlipCellsSpec : ChangeSpec := { name := "fnFlipCells", fn := fun _ => fun
  | [d] => { results := [.lit (.bool true)], args := [d] }
  | _ => none }
def fnFlipCellsRow : OpenClaim := { program := "ytcbjlaphoajngaa", sum := "506fdcacf96bf44f7edb69d547a6e64f4dc4dd3dd50e605d03175988039a7de8", func := "loop.example/docalgebra/laws.FnFlipCells", spec := "fnFlipCells", inPlace := ["internal/bytealg.IndexByteString"], apart := false }
def FnFlipCellsSaid : Prop := fnFlipCellsRow.holds Try.pinned (OpenSpec.ofChange fnFlipCellsSpec)

/-- ITS FALSE NEIGHBOUR: 'it returns false'. Refute it at one input. -/
def fnFlipCellsWrong : ChangeSpec := { name := "fnFlipCells", fn := fun _ => fun
  | [d] => { results := [.lit (.bool false)], args := [d] }
  | _ => none }
def FnFlipCellsWrongFalsely : Prop := fnFlipCellsRow.holds Try.pinned (OpenSpec.ofChange fnFlipCellsWrong)

/-- 'laws.FnColumnWidths': WHATEVER THE INPUT: true; the input reads as it did. -/
def fnColumnWidthsSpec : ChangeSpec := { name := "fnColumnWidths", fn := fun _ => fun
  | [d] => { results := [.lit (.bool true)], args := [d] }
  | _ => none }
def fnColumnWidthsRow : OpenClaim := { program := "ytcbjlaphoajngaa", sum := "506fdcacf96bf44f7edb69d547a6e64f4dc4dd3dd50e605d03175988039a7de8", func := "loop.example/docalgebra/laws.FnColumnWidths", spec := "fnColumnWidths", inPlace := ["internal/bytealg.IndexByteString"], apart := false }
def FnColumnWidthsSaid : Prop := fnColumnWidthsRow.holds Try.pinned (OpenSpec.ofChange fnColumnWidthsSpec)

/-- ITS FALSE NEIGHBOUR: 'it returns false'. Refute it at one input. -/
def fnColumnWidthsWrong : ChangeSpec := { name := "fnColumnWidths", fn := fun _ => fun
  | [d] => { results := [.lit (.bool false)], args := [d] }
  | _ => none }
def FnColumnWidthsWrongFalsely : Prop := fnColumnWidthsRow.holds Try.pinned (OpenSpec.ofChange fnColumnWidthsWrong)

/-- 'laws.FnFlipWidths': WHATEVER THE INPUT: true; the input reads as it did. -/
def fnFlipWidthsSpec : ChangeSpec := { name := "fnFlipWidths", fn := fun _ => fun
  | [d] => { results := [.lit (.bool true)], args := [d] }
  | _ => none }
def fnFlipWidthsRow : OpenClaim := { program := "ytcbjlaphoajngaa", sum := "506fdcacf96bf44f7edb69d547a6e64f4dc4dd3dd50e605d03175988039a7de8", func := "loop.example/docalgebra/laws.FnFlipWidths", spec := "fnFlipWidths", inPlace := ["internal/bytealg.IndexByteString"], apart := false }
def FnFlipWidthsSaid : Prop := fnFlipWidthsRow.holds Try.pinned (OpenSpec.ofChange fnFlipWidthsSpec)

/-- ITS FALSE NEIGHBOUR: 'it returns false'. Refute it at one input. -/
def fnFlipWidthsWrong : ChangeSpec := { name := "fnFlipWidths", fn := fun _ => fun
  | [d] => { results := [.lit (.bool false)], args := [d] }
  | _ => none }
def FnFlipWidthsWrongFalsely : Prop := fnFlipWidthsRow.holds Try.pinned (OpenSpec.ofChange fnFlipWidthsWrong)

/-- 'laws.FnExactFlipCells': WHATEVER THE INPUT: true; the input reads as it did. -/
def fnExactFlipCellsSpec : ChangeSpec := { name := "fnExactFlipCells", fn := fun _ => fun
  | [d] => { results := [.lit (.bool true)], args := [d] }
  | _ => none }
def fnExactFlipCellsRow : OpenClaim := { program := "ytcbjlaphoajngaa", sum := "506fdcacf96bf44f7edb69d547a6e64f4dc4dd3dd50e605d03175988039a7de8", func := "loop.example/docalgebra/laws.FnExactFlipCells", spec := "fnExactFlipCells", inPlace := ["internal/bytealg.IndexByteString"], apart := false }
def FnExactFlipCellsSaid : Prop := fnExactFlipCellsRow.holds Try.pinned (OpenSpec.ofChange fnExactFlipCellsSpec)

/-- ITS FALSE NEIGHBOUR: 'it returns false'. Refute it at one input. -/
def fnExactFlipCellsWrong : ChangeSpec := { name := "fnExactFlipCells", fn := fun _ => fun
  | [d] => { results := [.lit (.bool false)], args := [d] }
  | _ => none }
def FnExactFlipCellsWrongFalsely : Prop := fnExactFlipCellsRow.holds Try.pinned (OpenSpec.ofChange fnExactFlipCellsWrong)

/-- 'laws.FnExactColumnWidths': WHATEVER THE INPUT: true; the input reads as it did. -/
def fnExactColumnWidthsSpec : ChangeSpec := { name := "fnExactColumnWidths", fn := fun _ => fun
  | [d] => { results := [.lit (.bool true)], args := [d] }
  | _ => none }
def fnExactColumnWidthsRow : OpenClaim := { program := "ytcbjlaphoajngaa", sum := "506fdcacf96bf44f7edb69d547a6e64f4dc4dd3dd50e605d03175988039a7de8", func := "loop.example/docalgebra/laws.FnExactColumnWidths", spec := "fnExactColumnWidths", inPlace := ["internal/bytealg.IndexByteString"], apart := false }
def FnExactColumnWidthsSaid : Prop := fnExactColumnWidthsRow.holds Try.pinned (OpenSpec.ofChange fnExactColumnWidthsSpec)

/-- ITS FALSE NEIGHBOUR: 'it returns false'. Refute it at one input. -/
def fnExactColumnWidthsWrong : ChangeSpec := { name := "fnExactColumnWidths", fn := fun _ => fun
  | [d] => { results := [.lit (.bool false)], args := [d] }
  | _ => none }
def FnExactColumnWidthsWrongFalsely : Prop := fnExactColumnWidthsRow.holds Try.pinned (OpenSpec.ofChange fnExactColumnWidthsWrong)

/- THE SECOND FORM. 'bulk': how many values and letters a reading holds, each counted each time it is reached (what is shared counts as often as it is met; a slice's spare places count too). A statement '..UptoSaid' is the law's where the arguments, and the package variables that the reading takes, are together of bulk at most 1048576: NARROWER than '..Said'. Prove '..Said' where nothing that the law and all that it calls make is longer than what came in: it says more and counts as full. Else prove '..UptoSaid'. A law counts once. -/
mutual
def uptoBulk {H : Type} : DataW H → Nat
  | .lit (.string bytes) => bytes.length + 1
  | .lit _ => 1
  | .nil => 1
  | .ptr d => uptoBulk d + 1
  | .slice elems spare => uptoBulkAll elems + uptoBulkAll spare + 1
  | .agg parts => uptoBulkAll parts + 1
  | .iface _ d => uptoBulk d + 1
  | .map entries => uptoBulkEntries entries + 1
  | .held _ => 1
def uptoBulkAll {H : Type} : List (DataW H) → Nat
  | [] => 0
  | d :: r => uptoBulk d + uptoBulkAll r
def uptoBulkEntries {H : Type} : List (Lit × DataW H) → Nat
  | [] => 0
  | x :: r => uptoBulkEntry x + uptoBulkEntries r
def uptoBulkEntry {H : Type} : Lit × DataW H → Nat
  | (.string bytes, d) => bytes.length + uptoBulk d + 1
  | (_, d) => uptoBulk d + 1
 end
def uptoSmall : (H : Type) → List (DataW H) → Bool := fun _ ds => decide (uptoBulkAll ds ≤ 1048576)
def OpenSpec.upto (s : _root_.Go.ChangeSpec) : _root_.Go.OpenSpec := { _root_.Go.OpenSpec.ofChange s with cond := some uptoSmall }

/-- 'laws.FnExactWordsValid', WHERE WHAT IT READS IS OF BULK AT MOST 1048576: true; the input reads as it did. -/
def fnExactWordsValidUptoRow : OpenClaim := { program := "ytcbjlaphoajngaa", sum := "506fdcacf96bf44f7edb69d547a6e64f4dc4dd3dd50e605d03175988039a7de8", func := "loop.example/docalgebra/laws.FnExactWordsValid", spec := "fnExactWordsValid", inPlace := ["internal/bytealg.IndexByteString"], apart := false, narrowed := true }
def FnExactWordsValidUptoSaid : Prop := fnExactWordsValidUptoRow.holds Try.pinned (OpenSpec.upto fnExactWordsValidSpec)

/-- 'laws.FnExactSplitWidths', WHERE WHAT IT READS IS OF BULK AT MOST 1048576: true; the input reads as it did. -/
def fnExactSplitWidthsUptoRow : OpenClaim := { program := "ytcbjlaphoajngaa", sum := "506fdcacf96bf44f7edb69d547a6e64f4dc4dd3dd50e605d03175988039a7de8", func := "loop.example/docalgebra/laws.FnExactSplitWidths", spec := "fnExactSplitWidths", apart := false, narrowed := true }
def FnExactSplitWidthsUptoSaid : Prop := fnExactSplitWidthsUptoRow.holds Try.pinned (OpenSpec.upto fnExactSplitWidthsSpec)

/-- 'laws.FnSplitMore', WHERE WHAT IT READS IS OF BULK AT MOST 1048576: true; the input reads as it did. -/
def fnSplitMoreUptoRow : OpenClaim := { program := "ytcbjlaphoajngaa", sum := "506fdcacf96bf44f7edb69d547a6e64f4dc4dd3dd50e605d03175988039a7de8", func := "loop.example/docalgebra/laws.FnSplitMore", spec := "fnSplitMore", apart := false, narrowed := true }
def FnSplitMoreUptoSaid : Prop := fnSplitMoreUptoRow.holds Try.pinned (OpenSpec.upto fnSplitMoreSpec)

/-- 'laws.FnSplitWidths', WHERE WHAT IT READS IS OF BULK AT MOST 1048576: true; the input reads as it did. -/
def fnSplitWidthsUptoRow : OpenClaim := { program := "ytcbjlaphoajngaa", sum := "506fdcacf96bf44f7edb69d547a6e64f4dc4dd3dd50e605d03175988039a7de8", func := "loop.example/docalgebra/laws.FnSplitWidths", spec := "fnSplitWidths", apart := false, narrowed := true }
def FnSplitWidthsUptoSaid : Prop := fnSplitWidthsUptoRow.holds Try.pinned (OpenSpec.upto fnSplitWidthsSpec)

/-- 'laws.FnWrapWider', WHERE WHAT IT READS IS OF BULK AT MOST 1048576: true; the input reads as it did. -/
def fnWrapWiderUptoRow : OpenClaim := { program := "ytcbjlaphoajngaa", sum := "506fdcacf96bf44f7edb69d547a6e64f4dc4dd3dd50e605d03175988039a7de8", func := "loop.example/docalgebra/laws.FnWrapWider", spec := "fnWrapWider", inPlace := ["internal/bytealg.IndexByteString"], apart := false, narrowed := true }
def FnWrapWiderUptoSaid : Prop := fnWrapWiderUptoRow.holds Try.pinned (OpenSpec.upto fnWrapWiderSpec)

/-- 'laws.FnExactWrapGreedy', WHERE WHAT IT READS IS OF BULK AT MOST 1048576: true; the input reads as it did. -/
def fnExactWrapGreedyUptoRow : OpenClaim := { program := "ytcbjlaphoajngaa", sum := "506fdcacf96bf44f7edb69d547a6e64f4dc4dd3dd50e605d03175988039a7de8", func := "loop.example/docalgebra/laws.FnExactWrapGreedy", spec := "fnExactWrapGreedy", inPlace := ["internal/bytealg.IndexByteString"], apart := false, narrowed := true }
def FnExactWrapGreedyUptoSaid : Prop := fnExactWrapGreedyUptoRow.holds Try.pinned (OpenSpec.upto fnExactWrapGreedySpec)

/-- 'laws.FnFlipCells', WHERE WHAT IT READS IS OF BULK AT MOST 1048576: true; the input reads as it did. -/
def fnFlipCellsUptoRow : OpenClaim := { program := "ytcbjlaphoajngaa", sum := "506fdcacf96bf44f7edb69d547a6e64f4dc4dd3dd50e605d03175988039a7de8", func := "loop.example/docalgebra/laws.FnFlipCells", spec := "fnFlipCells", inPlace := ["internal/bytealg.IndexByteString"], apart := false, narrowed := true }
def FnFlipCellsUptoSaid : Prop := fnFlipCellsUptoRow.holds Try.pinned (OpenSpec.upto fnFlipCellsSpec)

/-- 'laws.FnColumnWidths', WHERE WHAT IT READS IS OF BULK AT MOST 1048576: true; the input reads as it did. -/
def fnColumnWidthsUptoRow : OpenClaim := { program := "ytcbjlaphoajngaa", sum := "506fdcacf96bf44f7edb69d547a6e64f4dc4dd3dd50e605d03175988039a7de8", func := "loop.example/docalgebra/laws.FnColumnWidths", spec := "fnColumnWidths", inPlace := ["internal/bytealg.IndexByteString"], apart := false, narrowed := true }
def FnColumnWidthsUptoSaid : Prop := fnColumnWidthsUptoRow.holds Try.pinned (OpenSpec.upto fnColumnWidthsSpec)

/-- 'laws.FnFlipWidths', WHERE WHAT IT READS IS OF BULK AT MOST 1048576: true; the input reads as it did. -/
def fnFlipWidthsUptoRow : OpenClaim := { program := "ytcbjlaphoajngaa", sum := "506fdcacf96bf44f7edb69d547a6e64f4dc4dd3dd50e605d03175988039a7de8", func := "loop.example/docalgebra/laws.FnFlipWidths", spec := "fnFlipWidths", inPlace := ["internal/bytealg.IndexByteString"], apart := false, narrowed := true }
def FnFlipWidthsUptoSaid : Prop := fnFlipWidthsUptoRow.holds Try.pinned (OpenSpec.upto fnFlipWidthsSpec)

/-- 'laws.FnExactFlipCells', WHERE WHAT IT READS IS OF BULK AT MOST 1048576: true; the input reads as it did. -/
def fnExactFlipCellsUptoRow : OpenClaim := { program := "ytcbjlaphoajngaa", sum := "506fdcacf96bf44f7edb69d547a6e64f4dc4dd3dd50e605d03175988039a7de8", func := "loop.example/docalgebra/laws.FnExactFlipCells", spec := "fnExactFlipCells", inPlace := ["internal/bytealg.IndexByteString"], apart := false, narrowed := true }
def FnExactFlipCellsUptoSaid : Prop := fnExactFlipCellsUptoRow.holds Try.pinned (OpenSpec.upto fnExactFlipCellsSpec)

/-- 'laws.FnExactColumnWidths', WHERE WHAT IT READS IS OF BULK AT MOST 1048576: true; the input reads as it did. -/
def fnExactColumnWidthsUptoRow : OpenClaim := { program := "ytcbjlaphoajngaa", sum := "506fdcacf96bf44f7edb69d547a6e64f4dc4dd3dd50e605d03175988039a7de8", func := "loop.example/docalgebra/laws.FnExactColumnWidths", spec := "fnExactColumnWidths", inPlace := ["internal/bytealg.IndexByteString"], apart := false, narrowed := true }
def FnExactColumnWidthsUptoSaid : Prop := fnExactColumnWidthsUptoRow.holds Try.pinned (OpenSpec.upto fnExactColumnWidthsSpec)

end Rows
end Go.Proofs.Ytcbjlaphoajngaa
