/-
  No cell of these rows narrows 'for every input' (looked for: loops, veiled, ifaces, maps, wideKeys, modest, calm, conditions, laid).
  DERIVED. THE GIVEN ROWS OF THIS SEAT. 11 by the template 'for every input the law returns true; each argument reads behind the call as it read before'; 0 by the template 'total and deterministic' (their statements: YtkcpimhohadjkaaTotals.lean).
  GIVEN WITH THE SEED: the statements are not yours to turn. If you find one false, say at which input.
  Laid BY PROGRAM, IN A SANDBOX (cutbox-rows.mjs): the forced cells as the released guide's own fill.sh prints them over the translation 4053e1f976192a75… (all of the seat's roots in one cut). By AI agents, Wed Nov 11 2026. No macro, syntax, notation, axiom, sorry.
-/
import Derived.Test.YtkcpimhohadjkaaChecked
import GoSem.Claim
import GoSem.ClaimJoined
import GoSem.ClaimMapViews
import Derived.JoinedTies
import Derived.KernelRfl
namespace Go.Proofs.Ytkcpimhohadjkaa
/- THE CELL 'sum', in the pinned program and in every row, IS THE sha256 OF THE DUMP (.gsa) THAT YtkcpimhohadjkaaProg.lean LOADS. Nothing in Lean hashes anything: it is a label: what it is worth is what the hold of that sum in a sandbox is worth. -/
noncomputable def Try.pinned : Pinned := { name := "ytkcpimhohadjkaa", sum := "4053e1f976192a750ac004b019b25b42d33d0406f55dbed8948afa8df9faeed5", checked := Try.checked }
namespace Rows
def none {H : Type} : Left H := { results := [], args := [] }

/-- 'laws.FnExactPadLines': WHATEVER THE INPUT: true; the input reads as it did. -/
def fnExactPadLinesSpec : ChangeSpec := { name := "fnExactPadLines", fn := fun _ => fun
  | [d1, d2] => { results := [.lit (.bool true)], args := [d1, d2] }
  | _ => none }
def fnExactPadLinesRow : OpenClaim := { program := "ytkcpimhohadjkaa", sum := "4053e1f976192a750ac004b019b25b42d33d0406f55dbed8948afa8df9faeed5", func := "loop.example/docalgebra/laws.FnExactPadLines", spec := "fnExactPadLines", inPlace := ["internal/bytealg.IndexByteString", "internal/abi.NoEscape", "internal/bytealg.MakeNoZero"], apart := false }
def FnExactPadLinesSaid : Prop := fnExactPadLinesRow.holds Try.pinned (OpenSpec.ofChange fnExactPadLinesSpec)

/-- ITS FALSE NEIGHBOUR: 'it returns false'. Refute it at one input. -/
def fnExactPadLinesWrong : ChangeSpec := { name := "fnExactPadLines", fn := fun _ => fun
  | [d1, d2] => { results := [.lit (.bool false)], args := [d1, d2] }
  | _ => none }
def FnExactPadLinesWrongFalsely : Prop := fnExactPadLinesRow.holds Try.pinned (OpenSpec.ofChange fnExactPadLinesWrong)

/-- 'laws.FnBesideLines': WHATEVER THE INPUT: true; the input reads as it did. -/
def fnBesideLinesSpec : ChangeSpec := { name := "fnBesideLines", fn := fun _ => fun
  | [d] => { results := [.lit (.bool true)], args := [d] }
  | _ => none }
def fnBesideLinesRow : OpenClaim := { program := "ytkcpimhohadjkaa", sum := "4053e1f976192a750ac004b019b25b42d33d0406f55dbed8948afa8df9faeed5", func := "loop.example/docalgebra/laws.FnBesideLines", spec := "fnBesideLines", inPlace := ["internal/bytealg.IndexByteString", "internal/abi.NoEscape", "internal/bytealg.MakeNoZero"], recurses := true, apart := false }
def FnBesideLinesSaid : Prop := fnBesideLinesRow.holds Try.pinned (OpenSpec.ofChange fnBesideLinesSpec)

/-- ITS FALSE NEIGHBOUR: 'it returns false'. Refute it at one input. -/
def fnBesideLinesWrong : ChangeSpec := { name := "fnBesideLines", fn := fun _ => fun
  | [d] => { results := [.lit (.bool false)], args := [d] }
  | _ => none }
def FnBesideLinesWrongFalsely : Prop := fnBesideLinesRow.holds Try.pinned (OpenSpec.ofChange fnBesideLinesWrong)

/-- 'laws.FnExactTableLines': WHATEVER THE INPUT: true; the input reads as it did. -/
def fnExactTableLinesSpec : ChangeSpec := { name := "fnExactTableLines", fn := fun _ => fun
  | [d1, d2] => { results := [.lit (.bool true)], args := [d1, d2] }
  | _ => none }
def fnExactTableLinesRow : OpenClaim := { program := "ytkcpimhohadjkaa", sum := "4053e1f976192a750ac004b019b25b42d33d0406f55dbed8948afa8df9faeed5", func := "loop.example/docalgebra/laws.FnExactTableLines", spec := "fnExactTableLines", inPlace := ["internal/bytealg.IndexByteString", "internal/abi.NoEscape", "internal/bytealg.MakeNoZero"], apart := false }
def FnExactTableLinesSaid : Prop := fnExactTableLinesRow.holds Try.pinned (OpenSpec.ofChange fnExactTableLinesSpec)

/-- ITS FALSE NEIGHBOUR: 'it returns false'. Refute it at one input. -/
def fnExactTableLinesWrong : ChangeSpec := { name := "fnExactTableLines", fn := fun _ => fun
  | [d1, d2] => { results := [.lit (.bool false)], args := [d1, d2] }
  | _ => none }
def FnExactTableLinesWrongFalsely : Prop := fnExactTableLinesRow.holds Try.pinned (OpenSpec.ofChange fnExactTableLinesWrong)

/-- 'laws.FnPadWide': WHATEVER THE INPUT: true; the input reads as it did. -/
def fnPadWideSpec : ChangeSpec := { name := "fnPadWide", fn := fun _ => fun
  | [d] => { results := [.lit (.bool true)], args := [d] }
  | _ => none }
def fnPadWideRow : OpenClaim := { program := "ytkcpimhohadjkaa", sum := "4053e1f976192a750ac004b019b25b42d33d0406f55dbed8948afa8df9faeed5", func := "loop.example/docalgebra/laws.FnPadWide", spec := "fnPadWide", inPlace := ["internal/bytealg.IndexByteString", "internal/abi.NoEscape", "internal/bytealg.MakeNoZero"], recurses := true, apart := false }
def FnPadWideSaid : Prop := fnPadWideRow.holds Try.pinned (OpenSpec.ofChange fnPadWideSpec)

/-- ITS FALSE NEIGHBOUR: 'it returns false'. Refute it at one input. -/
def fnPadWideWrong : ChangeSpec := { name := "fnPadWide", fn := fun _ => fun
  | [d] => { results := [.lit (.bool false)], args := [d] }
  | _ => none }
def FnPadWideWrongFalsely : Prop := fnPadWideRow.holds Try.pinned (OpenSpec.ofChange fnPadWideWrong)

/-- 'laws.FnOffsetEnd': WHATEVER THE INPUT: true; the input reads as it did. -/
def fnOffsetEndSpec : ChangeSpec := { name := "fnOffsetEnd", fn := fun _ => fun
  | [d] => { results := [.lit (.bool true)], args := [d] }
  | _ => none }
def fnOffsetEndRow : OpenClaim := { program := "ytkcpimhohadjkaa", sum := "4053e1f976192a750ac004b019b25b42d33d0406f55dbed8948afa8df9faeed5", func := "loop.example/docalgebra/laws.FnOffsetEnd", spec := "fnOffsetEnd", inPlace := ["internal/bytealg.IndexByteString", "internal/abi.NoEscape", "internal/bytealg.MakeNoZero"], recurses := true, apart := false }
def FnOffsetEndSaid : Prop := fnOffsetEndRow.holds Try.pinned (OpenSpec.ofChange fnOffsetEndSpec)

/-- ITS FALSE NEIGHBOUR: 'it returns false'. Refute it at one input. -/
def fnOffsetEndWrong : ChangeSpec := { name := "fnOffsetEnd", fn := fun _ => fun
  | [d] => { results := [.lit (.bool false)], args := [d] }
  | _ => none }
def FnOffsetEndWrongFalsely : Prop := fnOffsetEndRow.holds Try.pinned (OpenSpec.ofChange fnOffsetEndWrong)

/-- 'laws.FnOffsetOf': WHATEVER THE INPUT: true; the input reads as it did. -/
def fnOffsetOfSpec : ChangeSpec := { name := "fnOffsetOf", fn := fun _ => fun
  | [d] => { results := [.lit (.bool true)], args := [d] }
  | _ => none }
def fnOffsetOfRow : OpenClaim := { program := "ytkcpimhohadjkaa", sum := "4053e1f976192a750ac004b019b25b42d33d0406f55dbed8948afa8df9faeed5", func := "loop.example/docalgebra/laws.FnOffsetOf", spec := "fnOffsetOf", inPlace := ["internal/bytealg.IndexByteString", "internal/abi.NoEscape", "internal/bytealg.MakeNoZero"], recurses := true, apart := false }
def FnOffsetOfSaid : Prop := fnOffsetOfRow.holds Try.pinned (OpenSpec.ofChange fnOffsetOfSpec)

/-- ITS FALSE NEIGHBOUR: 'it returns false'. Refute it at one input. -/
def fnOffsetOfWrong : ChangeSpec := { name := "fnOffsetOf", fn := fun _ => fun
  | [d] => { results := [.lit (.bool false)], args := [d] }
  | _ => none }
def FnOffsetOfWrongFalsely : Prop := fnOffsetOfRow.holds Try.pinned (OpenSpec.ofChange fnOffsetOfWrong)

/-- 'laws.FnPlaceAt': WHATEVER THE INPUT: true; the input reads as it did. -/
def fnPlaceAtSpec : ChangeSpec := { name := "fnPlaceAt", fn := fun _ => fun
  | [d] => { results := [.lit (.bool true)], args := [d] }
  | _ => none }
def fnPlaceAtRow : OpenClaim := { program := "ytkcpimhohadjkaa", sum := "4053e1f976192a750ac004b019b25b42d33d0406f55dbed8948afa8df9faeed5", func := "loop.example/docalgebra/laws.FnPlaceAt", spec := "fnPlaceAt", inPlace := ["internal/bytealg.IndexByteString", "internal/abi.NoEscape", "internal/bytealg.MakeNoZero"], recurses := true, apart := false }
def FnPlaceAtSaid : Prop := fnPlaceAtRow.holds Try.pinned (OpenSpec.ofChange fnPlaceAtSpec)

/-- ITS FALSE NEIGHBOUR: 'it returns false'. Refute it at one input. -/
def fnPlaceAtWrong : ChangeSpec := { name := "fnPlaceAt", fn := fun _ => fun
  | [d] => { results := [.lit (.bool false)], args := [d] }
  | _ => none }
def FnPlaceAtWrongFalsely : Prop := fnPlaceAtRow.holds Try.pinned (OpenSpec.ofChange fnPlaceAtWrong)

/-- 'laws.FnBesideWidth': WHATEVER THE INPUT: true; the input reads as it did. -/
def fnBesideWidthSpec : ChangeSpec := { name := "fnBesideWidth", fn := fun _ => fun
  | [d] => { results := [.lit (.bool true)], args := [d] }
  | _ => none }
def fnBesideWidthRow : OpenClaim := { program := "ytkcpimhohadjkaa", sum := "4053e1f976192a750ac004b019b25b42d33d0406f55dbed8948afa8df9faeed5", func := "loop.example/docalgebra/laws.FnBesideWidth", spec := "fnBesideWidth", inPlace := ["internal/bytealg.IndexByteString", "internal/abi.NoEscape", "internal/bytealg.MakeNoZero"], recurses := true, apart := false }
def FnBesideWidthSaid : Prop := fnBesideWidthRow.holds Try.pinned (OpenSpec.ofChange fnBesideWidthSpec)

/-- ITS FALSE NEIGHBOUR: 'it returns false'. Refute it at one input. -/
def fnBesideWidthWrong : ChangeSpec := { name := "fnBesideWidth", fn := fun _ => fun
  | [d] => { results := [.lit (.bool false)], args := [d] }
  | _ => none }
def FnBesideWidthWrongFalsely : Prop := fnBesideWidthRow.holds Try.pinned (OpenSpec.ofChange fnBesideWidthWrong)

/-- 'laws.FnPadLines': WHATEVER THE INPUT: true; the input reads as it did. -/
def fnPadLinesSpec : ChangeSpec := { name := "fnPadLines", fn := fun _ => fun
  | [d] => { results := [.lit (.bool true)], args := [d] }
  | _ => none }
def fnPadLinesRow : OpenClaim := { program := "ytkcpimhohadjkaa", sum := "4053e1f976192a750ac004b019b25b42d33d0406f55dbed8948afa8df9faeed5", func := "loop.example/docalgebra/laws.FnPadLines", spec := "fnPadLines", inPlace := ["internal/bytealg.IndexByteString", "internal/abi.NoEscape", "internal/bytealg.MakeNoZero"], recurses := true, apart := false }
def FnPadLinesSaid : Prop := fnPadLinesRow.holds Try.pinned (OpenSpec.ofChange fnPadLinesSpec)

/-- ITS FALSE NEIGHBOUR: 'it returns false'. Refute it at one input. -/
def fnPadLinesWrong : ChangeSpec := { name := "fnPadLines", fn := fun _ => fun
  | [d] => { results := [.lit (.bool false)], args := [d] }
  | _ => none }
def FnPadLinesWrongFalsely : Prop := fnPadLinesRow.holds Try.pinned (OpenSpec.ofChange fnPadLinesWrong)

/-- 'laws.FnExactFlipCells': WHATEVER THE INPUT: true; the input reads as it did. -/
def fnExactFlipCellsSpec : ChangeSpec := { name := "fnExactFlipCells", fn := fun _ => fun
  | [d] => { results := [.lit (.bool true)], args := [d] }
  | _ => none }
def fnExactFlipCellsRow : OpenClaim := { program := "ytkcpimhohadjkaa", sum := "4053e1f976192a750ac004b019b25b42d33d0406f55dbed8948afa8df9faeed5", func := "loop.example/docalgebra/laws.FnExactFlipCells", spec := "fnExactFlipCells", inPlace := ["internal/bytealg.IndexByteString"], apart := false }
def FnExactFlipCellsSaid : Prop := fnExactFlipCellsRow.holds Try.pinned (OpenSpec.ofChange fnExactFlipCellsSpec)

/-- ITS FALSE NEIGHBOUR: 'it returns false'. Refute it at one input. -/
def fnExactFlipCellsWrong : ChangeSpec := { name := "fnExactFlipCells", fn := fun _ => fun
  | [d] => { results := [.lit (.bool false)], args := [d] }
  | _ => none }
def FnExactFlipCellsWrongFalsely : Prop := fnExactFlipCellsRow.holds Try.pinned (OpenSpec.ofChange fnExactFlipCellsWrong)

/-- 'laws.FnExactColumnWidths': WHATEVER THE INPUT: true; the input reads as it did. -/
def fnExactColumnWidthsSpec : ChangeSpec := { name := "fnExactColumnWidths", fn := fun _ => fun
  | [d] => { results := [.lit (.bool true)], args := [d] }
  | _ => none }
def fnExactColumnWidthsRow : OpenClaim := { program := "ytkcpimhohadjkaa", sum := "4053e1f976192a750ac004b019b25b42d33d0406f55dbed8948afa8df9faeed5", func := "loop.example/docalgebra/laws.FnExactColumnWidths", spec := "fnExactColumnWidths", inPlace := ["internal/bytealg.IndexByteString"], apart := false }
def FnExactColumnWidthsSaid : Prop := fnExactColumnWidthsRow.holds Try.pinned (OpenSpec.ofChange fnExactColumnWidthsSpec)

/-- ITS FALSE NEIGHBOUR: 'it returns false'. Refute it at one input. -/
def fnExactColumnWidthsWrong : ChangeSpec := { name := "fnExactColumnWidths", fn := fun _ => fun
  | [d] => { results := [.lit (.bool false)], args := [d] }
  | _ => none }
def FnExactColumnWidthsWrongFalsely : Prop := fnExactColumnWidthsRow.holds Try.pinned (OpenSpec.ofChange fnExactColumnWidthsWrong)

/- THE SECOND FORM. 'bulk': how many values and letters a reading holds, each counted each time it is reached (what is shared counts as often as it is met; a slice's spare places count too). A statement '..UptoSaid' is the law's where the arguments, and the package variables that the reading takes, are together of bulk at most 1048576: NARROWER than '..Said'. Prove '..Said' where nothing that the law and all that it calls make is longer than what came in: it says more and counts as full. Else prove '..UptoSaid'. A law counts once. -/
mutual
def uptoBulk {H : Type} : DataW H → Nat
  | .lit (.string bytes) => bytes.length + 1
  | .lit _ => 1
  | .nil => 1
  | .ptr d => uptoBulk d + 1
  | .slice elems spare => uptoBulkAll elems + uptoBulkAll spare + 1
  | .agg parts => uptoBulkAll parts + 1
  | .iface _ d => uptoBulk d + 1
  | .map entries => uptoBulkEntries entries + 1
  | .held _ => 1
def uptoBulkAll {H : Type} : List (DataW H) → Nat
  | [] => 0
  | d :: r => uptoBulk d + uptoBulkAll r
def uptoBulkEntries {H : Type} : List (Lit × DataW H) → Nat
  | [] => 0
  | x :: r => uptoBulkEntry x + uptoBulkEntries r
def uptoBulkEntry {H : Type} : Lit × DataW H → Nat
  | (.string bytes, d) => bytes.length + uptoBulk d + 1
  | (_, d) => uptoBulk d + 1
 end
def uptoSmall : (H : Type) → List (DataW H) → Bool := fun _ ds => decide (uptoBulkAll ds ≤ 1048576)
def OpenSpec.upto (s : _root_.Go.ChangeSpec) : _root_.Go.OpenSpec := { _root_.Go.OpenSpec.ofChange s with cond := some uptoSmall }

/-- 'laws.FnExactPadLines', WHERE WHAT IT READS IS OF BULK AT MOST 1048576: true; the input reads as it did. -/
def fnExactPadLinesUptoRow : OpenClaim := { program := "ytkcpimhohadjkaa", sum := "4053e1f976192a750ac004b019b25b42d33d0406f55dbed8948afa8df9faeed5", func := "loop.example/docalgebra/laws.FnExactPadLines", spec := "fnExactPadLines", inPlace := ["internal/bytealg.IndexByteString", "internal/abi.NoEscape", "internal/bytealg.MakeNoZero"], apart := false, narrowed := true }
def FnExactPadLinesUptoSaid : Prop := fnExactPadLinesUptoRow.holds Try.pinned (OpenSpec.upto fnExactPadLinesSpec)

/-- 'laws.FnBesideLines', WHERE WHAT IT READS IS OF BULK AT MOST 1048576: true; the input reads as it did. -/
def fnBesideLinesUptoRow : OpenClaim := { program := "ytkcpimhohadjkaa", sum := "4053e1f976192a750ac004b019b25b42d33d0406f55dbed8948afa8df9faeed5", func := "loop.example/docalgebra/laws.FnBesideLines", spec := "fnBesideLines", inPlace := ["internal/bytealg.IndexByteString", "internal/abi.NoEscape", "internal/bytealg.MakeNoZero"], recurses := true, apart := false, narrowed := true }
def FnBesideLinesUptoSaid : Prop := fnBesideLinesUptoRow.holds Try.pinned (OpenSpec.upto fnBesideLinesSpec)

/-- 'laws.FnExactTableLines', WHERE WHAT IT READS IS OF BULK AT MOST 1048576: true; the input reads as it did. -/
def fnExactTableLinesUptoRow : OpenClaim := { program := "ytkcpimhohadjkaa", sum := "4053e1f976192a750ac004b019b25b42d33d0406f55dbed8948afa8df9faeed5", func := "loop.example/docalgebra/laws.FnExactTableLines", spec := "fnExactTableLines", inPlace := ["internal/bytealg.IndexByteString", "internal/abi.NoEscape", "internal/bytealg.MakeNoZero"], apart := false, narrowed := true }
def FnExactTableLinesUptoSaid : Prop := fnExactTableLinesUptoRow.holds Try.pinned (OpenSpec.upto fnExactTableLinesSpec)

/-- 'laws.FnPadWide', WHERE WHAT IT READS IS OF BULK AT MOST 1048576: true; the input reads as it did. -/
def fnPadWideUptoRow : OpenClaim := { program := "ytkcpimhohadjkaa", sum := "4053e1f976192a750ac004b019b25b42d33d0406f55dbed8948afa8df9faeed5", func := "loop.example/docalgebra/laws.FnPadWide", spec := "fnPadWide", inPlace := ["internal/bytealg.IndexByteString", "internal/abi.NoEscape", "internal/bytealg.MakeNoZero"], recurses := true, apart := false, narrowed := true }
def FnPadWideUptoSaid : Prop := fnPadWideUptoRow.holds Try.pinned (OpenSpec.upto fnPadWideSpec)

/-- 'laws.FnOffsetEnd', WHERE WHAT IT READS IS OF BULK AT MOST 1048576: true; the input reads as it did. -/
def fnOffsetEndUptoRow : OpenClaim := { program := "ytkcpimhohadjkaa", sum := "4053e1f976192a750ac004b019b25b42d33d0406f55dbed8948afa8df9faeed5", func := "loop.example/docalgebra/laws.FnOffsetEnd", spec := "fnOffsetEnd", inPlace := ["internal/bytealg.IndexByteString", "internal/abi.NoEscape", "internal/bytealg.MakeNoZero"], recurses := true, apart := false, narrowed := true }
def FnOffsetEndUptoSaid : Prop := fnOffsetEndUptoRow.holds Try.pinned (OpenSpec.upto fnOffsetEndSpec)

/-- 'laws.FnOffsetOf', WHERE WHAT IT READS IS OF BULK AT MOST 1048576: true; the input reads as it did. -/
def fnOffsetOfUptoRow : OpenClaim := { program := "ytkcpimhohadjkaa", sum := "4053e1f976192a750ac004b019b25b42d33d0406f55dbed8948afa8df9faeed5", func := "loop.example/docalgebra/laws.FnOffsetOf", spec := "fnOffsetOf", inPlace := ["internal/bytealg.IndexByteString", "internal/abi.NoEscape", "internal/bytealg.MakeNoZero"], recurses := true, apart := false, narrowed := true }
def FnOffsetOfUptoSaid : Prop := fnOffsetOfUptoRow.holds Try.pinned (OpenSpec.upto fnOffsetOfSpec)

/-- 'laws.FnPlaceAt', WHERE WHAT IT READS IS OF BULK AT MOST 1048576: true; the input reads as it did. -/
def fnPlaceAtUptoRow : OpenClaim := { program := "ytkcpimhohadjkaa", sum := "4053e1f976192a750ac004b019b25b42d33d0406f55dbed8948afa8df9faeed5", func := "loop.example/docalgebra/laws.FnPlaceAt", spec := "fnPlaceAt", inPlace := ["internal/bytealg.IndexByteString", "internal/abi.NoEscape", "internal/bytealg.MakeNoZero"], recurses := true, apart := false, narrowed := true }
def FnPlaceAtUptoSaid : Prop := fnPlaceAtUptoRow.holds Try.pinned (OpenSpec.upto fnPlaceAtSpec)

/-- 'laws.FnBesideWidth', WHERE WHAT IT READS IS OF BULK AT MOST 1048576: true; the input reads as it did. -/
def fnBesideWidthUptoRow : OpenClaim := { program := "ytkcpimhohadjkaa", sum := "4053e1f976192a750ac004b019b25b42d33d0406f55dbed8948afa8df9faeed5", func := "loop.example/docalgebra/laws.FnBesideWidth", spec := "fnBesideWidth", inPlace := ["internal/bytealg.IndexByteString", "internal/abi.NoEscape", "internal/bytealg.MakeNoZero"], recurses := true, apart := false, narrowed := true }
def FnBesideWidthUptoSaid : Prop := fnBesideWidthUptoRow.holds Try.pinned (OpenSpec.upto fnBesideWidthSpec)

/-- 'laws.FnPadLines', WHERE WHAT IT READS IS OF BULK AT MOST 1048576: true; the input reads as it did. -/
def fnPadLinesUptoRow : OpenClaim := { program := "ytkcpimhohadjkaa", sum := "4053e1f976192a750ac004b019b25b42d33d0406f55dbed8948afa8df9faeed5", func := "loop.example/docalgebra/laws.FnPadLines", spec := "fnPadLines", inPlace := ["internal/bytealg.IndexByteString", "internal/abi.NoEscape", "internal/bytealg.MakeNoZero"], recurses := true, apart := false, narrowed := true }
def FnPadLinesUptoSaid : Prop := fnPadLinesUptoRow.holds Try.pinned (OpenSpec.upto fnPadLinesSpec)

/-- 'laws.FnExactFlipCells', WHERE WHAT IT READS IS OF BULK AT MOST 1048576: true; the input reads as it did. -/
def fnExactFlipCellsUptoRow : OpenClaim := { program := "ytkcpimhohadjkaa", sum := "4053e1f976192a750ac004b019b25b42d33d0406f55dbed8948afa8df9faeed5", func := "loop.example/docalgebra/laws.FnExactFlipCells", spec := "fnExactFlipCells", inPlace := ["internal/bytealg.IndexByteString"], apart := false, narrowed := true }
def FnExactFlipCellsUptoSaid : Prop := fnExactFlipCellsUptoRow.holds Try.pinned (OpenSpec.upto fnExactFlipCellsSpec)

/-- 'laws.FnExactColumnWidths', WHERE WHAT IT READS IS OF BULK AT MOST 1048576: true; the input reads as it did. -/
def fnExactColumnWidthsUptoRow : OpenClaim := { program := "ytkcpimhohadjkaa", sum := "4053e1f976192a750ac004b019b25b42d33d0406f55dbed8948afa8df9faeed5", func := "loop.example/docalgebra/laws.FnExactColumnWidths", spec := "fnExactColumnWidths", inPlace := ["internal/bytealg.IndexByteString"], apart := false, narrowed := true }
def FnExactColumnWidthsUptoSaid : Prop := fnExactColumnWidthsUptoRow.holds Try.pinned (OpenSpec.upto fnExactColumnWidthsSpec)

end Rows
end Go.Proofs.Ytkcpimhohadjkaa
