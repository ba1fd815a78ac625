/-
  No cell of these rows narrows 'for every input' (looked for: loops, veiled, ifaces, maps, wideKeys, modest, calm, conditions, laid).
  DERIVED. THE GIVEN ROWS OF THIS SEAT. 11 by the template 'for every input the law returns true; each argument reads behind the call as it read before'; 0 by the template 'total and deterministic' (their statements: YthcfocpimoghbaaTotals.lean).
  GIVEN WITH THE SEED: the statements are not yours to turn. If you find one false, say at which input.
  Laid BY PROGRAM, IN A SANDBOX (cutbox-rows.mjs): the forced cells as the released guide's own fill.sh prints them over the translation e8d0ac4b108a9d77… (all of the seat's roots in one cut). By AI agents, Wed Nov 11 2026. No macro, syntax, notation, axiom, sorry.
-/
import Derived.Test.YthcfocpimoghbaaChecked
import GoSem.Claim
import GoSem.ClaimJoined
import GoSem.ClaimMapViews
import Derived.JoinedTies
import Derived.KernelRfl
namespace Go.Proofs.Ythcfocpimoghbaa
/- THE CELL 'sum', in the pinned program and in every row, IS THE sha256 OF THE DUMP (.gsa) THAT YthcfocpimoghbaaProg.lean LOADS. Nothing in Lean hashes anything: it is a label: what it is worth is what the hold of that sum in a sandbox is worth. -/
noncomputable def Try.pinned : Pinned := { name := "ythcfocpimoghbaa", sum := "e8d0ac4b108a9d77d0c8a574fb1c2963b9453b0409a0f6c87427293ca4511235", checked := Try.checked }
namespace Rows
def none {H : Type} : Left H := { results := [], args := [] }

/-- 'laws.FnExactOffsetOf': WHATEVER THE INPUT: true; the input reads as it did. -/
def fnExactOffsetOfSpec : ChangeSpec := { name := "fnExactOffsetOf", fn := fun _ => fun
  | [d1, d2] => { results := [.lit (.bool true)], args := [d1, d2] }
  | _ => none }
def fnExactOffsetOfRow : OpenClaim := { program := "ythcfocpimoghbaa", sum := "e8d0ac4b108a9d77d0c8a574fb1c2963b9453b0409a0f6c87427293ca4511235", func := "loop.example/docalgebra/laws.FnExactOffsetOf", spec := "fnExactOffsetOf", inPlace := ["internal/bytealg.IndexByteString"], apart := false }
def FnExactOffsetOfSaid : Prop := fnExactOffsetOfRow.holds Try.pinned (OpenSpec.ofChange fnExactOffsetOfSpec)

/-- ITS FALSE NEIGHBOUR: 'it returns false'. Refute it at one input. -/
def fnExactOffsetOfWrong : ChangeSpec := { name := "fnExactOffsetOf", fn := fun _ => fun
  | [d1, d2] => { results := [.lit (.bool false)], args := [d1, d2] }
  | _ => none }
def FnExactOffsetOfWrongFalsely : Prop := fnExactOffsetOfRow.holds Try.pinned (OpenSpec.ofChange fnExactOffsetOfWrong)

/-- 'laws.FnExactPlaceAt': WHATEVER THE INPUT: true; the input reads as it did. -/
def fnExactPlaceAtSpec : ChangeSpec := { name := "fnExactPlaceAt", fn := fun _ => fun
  | [d1, d2] => { results := [.lit (.bool true)], args := [d1, d2] }
  | _ => none }
def fnExactPlaceAtRow : OpenClaim := { program := "ythcfocpimoghbaa", sum := "e8d0ac4b108a9d77d0c8a574fb1c2963b9453b0409a0f6c87427293ca4511235", func := "loop.example/docalgebra/laws.FnExactPlaceAt", spec := "fnExactPlaceAt", inPlace := ["internal/bytealg.IndexByteString"], apart := false }
def FnExactPlaceAtSaid : Prop := fnExactPlaceAtRow.holds Try.pinned (OpenSpec.ofChange fnExactPlaceAtSpec)

/-- ITS FALSE NEIGHBOUR: 'it returns false'. Refute it at one input. -/
def fnExactPlaceAtWrong : ChangeSpec := { name := "fnExactPlaceAt", fn := fun _ => fun
  | [d1, d2] => { results := [.lit (.bool false)], args := [d1, d2] }
  | _ => none }
def FnExactPlaceAtWrongFalsely : Prop := fnExactPlaceAtRow.holds Try.pinned (OpenSpec.ofChange fnExactPlaceAtWrong)

/-- 'laws.FnWrapFits': WHATEVER THE INPUT: true; the input reads as it did. -/
def fnWrapFitsSpec : ChangeSpec := { name := "fnWrapFits", fn := fun _ => fun
  | [d] => { results := [.lit (.bool true)], args := [d] }
  | _ => none }
def fnWrapFitsRow : OpenClaim := { program := "ythcfocpimoghbaa", sum := "e8d0ac4b108a9d77d0c8a574fb1c2963b9453b0409a0f6c87427293ca4511235", func := "loop.example/docalgebra/laws.FnWrapFits", spec := "fnWrapFits", inPlace := ["internal/bytealg.IndexByteString", "internal/abi.NoEscape", "internal/bytealg.MakeNoZero"], apart := false }
def FnWrapFitsSaid : Prop := fnWrapFitsRow.holds Try.pinned (OpenSpec.ofChange fnWrapFitsSpec)

/-- ITS FALSE NEIGHBOUR: 'it returns false'. Refute it at one input. -/
def fnWrapFitsWrong : ChangeSpec := { name := "fnWrapFits", fn := fun _ => fun
  | [d] => { results := [.lit (.bool false)], args := [d] }
  | _ => none }
def FnWrapFitsWrongFalsely : Prop := fnWrapFitsRow.holds Try.pinned (OpenSpec.ofChange fnWrapFitsWrong)

/-- 'laws.FnExactWrapBest': WHATEVER THE INPUT: true; the input reads as it did. -/
def fnExactWrapBestSpec : ChangeSpec := { name := "fnExactWrapBest", fn := fun _ => fun
  | [d1, d2] => { results := [.lit (.bool true)], args := [d1, d2] }
  | _ => none }
def fnExactWrapBestRow : OpenClaim := { program := "ythcfocpimoghbaa", sum := "e8d0ac4b108a9d77d0c8a574fb1c2963b9453b0409a0f6c87427293ca4511235", func := "loop.example/docalgebra/laws.FnExactWrapBest", spec := "fnExactWrapBest", inPlace := ["internal/bytealg.IndexByteString", "internal/abi.NoEscape", "internal/bytealg.MakeNoZero"], apart := false }
def FnExactWrapBestSaid : Prop := fnExactWrapBestRow.holds Try.pinned (OpenSpec.ofChange fnExactWrapBestSpec)

/-- ITS FALSE NEIGHBOUR: 'it returns false'. Refute it at one input. -/
def fnExactWrapBestWrong : ChangeSpec := { name := "fnExactWrapBest", fn := fun _ => fun
  | [d1, d2] => { results := [.lit (.bool false)], args := [d1, d2] }
  | _ => none }
def FnExactWrapBestWrongFalsely : Prop := fnExactWrapBestRow.holds Try.pinned (OpenSpec.ofChange fnExactWrapBestWrong)

/-- 'laws.FnWrapFew': WHATEVER THE INPUT: true; the input reads as it did. -/
def fnWrapFewSpec : ChangeSpec := { name := "fnWrapFew", fn := fun _ => fun
  | [d] => { results := [.lit (.bool true)], args := [d] }
  | _ => none }
def fnWrapFewRow : OpenClaim := { program := "ythcfocpimoghbaa", sum := "e8d0ac4b108a9d77d0c8a574fb1c2963b9453b0409a0f6c87427293ca4511235", func := "loop.example/docalgebra/laws.FnWrapFew", spec := "fnWrapFew", inPlace := ["internal/bytealg.IndexByteString", "internal/abi.NoEscape", "internal/bytealg.MakeNoZero"], apart := false }
def FnWrapFewSaid : Prop := fnWrapFewRow.holds Try.pinned (OpenSpec.ofChange fnWrapFewSpec)

/-- ITS FALSE NEIGHBOUR: 'it returns false'. Refute it at one input. -/
def fnWrapFewWrong : ChangeSpec := { name := "fnWrapFew", fn := fun _ => fun
  | [d] => { results := [.lit (.bool false)], args := [d] }
  | _ => none }
def FnWrapFewWrongFalsely : Prop := fnWrapFewRow.holds Try.pinned (OpenSpec.ofChange fnWrapFewWrong)

/-- 'laws.FnExactBesideLines': WHATEVER THE INPUT: true; the input reads as it did. -/
def fnExactBesideLinesSpec : ChangeSpec := { name := "fnExactBesideLines", fn := fun _ => fun
  | [d1, d2, d3] => { results := [.lit (.bool true)], args := [d1, d2, d3] }
  | _ => none }
def fnExactBesideLinesRow : OpenClaim := { program := "ythcfocpimoghbaa", sum := "e8d0ac4b108a9d77d0c8a574fb1c2963b9453b0409a0f6c87427293ca4511235", func := "loop.example/docalgebra/laws.FnExactBesideLines", spec := "fnExactBesideLines", inPlace := ["internal/bytealg.IndexByteString", "internal/abi.NoEscape", "internal/bytealg.MakeNoZero"], apart := false }
def FnExactBesideLinesSaid : Prop := fnExactBesideLinesRow.holds Try.pinned (OpenSpec.ofChange fnExactBesideLinesSpec)

/-- ITS FALSE NEIGHBOUR: 'it returns false'. Refute it at one input. -/
def fnExactBesideLinesWrong : ChangeSpec := { name := "fnExactBesideLines", fn := fun _ => fun
  | [d1, d2, d3] => { results := [.lit (.bool false)], args := [d1, d2, d3] }
  | _ => none }
def FnExactBesideLinesWrongFalsely : Prop := fnExactBesideLinesRow.holds Try.pinned (OpenSpec.ofChange fnExactBesideLinesWrong)

/-- 'laws.FnExactJustifyLine': WHATEVER THE INPUT: true; the input reads as it did. -/
def fnExactJustifyLineSpec : ChangeSpec := { name := "fnExactJustifyLine", fn := fun _ => fun
  | [d1, d2] => { results := [.lit (.bool true)], args := [d1, d2] }
  | _ => none }
def fnExactJustifyLineRow : OpenClaim := { program := "ythcfocpimoghbaa", sum := "e8d0ac4b108a9d77d0c8a574fb1c2963b9453b0409a0f6c87427293ca4511235", func := "loop.example/docalgebra/laws.FnExactJustifyLine", spec := "fnExactJustifyLine", inPlace := ["internal/abi.NoEscape", "internal/bytealg.MakeNoZero", "internal/bytealg.IndexByteString"], apart := false }
def FnExactJustifyLineSaid : Prop := fnExactJustifyLineRow.holds Try.pinned (OpenSpec.ofChange fnExactJustifyLineSpec)

/-- ITS FALSE NEIGHBOUR: 'it returns false'. Refute it at one input. -/
def fnExactJustifyLineWrong : ChangeSpec := { name := "fnExactJustifyLine", fn := fun _ => fun
  | [d1, d2] => { results := [.lit (.bool false)], args := [d1, d2] }
  | _ => none }
def FnExactJustifyLineWrongFalsely : Prop := fnExactJustifyLineRow.holds Try.pinned (OpenSpec.ofChange fnExactJustifyLineWrong)

/-- 'laws.FnJustifyEven': WHATEVER THE INPUT: true; the input reads as it did. -/
def fnJustifyEvenSpec : ChangeSpec := { name := "fnJustifyEven", fn := fun _ => fun
  | [d] => { results := [.lit (.bool true)], args := [d] }
  | _ => none }
def fnJustifyEvenRow : OpenClaim := { program := "ythcfocpimoghbaa", sum := "e8d0ac4b108a9d77d0c8a574fb1c2963b9453b0409a0f6c87427293ca4511235", func := "loop.example/docalgebra/laws.FnJustifyEven", spec := "fnJustifyEven", inPlace := ["internal/abi.NoEscape", "internal/bytealg.MakeNoZero", "internal/bytealg.IndexByteString"], apart := false }
def FnJustifyEvenSaid : Prop := fnJustifyEvenRow.holds Try.pinned (OpenSpec.ofChange fnJustifyEvenSpec)

/-- ITS FALSE NEIGHBOUR: 'it returns false'. Refute it at one input. -/
def fnJustifyEvenWrong : ChangeSpec := { name := "fnJustifyEven", fn := fun _ => fun
  | [d] => { results := [.lit (.bool false)], args := [d] }
  | _ => none }
def FnJustifyEvenWrongFalsely : Prop := fnJustifyEvenRow.holds Try.pinned (OpenSpec.ofChange fnJustifyEvenWrong)

/-- 'laws.FnJustifyLine': WHATEVER THE INPUT: true; the input reads as it did. -/
def fnJustifyLineSpec : ChangeSpec := { name := "fnJustifyLine", fn := fun _ => fun
  | [d] => { results := [.lit (.bool true)], args := [d] }
  | _ => none }
def fnJustifyLineRow : OpenClaim := { program := "ythcfocpimoghbaa", sum := "e8d0ac4b108a9d77d0c8a574fb1c2963b9453b0409a0f6c87427293ca4511235", func := "loop.example/docalgebra/laws.FnJustifyLine", spec := "fnJustifyLine", inPlace := ["internal/abi.NoEscape", "internal/bytealg.MakeNoZero", "internal/bytealg.IndexByteString"], apart := false }
def FnJustifyLineSaid : Prop := fnJustifyLineRow.holds Try.pinned (OpenSpec.ofChange fnJustifyLineSpec)

/-- ITS FALSE NEIGHBOUR: 'it returns false'. Refute it at one input. -/
def fnJustifyLineWrong : ChangeSpec := { name := "fnJustifyLine", fn := fun _ => fun
  | [d] => { results := [.lit (.bool false)], args := [d] }
  | _ => none }
def FnJustifyLineWrongFalsely : Prop := fnJustifyLineRow.holds Try.pinned (OpenSpec.ofChange fnJustifyLineWrong)

/-- 'laws.FnTableGap': WHATEVER THE INPUT: true; the input reads as it did. -/
def fnTableGapSpec : ChangeSpec := { name := "fnTableGap", fn := fun _ => fun
  | [d] => { results := [.lit (.bool true)], args := [d] }
  | _ => none }
def fnTableGapRow : OpenClaim := { program := "ythcfocpimoghbaa", sum := "e8d0ac4b108a9d77d0c8a574fb1c2963b9453b0409a0f6c87427293ca4511235", func := "loop.example/docalgebra/laws.FnTableGap", spec := "fnTableGap", inPlace := ["internal/bytealg.IndexByteString", "internal/abi.NoEscape", "internal/bytealg.MakeNoZero"], apart := false }
def FnTableGapSaid : Prop := fnTableGapRow.holds Try.pinned (OpenSpec.ofChange fnTableGapSpec)

/-- ITS FALSE NEIGHBOUR: 'it returns false'. Refute it at one input. -/
def fnTableGapWrong : ChangeSpec := { name := "fnTableGap", fn := fun _ => fun
  | [d] => { results := [.lit (.bool false)], args := [d] }
  | _ => none }
def FnTableGapWrongFalsely : Prop := fnTableGapRow.holds Try.pinned (OpenSpec.ofChange fnTableGapWrong)

/-- 'laws.FnTableLines': WHATEVER THE INPUT: true; the input reads as it did. -/
def fnTableLinesSpec : ChangeSpec := { name := "fnTableLines", fn := fun _ => fun
  | [d] => { results := [.lit (.bool true)], args := [d] }
  | _ => none }
def fnTableLinesRow : OpenClaim := { program := "ythcfocpimoghbaa", sum := "e8d0ac4b108a9d77d0c8a574fb1c2963b9453b0409a0f6c87427293ca4511235", func := "loop.example/docalgebra/laws.FnTableLines", spec := "fnTableLines", inPlace := ["internal/bytealg.IndexByteString", "internal/abi.NoEscape", "internal/bytealg.MakeNoZero"], apart := false }
def FnTableLinesSaid : Prop := fnTableLinesRow.holds Try.pinned (OpenSpec.ofChange fnTableLinesSpec)

/-- ITS FALSE NEIGHBOUR: 'it returns false'. Refute it at one input. -/
def fnTableLinesWrong : ChangeSpec := { name := "fnTableLines", fn := fun _ => fun
  | [d] => { results := [.lit (.bool false)], args := [d] }
  | _ => none }
def FnTableLinesWrongFalsely : Prop := fnTableLinesRow.holds Try.pinned (OpenSpec.ofChange fnTableLinesWrong)

/- THE SECOND FORM. 'bulk': how many values and letters a reading holds, each counted each time it is reached (what is shared counts as often as it is met; a slice's spare places count too). A statement '..UptoSaid' is the law's where the arguments, and the package variables that the reading takes, are together of bulk at most 1048576: NARROWER than '..Said'. Prove '..Said' where nothing that the law and all that it calls make is longer than what came in: it says more and counts as full. Else prove '..UptoSaid'. A law counts once. -/
mutual
def uptoBulk {H : Type} : DataW H → Nat
  | .lit (.string bytes) => bytes.length + 1
  | .lit _ => 1
  | .nil => 1
  | .ptr d => uptoBulk d + 1
  | .slice elems spare => uptoBulkAll elems + uptoBulkAll spare + 1
  | .agg parts => uptoBulkAll parts + 1
  | .iface _ d => uptoBulk d + 1
  | .map entries => uptoBulkEntries entries + 1
  | .held _ => 1
def uptoBulkAll {H : Type} : List (DataW H) → Nat
  | [] => 0
  | d :: r => uptoBulk d + uptoBulkAll r
def uptoBulkEntries {H : Type} : List (Lit × DataW H) → Nat
  | [] => 0
  | x :: r => uptoBulkEntry x + uptoBulkEntries r
def uptoBulkEntry {H : Type} : Lit × DataW H → Nat
  | (.string bytes, d) => bytes.length + uptoBulk d + 1
  | (_, d) => uptoBulk d + 1
 end
def uptoSmall : (H : Type) → List (DataW H) → Bool := fun _ ds => decide (uptoBulkAll ds ≤ 1048576)
def OpenSpec.upto (s : _root_.Go.ChangeSpec) : _root_.Go.OpenSpec := { _root_.Go.OpenSpec.ofChange s with cond := some uptoSmall }

/-- 'laws.FnExactOffsetOf', WHERE WHAT IT READS IS OF BULK AT MOST 1048576: true; the input reads as it did. -/
def fnExactOffsetOfUptoRow : OpenClaim := { program := "ythcfocpimoghbaa", sum := "e8d0ac4b108a9d77d0c8a574fb1c2963b9453b0409a0f6c87427293ca4511235", func := "loop.example/docalgebra/laws.FnExactOffsetOf", spec := "fnExactOffsetOf", inPlace := ["internal/bytealg.IndexByteString"], apart := false, narrowed := true }
def FnExactOffsetOfUptoSaid : Prop := fnExactOffsetOfUptoRow.holds Try.pinned (OpenSpec.upto fnExactOffsetOfSpec)

/-- 'laws.FnExactPlaceAt', WHERE WHAT IT READS IS OF BULK AT MOST 1048576: true; the input reads as it did. -/
def fnExactPlaceAtUptoRow : OpenClaim := { program := "ythcfocpimoghbaa", sum := "e8d0ac4b108a9d77d0c8a574fb1c2963b9453b0409a0f6c87427293ca4511235", func := "loop.example/docalgebra/laws.FnExactPlaceAt", spec := "fnExactPlaceAt", inPlace := ["internal/bytealg.IndexByteString"], apart := false, narrowed := true }
def FnExactPlaceAtUptoSaid : Prop := fnExactPlaceAtUptoRow.holds Try.pinned (OpenSpec.upto fnExactPlaceAtSpec)

/-- 'laws.FnWrapFits', WHERE WHAT IT READS IS OF BULK AT MOST 1048576: true; the input reads as it did. -/
def fnWrapFitsUptoRow : OpenClaim := { program := "ythcfocpimoghbaa", sum := "e8d0ac4b108a9d77d0c8a574fb1c2963b9453b0409a0f6c87427293ca4511235", func := "loop.example/docalgebra/laws.FnWrapFits", spec := "fnWrapFits", inPlace := ["internal/bytealg.IndexByteString", "internal/abi.NoEscape", "internal/bytealg.MakeNoZero"], apart := false, narrowed := true }
def FnWrapFitsUptoSaid : Prop := fnWrapFitsUptoRow.holds Try.pinned (OpenSpec.upto fnWrapFitsSpec)

/-- 'laws.FnExactWrapBest', WHERE WHAT IT READS IS OF BULK AT MOST 1048576: true; the input reads as it did. -/
def fnExactWrapBestUptoRow : OpenClaim := { program := "ythcfocpimoghbaa", sum := "e8d0ac4b108a9d77d0c8a574fb1c2963b9453b0409a0f6c87427293ca4511235", func := "loop.example/docalgebra/laws.FnExactWrapBest", spec := "fnExactWrapBest", inPlace := ["internal/bytealg.IndexByteString", "internal/abi.NoEscape", "internal/bytealg.MakeNoZero"], apart := false, narrowed := true }
def FnExactWrapBestUptoSaid : Prop := fnExactWrapBestUptoRow.holds Try.pinned (OpenSpec.upto fnExactWrapBestSpec)

/-- 'laws.FnWrapFew', WHERE WHAT IT READS IS OF BULK AT MOST 1048576: true; the input reads as it did. -/
def fnWrapFewUptoRow : OpenClaim := { program := "ythcfocpimoghbaa", sum := "e8d0ac4b108a9d77d0c8a574fb1c2963b9453b0409a0f6c87427293ca4511235", func := "loop.example/docalgebra/laws.FnWrapFew", spec := "fnWrapFew", inPlace := ["internal/bytealg.IndexByteString", "internal/abi.NoEscape", "internal/bytealg.MakeNoZero"], apart := false, narrowed := true }
def FnWrapFewUptoSaid : Prop := fnWrapFewUptoRow.holds Try.pinned (OpenSpec.upto fnWrapFewSpec)

/-- 'laws.FnExactBesideLines', WHERE WHAT IT READS IS OF BULK AT MOST 1048576: true; the input reads as it did. -/
def fnExactBesideLinesUptoRow : OpenClaim := { program := "ythcfocpimoghbaa", sum := "e8d0ac4b108a9d77d0c8a574fb1c2963b9453b0409a0f6c87427293ca4511235", func := "loop.example/docalgebra/laws.FnExactBesideLines", spec := "fnExactBesideLines", inPlace := ["internal/bytealg.IndexByteString", "internal/abi.NoEscape", "internal/bytealg.MakeNoZero"], apart := false, narrowed := true }
def FnExactBesideLinesUptoSaid : Prop := fnExactBesideLinesUptoRow.holds Try.pinned (OpenSpec.upto fnExactBesideLinesSpec)

/-- 'laws.FnExactJustifyLine', WHERE WHAT IT READS IS OF BULK AT MOST 1048576: true; the input reads as it did. -/
def fnExactJustifyLineUptoRow : OpenClaim := { program := "ythcfocpimoghbaa", sum := "e8d0ac4b108a9d77d0c8a574fb1c2963b9453b0409a0f6c87427293ca4511235", func := "loop.example/docalgebra/laws.FnExactJustifyLine", spec := "fnExactJustifyLine", inPlace := ["internal/abi.NoEscape", "internal/bytealg.MakeNoZero", "internal/bytealg.IndexByteString"], apart := false, narrowed := true }
def FnExactJustifyLineUptoSaid : Prop := fnExactJustifyLineUptoRow.holds Try.pinned (OpenSpec.upto fnExactJustifyLineSpec)

/-- 'laws.FnJustifyEven', WHERE WHAT IT READS IS OF BULK AT MOST 1048576: true; the input reads as it did. -/
def fnJustifyEvenUptoRow : OpenClaim := { program := "ythcfocpimoghbaa", sum := "e8d0ac4b108a9d77d0c8a574fb1c2963b9453b0409a0f6c87427293ca4511235", func := "loop.example/docalgebra/laws.FnJustifyEven", spec := "fnJustifyEven", inPlace := ["internal/abi.NoEscape", "internal/bytealg.MakeNoZero", "internal/bytealg.IndexByteString"], apart := false, narrowed := true }
def FnJustifyEvenUptoSaid : Prop := fnJustifyEvenUptoRow.holds Try.pinned (OpenSpec.upto fnJustifyEvenSpec)

/-- 'laws.FnJustifyLine', WHERE WHAT IT READS IS OF BULK AT MOST 1048576: true; the input reads as it did. -/
def fnJustifyLineUptoRow : OpenClaim := { program := "ythcfocpimoghbaa", sum := "e8d0ac4b108a9d77d0c8a574fb1c2963b9453b0409a0f6c87427293ca4511235", func := "loop.example/docalgebra/laws.FnJustifyLine", spec := "fnJustifyLine", inPlace := ["internal/abi.NoEscape", "internal/bytealg.MakeNoZero", "internal/bytealg.IndexByteString"], apart := false, narrowed := true }
def FnJustifyLineUptoSaid : Prop := fnJustifyLineUptoRow.holds Try.pinned (OpenSpec.upto fnJustifyLineSpec)

/-- 'laws.FnTableGap', WHERE WHAT IT READS IS OF BULK AT MOST 1048576: true; the input reads as it did. -/
def fnTableGapUptoRow : OpenClaim := { program := "ythcfocpimoghbaa", sum := "e8d0ac4b108a9d77d0c8a574fb1c2963b9453b0409a0f6c87427293ca4511235", func := "loop.example/docalgebra/laws.FnTableGap", spec := "fnTableGap", inPlace := ["internal/bytealg.IndexByteString", "internal/abi.NoEscape", "internal/bytealg.MakeNoZero"], apart := false, narrowed := true }
def FnTableGapUptoSaid : Prop := fnTableGapUptoRow.holds Try.pinned (OpenSpec.upto fnTableGapSpec)

/-- 'laws.FnTableLines', WHERE WHAT IT READS IS OF BULK AT MOST 1048576: true; the input reads as it did. -/
def fnTableLinesUptoRow : OpenClaim := { program := "ythcfocpimoghbaa", sum := "e8d0ac4b108a9d77d0c8a574fb1c2963b9453b0409a0f6c87427293ca4511235", func := "loop.example/docalgebra/laws.FnTableLines", spec := "fnTableLines", inPlace := ["internal/bytealg.IndexByteString", "internal/abi.NoEscape", "internal/bytealg.MakeNoZero"], apart := false, narrowed := true }
def FnTableLinesUptoSaid : Prop := fnTableLinesUptoRow.holds Try.pinned (OpenSpec.upto fnTableLinesSpec)

end Rows
end Go.Proofs.Ythcfocpimoghbaa
