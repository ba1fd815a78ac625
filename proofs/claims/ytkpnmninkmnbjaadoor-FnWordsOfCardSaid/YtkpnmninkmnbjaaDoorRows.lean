/-
  NARROWER THAN 'FOR EVERY INPUT', by the rows' own cells (each row's printed sentence says how): FnWrapGreedy: laid · FnExactWrapCost: laid · FnWordsOf: laid · FnWrapTail: laid · FnWrapTwo: laid · FnWrapBest: laid.
  DERIVED. THE GIVEN ROWS OF THIS SEAT. 6 by the template 'for every input the law returns true; each argument reads behind the call as it read before'; 0 by the template 'total and deterministic' (their statements: YtkpnmninkmnbjaaDoorTotals.lean).
  GIVEN WITH THE SEED: the statements are not yours to turn. If you find one false, say at which input.
  Laid BY PROGRAM, IN A SANDBOX (cutbox-rows.mjs): the forced cells as the released guide's own fill.sh prints them over the translation 175ed9205206bf2a… (all of the seat's roots in one cut). By AI agents, Wed Nov 11 2026. No macro, syntax, notation, axiom, sorry.
-/
import Derived.Test.YtkpnmninkmnbjaaDoorChecked
import GoSem.PinnedTables
import GoSem.Claim
import GoSem.ClaimJoined
import GoSem.ClaimMapViews
import Derived.JoinedTies
import Derived.KernelRfl
namespace Go.Proofs.YtkpnmninkmnbjaaDoor
/- THE CELL 'sum', in the pinned program and in every row, IS THE sha256 OF THE DUMP (.gsa) THAT YtkpnmninkmnbjaaDoorProg.lean LOADS. Nothing in Lean hashes anything: it is a label: what it is worth is what the hold of that sum in a sandbox is worth. -/
noncomputable def Tryd.pinned : Pinned := { name := "ytkpnmninkmnbjaadoor", sum := "175ed9205206bf2a40b6288921ebf57d2bbe27b283abbb57921985d360a0d4aa", checked := Tryd.checked }
namespace Rows
def none {H : Type} : Left H := { results := [], args := [] }

/- WHAT THE LISTED PACKAGE-LEVEL VARIABLES READ AS WHEN THE CALL BEGINS. Each datum BY PROGRAM (the guide's laid-datum.mjs) off the statement by which the dump's own 'gosem.cut.vars' lays the variable. In a bare row this is a premise. The card (YtkpnmninkmnbjaaDoorCards.lean) ties it to the program's text. -/
def laid_unicode_utf8_acceptRanges {H : Type} : DataW H := .agg [.agg [.lit (.int .u8 128), .lit (.int .u8 191)], .agg [.lit (.int .u8 160), .lit (.int .u8 191)], .agg [.lit (.int .u8 128), .lit (.int .u8 159)], .agg [.lit (.int .u8 144), .lit (.int .u8 191)], .agg [.lit (.int .u8 128), .lit (.int .u8 143)], .agg [.lit (.int .u8 0), .lit (.int .u8 0)], .agg [.lit (.int .u8 0), .lit (.int .u8 0)], .agg [.lit (.int .u8 0), .lit (.int .u8 0)], .agg [.lit (.int .u8 0), .lit (.int .u8 0)], .agg [.lit (.int .u8 0), .lit (.int .u8 0)], .agg [.lit (.int .u8 0), .lit (.int .u8 0)], .agg [.lit (.int .u8 0), .lit (.int .u8 0)], .agg [.lit (.int .u8 0), .lit (.int .u8 0)], .agg [.lit (.int .u8 0), .lit (.int .u8 0)], .agg [.lit (.int .u8 0), .lit (.int .u8 0)], .agg [.lit (.int .u8 0), .lit (.int .u8 0)]]
/-- One of Go's own tables, pinned by name: the form's constant. -/
def laid_unicode_utf8_first : DataW Unit := Go.Pinned.utf8First

/-- 'laws.FnWrapGreedy': WHATEVER THE INPUT: true; the input reads as it did. -/
def fnWrapGreedySpec : ChangeSpec := { name := "fnWrapGreedy", fn := fun _ => fun
  | [d] => { results := [.lit (.bool true)], args := [d] }
  | _ => none }
def fnWrapGreedyRow : OpenClaim := { program := "ytkpnmninkmnbjaadoor", sum := "175ed9205206bf2a40b6288921ebf57d2bbe27b283abbb57921985d360a0d4aa", func := "loop.example/docalgebra/laws.FnWrapGreedy", spec := "fnWrapGreedy", inPlace := ["internal/bytealg.IndexByteString", "internal/bytealg.CountString", "internal/bytealg.IndexString"], named := ["unicode/utf8.first", "unicode/utf8.acceptRanges", "internal/bytealg.MaxLen"], apart := false, laid := [("unicode/utf8.acceptRanges", laid_unicode_utf8_acceptRanges), ("unicode/utf8.first", laid_unicode_utf8_first)] }
def FnWrapGreedySaid : Prop := fnWrapGreedyRow.holds Tryd.pinned (OpenSpec.ofChange fnWrapGreedySpec)

/-- ITS FALSE NEIGHBOUR: 'it returns false'. Refute it at one input. -/
def fnWrapGreedyWrong : ChangeSpec := { name := "fnWrapGreedy", fn := fun _ => fun
  | [d] => { results := [.lit (.bool false)], args := [d] }
  | _ => none }
def FnWrapGreedyWrongFalsely : Prop := fnWrapGreedyRow.holds Tryd.pinned (OpenSpec.ofChange fnWrapGreedyWrong)

/-- 'laws.FnExactWrapCost': WHATEVER THE INPUT: true; the input reads as it did. -/
def fnExactWrapCostSpec : ChangeSpec := { name := "fnExactWrapCost", fn := fun _ => fun
  | [d1, d2] => { results := [.lit (.bool true)], args := [d1, d2] }
  | _ => none }
def fnExactWrapCostRow : OpenClaim := { program := "ytkpnmninkmnbjaadoor", sum := "175ed9205206bf2a40b6288921ebf57d2bbe27b283abbb57921985d360a0d4aa", func := "loop.example/docalgebra/laws.FnExactWrapCost", spec := "fnExactWrapCost", inPlace := ["internal/bytealg.CountString", "internal/bytealg.IndexByteString", "internal/bytealg.IndexString"], named := ["unicode/utf8.first", "unicode/utf8.acceptRanges", "internal/bytealg.MaxLen"], apart := false, laid := [("unicode/utf8.acceptRanges", laid_unicode_utf8_acceptRanges), ("unicode/utf8.first", laid_unicode_utf8_first)] }
def FnExactWrapCostSaid : Prop := fnExactWrapCostRow.holds Tryd.pinned (OpenSpec.ofChange fnExactWrapCostSpec)

/-- ITS FALSE NEIGHBOUR: 'it returns false'. Refute it at one input. -/
def fnExactWrapCostWrong : ChangeSpec := { name := "fnExactWrapCost", fn := fun _ => fun
  | [d1, d2] => { results := [.lit (.bool false)], args := [d1, d2] }
  | _ => none }
def FnExactWrapCostWrongFalsely : Prop := fnExactWrapCostRow.holds Tryd.pinned (OpenSpec.ofChange fnExactWrapCostWrong)

/-- 'laws.FnWordsOf': WHATEVER THE INPUT: true; the input reads as it did. -/
def fnWordsOfSpec : ChangeSpec := { name := "fnWordsOf", fn := fun _ => fun
  | [d] => { results := [.lit (.bool true)], args := [d] }
  | _ => none }
def fnWordsOfRow : OpenClaim := { program := "ytkpnmninkmnbjaadoor", sum := "175ed9205206bf2a40b6288921ebf57d2bbe27b283abbb57921985d360a0d4aa", func := "loop.example/docalgebra/laws.FnWordsOf", spec := "fnWordsOf", inPlace := ["internal/bytealg.IndexByteString", "internal/bytealg.CountString", "internal/bytealg.IndexString"], named := ["unicode/utf8.first", "unicode/utf8.acceptRanges", "internal/bytealg.MaxLen"], apart := false, laid := [("unicode/utf8.acceptRanges", laid_unicode_utf8_acceptRanges), ("unicode/utf8.first", laid_unicode_utf8_first)] }
def FnWordsOfSaid : Prop := fnWordsOfRow.holds Tryd.pinned (OpenSpec.ofChange fnWordsOfSpec)

/-- ITS FALSE NEIGHBOUR: 'it returns false'. Refute it at one input. -/
def fnWordsOfWrong : ChangeSpec := { name := "fnWordsOf", fn := fun _ => fun
  | [d] => { results := [.lit (.bool false)], args := [d] }
  | _ => none }
def FnWordsOfWrongFalsely : Prop := fnWordsOfRow.holds Tryd.pinned (OpenSpec.ofChange fnWordsOfWrong)

/-- 'laws.FnWrapTail': WHATEVER THE INPUT: true; the input reads as it did. -/
def fnWrapTailSpec : ChangeSpec := { name := "fnWrapTail", fn := fun _ => fun
  | [d] => { results := [.lit (.bool true)], args := [d] }
  | _ => none }
def fnWrapTailRow : OpenClaim := { program := "ytkpnmninkmnbjaadoor", sum := "175ed9205206bf2a40b6288921ebf57d2bbe27b283abbb57921985d360a0d4aa", func := "loop.example/docalgebra/laws.FnWrapTail", spec := "fnWrapTail", inPlace := ["internal/bytealg.IndexByteString", "internal/abi.NoEscape", "internal/bytealg.MakeNoZero", "internal/bytealg.CountString", "internal/bytealg.IndexString"], named := ["unicode/utf8.first", "unicode/utf8.acceptRanges", "internal/bytealg.MaxLen"], apart := false, laid := [("unicode/utf8.acceptRanges", laid_unicode_utf8_acceptRanges), ("unicode/utf8.first", laid_unicode_utf8_first)] }
def FnWrapTailSaid : Prop := fnWrapTailRow.holds Tryd.pinned (OpenSpec.ofChange fnWrapTailSpec)

/-- ITS FALSE NEIGHBOUR: 'it returns false'. Refute it at one input. -/
def fnWrapTailWrong : ChangeSpec := { name := "fnWrapTail", fn := fun _ => fun
  | [d] => { results := [.lit (.bool false)], args := [d] }
  | _ => none }
def FnWrapTailWrongFalsely : Prop := fnWrapTailRow.holds Tryd.pinned (OpenSpec.ofChange fnWrapTailWrong)

/-- 'laws.FnWrapTwo': WHATEVER THE INPUT: true; the input reads as it did. -/
def fnWrapTwoSpec : ChangeSpec := { name := "fnWrapTwo", fn := fun _ => fun
  | [d] => { results := [.lit (.bool true)], args := [d] }
  | _ => none }
def fnWrapTwoRow : OpenClaim := { program := "ytkpnmninkmnbjaadoor", sum := "175ed9205206bf2a40b6288921ebf57d2bbe27b283abbb57921985d360a0d4aa", func := "loop.example/docalgebra/laws.FnWrapTwo", spec := "fnWrapTwo", inPlace := ["internal/bytealg.IndexByteString", "internal/abi.NoEscape", "internal/bytealg.MakeNoZero", "internal/bytealg.CountString", "internal/bytealg.IndexString"], named := ["unicode/utf8.first", "unicode/utf8.acceptRanges", "internal/bytealg.MaxLen"], apart := false, laid := [("unicode/utf8.acceptRanges", laid_unicode_utf8_acceptRanges), ("unicode/utf8.first", laid_unicode_utf8_first)] }
def FnWrapTwoSaid : Prop := fnWrapTwoRow.holds Tryd.pinned (OpenSpec.ofChange fnWrapTwoSpec)

/-- ITS FALSE NEIGHBOUR: 'it returns false'. Refute it at one input. -/
def fnWrapTwoWrong : ChangeSpec := { name := "fnWrapTwo", fn := fun _ => fun
  | [d] => { results := [.lit (.bool false)], args := [d] }
  | _ => none }
def FnWrapTwoWrongFalsely : Prop := fnWrapTwoRow.holds Tryd.pinned (OpenSpec.ofChange fnWrapTwoWrong)

/-- 'laws.FnWrapBest': WHATEVER THE INPUT: true; the input reads as it did. -/
def fnWrapBestSpec : ChangeSpec := { name := "fnWrapBest", fn := fun _ => fun
  | [d] => { results := [.lit (.bool true)], args := [d] }
  | _ => none }
def fnWrapBestRow : OpenClaim := { program := "ytkpnmninkmnbjaadoor", sum := "175ed9205206bf2a40b6288921ebf57d2bbe27b283abbb57921985d360a0d4aa", func := "loop.example/docalgebra/laws.FnWrapBest", spec := "fnWrapBest", inPlace := ["internal/bytealg.IndexByteString", "internal/abi.NoEscape", "internal/bytealg.MakeNoZero", "internal/bytealg.CountString", "internal/bytealg.IndexString"], named := ["unicode/utf8.first", "unicode/utf8.acceptRanges", "internal/bytealg.MaxLen"], apart := false, laid := [("unicode/utf8.acceptRanges", laid_unicode_utf8_acceptRanges), ("unicode/utf8.first", laid_unicode_utf8_first)] }
def FnWrapBestSaid : Prop := fnWrapBestRow.holds Tryd.pinned (OpenSpec.ofChange fnWrapBestSpec)

/-- ITS FALSE NEIGHBOUR: 'it returns false'. Refute it at one input. -/
def fnWrapBestWrong : ChangeSpec := { name := "fnWrapBest", fn := fun _ => fun
  | [d] => { results := [.lit (.bool false)], args := [d] }
  | _ => none }
def FnWrapBestWrongFalsely : Prop := fnWrapBestRow.holds Tryd.pinned (OpenSpec.ofChange fnWrapBestWrong)

/- THE SECOND FORM. 'bulk': how many values and letters a reading holds, each counted each time it is reached (what is shared counts as often as it is met; a slice's spare places count too). A statement '..UptoSaid' is the law's where the arguments, and the package variables that the reading takes, are together of bulk at most 1048576: NARROWER than '..Said'. Prove '..Said' where nothing that the law and all that it calls make is longer than what came in: it says more and counts as full. Else prove '..UptoSaid'. A law counts once. -/
mutual
def uptoBulk {H : Type} : DataW H → Nat
  | .lit (.string bytes) => bytes.length + 1
  | .lit _ => 1
  | .nil => 1
  | .ptr d => uptoBulk d + 1
  | .slice elems spare => uptoBulkAll elems + uptoBulkAll spare + 1
  | .agg parts => uptoBulkAll parts + 1
  | .iface _ d => uptoBulk d + 1
  | .map entries => uptoBulkEntries entries + 1
  | .held _ => 1
def uptoBulkAll {H : Type} : List (DataW H) → Nat
  | [] => 0
  | d :: r => uptoBulk d + uptoBulkAll r
def uptoBulkEntries {H : Type} : List (Lit × DataW H) → Nat
  | [] => 0
  | x :: r => uptoBulkEntry x + uptoBulkEntries r
def uptoBulkEntry {H : Type} : Lit × DataW H → Nat
  | (.string bytes, d) => bytes.length + uptoBulk d + 1
  | (_, d) => uptoBulk d + 1
 end
def uptoSmall : (H : Type) → List (DataW H) → Bool := fun _ ds => decide (uptoBulkAll ds ≤ 1048576)
def OpenSpec.upto (s : _root_.Go.ChangeSpec) : _root_.Go.OpenSpec := { _root_.Go.OpenSpec.ofChange s with cond := some uptoSmall }

/-- 'laws.FnWrapGreedy', WHERE WHAT IT READS IS OF BULK AT MOST 1048576: true; the input reads as it did. -/
def fnWrapGreedyUptoRow : OpenClaim := { program := "ytkpnmninkmnbjaadoor", sum := "175ed9205206bf2a40b6288921ebf57d2bbe27b283abbb57921985d360a0d4aa", func := "loop.example/docalgebra/laws.FnWrapGreedy", spec := "fnWrapGreedy", inPlace := ["internal/bytealg.IndexByteString", "internal/bytealg.CountString", "internal/bytealg.IndexString"], named := ["unicode/utf8.first", "unicode/utf8.acceptRanges", "internal/bytealg.MaxLen"], apart := false, laid := [("unicode/utf8.acceptRanges", laid_unicode_utf8_acceptRanges), ("unicode/utf8.first", laid_unicode_utf8_first)], narrowed := true }
def FnWrapGreedyUptoSaid : Prop := fnWrapGreedyUptoRow.holds Tryd.pinned (OpenSpec.upto fnWrapGreedySpec)

/-- 'laws.FnExactWrapCost', WHERE WHAT IT READS IS OF BULK AT MOST 1048576: true; the input reads as it did. -/
def fnExactWrapCostUptoRow : OpenClaim := { program := "ytkpnmninkmnbjaadoor", sum := "175ed9205206bf2a40b6288921ebf57d2bbe27b283abbb57921985d360a0d4aa", func := "loop.example/docalgebra/laws.FnExactWrapCost", spec := "fnExactWrapCost", inPlace := ["internal/bytealg.CountString", "internal/bytealg.IndexByteString", "internal/bytealg.IndexString"], named := ["unicode/utf8.first", "unicode/utf8.acceptRanges", "internal/bytealg.MaxLen"], apart := false, laid := [("unicode/utf8.acceptRanges", laid_unicode_utf8_acceptRanges), ("unicode/utf8.first", laid_unicode_utf8_first)], narrowed := true }
def FnExactWrapCostUptoSaid : Prop := fnExactWrapCostUptoRow.holds Tryd.pinned (OpenSpec.upto fnExactWrapCostSpec)

/-- 'laws.FnWordsOf', WHERE WHAT IT READS IS OF BULK AT MOST 1048576: true; the input reads as it did. -/
def fnWordsOfUptoRow : OpenClaim := { program := "ytkpnmninkmnbjaadoor", sum := "175ed9205206bf2a40b6288921ebf57d2bbe27b283abbb57921985d360a0d4aa", func := "loop.example/docalgebra/laws.FnWordsOf", spec := "fnWordsOf", inPlace := ["internal/bytealg.IndexByteString", "internal/bytealg.CountString", "internal/bytealg.IndexString"], named := ["unicode/utf8.first", "unicode/utf8.acceptRanges", "internal/bytealg.MaxLen"], apart := false, laid := [("unicode/utf8.acceptRanges", laid_unicode_utf8_acceptRanges), ("unicode/utf8.first", laid_unicode_utf8_first)], narrowed := true }
def FnWordsOfUptoSaid : Prop := fnWordsOfUptoRow.holds Tryd.pinned (OpenSpec.upto fnWordsOfSpec)

/-- 'laws.FnWrapTail', WHERE WHAT IT READS IS OF BULK AT MOST 1048576: true; the input reads as it did. -/
def fnWrapTailUptoRow : OpenClaim := { program := "ytkpnmninkmnbjaadoor", sum := "175ed9205206bf2a40b6288921ebf57d2bbe27b283abbb57921985d360a0d4aa", func := "loop.example/docalgebra/laws.FnWrapTail", spec := "fnWrapTail", inPlace := ["internal/bytealg.IndexByteString", "internal/abi.NoEscape", "internal/bytealg.MakeNoZero", "internal/bytealg.CountString", "internal/bytealg.IndexString"], named := ["unicode/utf8.first", "unicode/utf8.acceptRanges", "internal/bytealg.MaxLen"], apart := false, laid := [("unicode/utf8.acceptRanges", laid_unicode_utf8_acceptRanges), ("unicode/utf8.first", laid_unicode_utf8_first)], narrowed := true }
def FnWrapTailUptoSaid : Prop := fnWrapTailUptoRow.holds Tryd.pinned (OpenSpec.upto fnWrapTailSpec)

/-- 'laws.FnWrapTwo', WHERE WHAT IT READS IS OF BULK AT MOST 1048576: true; the input reads as it did. -/
def fnWrapTwoUptoRow : OpenClaim := { program := "ytkpnmninkmnbjaadoor", sum := "175ed9205206bf2a40b6288921ebf57d2bbe27b283abbb57921985d360a0d4aa", func := "loop.example/docalgebra/laws.FnWrapTwo", spec := "fnWrapTwo", inPlace := ["internal/bytealg.IndexByteString", "internal/abi.NoEscape", "internal/bytealg.MakeNoZero", "internal/bytealg.CountString", "internal/bytealg.IndexString"], named := ["unicode/utf8.first", "unicode/utf8.acceptRanges", "internal/bytealg.MaxLen"], apart := false, laid := [("unicode/utf8.acceptRanges", laid_unicode_utf8_acceptRanges), ("unicode/utf8.first", laid_unicode_utf8_first)], narrowed := true }
def FnWrapTwoUptoSaid : Prop := fnWrapTwoUptoRow.holds Tryd.pinned (OpenSpec.upto fnWrapTwoSpec)

/-- 'laws.FnWrapBest', WHERE WHAT IT READS IS OF BULK AT MOST 1048576: true; the input reads as it did. -/
def fnWrapBestUptoRow : OpenClaim := { program := "ytkpnmninkmnbjaadoor", sum := "175ed9205206bf2a40b6288921ebf57d2bbe27b283abbb57921985d360a0d4aa", func := "loop.example/docalgebra/laws.FnWrapBest", spec := "fnWrapBest", inPlace := ["internal/bytealg.IndexByteString", "internal/abi.NoEscape", "internal/bytealg.MakeNoZero", "internal/bytealg.CountString", "internal/bytealg.IndexString"], named := ["unicode/utf8.first", "unicode/utf8.acceptRanges", "internal/bytealg.MaxLen"], apart := false, laid := [("unicode/utf8.acceptRanges", laid_unicode_utf8_acceptRanges), ("unicode/utf8.first", laid_unicode_utf8_first)], narrowed := true }
def FnWrapBestUptoSaid : Prop := fnWrapBestUptoRow.holds Tryd.pinned (OpenSpec.upto fnWrapBestSpec)

end Rows
end Go.Proofs.YtkpnmninkmnbjaaDoor
