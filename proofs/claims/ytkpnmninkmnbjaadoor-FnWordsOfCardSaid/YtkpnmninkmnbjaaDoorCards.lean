/-
  DERIVED. GIVEN WITH THE SEED: THE CARDS: each row of YtkpnmninkmnbjaaDoorRows.lean that lists a variable, with what it lists TIED to the program's text (the seventh form; the later family's looks); each row that meets fmt, with fmt's text TOLD by the authors' own Lean function (tested against real Go, not proved from fmt's source: count such statements apart). THE CARD IS WHAT COUNTS. Prove the row's statement (the work); the ties are given (YtkpnmninkmnbjaaDoorTie.lean); close each card by the builder's one call (the guide's Derived/Test/ToyasCard.lean, 'card_holds'). Laid BY PROGRAM, IN A SANDBOX (cutbox-door.mjs). By AI agents, Wed Nov 11 2026. No macro, syntax, notation, axiom, sorry.
-/
import Derived.Test.YtkpnmninkmnbjaaDoorRows
import GoSem.ClaimSeven
namespace Go.Proofs.YtkpnmninkmnbjaaDoor
namespace Rows

/-- THE TIED CARD OF 'laws.FnWrapGreedy'. -/
def fnWrapGreedyCard : Claim7 := { stood := { row := fnWrapGreedyRow, standIns := [], harness := (true, "bdbd8a96736cd3c71207cd8abdac6b65f3b9b9220ddbbe9c51f96c3af2ba53c3"), looks := false }, kinds := [], alts := [], laidByText := true, laidKinds := [.data, .pinned], laidTests := true, laidLooks := .later }
def FnWrapGreedyCardSaid : Prop := Claim7.holds Tryd.pinned (.plain (OpenSpec.ofChange fnWrapGreedySpec)) fnWrapGreedyCard

/-- THE TIED CARD OF 'laws.FnExactWrapCost'. -/
def fnExactWrapCostCard : Claim7 := { stood := { row := fnExactWrapCostRow, standIns := [], harness := (true, "bdbd8a96736cd3c71207cd8abdac6b65f3b9b9220ddbbe9c51f96c3af2ba53c3"), looks := false }, kinds := [], alts := [], laidByText := true, laidKinds := [.data, .pinned], laidTests := true, laidLooks := .later }
def FnExactWrapCostCardSaid : Prop := Claim7.holds Tryd.pinned (.plain (OpenSpec.ofChange fnExactWrapCostSpec)) fnExactWrapCostCard

/-- THE TIED CARD OF 'laws.FnWordsOf'. -/
def fnWordsOfCard : Claim7 := { stood := { row := fnWordsOfRow, standIns := [], harness := (true, "bdbd8a96736cd3c71207cd8abdac6b65f3b9b9220ddbbe9c51f96c3af2ba53c3"), looks := false }, kinds := [], alts := [], laidByText := true, laidKinds := [.data, .pinned], laidTests := true, laidLooks := .later }
def FnWordsOfCardSaid : Prop := Claim7.holds Tryd.pinned (.plain (OpenSpec.ofChange fnWordsOfSpec)) fnWordsOfCard

/-- THE TIED CARD OF 'laws.FnWrapTail'. -/
def fnWrapTailCard : Claim7 := { stood := { row := fnWrapTailRow, standIns := [], harness := (true, "bdbd8a96736cd3c71207cd8abdac6b65f3b9b9220ddbbe9c51f96c3af2ba53c3"), looks := false }, kinds := [], alts := [], laidByText := true, laidKinds := [.data, .pinned], laidTests := true, laidLooks := .later }
def FnWrapTailCardSaid : Prop := Claim7.holds Tryd.pinned (.plain (OpenSpec.ofChange fnWrapTailSpec)) fnWrapTailCard

/-- THE TIED CARD OF 'laws.FnWrapTwo'. -/
def fnWrapTwoCard : Claim7 := { stood := { row := fnWrapTwoRow, standIns := [], harness := (true, "bdbd8a96736cd3c71207cd8abdac6b65f3b9b9220ddbbe9c51f96c3af2ba53c3"), looks := false }, kinds := [], alts := [], laidByText := true, laidKinds := [.data, .pinned], laidTests := true, laidLooks := .later }
def FnWrapTwoCardSaid : Prop := Claim7.holds Tryd.pinned (.plain (OpenSpec.ofChange fnWrapTwoSpec)) fnWrapTwoCard

/-- THE TIED CARD OF 'laws.FnWrapBest'. -/
def fnWrapBestCard : Claim7 := { stood := { row := fnWrapBestRow, standIns := [], harness := (true, "bdbd8a96736cd3c71207cd8abdac6b65f3b9b9220ddbbe9c51f96c3af2ba53c3"), looks := false }, kinds := [], alts := [], laidByText := true, laidKinds := [.data, .pinned], laidTests := true, laidLooks := .later }
def FnWrapBestCardSaid : Prop := Claim7.holds Tryd.pinned (.plain (OpenSpec.ofChange fnWrapBestSpec)) fnWrapBestCard

/-- THE SECOND FORM's CARD OF 'laws.FnWrapGreedy'. -/
def fnWrapGreedyUptoCard : Claim7 := { stood := { row := fnWrapGreedyUptoRow, standIns := [], harness := (true, "bdbd8a96736cd3c71207cd8abdac6b65f3b9b9220ddbbe9c51f96c3af2ba53c3"), looks := false }, kinds := [], alts := [], laidByText := true, laidKinds := [.data, .pinned], laidTests := true, laidLooks := .later }
def FnWrapGreedyUptoCardSaid : Prop := Claim7.holds Tryd.pinned (.plain (OpenSpec.upto fnWrapGreedySpec)) fnWrapGreedyUptoCard

/-- THE SECOND FORM's CARD OF 'laws.FnExactWrapCost'. -/
def fnExactWrapCostUptoCard : Claim7 := { stood := { row := fnExactWrapCostUptoRow, standIns := [], harness := (true, "bdbd8a96736cd3c71207cd8abdac6b65f3b9b9220ddbbe9c51f96c3af2ba53c3"), looks := false }, kinds := [], alts := [], laidByText := true, laidKinds := [.data, .pinned], laidTests := true, laidLooks := .later }
def FnExactWrapCostUptoCardSaid : Prop := Claim7.holds Tryd.pinned (.plain (OpenSpec.upto fnExactWrapCostSpec)) fnExactWrapCostUptoCard

/-- THE SECOND FORM's CARD OF 'laws.FnWordsOf'. -/
def fnWordsOfUptoCard : Claim7 := { stood := { row := fnWordsOfUptoRow, standIns := [], harness := (true, "bdbd8a96736cd3c71207cd8abdac6b65f3b9b9220ddbbe9c51f96c3af2ba53c3"), looks := false }, kinds := [], alts := [], laidByText := true, laidKinds := [.data, .pinned], laidTests := true, laidLooks := .later }
def FnWordsOfUptoCardSaid : Prop := Claim7.holds Tryd.pinned (.plain (OpenSpec.upto fnWordsOfSpec)) fnWordsOfUptoCard

/-- THE SECOND FORM's CARD OF 'laws.FnWrapTail'. -/
def fnWrapTailUptoCard : Claim7 := { stood := { row := fnWrapTailUptoRow, standIns := [], harness := (true, "bdbd8a96736cd3c71207cd8abdac6b65f3b9b9220ddbbe9c51f96c3af2ba53c3"), looks := false }, kinds := [], alts := [], laidByText := true, laidKinds := [.data, .pinned], laidTests := true, laidLooks := .later }
def FnWrapTailUptoCardSaid : Prop := Claim7.holds Tryd.pinned (.plain (OpenSpec.upto fnWrapTailSpec)) fnWrapTailUptoCard

/-- THE SECOND FORM's CARD OF 'laws.FnWrapTwo'. -/
def fnWrapTwoUptoCard : Claim7 := { stood := { row := fnWrapTwoUptoRow, standIns := [], harness := (true, "bdbd8a96736cd3c71207cd8abdac6b65f3b9b9220ddbbe9c51f96c3af2ba53c3"), looks := false }, kinds := [], alts := [], laidByText := true, laidKinds := [.data, .pinned], laidTests := true, laidLooks := .later }
def FnWrapTwoUptoCardSaid : Prop := Claim7.holds Tryd.pinned (.plain (OpenSpec.upto fnWrapTwoSpec)) fnWrapTwoUptoCard

/-- THE SECOND FORM's CARD OF 'laws.FnWrapBest'. -/
def fnWrapBestUptoCard : Claim7 := { stood := { row := fnWrapBestUptoRow, standIns := [], harness := (true, "bdbd8a96736cd3c71207cd8abdac6b65f3b9b9220ddbbe9c51f96c3af2ba53c3"), looks := false }, kinds := [], alts := [], laidByText := true, laidKinds := [.data, .pinned], laidTests := true, laidLooks := .later }
def FnWrapBestUptoCardSaid : Prop := Claim7.holds Tryd.pinned (.plain (OpenSpec.upto fnWrapBestSpec)) fnWrapBestUptoCard
end Rows
end Go.Proofs.YtkpnmninkmnbjaaDoor
