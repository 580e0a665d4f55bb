/-
  DERIVED. GIVEN WITH THE SEED: THE CARDS: each row of YtfbikpddpdkllaaDoorRows.lean that lists a variable, with what it lists TIED to the program's text (the seventh form; the later family's looks); each row that meets fmt, with fmt's text TOLD by the authors' own Lean function (tested against real Go, not proved from fmt's source: count such statements apart). THE CARD IS WHAT COUNTS. Prove the row's statement (the work); the ties are given (YtfbikpddpdkllaaDoorTie.lean); close each card by the builder's one call (the guide's Derived/Test/ToyasCard.lean, 'card_holds'). Laid BY PROGRAM, IN A SANDBOX (cutbox-door.mjs). By AI agents, Wed Nov 11 2026. No macro, syntax, notation, axiom, sorry.
-/
import Derived.Test.YtfbikpddpdkllaaDoorRows
import GoSem.ClaimSeven
namespace Go.Proofs.YtfbikpddpdkllaaDoor
namespace Rows

/-- THE TIED CARD OF 'lapidarylaw14.LexSplits'. -/
def lexSplitsCard : Claim7 := { stood := { row := lexSplitsRow, standIns := [], harness := (true, "3344a105f5a7d33f92fd91d12f9c877f7d1a335dcba99b321ab911e64f3db970"), looks := true }, kinds := [], alts := [], laidByText := true, laidKinds := [.data, .pinned], laidTests := true, laidLooks := .later }
def LexSplitsCardSaid : Prop := Claim7.holds Tryd.pinned (.plain (OpenSpec.ofChange lexSplitsSpec)) lexSplitsCard

/-- THE TIED CARD OF 'lapidarylaw14.LexParts'. -/
def lexPartsCard : Claim7 := { stood := { row := lexPartsRow, standIns := [], harness := (true, "3344a105f5a7d33f92fd91d12f9c877f7d1a335dcba99b321ab911e64f3db970"), looks := true }, kinds := [], alts := [], laidByText := true, laidKinds := [.data, .pinned], laidTests := true, laidLooks := .later }
def LexPartsCardSaid : Prop := Claim7.holds Tryd.pinned (.plain (OpenSpec.ofChange lexPartsSpec)) lexPartsCard

/-- THE TIED CARD OF 'lapidarylaw14.LexJoins'. -/
def lexJoinsCard : Claim7 := { stood := { row := lexJoinsRow, standIns := [], harness := (true, "3344a105f5a7d33f92fd91d12f9c877f7d1a335dcba99b321ab911e64f3db970"), looks := true }, kinds := [], alts := [], laidByText := true, laidKinds := [.data, .data, .data, .data, .pinned], laidTests := true, laidLooks := .later }
def LexJoinsCardSaid : Prop := Claim7.holds Tryd.pinned (.plain (OpenSpec.ofChange lexJoinsSpec)) lexJoinsCard

/-- THE TIED CARD OF 'lapidarylaw14.LexBlanks'. -/
def lexBlanksCard : Claim7 := { stood := { row := lexBlanksRow, standIns := [], harness := (true, "3344a105f5a7d33f92fd91d12f9c877f7d1a335dcba99b321ab911e64f3db970"), looks := true }, kinds := [], alts := [], laidByText := true, laidKinds := [.data, .pinned], laidTests := true, laidLooks := .later }
def LexBlanksCardSaid : Prop := Claim7.holds Tryd.pinned (.plain (OpenSpec.ofChange lexBlanksSpec)) lexBlanksCard

/-- THE TIED CARD OF 'lapidarylaw14.LexCases'. -/
def lexCasesCard : Claim7 := { stood := { row := lexCasesRow, standIns := [], harness := (true, "3344a105f5a7d33f92fd91d12f9c877f7d1a335dcba99b321ab911e64f3db970"), looks := true }, kinds := [], alts := [], laidByText := true, laidKinds := [.data, .pinned], laidTests := true, laidLooks := .later }
def LexCasesCardSaid : Prop := Claim7.holds Tryd.pinned (.plain (OpenSpec.ofChange lexCasesSpec)) lexCasesCard

/-- THE TIED CARD OF 'lapidarylaw14.LexNumbers'. -/
def lexNumbersCard : Claim7 := { stood := { row := lexNumbersRow, standIns := [], harness := (true, "3344a105f5a7d33f92fd91d12f9c877f7d1a335dcba99b321ab911e64f3db970"), looks := true }, kinds := [], alts := [], laidByText := true, laidKinds := [.data, .pinned], laidTests := true, laidLooks := .later }
def LexNumbersCardSaid : Prop := Claim7.holds Tryd.pinned (.plain (OpenSpec.ofChange lexNumbersSpec)) lexNumbersCard

/-- THE SECOND FORM's CARD OF 'lapidarylaw14.LexSplits'. -/
def lexSplitsUptoCard : Claim7 := { stood := { row := lexSplitsUptoRow, standIns := [], harness := (true, "3344a105f5a7d33f92fd91d12f9c877f7d1a335dcba99b321ab911e64f3db970"), looks := true }, kinds := [], alts := [], laidByText := true, laidKinds := [.data, .pinned], laidTests := true, laidLooks := .later }
def LexSplitsUptoCardSaid : Prop := Claim7.holds Tryd.pinned (.plain (OpenSpec.upto lexSplitsSpec)) lexSplitsUptoCard

/-- THE SECOND FORM's CARD OF 'lapidarylaw14.LexParts'. -/
def lexPartsUptoCard : Claim7 := { stood := { row := lexPartsUptoRow, standIns := [], harness := (true, "3344a105f5a7d33f92fd91d12f9c877f7d1a335dcba99b321ab911e64f3db970"), looks := true }, kinds := [], alts := [], laidByText := true, laidKinds := [.data, .pinned], laidTests := true, laidLooks := .later }
def LexPartsUptoCardSaid : Prop := Claim7.holds Tryd.pinned (.plain (OpenSpec.upto lexPartsSpec)) lexPartsUptoCard

/-- THE SECOND FORM's CARD OF 'lapidarylaw14.LexJoins'. -/
def lexJoinsUptoCard : Claim7 := { stood := { row := lexJoinsUptoRow, standIns := [], harness := (true, "3344a105f5a7d33f92fd91d12f9c877f7d1a335dcba99b321ab911e64f3db970"), looks := true }, kinds := [], alts := [], laidByText := true, laidKinds := [.data, .data, .data, .data, .pinned], laidTests := true, laidLooks := .later }
def LexJoinsUptoCardSaid : Prop := Claim7.holds Tryd.pinned (.plain (OpenSpec.upto lexJoinsSpec)) lexJoinsUptoCard

/-- THE SECOND FORM's CARD OF 'lapidarylaw14.LexBlanks'. -/
def lexBlanksUptoCard : Claim7 := { stood := { row := lexBlanksUptoRow, standIns := [], harness := (true, "3344a105f5a7d33f92fd91d12f9c877f7d1a335dcba99b321ab911e64f3db970"), looks := true }, kinds := [], alts := [], laidByText := true, laidKinds := [.data, .pinned], laidTests := true, laidLooks := .later }
def LexBlanksUptoCardSaid : Prop := Claim7.holds Tryd.pinned (.plain (OpenSpec.upto lexBlanksSpec)) lexBlanksUptoCard

/-- THE SECOND FORM's CARD OF 'lapidarylaw14.LexCases'. -/
def lexCasesUptoCard : Claim7 := { stood := { row := lexCasesUptoRow, standIns := [], harness := (true, "3344a105f5a7d33f92fd91d12f9c877f7d1a335dcba99b321ab911e64f3db970"), looks := true }, kinds := [], alts := [], laidByText := true, laidKinds := [.data, .pinned], laidTests := true, laidLooks := .later }
def LexCasesUptoCardSaid : Prop := Claim7.holds Tryd.pinned (.plain (OpenSpec.upto lexCasesSpec)) lexCasesUptoCard

/-- THE SECOND FORM's CARD OF 'lapidarylaw14.LexNumbers'. -/
def lexNumbersUptoCard : Claim7 := { stood := { row := lexNumbersUptoRow, standIns := [], harness := (true, "3344a105f5a7d33f92fd91d12f9c877f7d1a335dcba99b321ab911e64f3db970"), looks := true }, kinds := [], alts := [], laidByText := true, laidKinds := [.data, .pinned], laidTests := true, laidLooks := .later }
def LexNumbersUptoCardSaid : Prop := Claim7.holds Tryd.pinned (.plain (OpenSpec.upto lexNumbersSpec)) lexNumbersUptoCard
end Rows
end Go.Proofs.YtfbikpddpdkllaaDoor
