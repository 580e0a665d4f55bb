/-
  DERIVED. GIVEN WITH THE SEED: THE CARDS: each row of YtgfhkfmankcheaaDoorRows.lean that lists a variable, with what it lists TIED to the program's text (the seventh form; the later family's looks); each row that meets fmt, with fmt's text TOLD by the authors' own Lean function (tested against real Go, not proved from fmt's source: count such statements apart). THE CARD IS WHAT COUNTS. Prove the row's statement (the work); the ties are given (YtgfhkfmankcheaaDoorTie.lean); close each card by the builder's one call (the guide's Derived/Test/ToyasCard.lean, 'card_holds'). Laid BY PROGRAM, IN A SANDBOX (cutbox-door.mjs). By AI agents, Wed Nov 11 2026. No macro, syntax, notation, axiom, sorry.
-/
import Derived.Test.YtgfhkfmankcheaaDoorRows
import GoSem.ClaimSeven
namespace Go.Proofs.YtgfhkfmankcheaaDoor
namespace Rows

/-- THE TIED CARD OF 'lapidarylaw01.CalcReads'. -/
def calcReadsCard : Claim7 := { stood := { row := calcReadsRow, standIns := [], harness := (true, "b8350a8fb2d0f998f32e77db0b0c8ffab69341bebca428146a49f5afafe5e7cc"), looks := false }, kinds := [], alts := [], laidByText := true, laidKinds := [.data, .data, .data], laidTests := true, laidLooks := .later }
def CalcReadsCardSaid : Prop := Claim7.holds Tryd.pinned (.plain (OpenSpec.ofChange calcReadsSpec)) calcReadsCard

/-- THE SECOND FORM's CARD OF 'lapidarylaw01.CalcReads'. -/
def calcReadsUptoCard : Claim7 := { stood := { row := calcReadsUptoRow, standIns := [], harness := (true, "b8350a8fb2d0f998f32e77db0b0c8ffab69341bebca428146a49f5afafe5e7cc"), looks := false }, kinds := [], alts := [], laidByText := true, laidKinds := [.data, .data, .data], laidTests := true, laidLooks := .later }
def CalcReadsUptoCardSaid : Prop := Claim7.holds Tryd.pinned (.plain (OpenSpec.upto calcReadsSpec)) calcReadsUptoCard
end Rows
end Go.Proofs.YtgfhkfmankcheaaDoor
