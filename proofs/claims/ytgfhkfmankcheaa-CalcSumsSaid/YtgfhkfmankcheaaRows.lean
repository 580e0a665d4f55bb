/-
  No cell of these rows narrows 'for every input' (looked for: loops, veiled, ifaces, maps, wideKeys, modest, calm, conditions, laid).
  DERIVED. THE GIVEN ROWS OF THIS SEAT. 5 by the template 'for every input the law returns true; each argument reads behind the call as it read before'; 0 by the template 'total and deterministic' (their statements: YtgfhkfmankcheaaTotals.lean).
  GIVEN WITH THE SEED: the statements are not yours to turn. If you find one false, say at which input.
  Laid BY PROGRAM, IN A SANDBOX (cutbox-rows.mjs): the forced cells as the released guide's own fill.sh prints them over the translation fdc571e4f8daf162… (all of the seat's roots in one cut). By AI agents, Wed Nov 11 2026. No macro, syntax, notation, axiom, sorry.
-/
import Derived.Test.YtgfhkfmankcheaaChecked
import GoSem.Claim
import GoSem.ClaimJoined
import GoSem.ClaimMapViews
import Derived.JoinedTies
import Derived.KernelRfl
namespace Go.Proofs.Ytgfhkfmankcheaa
/- THE CELL 'sum', in the pinned program and in every row, IS THE sha256 OF THE DUMP (.gsa) THAT YtgfhkfmankcheaaProg.lean LOADS. Nothing in Lean hashes anything: it is a label: what it is worth is what the hold of that sum in a sandbox is worth. -/
noncomputable def Try.pinned : Pinned := { name := "ytgfhkfmankcheaa", sum := "fdc571e4f8daf162a6d2d34e374a7726941c30c764ae0e783d72ac9d79e9fd36", checked := Try.checked }
namespace Rows
def none {H : Type} : Left H := { results := [], args := [] }

/-- 'lapidarylaw01.CalcOrders': WHATEVER THE INPUT: true; the input reads as it did. -/
def calcOrdersSpec : ChangeSpec := { name := "calcOrders", fn := fun _ => fun
  | [d1, d2, d3] => { results := [.lit (.bool true)], args := [d1, d2, d3] }
  | _ => none }
def calcOrdersRow : OpenClaim := { program := "ytgfhkfmankcheaa", sum := "fdc571e4f8daf162a6d2d34e374a7726941c30c764ae0e783d72ac9d79e9fd36", func := "lapidary/lapidarylaw01.CalcOrders", spec := "calcOrders", apart := false }
def CalcOrdersSaid : Prop := calcOrdersRow.holds Try.pinned (OpenSpec.ofChange calcOrdersSpec)

/-- ITS FALSE NEIGHBOUR: 'it returns false'. Refute it at one input. -/
def calcOrdersWrong : ChangeSpec := { name := "calcOrders", fn := fun _ => fun
  | [d1, d2, d3] => { results := [.lit (.bool false)], args := [d1, d2, d3] }
  | _ => none }
def CalcOrdersWrongFalsely : Prop := calcOrdersRow.holds Try.pinned (OpenSpec.ofChange calcOrdersWrong)

/-- 'lapidarylaw01.CalcBack': WHATEVER THE INPUT: true; the input reads as it did. -/
def calcBackSpec : ChangeSpec := { name := "calcBack", fn := fun _ => fun
  | [d1, d2] => { results := [.lit (.bool true)], args := [d1, d2] }
  | _ => none }
def calcBackRow : OpenClaim := { program := "ytgfhkfmankcheaa", sum := "fdc571e4f8daf162a6d2d34e374a7726941c30c764ae0e783d72ac9d79e9fd36", func := "lapidary/lapidarylaw01.CalcBack", spec := "calcBack", apart := false }
def CalcBackSaid : Prop := calcBackRow.holds Try.pinned (OpenSpec.ofChange calcBackSpec)

/-- ITS FALSE NEIGHBOUR: 'it returns false'. Refute it at one input. -/
def calcBackWrong : ChangeSpec := { name := "calcBack", fn := fun _ => fun
  | [d1, d2] => { results := [.lit (.bool false)], args := [d1, d2] }
  | _ => none }
def CalcBackWrongFalsely : Prop := calcBackRow.holds Try.pinned (OpenSpec.ofChange calcBackWrong)

/-- 'lapidarylaw01.CalcTurns': WHATEVER THE INPUT: true; the input reads as it did. -/
def calcTurnsSpec : ChangeSpec := { name := "calcTurns", fn := fun _ => fun
  | [d1, d2] => { results := [.lit (.bool true)], args := [d1, d2] }
  | _ => none }
def calcTurnsRow : OpenClaim := { program := "ytgfhkfmankcheaa", sum := "fdc571e4f8daf162a6d2d34e374a7726941c30c764ae0e783d72ac9d79e9fd36", func := "lapidary/lapidarylaw01.CalcTurns", spec := "calcTurns", apart := false }
def CalcTurnsSaid : Prop := calcTurnsRow.holds Try.pinned (OpenSpec.ofChange calcTurnsSpec)

/-- ITS FALSE NEIGHBOUR: 'it returns false'. Refute it at one input. -/
def calcTurnsWrong : ChangeSpec := { name := "calcTurns", fn := fun _ => fun
  | [d1, d2] => { results := [.lit (.bool false)], args := [d1, d2] }
  | _ => none }
def CalcTurnsWrongFalsely : Prop := calcTurnsRow.holds Try.pinned (OpenSpec.ofChange calcTurnsWrong)

/-- 'lapidarylaw01.CalcSums': WHATEVER THE INPUT: true; the input reads as it did. -/
def calcSumsSpec : ChangeSpec := { name := "calcSums", fn := fun _ => fun
  | [d1, d2] => { results := [.lit (.bool true)], args := [d1, d2] }
  | _ => none }
def calcSumsRow : OpenClaim := { program := "ytgfhkfmankcheaa", sum := "fdc571e4f8daf162a6d2d34e374a7726941c30c764ae0e783d72ac9d79e9fd36", func := "lapidary/lapidarylaw01.CalcSums", spec := "calcSums", inPlace := ["math/bits.Add64"], apart := false }
def CalcSumsSaid : Prop := calcSumsRow.holds Try.pinned (OpenSpec.ofChange calcSumsSpec)

/-- ITS FALSE NEIGHBOUR: 'it returns false'. Refute it at one input. -/
def calcSumsWrong : ChangeSpec := { name := "calcSums", fn := fun _ => fun
  | [d1, d2] => { results := [.lit (.bool false)], args := [d1, d2] }
  | _ => none }
def CalcSumsWrongFalsely : Prop := calcSumsRow.holds Try.pinned (OpenSpec.ofChange calcSumsWrong)

/-- 'lapidarylaw01.CalcProducts': WHATEVER THE INPUT: true; the input reads as it did. -/
def calcProductsSpec : ChangeSpec := { name := "calcProducts", fn := fun _ => fun
  | [d1, d2] => { results := [.lit (.bool true)], args := [d1, d2] }
  | _ => none }
def calcProductsRow : OpenClaim := { program := "ytgfhkfmankcheaa", sum := "fdc571e4f8daf162a6d2d34e374a7726941c30c764ae0e783d72ac9d79e9fd36", func := "lapidary/lapidarylaw01.CalcProducts", spec := "calcProducts", apart := false }
def CalcProductsSaid : Prop := calcProductsRow.holds Try.pinned (OpenSpec.ofChange calcProductsSpec)

/-- ITS FALSE NEIGHBOUR: 'it returns false'. Refute it at one input. -/
def calcProductsWrong : ChangeSpec := { name := "calcProducts", fn := fun _ => fun
  | [d1, d2] => { results := [.lit (.bool false)], args := [d1, d2] }
  | _ => none }
def CalcProductsWrongFalsely : Prop := calcProductsRow.holds Try.pinned (OpenSpec.ofChange calcProductsWrong)

/- THE SECOND FORM. 'bulk': how many values and letters a reading holds, each counted each time it is reached (what is shared counts as often as it is met; a slice's spare places count too). A statement '..UptoSaid' is the law's where the arguments, and the package variables that the reading takes, are together of bulk at most 1048576: NARROWER than '..Said'. Prove '..Said' where nothing that the law and all that it calls make is longer than what came in: it says more and counts as full. Else prove '..UptoSaid'. A law counts once. -/
mutual
def uptoBulk {H : Type} : DataW H → Nat
  | .lit (.string bytes) => bytes.length + 1
  | .lit _ => 1
  | .nil => 1
  | .ptr d => uptoBulk d + 1
  | .slice elems spare => uptoBulkAll elems + uptoBulkAll spare + 1
  | .agg parts => uptoBulkAll parts + 1
  | .iface _ d => uptoBulk d + 1
  | .map entries => uptoBulkEntries entries + 1
  | .held _ => 1
def uptoBulkAll {H : Type} : List (DataW H) → Nat
  | [] => 0
  | d :: r => uptoBulk d + uptoBulkAll r
def uptoBulkEntries {H : Type} : List (Lit × DataW H) → Nat
  | [] => 0
  | x :: r => uptoBulkEntry x + uptoBulkEntries r
def uptoBulkEntry {H : Type} : Lit × DataW H → Nat
  | (.string bytes, d) => bytes.length + uptoBulk d + 1
  | (_, d) => uptoBulk d + 1
 end
def uptoSmall : (H : Type) → List (DataW H) → Bool := fun _ ds => decide (uptoBulkAll ds ≤ 1048576)
def OpenSpec.upto (s : _root_.Go.ChangeSpec) : _root_.Go.OpenSpec := { _root_.Go.OpenSpec.ofChange s with cond := some uptoSmall }

/-- 'lapidarylaw01.CalcOrders', WHERE WHAT IT READS IS OF BULK AT MOST 1048576: true; the input reads as it did. -/
def calcOrdersUptoRow : OpenClaim := { program := "ytgfhkfmankcheaa", sum := "fdc571e4f8daf162a6d2d34e374a7726941c30c764ae0e783d72ac9d79e9fd36", func := "lapidary/lapidarylaw01.CalcOrders", spec := "calcOrders", apart := false, narrowed := true }
def CalcOrdersUptoSaid : Prop := calcOrdersUptoRow.holds Try.pinned (OpenSpec.upto calcOrdersSpec)

/-- 'lapidarylaw01.CalcBack', WHERE WHAT IT READS IS OF BULK AT MOST 1048576: true; the input reads as it did. -/
def calcBackUptoRow : OpenClaim := { program := "ytgfhkfmankcheaa", sum := "fdc571e4f8daf162a6d2d34e374a7726941c30c764ae0e783d72ac9d79e9fd36", func := "lapidary/lapidarylaw01.CalcBack", spec := "calcBack", apart := false, narrowed := true }
def CalcBackUptoSaid : Prop := calcBackUptoRow.holds Try.pinned (OpenSpec.upto calcBackSpec)

/-- 'lapidarylaw01.CalcTurns', WHERE WHAT IT READS IS OF BULK AT MOST 1048576: true; the input reads as it did. -/
def calcTurnsUptoRow : OpenClaim := { program := "ytgfhkfmankcheaa", sum := "fdc571e4f8daf162a6d2d34e374a7726941c30c764ae0e783d72ac9d79e9fd36", func := "lapidary/lapidarylaw01.CalcTurns", spec := "calcTurns", apart := false, narrowed := true }
def CalcTurnsUptoSaid : Prop := calcTurnsUptoRow.holds Try.pinned (OpenSpec.upto calcTurnsSpec)

/-- 'lapidarylaw01.CalcSums', WHERE WHAT IT READS IS OF BULK AT MOST 1048576: true; the input reads as it did. -/
def calcSumsUptoRow : OpenClaim := { program := "ytgfhkfmankcheaa", sum := "fdc571e4f8daf162a6d2d34e374a7726941c30c764ae0e783d72ac9d79e9fd36", func := "lapidary/lapidarylaw01.CalcSums", spec := "calcSums", inPlace := ["math/bits.Add64"], apart := false, narrowed := true }
def CalcSumsUptoSaid : Prop := calcSumsUptoRow.holds Try.pinned (OpenSpec.upto calcSumsSpec)

/-- 'lapidarylaw01.CalcProducts', WHERE WHAT IT READS IS OF BULK AT MOST 1048576: true; the input reads as it did. -/
def calcProductsUptoRow : OpenClaim := { program := "ytgfhkfmankcheaa", sum := "fdc571e4f8daf162a6d2d34e374a7726941c30c764ae0e783d72ac9d79e9fd36", func := "lapidary/lapidarylaw01.CalcProducts", spec := "calcProducts", apart := false, narrowed := true }
def CalcProductsUptoSaid : Prop := calcProductsUptoRow.holds Try.pinned (OpenSpec.upto calcProductsSpec)

end Rows
end Go.Proofs.Ytgfhkfmankcheaa
