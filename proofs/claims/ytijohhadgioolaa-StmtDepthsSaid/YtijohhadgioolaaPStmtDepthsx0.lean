-- PRINTED BY print.sh 35421559b90ae4d0a3588c463048766b98c2df88dd9212a6774a882060cdf62d: not written by this session
import Derived.Test.YtijohhadgioolaaProg
import Derived.Below
import Derived.Deep.Draws
import Derived.Deep.AppendLies
import Derived.Maps.AppendAt
import Derived.OwnWalk
import Derived.Laws.BytesArg
import Derived.Laws.MakeOwn
import Derived.Laws.OwnMore
import Derived.Deep.OwnRows
import Derived.Tactics
import Derived.Lib.ConvBytes
import Derived.Laws.Slices
import Derived.WalkKit
import Derived.KernelRfl
import Derived.RowKit3
import Derived.Deep.LoopGhost
import Derived.Deep.QuietTactic
import Derived.BigQuiet
import Derived.WideLaws
import Derived.Deep.DeepCutAuto
import Derived.Deep.CutBlock
import Derived.Deep.RegionHeld3
import Derived.Laws.Rows
import Derived.Lib.AppendStr
import Derived.ArgAppend
import Derived.Laws.IdiomCopy
import Derived.OrdersHeld
import Derived.Laws.BitsLemmas
import Derived.RowKit
import Derived.Test.YtijohhadgioolaaWWords
import Derived.Test.YtijohhadgioolaaWLast
import Derived.Test.YtijohhadgioolaaWTab
import Derived.Test.YtijohhadgioolaaWFour
import Derived.Test.YtijohhadgioolaaWQPut
import Derived.Test.YtijohhadgioolaaWApart
import Derived.Test.YtijohhadgioolaaWArr
import Derived.Test.YtijohhadgioolaaWZeros
import Derived.Test.YtijohhadgioolaaWFoot
import Derived.Test.YtijohhadgioolaaWKept
import Derived.Test.YtijohhadgioolaaWShare
import Derived.Test.YtijohhadgioolaaWN
import Derived.Test.YtijohhadgioolaaWFootNe
import Derived.Test.YtijohhadgioolaaWAt
import Derived.Test.YtijohhadgioolaaWEqStruct
import Derived.Test.YtijohhadgioolaaWRepsOne
import Derived.Test.YtijohhadgioolaaWInv
import Derived.Test.YtijohhadgioolaaWInvWords
import Derived.Test.YtijohhadgioolaaWGuard
import Derived.Test.YtijohhadgioolaaWNEv
import Derived.Test.YtijohhadgioolaaWMore
namespace Go.Proofs.Ytijohhadgioolaa.PStmtDepths
open Go.RowKit Go.Proofs.YtijohhadgioolaaW.PrintWords Go.Proofs.YtijohhadgioolaaW.PrintLast Go.Proofs.YtijohhadgioolaaW.PrintMore
attribute [local go_sem] max2_int min2_int max_two min_two max_three min_three max_four min_four   -- for this text's walks alone
set_option linter.unusedVariables false
set_option linter.unusedSimpArgs false



def errW : Option Int → Value
  | none => .nilIface
  | some c => .iface 0 (.int .i64 c)
theorem errW_none : errW none = .nilIface := rfl
theorem errW_some (c : Int) : errW (some c) = .iface 0 (.int .i64 c) := rfl

-- the values' own types

end Go.Proofs.Ytijohhadgioolaa.PStmtDepths
