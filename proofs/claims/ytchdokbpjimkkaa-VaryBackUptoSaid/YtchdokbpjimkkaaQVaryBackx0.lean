-- Written for this claim by a program of this session's, out of Lean's own print of the program; Lean checks it.
import Derived.Test.YtchdokbpjimkkaaProg
import Derived.Below
import Derived.Deep.Draws
import Derived.Deep.AppendLies
import Derived.Maps.AppendAt
import Derived.OwnWalk
import Derived.Laws.BytesArg
import Derived.Laws.MakeOwn
import Derived.Laws.OwnMore
import Derived.Deep.OwnRows
import Derived.Tactics
import Derived.Lib.ConvBytes
import Derived.Laws.Slices
import Derived.WalkKit
import Derived.KernelRfl
import Derived.RowKit3
import Derived.Deep.LoopGhost
import Derived.Deep.QuietTactic
import Derived.BigQuiet
import Derived.WideLaws
import Derived.Deep.DeepCutAuto
import Derived.Deep.CutBlock
import Derived.Deep.RegionHeld3
import Derived.Laws.Rows
import Derived.Lib.AppendStr
import Derived.ArgAppend
import Derived.Laws.IdiomCopy
import Derived.OrdersHeld
import Derived.Laws.BitsLemmas
import Derived.RowKit
import Derived.Test.YtchdokbpjimkkaaWWords
import Derived.Test.YtchdokbpjimkkaaWLast
import Derived.Test.YtchdokbpjimkkaaWTab
import Derived.Test.YtchdokbpjimkkaaWFour
import Derived.Test.YtchdokbpjimkkaaWQPut
import Derived.Test.YtchdokbpjimkkaaWApart
import Derived.Test.YtchdokbpjimkkaaWArr
import Derived.Test.YtchdokbpjimkkaaWZeros
import Derived.Test.YtchdokbpjimkkaaWFoot
import Derived.Test.YtchdokbpjimkkaaWKept
import Derived.Test.YtchdokbpjimkkaaWShare
import Derived.Test.YtchdokbpjimkkaaWN
import Derived.Test.YtchdokbpjimkkaaWFootNe
import Derived.Test.YtchdokbpjimkkaaWAt
import Derived.Test.YtchdokbpjimkkaaWEqStruct
import Derived.Test.YtchdokbpjimkkaaWRepsOne
import Derived.Test.YtchdokbpjimkkaaWInv
import Derived.Test.YtchdokbpjimkkaaWInvWords
import Derived.Test.YtchdokbpjimkkaaWGuard
import Derived.Test.YtchdokbpjimkkaaWNEv
import Derived.Test.YtchdokbpjimkkaaWMore
namespace Go.Proofs.Ytchdokbpjimkkaa.QVaryBack
open Go.RowKit Go.Proofs.YtchdokbpjimkkaaW.PrintWords Go.Proofs.YtchdokbpjimkkaaW.PrintLast Go.Proofs.YtchdokbpjimkkaaW.PrintMore
attribute [local go_sem] max2_int min2_int max_two min_two max_three min_three max_four min_four   -- for this text's walks alone
set_option linter.unusedVariables false
set_option linter.unusedSimpArgs false



def errW : Option Int → Value
  | none => .nilIface
  | some c => .iface 0 (.int .i64 c)
theorem errW_none : errW none = .nilIface := rfl
theorem errW_some (c : Int) : errW (some c) = .iface 0 (.int .i64 c) := rfl

theorem info5 : (Try.prog.info? 5).map (fun i => (i.zero, i.size, i.bytes)) = some (some (.int .u8 0), 1, 1) := by kernel_rfl
-- the values' own types

end Go.Proofs.Ytchdokbpjimkkaa.QVaryBack
