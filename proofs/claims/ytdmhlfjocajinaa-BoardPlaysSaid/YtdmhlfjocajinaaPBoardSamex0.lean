-- PRINTED BY print.sh 35421559b90ae4d0a3588c463048766b98c2df88dd9212a6774a882060cdf62d: not written by this session
import Derived.Test.YtdmhlfjocajinaaProg
import Derived.Below
import Derived.Deep.Draws
import Derived.Deep.AppendLies
import Derived.Maps.AppendAt
import Derived.OwnWalk
import Derived.Laws.BytesArg
import Derived.Laws.MakeOwn
import Derived.Laws.OwnMore
import Derived.Deep.OwnRows
import Derived.Tactics
import Derived.Lib.ConvBytes
import Derived.Laws.Slices
import Derived.WalkKit
import Derived.KernelRfl
import Derived.RowKit3
import Derived.Deep.LoopGhost
import Derived.Deep.QuietTactic
import Derived.BigQuiet
import Derived.WideLaws
import Derived.Deep.DeepCutAuto
import Derived.Deep.CutBlock
import Derived.Deep.RegionHeld3
import Derived.Laws.Rows
import Derived.Lib.AppendStr
import Derived.ArgAppend
import Derived.Laws.IdiomCopy
import Derived.OrdersHeld
import Derived.Laws.BitsLemmas
import Derived.RowKit
import Derived.Test.YtdmhlfjocajinaaWWords
import Derived.Test.YtdmhlfjocajinaaWLast
import Derived.Test.YtdmhlfjocajinaaWTab
import Derived.Test.YtdmhlfjocajinaaWFour
import Derived.Test.YtdmhlfjocajinaaWQPut
import Derived.Test.YtdmhlfjocajinaaWApart
import Derived.Test.YtdmhlfjocajinaaWArr
import Derived.Test.YtdmhlfjocajinaaWZeros
import Derived.Test.YtdmhlfjocajinaaWFoot
import Derived.Test.YtdmhlfjocajinaaWKept
import Derived.Test.YtdmhlfjocajinaaWShare
import Derived.Test.YtdmhlfjocajinaaWN
import Derived.Test.YtdmhlfjocajinaaWFootNe
import Derived.Test.YtdmhlfjocajinaaWAt
import Derived.Test.YtdmhlfjocajinaaWEqStruct
import Derived.Test.YtdmhlfjocajinaaWRepsOne
import Derived.Test.YtdmhlfjocajinaaWInv
import Derived.Test.YtdmhlfjocajinaaWInvWords
import Derived.Test.YtdmhlfjocajinaaWGuard
import Derived.Test.YtdmhlfjocajinaaWNEv
import Derived.Test.YtdmhlfjocajinaaWMore
namespace Go.Proofs.Ytdmhlfjocajinaa.PBoardSame
open Go.RowKit Go.Proofs.YtdmhlfjocajinaaW.PrintWords Go.Proofs.YtdmhlfjocajinaaW.PrintLast Go.Proofs.YtdmhlfjocajinaaW.PrintMore
attribute [local go_sem] max2_int min2_int max_two min_two max_three min_three max_four min_four   -- for this text's walks alone
set_option linter.unusedVariables false
set_option linter.unusedSimpArgs false



def errW : Option Int → Value
  | none => .nilIface
  | some c => .iface 0 (.int .i64 c)
theorem errW_none : errW none = .nilIface := rfl
theorem errW_some (c : Int) : errW (some c) = .iface 0 (.int .i64 c) := rfl

-- the values' own types

end Go.Proofs.Ytdmhlfjocajinaa.PBoardSame
