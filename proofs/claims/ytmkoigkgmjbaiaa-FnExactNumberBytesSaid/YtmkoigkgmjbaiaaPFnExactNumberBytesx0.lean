-- PRINTED BY print.sh 35421559b90ae4d0a3588c463048766b98c2df88dd9212a6774a882060cdf62d: not written by this session
import Derived.Test.YtmkoigkgmjbaiaaProg
import Derived.Below
import Derived.Deep.Draws
import Derived.Deep.AppendLies
import Derived.Maps.AppendAt
import Derived.OwnWalk
import Derived.Laws.BytesArg
import Derived.Laws.MakeOwn
import Derived.Laws.OwnMore
import Derived.Deep.OwnRows
import Derived.Tactics
import Derived.Lib.ConvBytes
import Derived.Laws.Slices
import Derived.WalkKit
import Derived.KernelRfl
import Derived.RowKit3
import Derived.Deep.LoopGhost
import Derived.Deep.QuietTactic
import Derived.BigQuiet
import Derived.WideLaws
import Derived.Deep.DeepCutAuto
import Derived.Deep.CutBlock
import Derived.Deep.RegionHeld3
import Derived.Laws.Rows
import Derived.Lib.AppendStr
import Derived.ArgAppend
import Derived.Laws.IdiomCopy
import Derived.OrdersHeld
import Derived.Laws.BitsLemmas
import Derived.RowKit
import Derived.Test.YtmkoigkgmjbaiaaWWords
import Derived.Test.YtmkoigkgmjbaiaaWLast
import Derived.Test.YtmkoigkgmjbaiaaWTab
import Derived.Test.YtmkoigkgmjbaiaaWFour
import Derived.Test.YtmkoigkgmjbaiaaWQPut
import Derived.Test.YtmkoigkgmjbaiaaWApart
import Derived.Test.YtmkoigkgmjbaiaaWArr
import Derived.Test.YtmkoigkgmjbaiaaWZeros
import Derived.Test.YtmkoigkgmjbaiaaWFoot
import Derived.Test.YtmkoigkgmjbaiaaWKept
import Derived.Test.YtmkoigkgmjbaiaaWShare
import Derived.Test.YtmkoigkgmjbaiaaWN
import Derived.Test.YtmkoigkgmjbaiaaWFootNe
import Derived.Test.YtmkoigkgmjbaiaaWAt
import Derived.Test.YtmkoigkgmjbaiaaWEqStruct
import Derived.Test.YtmkoigkgmjbaiaaWRepsOne
import Derived.Test.YtmkoigkgmjbaiaaWInv
import Derived.Test.YtmkoigkgmjbaiaaWInvWords
import Derived.Test.YtmkoigkgmjbaiaaWGuard
import Derived.Test.YtmkoigkgmjbaiaaWNEv
import Derived.Test.YtmkoigkgmjbaiaaWMore
namespace Go.Proofs.Ytmkoigkgmjbaiaa.PFnExactNumberBytes
open Go.RowKit Go.Proofs.YtmkoigkgmjbaiaaW.PrintWords Go.Proofs.YtmkoigkgmjbaiaaW.PrintLast Go.Proofs.YtmkoigkgmjbaiaaW.PrintMore
attribute [local go_sem] max2_int min2_int max_two min_two max_three min_three max_four min_four   -- for this text's walks alone
set_option linter.unusedVariables false
set_option linter.unusedSimpArgs false



def errW : Option Int → Value
  | none => .nilIface
  | some c => .iface 0 (.int .i64 c)
theorem errW_none : errW none = .nilIface := rfl
theorem errW_some (c : Int) : errW (some c) = .iface 0 (.int .i64 c) := rfl

theorem info5 : (Try.prog.info? 5).map (fun i => (i.zero, i.size, i.bytes)) = some (some (.int .u8 0), 1, 1) := by kernel_rfl
-- the values' own types

end Go.Proofs.Ytmkoigkgmjbaiaa.PFnExactNumberBytes
