-- LAID BY A PROGRAM OF THIS SESSION (wip/tools/myprint.py) over the kit's print.
import Derived.Test.YtmkoigkgmjbaiaaProg
import Derived.Below
import Derived.Deep.Draws
import Derived.Deep.AppendLies
import Derived.Maps.AppendAt
import Derived.OwnWalk
import Derived.Laws.BytesArg
import Derived.Laws.MakeOwn
import Derived.Laws.OwnMore
import Derived.Deep.OwnRows
import Derived.Tactics
import Derived.Lib.ConvBytes
import Derived.Laws.Slices
import Derived.WalkKit
import Derived.KernelRfl
import Derived.RowKit3
import Derived.Deep.LoopGhost
import Derived.Deep.QuietTactic
import Derived.BigQuiet
import Derived.WideLaws
import Derived.Deep.DeepCutAuto
import Derived.Deep.CutBlock
import Derived.Deep.RegionHeld3
import Derived.Laws.Rows
import Derived.Lib.AppendStr
import Derived.ArgAppend
import Derived.Laws.IdiomCopy
import Derived.OrdersHeld
import Derived.Laws.BitsLemmas
import Derived.RowKit
import Derived.Test.YtmkoigkgmjbaiaaVWords
import Derived.Test.YtmkoigkgmjbaiaaVLast
import Derived.Test.YtmkoigkgmjbaiaaVTab
import Derived.Test.YtmkoigkgmjbaiaaVFour
import Derived.Test.YtmkoigkgmjbaiaaVQPut
import Derived.Test.YtmkoigkgmjbaiaaVApart
import Derived.Test.YtmkoigkgmjbaiaaVArr
import Derived.Test.YtmkoigkgmjbaiaaVZeros
import Derived.Test.YtmkoigkgmjbaiaaVFoot
import Derived.Test.YtmkoigkgmjbaiaaVKept
import Derived.Test.YtmkoigkgmjbaiaaVShare
import Derived.Test.YtmkoigkgmjbaiaaVN
import Derived.Test.YtmkoigkgmjbaiaaVFootNe
import Derived.Test.YtmkoigkgmjbaiaaVAt
import Derived.Test.YtmkoigkgmjbaiaaVEqStruct
import Derived.Test.YtmkoigkgmjbaiaaVRepsOne
import Derived.Test.YtmkoigkgmjbaiaaVInv
import Derived.Test.YtmkoigkgmjbaiaaVInvWords
import Derived.Test.YtmkoigkgmjbaiaaVGuard
import Derived.Test.YtmkoigkgmjbaiaaVNEv
import Derived.Test.YtmkoigkgmjbaiaaVMore
import Derived.Test.YtmkoigkgmjbaiaaVBytes
namespace Go.Proofs.Ytmkoigkgmjbaiaa.PFnExactTakeVarint
open Go.RowKit Go.Proofs.YtmkoigkgmjbaiaaV.PrintWords Go.Proofs.YtmkoigkgmjbaiaaV.PrintLast Go.Proofs.YtmkoigkgmjbaiaaV.PrintMore
attribute [local go_sem] max2_int min2_int max_two min_two max_three min_three max_four min_four   -- for this text's walks alone
set_option linter.unusedVariables false
set_option linter.unusedSimpArgs false



def errW : Option Int → Value
  | none => .nilIface
  | some c => .iface 0 (.int .i64 c)
theorem errW_none : errW none = .nilIface := rfl
theorem errW_some (c : Int) : errW (some c) = .iface 0 (.int .i64 c) := rfl

theorem info5 : (Try.prog.info? 5).map (fun i => (i.zero, i.size, i.bytes)) = some (some (.int .u8 0), 1, 1) := by kernel_rfl
-- the values' own types

end Go.Proofs.Ytmkoigkgmjbaiaa.PFnExactTakeVarint
