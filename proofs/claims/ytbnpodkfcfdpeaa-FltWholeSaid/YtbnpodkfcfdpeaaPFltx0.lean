-- laid by a program of this session (gprint.py)
import Derived.Test.YtbnpodkfcfdpeaaProg
import Derived.Below
import Derived.Deep.Draws
import Derived.Deep.AppendLies
import Derived.Maps.AppendAt
import Derived.OwnWalk
import Derived.Laws.BytesArg
import Derived.Laws.MakeOwn
import Derived.Laws.OwnMore
import Derived.Deep.OwnRows
import Derived.Tactics
import Derived.Lib.ConvBytes
import Derived.Laws.Slices
import Derived.WalkKit
import Derived.KernelRfl
import Derived.RowKit3
import Derived.Deep.LoopGhost
import Derived.Deep.QuietTactic
import Derived.BigQuiet
import Derived.WideLaws
import Derived.Deep.DeepCutAuto
import Derived.Deep.CutBlock
import Derived.Deep.RegionHeld3
import Derived.Laws.Rows
import Derived.Lib.AppendStr
import Derived.ArgAppend
import Derived.Laws.IdiomCopy
import Derived.OrdersHeld
import Derived.Laws.BitsLemmas
import Derived.RowKit
import Derived.Laws.FloatArith
import Derived.Test.YtbnpodkfcfdpeaaWWords
import Derived.Test.YtbnpodkfcfdpeaaWLast
import Derived.Test.YtbnpodkfcfdpeaaWTab
import Derived.Test.YtbnpodkfcfdpeaaWFour
import Derived.Test.YtbnpodkfcfdpeaaWQPut
import Derived.Test.YtbnpodkfcfdpeaaWApart
import Derived.Test.YtbnpodkfcfdpeaaWArr
import Derived.Test.YtbnpodkfcfdpeaaWZeros
import Derived.Test.YtbnpodkfcfdpeaaWFoot
import Derived.Test.YtbnpodkfcfdpeaaWKept
import Derived.Test.YtbnpodkfcfdpeaaWShare
import Derived.Test.YtbnpodkfcfdpeaaWN
import Derived.Test.YtbnpodkfcfdpeaaWFootNe
import Derived.Test.YtbnpodkfcfdpeaaWAt
import Derived.Test.YtbnpodkfcfdpeaaWEqStruct
import Derived.Test.YtbnpodkfcfdpeaaWRepsOne
import Derived.Test.YtbnpodkfcfdpeaaWInv
import Derived.Test.YtbnpodkfcfdpeaaWInvWords
import Derived.Test.YtbnpodkfcfdpeaaWGuard
import Derived.Test.YtbnpodkfcfdpeaaWNEv
import Derived.Test.YtbnpodkfcfdpeaaWMore
namespace Go.Proofs.Ytbnpodkfcfdpeaa.PFlt
open Go.RowKit Go.Proofs.YtbnpodkfcfdpeaaW.PrintWords Go.Proofs.YtbnpodkfcfdpeaaW.PrintLast Go.Proofs.YtbnpodkfcfdpeaaW.PrintMore
attribute [local go_sem] max2_int min2_int max_two min_two max_three min_three max_four min_four   -- for this text's walks alone
set_option linter.unusedVariables false
set_option linter.unusedSimpArgs false



def errW : Option Int → Value
  | none => .nilIface
  | some c => .iface 0 (.int .i64 c)
theorem errW_none : errW none = .nilIface := rfl
theorem errW_some (c : Int) : errW (some c) = .iface 0 (.int .i64 c) := rfl

theorem info5 : (Try.prog.info? 5).map (fun i => (i.zero, i.size, i.bytes)) = some (some (.int .u8 0), 1, 1) := by kernel_rfl
-- the values' own types

end Go.Proofs.Ytbnpodkfcfdpeaa.PFlt
