-- laid by a program of this session (gprint.py)
import Derived.Test.YtafbiccgbgcooaaDoorProg
import Derived.Below
import Derived.Deep.Draws
import Derived.Deep.AppendLies
import Derived.Maps.AppendAt
import Derived.OwnWalk
import Derived.Laws.BytesArg
import Derived.Laws.MakeOwn
import Derived.Laws.OwnMore
import Derived.Deep.OwnRows
import Derived.Tactics
import Derived.Lib.ConvBytes
import Derived.Laws.Slices
import Derived.WalkKit
import Derived.KernelRfl
import Derived.RowKit3
import Derived.Deep.LoopGhost
import Derived.Deep.QuietTactic
import Derived.BigQuiet
import Derived.WideLaws
import Derived.Deep.DeepCutAuto
import Derived.Deep.CutBlock
import Derived.Deep.RegionHeld3
import Derived.Laws.Rows
import Derived.Lib.AppendStr
import Derived.ArgAppend
import Derived.Laws.IdiomCopy
import Derived.OrdersHeld
import Derived.Laws.BitsLemmas
import Derived.RowKit
import Derived.Laws.FloatArith
import Derived.Test.YtafbiccgbgcooaaDoorItoa
import Derived.Test.YtafbiccgbgcooaaDoorWWords
import Derived.Test.YtafbiccgbgcooaaDoorWLast
import Derived.Test.YtafbiccgbgcooaaDoorWTab
import Derived.Test.YtafbiccgbgcooaaDoorWFour
import Derived.Test.YtafbiccgbgcooaaDoorWQPut
import Derived.Test.YtafbiccgbgcooaaDoorWApart
import Derived.Test.YtafbiccgbgcooaaDoorWArr
import Derived.Test.YtafbiccgbgcooaaDoorWZeros
import Derived.Test.YtafbiccgbgcooaaDoorWFoot
import Derived.Test.YtafbiccgbgcooaaDoorWKept
import Derived.Test.YtafbiccgbgcooaaDoorWShare
import Derived.Test.YtafbiccgbgcooaaDoorWN
import Derived.Test.YtafbiccgbgcooaaDoorWFootNe
import Derived.Test.YtafbiccgbgcooaaDoorWAt
import Derived.Test.YtafbiccgbgcooaaDoorWEqStruct
import Derived.Test.YtafbiccgbgcooaaDoorWRepsOne
import Derived.Test.YtafbiccgbgcooaaDoorWInv
import Derived.Test.YtafbiccgbgcooaaDoorWInvWords
import Derived.Test.YtafbiccgbgcooaaDoorWGuard
import Derived.Test.YtafbiccgbgcooaaDoorWNEv
import Derived.Test.YtafbiccgbgcooaaDoorWMore
namespace Go.Proofs.YtafbiccgbgcooaaDoor.PVal
open Go.RowKit Go.Proofs.YtafbiccgbgcooaaDoorW.PrintWords Go.Proofs.YtafbiccgbgcooaaDoorW.PrintLast Go.Proofs.YtafbiccgbgcooaaDoorW.PrintMore
attribute [local go_sem] max2_int min2_int max_two min_two max_three min_three max_four min_four   -- for this text's walks alone
set_option linter.unusedVariables false
set_option linter.unusedSimpArgs false



def errW : Option Int → Value
  | none => .nilIface
  | some c => .iface 0 (.int .i64 c)
theorem errW_none : errW none = .nilIface := rfl
theorem errW_some (c : Int) : errW (some c) = .iface 0 (.int .i64 c) := rfl

theorem info5 : (Tryd.prog.info? 5).map (fun i => (i.zero, i.size, i.bytes)) = some (some (.int .u8 0), 1, 1) := by kernel_rfl
-- the values' own types

end Go.Proofs.YtafbiccgbgcooaaDoor.PVal
