-- Written by wip/tools/gprint.py of this session, over the kit's print. Lean checks it.
import Derived.Test.YtoejbjmdcokojaaDoorProg
import Derived.Below
import Derived.Deep.Draws
import Derived.Deep.AppendLies
import Derived.Maps.AppendAt
import Derived.OwnWalk
import Derived.Laws.BytesArg
import Derived.Laws.MakeOwn
import Derived.Laws.OwnMore
import Derived.Deep.OwnRows
import Derived.Tactics
import Derived.Lib.ConvBytes
import Derived.Laws.Slices
import Derived.WalkKit
import Derived.KernelRfl
import Derived.RowKit3
import Derived.Deep.LoopGhost
import Derived.Deep.QuietTactic
import Derived.BigQuiet
import Derived.WideLaws
import Derived.Deep.DeepCutAuto
import Derived.Deep.CutBlock
import Derived.Deep.RegionHeld3
import Derived.Laws.Rows
import Derived.Lib.AppendStr
import Derived.ArgAppend
import Derived.Laws.IdiomCopy
import Derived.OrdersHeld
import Derived.Laws.BitsLemmas
import Derived.RowKit
import Derived.Test.YtoejbjmdcokojaaDoorHandRunes
import Derived.Test.YtoejbjmdcokojaaDoorHandBytes
import Derived.Test.YtoejbjmdcokojaaDoorInDec
import Derived.Test.YtoejbjmdcokojaaDoorInByte
import Derived.Test.YtoejbjmdcokojaaDoorInRead
import Derived.Test.YtoejbjmdcokojaaDoorInFeed
import Derived.Test.YtoejbjmdcokojaaDoorInTell
import Derived.Test.YtoejbjmdcokojaaDoorInDecode
import Derived.Test.YtoejbjmdcokojaaDoorInConv
import Derived.Test.YtoejbjmdcokojaaDoorShelf
import Derived.Lib.Walk
import Derived.Lib.MakeNoZero
import Derived.Laws.Externs
import Derived.Test.YtoejbjmdcokojaaDoorWWords
import Derived.Test.YtoejbjmdcokojaaDoorWLast
import Derived.Test.YtoejbjmdcokojaaDoorWTab
import Derived.Test.YtoejbjmdcokojaaDoorWFour
import Derived.Test.YtoejbjmdcokojaaDoorWQPut
import Derived.Test.YtoejbjmdcokojaaDoorWApart
import Derived.Test.YtoejbjmdcokojaaDoorWArr
import Derived.Test.YtoejbjmdcokojaaDoorWZeros
import Derived.Test.YtoejbjmdcokojaaDoorWFoot
import Derived.Test.YtoejbjmdcokojaaDoorWKept
import Derived.Test.YtoejbjmdcokojaaDoorWShare
import Derived.Test.YtoejbjmdcokojaaDoorWN
import Derived.Test.YtoejbjmdcokojaaDoorWFootNe
import Derived.Test.YtoejbjmdcokojaaDoorWAt
import Derived.Test.YtoejbjmdcokojaaDoorWEqStruct
import Derived.Test.YtoejbjmdcokojaaDoorWRepsOne
import Derived.Test.YtoejbjmdcokojaaDoorWInv
import Derived.Test.YtoejbjmdcokojaaDoorWInvWords
import Derived.Test.YtoejbjmdcokojaaDoorWGuard
import Derived.Test.YtoejbjmdcokojaaDoorWNEv
import Derived.Test.YtoejbjmdcokojaaDoorWMore
namespace Go.Proofs.YtoejbjmdcokojaaDoor.P
open Go.Proofs.YtoejbjmdcokojaaDoor.Hand
open Go.RowKit Go.Proofs.YtoejbjmdcokojaaDoorW.PrintWords Go.Proofs.YtoejbjmdcokojaaDoorW.PrintLast Go.Proofs.YtoejbjmdcokojaaDoorW.PrintMore
attribute [local go_sem] max2_int min2_int max_two min_two max_three min_three max_four min_four   -- for this text's walks alone
attribute [local go_sem] Go.IntKind.wrap_u32 conv_bytes
set_option linter.unusedVariables false
set_option linter.unusedSimpArgs false



def errW : Option Int → Value
  | none => .nilIface
  | some c => .iface 0 (.int .i64 c)
theorem errW_none : errW none = .nilIface := rfl
theorem errW_some (c : Int) : errW (some c) = .iface 0 (.int .i64 c) := rfl

theorem info5 : (Tryd.prog.info? 5).map (fun i => (i.zero, i.size, i.bytes)) = some (some (.int .u8 0), 1, 1) := by kernel_rfl
-- the values' own types

end Go.Proofs.YtoejbjmdcokojaaDoor.P
