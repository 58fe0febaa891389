-- Written by wip/tools/gprint.py of this session, over the kit's print. Lean checks it.
import Derived.Test.YtmljfdkmijepnaaProg
import Derived.Below
import Derived.Deep.Draws
import Derived.Deep.AppendLies
import Derived.Maps.AppendAt
import Derived.OwnWalk
import Derived.Laws.BytesArg
import Derived.Laws.MakeOwn
import Derived.Laws.OwnMore
import Derived.Deep.OwnRows
import Derived.Tactics
import Derived.Lib.ConvBytes
import Derived.Laws.Slices
import Derived.WalkKit
import Derived.KernelRfl
import Derived.RowKit3
import Derived.Deep.LoopGhost
import Derived.Deep.QuietTactic
import Derived.BigQuiet
import Derived.WideLaws
import Derived.Deep.DeepCutAuto
import Derived.Deep.CutBlock
import Derived.Deep.RegionHeld3
import Derived.Laws.Rows
import Derived.Lib.AppendStr
import Derived.ArgAppend
import Derived.Laws.IdiomCopy
import Derived.OrdersHeld
import Derived.Laws.BitsLemmas
import Derived.RowKit
import Derived.Test.YtmljfdkmijepnaaHandRunes
import Derived.Test.YtmljfdkmijepnaaHandTable
import Derived.Test.YtmljfdkmijepnaaHandBytes
import Derived.Test.YtmljfdkmijepnaaHandPlace
import Derived.Test.YtmljfdkmijepnaaShelf
import Derived.Test.YtmljfdkmijepnaaWWords
import Derived.Test.YtmljfdkmijepnaaWLast
import Derived.Test.YtmljfdkmijepnaaWTab
import Derived.Test.YtmljfdkmijepnaaWFour
import Derived.Test.YtmljfdkmijepnaaWQPut
import Derived.Test.YtmljfdkmijepnaaWApart
import Derived.Test.YtmljfdkmijepnaaWArr
import Derived.Test.YtmljfdkmijepnaaWZeros
import Derived.Test.YtmljfdkmijepnaaWFoot
import Derived.Test.YtmljfdkmijepnaaWKept
import Derived.Test.YtmljfdkmijepnaaWShare
import Derived.Test.YtmljfdkmijepnaaWN
import Derived.Test.YtmljfdkmijepnaaWFootNe
import Derived.Test.YtmljfdkmijepnaaWAt
import Derived.Test.YtmljfdkmijepnaaWEqStruct
import Derived.Test.YtmljfdkmijepnaaWRepsOne
import Derived.Test.YtmljfdkmijepnaaWInv
import Derived.Test.YtmljfdkmijepnaaWInvWords
import Derived.Test.YtmljfdkmijepnaaWGuard
import Derived.Test.YtmljfdkmijepnaaWNEv
import Derived.Test.YtmljfdkmijepnaaWMore
namespace Go.Proofs.Ytmljfdkmijepnaa.P
open Go.Proofs.Ytmljfdkmijepnaa.Hand
open Go.RowKit Go.Proofs.YtmljfdkmijepnaaW.PrintWords Go.Proofs.YtmljfdkmijepnaaW.PrintLast Go.Proofs.YtmljfdkmijepnaaW.PrintMore
attribute [local go_sem] max2_int min2_int max_two min_two max_three min_three max_four min_four   -- for this text's walks alone
attribute [local go_sem] Go.IntKind.wrap_u32
set_option linter.unusedVariables false
set_option linter.unusedSimpArgs false



def errW : Option Int → Value
  | none => .nilIface
  | some c => .iface 0 (.int .i64 c)
theorem errW_none : errW none = .nilIface := rfl
theorem errW_some (c : Int) : errW (some c) = .iface 0 (.int .i64 c) := rfl

theorem info5 : (Try.prog.info? 5).map (fun i => (i.zero, i.size, i.bytes)) = some (some (.int .u8 0), 1, 1) := by kernel_rfl
-- the values' own types

end Go.Proofs.Ytmljfdkmijepnaa.P
