-- Written by wip/tools/gprint.py of this session, over the kit's print. Lean checks it.
import Derived.Test.YtebcdfdkgjcmmaaProg
import Derived.Below
import Derived.Deep.Draws
import Derived.Deep.AppendLies
import Derived.Maps.AppendAt
import Derived.OwnWalk
import Derived.Laws.BytesArg
import Derived.Laws.MakeOwn
import Derived.Laws.OwnMore
import Derived.Deep.OwnRows
import Derived.Tactics
import Derived.Lib.ConvBytes
import Derived.Laws.Slices
import Derived.WalkKit
import Derived.KernelRfl
import Derived.RowKit3
import Derived.Deep.LoopGhost
import Derived.Deep.QuietTactic
import Derived.BigQuiet
import Derived.WideLaws
import Derived.Deep.DeepCutAuto
import Derived.Deep.CutBlock
import Derived.Deep.RegionHeld3
import Derived.Laws.Rows
import Derived.Lib.AppendStr
import Derived.ArgAppend
import Derived.Laws.IdiomCopy
import Derived.OrdersHeld
import Derived.Laws.BitsLemmas
import Derived.RowKit
import Derived.Test.YtebcdfdkgjcmmaaHandRunes
import Derived.Test.YtebcdfdkgjcmmaaHandTable
import Derived.Test.YtebcdfdkgjcmmaaHandBytes
import Derived.Test.YtebcdfdkgjcmmaaEscSync
import Derived.Test.YtebcdfdkgjcmmaaEscWrite
import Derived.Test.YtebcdfdkgjcmmaaEscLook
import Derived.Test.YtebcdfdkgjcmmaaEscSpec
import Derived.Test.YtebcdfdkgjcmmaaEscRun
import Derived.Test.YtebcdfdkgjcmmaaEscGen
import Derived.Test.YtebcdfdkgjcmmaaEscAdd
import Derived.Test.YtebcdfdkgjcmmaaEscKey
import Derived.Test.YtebcdfdkgjcmmaaEscMake
import Derived.Test.YtebcdfdkgjcmmaaEscBuild
import Derived.Test.YtebcdfdkgjcmmaaEscText
import Derived.Lib.Walk
import Derived.Laws.Externs
import Derived.Test.YtebcdfdkgjcmmaaWWords
import Derived.Test.YtebcdfdkgjcmmaaWLast
import Derived.Test.YtebcdfdkgjcmmaaWTab
import Derived.Test.YtebcdfdkgjcmmaaWFour
import Derived.Test.YtebcdfdkgjcmmaaWQPut
import Derived.Test.YtebcdfdkgjcmmaaWApart
import Derived.Test.YtebcdfdkgjcmmaaWArr
import Derived.Test.YtebcdfdkgjcmmaaWZeros
import Derived.Test.YtebcdfdkgjcmmaaWFoot
import Derived.Test.YtebcdfdkgjcmmaaWKept
import Derived.Test.YtebcdfdkgjcmmaaWShare
import Derived.Test.YtebcdfdkgjcmmaaWN
import Derived.Test.YtebcdfdkgjcmmaaWFootNe
import Derived.Test.YtebcdfdkgjcmmaaWAt
import Derived.Test.YtebcdfdkgjcmmaaWEqStruct
import Derived.Test.YtebcdfdkgjcmmaaWRepsOne
import Derived.Test.YtebcdfdkgjcmmaaWInv
import Derived.Test.YtebcdfdkgjcmmaaWInvWords
import Derived.Test.YtebcdfdkgjcmmaaWGuard
import Derived.Test.YtebcdfdkgjcmmaaWNEv
import Derived.Test.YtebcdfdkgjcmmaaWMore
namespace Go.Proofs.Ytebcdfdkgjcmmaa.P
open Go.Proofs.Ytebcdfdkgjcmmaa.Hand
open Go.RowKit Go.Proofs.YtebcdfdkgjcmmaaW.PrintWords Go.Proofs.YtebcdfdkgjcmmaaW.PrintLast Go.Proofs.YtebcdfdkgjcmmaaW.PrintMore
attribute [local go_sem] max2_int min2_int max_two min_two max_three min_three max_four min_four   -- for this text's walks alone
attribute [local go_sem] Go.IntKind.wrap_u32
set_option linter.unusedVariables false
set_option linter.unusedSimpArgs false



def errW : Option Int → Value
  | none => .nilIface
  | some c => .iface 0 (.int .i64 c)
theorem errW_none : errW none = .nilIface := rfl
theorem errW_some (c : Int) : errW (some c) = .iface 0 (.int .i64 c) := rfl

theorem info5 : (Try.prog.info? 5).map (fun i => (i.zero, i.size, i.bytes)) = some (some (.int .u8 0), 1, 1) := by kernel_rfl
theorem info9 : (Try.prog.info? 9).map (fun i => (i.zero, i.size, i.bytes)) = some (some (.string ⟨#[]⟩), 1, 16) := by kernel_rfl
theorem info21 : (Try.prog.info? 21).map (fun i => (i.zero, i.size, i.bytes)) = some (some (.int .i32 0), 1, 4) := by kernel_rfl
-- the values' own types

end Go.Proofs.Ytebcdfdkgjcmmaa.P
