-- Written by wip/tools/gprint.py of this session, over the kit's print. Lean checks it.
import Derived.Test.YtijjfkjihifjpaaProg
import Derived.Below
import Derived.Deep.Draws
import Derived.Deep.AppendLies
import Derived.Maps.AppendAt
import Derived.OwnWalk
import Derived.Laws.BytesArg
import Derived.Laws.MakeOwn
import Derived.Laws.OwnMore
import Derived.Deep.OwnRows
import Derived.Tactics
import Derived.Lib.ConvBytes
import Derived.Laws.Slices
import Derived.WalkKit
import Derived.KernelRfl
import Derived.RowKit3
import Derived.Deep.LoopGhost
import Derived.Deep.QuietTactic
import Derived.BigQuiet
import Derived.WideLaws
import Derived.Deep.DeepCutAuto
import Derived.Deep.CutBlock
import Derived.Deep.RegionHeld3
import Derived.Laws.Rows
import Derived.Lib.AppendStr
import Derived.ArgAppend
import Derived.Laws.IdiomCopy
import Derived.OrdersHeld
import Derived.Laws.BitsLemmas
import Derived.RowKit
import Derived.Test.YtijjfkjihifjpaaHandRunes
import Derived.Test.YtijjfkjihifjpaaHandTable
import Derived.Test.YtijjfkjihifjpaaHandBytes
import Derived.Test.YtijjfkjihifjpaaHandCharref
import Derived.Test.YtijjfkjihifjpaaShelf
import Derived.Lib.Walk
import Derived.Lib.MakeNoZero
import Derived.Laws.Externs
import Derived.Test.YtijjfkjihifjpaaWWords
import Derived.Test.YtijjfkjihifjpaaWLast
import Derived.Test.YtijjfkjihifjpaaWTab
import Derived.Test.YtijjfkjihifjpaaWFour
import Derived.Test.YtijjfkjihifjpaaWQPut
import Derived.Test.YtijjfkjihifjpaaWApart
import Derived.Test.YtijjfkjihifjpaaWArr
import Derived.Test.YtijjfkjihifjpaaWZeros
import Derived.Test.YtijjfkjihifjpaaWFoot
import Derived.Test.YtijjfkjihifjpaaWKept
import Derived.Test.YtijjfkjihifjpaaWShare
import Derived.Test.YtijjfkjihifjpaaWN
import Derived.Test.YtijjfkjihifjpaaWFootNe
import Derived.Test.YtijjfkjihifjpaaWAt
import Derived.Test.YtijjfkjihifjpaaWEqStruct
import Derived.Test.YtijjfkjihifjpaaWRepsOne
import Derived.Test.YtijjfkjihifjpaaWInv
import Derived.Test.YtijjfkjihifjpaaWInvWords
import Derived.Test.YtijjfkjihifjpaaWGuard
import Derived.Test.YtijjfkjihifjpaaWNEv
import Derived.Test.YtijjfkjihifjpaaWMore
namespace Go.Proofs.Ytijjfkjihifjpaa.P
open Go.Proofs.Ytijjfkjihifjpaa.Hand
open Go.RowKit Go.Proofs.YtijjfkjihifjpaaW.PrintWords Go.Proofs.YtijjfkjihifjpaaW.PrintLast Go.Proofs.YtijjfkjihifjpaaW.PrintMore
attribute [local go_sem] max2_int min2_int max_two min_two max_three min_three max_four min_four   -- for this text's walks alone
attribute [local go_sem] Go.IntKind.wrap_u32
set_option linter.unusedVariables false
set_option linter.unusedSimpArgs false



def errW : Option Int → Value
  | none => .nilIface
  | some c => .iface 0 (.int .i64 c)
theorem errW_none : errW none = .nilIface := rfl
theorem errW_some (c : Int) : errW (some c) = .iface 0 (.int .i64 c) := rfl

theorem info9 : (Try.prog.info? 9).map (fun i => (i.zero, i.size, i.bytes)) = some (some (.string ⟨#[]⟩), 1, 16) := by kernel_rfl
theorem info21 : (Try.prog.info? 21).map (fun i => (i.zero, i.size, i.bytes)) = some (some (.int .i32 0), 1, 4) := by kernel_rfl
-- the values' own types

end Go.Proofs.Ytijjfkjihifjpaa.P
