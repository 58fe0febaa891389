-- Written by wip/tools/gprint.py of this session, over the kit's print. Lean checks it.
import Derived.Test.YtoejbjmdcokojaaDoorPx0
namespace Go.Proofs.YtoejbjmdcokojaaDoor.P
open Go.Proofs.YtoejbjmdcokojaaDoor.Hand
open Go.RowKit Go.Proofs.YtoejbjmdcokojaaDoorW.PrintWords Go.Proofs.YtoejbjmdcokojaaDoorW.PrintLast Go.Proofs.YtoejbjmdcokojaaDoorW.PrintMore
attribute [local go_sem] max2_int min2_int max_two min_two max_three min_three max_four min_four   -- for this text's walks alone
attribute [local go_sem] Go.IntKind.wrap_u32 conv_bytes
set_option linter.unusedVariables false
set_option linter.unusedSimpArgs false

/-! ### portierelaw01_known: function 10 (by hand) -/
def portierelaw01_known.f : Option Bool := some true
theorem portierelaw01_known.calls (r : Bool) (w : World) (hL : LaidW w) (h : portierelaw01_known.f = some r) :
    Calls Tryd.prog 10 #[] w fun e w' => e = .returned (.bool r) ∧ Below w.heap.size w w' := by
  rw [← Option.some.inj h]
  exact known_calls w hL

end Go.Proofs.YtoejbjmdcokojaaDoor.P
