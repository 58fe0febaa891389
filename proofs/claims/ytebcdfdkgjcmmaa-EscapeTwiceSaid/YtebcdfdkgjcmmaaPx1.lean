-- Written by wip/tools/gprint.py of this session, over the kit's print. Lean checks it.
import Derived.Test.YtebcdfdkgjcmmaaPx0
namespace Go.Proofs.Ytebcdfdkgjcmmaa.P
open Go.Proofs.Ytebcdfdkgjcmmaa.Hand
open Go.RowKit Go.Proofs.YtebcdfdkgjcmmaaW.PrintWords Go.Proofs.YtebcdfdkgjcmmaaW.PrintLast Go.Proofs.YtebcdfdkgjcmmaaW.PrintMore
attribute [local go_sem] max2_int min2_int max_two min_two max_three min_three max_four min_four   -- for this text's walks alone
attribute [local go_sem] Go.IntKind.wrap_u32
set_option linter.unusedVariables false
set_option linter.unusedSimpArgs false

/-! ### escape_Text: function 9 (by hand) -/
def escape_Text.f (a0 : ByteArray) : Option (ByteArray) := if a0.size ≤ 1048576 then some ⟨(escL false a0.data.toList).toArray⟩ else none
theorem escape_Text.calls (a0 : ByteArray) (r : ByteArray) (w : World) (h : escape_Text.f a0 = some r) :
    Calls Try.prog 9 #[.string a0] w fun e w' => e = .returned (.string r) ∧ Below w.heap.size w w' := by
  unfold escape_Text.f at h
  split at h
  · rename_i hs
    rw [← Option.some.inj h]
    exact esc_text a0 w hs
  · cases h

end Go.Proofs.Ytebcdfdkgjcmmaa.P
