/- Decode of any bytes is what the document says: the law portierelaw01.InputDecodes, for every input. -/
import Derived.Test.YtoejbjmdcokojaaDoorPx5
import Derived.Test.YtoejbjmdcokojaaDoorRefIn
namespace Go.Proofs.YtoejbjmdcokojaaDoor.Pure
set_option linter.unusedVariables false
set_option linter.unusedSimpArgs false
open Go Go.RowKit Go.Proofs.YtoejbjmdcokojaaDoor.P Go.Proofs.YtoejbjmdcokojaaDoor.Hand Go.Proofs.YtoejbjmdcokojaaDoor.RefIn Go.Proofs.YtoejbjmdcokojaaDoorW.PrintWords Go.Proofs.YtoejbjmdcokojaaDoorW.PrintLast

theorem InputDecodes : portierelaw01_InputDecodes.Pure := by
  intro l0 _ _ hw
  obtain ⟨l, rfl⟩ : ∃ l, l0 = ints l := ⟨P.bytesOf l0, (ints_bytes (wf_u8 hw)).symm⟩
  clear hw
  refine ⟨20001, ?_⟩
  obtain ⟨k, hk⟩ : ∃ k, k = 20000 := ⟨_, rfl⟩
  rw [show 20001 = k + 1 by omega]
  unfold portierelaw01_InputDecodes.f
  by_cases hs : ((ints l).length : Int) > 3000
  · rw [if_pos hs]
    simp only [portierelaw01_InputDecodes.j0]
    rw [if_pos trivial, known_f, Option.bind_some]
  · rw [if_neg hs, known_f, Option.bind_some]
    rw [ints_len] at hs
    simp only [portierelaw01_InputDecodes.j0]
    rw [if_neg (by decide), decode_f l (by omega), Option.bind_some, ref_of l (by omega) k (by omega), Option.bind_some, beq_self_eq_true]
end Go.Proofs.YtoejbjmdcokojaaDoor.Pure
