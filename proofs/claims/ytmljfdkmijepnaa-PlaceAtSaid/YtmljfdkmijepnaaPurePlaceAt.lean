/- At of any text and place is what the chapter says: the law portierelaw02.PlaceAt, for every input. -/
import Derived.Test.YtmljfdkmijepnaaPx5
import Derived.Test.YtmljfdkmijepnaaRefAt
namespace Go.Proofs.Ytmljfdkmijepnaa.Pure
set_option linter.unusedVariables false
set_option linter.unusedSimpArgs false
open Go Go.RowKit Go.Proofs.Ytmljfdkmijepnaa.P Go.Proofs.Ytmljfdkmijepnaa.Hand Go.Proofs.Ytmljfdkmijepnaa.Pos Go.Proofs.Ytmljfdkmijepnaa.RefPlace Go.Proofs.YtmljfdkmijepnaaW.PrintWords Go.Proofs.YtmljfdkmijepnaaW.PrintLast

theorem PlaceAt : portierelaw02_PlaceAt.Pure := by
  intro a0 a1 _ hw
  clear hw
  refine ⟨a0.size + 31, ?_⟩
  obtain ⟨k, hk⟩ : ∃ k, k = a0.size + 30 := ⟨_, rfl⟩
  rw [show a0.size + 31 = k + 1 by omega]
  unfold portierelaw02_PlaceAt.f
  by_cases hs : (a0.size : Int) > 2000
  · rw [if_pos hs]
    simp only [portierelaw02_PlaceAt.j0]
    rw [if_pos trivial, known_true k (by omega), Option.bind_some]
  · rw [if_neg hs, known_true (k + 1) (by omega), Option.bind_some]
    simp only [portierelaw02_PlaceAt.j0]
    rw [if_neg (by simp), at_of a0 a1 (by omega), ref_at a0 a1 (by omega) k (by omega), Option.bind_some, Option.bind_some, if_pos rfl, beq_self_eq_true]

end Go.Proofs.Ytmljfdkmijepnaa.Pure
