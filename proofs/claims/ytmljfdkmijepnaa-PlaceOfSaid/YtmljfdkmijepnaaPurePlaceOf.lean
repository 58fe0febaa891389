/- Of any line and column is what the chapter says: the law portierelaw02.PlaceOf, for every input. -/
import Derived.Test.YtmljfdkmijepnaaPx6
import Derived.Test.YtmljfdkmijepnaaRefAt
namespace Go.Proofs.Ytmljfdkmijepnaa.Pure
set_option linter.unusedVariables false
set_option linter.unusedSimpArgs false
open Go Go.RowKit Go.Proofs.Ytmljfdkmijepnaa.P Go.Proofs.Ytmljfdkmijepnaa.Hand Go.Proofs.Ytmljfdkmijepnaa.Pos Go.Proofs.Ytmljfdkmijepnaa.RefPlace Go.Proofs.YtmljfdkmijepnaaW.PrintWords Go.Proofs.YtmljfdkmijepnaaW.PrintLast

theorem PlaceOf : portierelaw02_PlaceOf.Pure := by
  intro a0 a1 a2 _ hw hv
  simp only [Lit.wf, Bool.and_eq_true, decide_eq_true_eq] at hw hv
  have x0 : -9223372036854775808 ≤ a1 := hw.1
  have x1 : a1 ≤ 9223372036854775807 := hw.2
  have y1 : a2 ≤ 9223372036854775807 := hv.2
  clear hw hv
  refine ⟨2 * a0.size + 31, ?_⟩
  obtain ⟨k, hk⟩ : ∃ k, k = 2 * a0.size + 30 := ⟨_, rfl⟩
  rw [show 2 * a0.size + 31 = k + 1 by omega]
  unfold portierelaw02_PlaceOf.f
  by_cases hs : (a0.size : Int) > 400
  · rw [if_pos hs]
    simp only [portierelaw02_PlaceOf.j0]
    rw [if_pos trivial, known_true k (by omega), Option.bind_some]
  · rw [if_neg hs, known_true (k + 1) (by omega), Option.bind_some]
    obtain ⟨r, hr, hF⟩ := of_of a0 a1 a2 (by omega) x0 x1 y1 k (by omega)
    obtain ⟨r', hr', hF'⟩ := ref_of a0 a1 a2 (by omega) (a0.size + 1) k 0 (by omega) (by omega) (by omega) (fun j hj => absurd hj (by omega))
    have hrf : portiereref02_Of.f k a0 a1 a2 = some r' := hr'
    simp only [portierelaw02_PlaceOf.j0]
    rw [if_neg (by simp), hr, hrf, Option.bind_some, Option.bind_some, first_unique hF hF', if_pos rfl, beq_self_eq_true]

end Go.Proofs.Ytmljfdkmijepnaa.Pure
