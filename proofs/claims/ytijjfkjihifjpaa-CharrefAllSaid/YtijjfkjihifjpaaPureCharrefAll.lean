/- All of any text is what the chapter says: the law portierelaw04.CharrefAll, for every input. -/
import Derived.Test.YtijjfkjihifjpaaPx14
import Derived.Test.YtijjfkjihifjpaaRefTake
import Derived.Test.YtijjfkjihifjpaaKnown4
namespace Go.Proofs.Ytijjfkjihifjpaa.Pure
open Go Go.RowKit Go.Proofs.Ytijjfkjihifjpaa.P Go.Proofs.Ytijjfkjihifjpaa.Hand Go.Proofs.Ytijjfkjihifjpaa.RefCharref Go.Proofs.YtijjfkjihifjpaaW.PrintWords Go.Proofs.YtijjfkjihifjpaaW.PrintLast Go.Proofs.YtijjfkjihifjpaaW.PrintMore

theorem CharrefAll : portierelaw04_CharrefAll.Pure := by
  intro s attr hs
  refine ⟨2 * s.size + 200 + 1, ?_⟩
  unfold portierelaw04_CharrefAll.f
  have bad : portierelaw04_CharrefAll.j0 (2 * s.size + 200 + 1) s attr true = some true := by
    simp only [portierelaw04_CharrefAll.j0]
    rw [if_pos trivial, known_true]
    rfl
  by_cases h : (s.size : Int) > 1000
  · rw [if_pos h, bad]
  · rw [if_neg h, known_true, Option.bind_some]
    have hA : charref_All.f s attr = some (textOf (allOf s.size s.data.toList attr)) := by
      unfold charref_All.f
      rw [if_pos (by omega)]
    simp only [portierelaw04_CharrefAll.j0]
    rw [if_neg (by simp), hA, Option.bind_some, ref_All s attr (by omega) _ (Nat.le_refl _), Option.bind_some]
    simp

end Go.Proofs.Ytijjfkjihifjpaa.Pure
