/- Take of any text, at any place, is what the chapter says: the law portierelaw04.CharrefTakes, for every input. -/
import Derived.Test.YtijjfkjihifjpaaPx14
import Derived.Test.YtijjfkjihifjpaaRefTake
import Derived.Test.YtijjfkjihifjpaaKnown4
namespace Go.Proofs.Ytijjfkjihifjpaa.Pure
open Go Go.RowKit Go.Proofs.Ytijjfkjihifjpaa.P Go.Proofs.Ytijjfkjihifjpaa.Hand Go.Proofs.Ytijjfkjihifjpaa.RefCharref Go.Proofs.YtijjfkjihifjpaaW.PrintWords Go.Proofs.YtijjfkjihifjpaaW.PrintLast Go.Proofs.YtijjfkjihifjpaaW.PrintMore

theorem CharrefTakes : portierelaw04_CharrefTakes.Pure := by
  intro s i attr hs _
  refine ⟨s.size + 100 + 1, ?_⟩
  unfold portierelaw04_CharrefTakes.f
  have bad : portierelaw04_CharrefTakes.j0 (s.size + 100 + 1) s i attr true = some true := by
    simp only [portierelaw04_CharrefTakes.j0]
    rw [if_pos trivial, known_true]
    rfl
  by_cases h : (s.size : Int) > 1000
  · rw [if_pos h, bad]
  · rw [if_neg h, known_true, Option.bind_some]
    have hT : charref_Take.f s i attr = some (takeOf s i attr) := by
      unfold charref_Take.f
      rw [if_pos hs]
    simp only [portierelaw04_CharrefTakes.j0]
    rw [if_neg (by simp), hT, Option.bind_some, ref_Take s i attr hs _ (Nat.le_refl _), Option.bind_some, if_pos rfl, if_pos rfl]
    simp

end Go.Proofs.Ytijjfkjihifjpaa.Pure
