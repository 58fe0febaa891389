/- Text and Value of any text are what the chapter says: the law portierelaw05.EscapeWrites, for every input. -/
import Derived.Test.YtebcdfdkgjcmmaaPx3
import Derived.Test.YtebcdfdkgjcmmaaRefEsc
namespace Go.Proofs.Ytebcdfdkgjcmmaa.Pure
set_option linter.unusedVariables false
set_option linter.unusedSimpArgs false
open Go Go.RowKit Go.Proofs.Ytebcdfdkgjcmmaa.P Go.Proofs.Ytebcdfdkgjcmmaa.Hand Go.Proofs.Ytebcdfdkgjcmmaa.EscLaws Go.Proofs.Ytebcdfdkgjcmmaa.RefEsc Go.Proofs.YtebcdfdkgjcmmaaW.PrintWords Go.Proofs.YtebcdfdkgjcmmaaW.PrintLast

theorem writes_end (k : Nat) (s : ByteArray) (hs : s.size ≤ 2000) (hk : 2 * s.size + 1 ≤ k) : portierelaw05_EscapeWrites.j0 (k + 1) s false = some true := by
  simp only [portierelaw05_EscapeWrites.j0]
  rw [if_neg Bool.false_ne_true, text_of s (by omega), Option.bind_some, ref_text s (by omega) k hk, Option.bind_some, if_pos rfl, value_of s (by omega), Option.bind_some, ref_value s (by omega) k hk, Option.bind_some, beq_self_eq_true]
theorem writes_known (k : Nat) (s : ByteArray) : portierelaw05_EscapeWrites.j0 (k + 1) s true = some true := by
  simp only [portierelaw05_EscapeWrites.j0]
  rw [if_pos trivial, known_true, Option.bind_some]
theorem EscapeWrites : portierelaw05_EscapeWrites.Pure := by
  intro a0 hw
  clear hw
  refine ⟨2 * a0.size + 1 + 1, ?_⟩
  unfold portierelaw05_EscapeWrites.f
  by_cases hs : (a0.size : Int) > 2000
  · rw [if_pos hs]
    exact writes_known _ a0
  · rw [if_neg hs, known_true, Option.bind_some]
    exact writes_end _ a0 (by omega) (Nat.le_refl _)

end Go.Proofs.Ytebcdfdkgjcmmaa.Pure
