/- The chapter's examples hold of the program. -/
import Derived.Test.YtijjfkjihifjpaaPx10
import Derived.Test.YtijjfkjihifjpaaHandBytes
import Derived.Test.YtijjfkjihifjpaaHandCharref
namespace Go.Proofs.Ytijjfkjihifjpaa.RefCharref
set_option linter.unusedVariables false
set_option linter.unusedSimpArgs false
open Go Go.RowKit Go.Proofs.Ytijjfkjihifjpaa.P Go.Proofs.Ytijjfkjihifjpaa.Hand Go.Proofs.YtijjfkjihifjpaaW.PrintWords Go.Proofs.YtijjfkjihifjpaaW.PrintLast Go.Proofs.YtijjfkjihifjpaaW.PrintMore
theorem known_true : portierelaw04_known.f = some true := by
  unfold portierelaw04_known.f
  simp only [toList_data]
  kernel_rfl
end Go.Proofs.Ytijjfkjihifjpaa.RefCharref
