/- The plain statement of PackNames: each error and each limit has its number; there is no condition. -/
import Derived.Test.YtijccobeljoikaaPkEvA
namespace Go.Proofs.Ytijccobeljoikaa.Pure
open Go.RowKit Go.Proofs.Ytijccobeljoikaa.Pk Go.Proofs.YtijccobeljoikaaW.PrintWords Go.Proofs.YtijccobeljoikaaW.PrintLast
open Go.Proofs.Ytijccobeljoikaa.Plain Go.Proofs.Ytijccobeljoikaa.Walks
set_option linter.unusedVariables false
set_option linter.unusedSimpArgs false

theorem PackNames : stanchionlaw01_PackNames.Pure := by
  refine ⟨60, ?_⟩
  unfold stanchionlaw01_PackNames.f
  have hn : numAns (-1) = ([], 10) := rfl
  rw [pack_num, hn]
  decide +kernel

end Go.Proofs.Ytijccobeljoikaa.Pure
