/- The plain statement of PackNums: for every number, the program's bytes are the document's; there is no condition. -/
import Derived.Test.YtijccobeljoikaaPkEvA
namespace Go.Proofs.Ytijccobeljoikaa.Pure
open Go.RowKit Go.Proofs.Ytijccobeljoikaa.Pk Go.Proofs.YtijccobeljoikaaW.PrintWords Go.Proofs.YtijccobeljoikaaW.PrintLast
open Go.Proofs.Ytijccobeljoikaa.Plain Go.Proofs.Ytijccobeljoikaa.Walks
set_option linter.unusedVariables false
set_option linter.unusedSimpArgs false

theorem PackNums : stanchionlaw01_PackNums.Pure := by
  intro v hv
  refine Ev.rounds ?_
  unfold stanchionlaw01_PackNums.f
  refine Ev.bind ev_aliveNum ?_
  simp only [if_true, pack_num, Option.bind_some]
  refine Ev.bind (ev_num v) ?_
  have hl := numAns_len v
  refine Ev.bind (ev_same _ _ (by omega)) ?_
  exact ev_of fun k => by simp

end Go.Proofs.Ytijccobeljoikaa.Pure
