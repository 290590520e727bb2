/- The plain statement of PackSplits: every Split answers the document's fields, or its error, and leaves the bytes as they were; there is no condition. -/
import Derived.Test.YtijccobeljoikaaPkEvC
namespace Go.Proofs.Ytijccobeljoikaa.Pure
open Go.RowKit Go.Proofs.Ytijccobeljoikaa.Pk Go.Proofs.YtijccobeljoikaaW.PrintWords Go.Proofs.YtijccobeljoikaaW.PrintLast
open Go.Proofs.Ytijccobeljoikaa.Plain Go.Proofs.Ytijccobeljoikaa.Walks
set_option linter.unusedVariables false
set_option linter.unusedSimpArgs false

theorem PackSplits : stanchionlaw01_PackSplits.Pure := by
  intro l hm hl hw
  have hb := byte_of_wf hw
  refine Ev.rounds ?_
  unfold stanchionlaw01_PackSplits.f stanchionlaw01_aliveSplit.f
  simp only [Option.bind_some, if_true]
  by_cases h1 : (l.length : Int) > 5000
  · simp only [h1, if_true]
    exact ev_const _
  simp only [h1, if_false]
  refine Ev.bind (ev_spare (by omega)) ?_
  have e1 : (0 : Int) ≤ (l.length : Int) := by omega
  have e2 : (l.length : Int) ≤ ((l ++ marks).length : Int) := by simp; omega
  simp only [e1, e2, if_true, Int.toNat_natCast, List.take_left]
  refine Ev.bind (ev_split hb (by omega)) ?_
  rw [refSplit_eq hb (by omega)]
  simp only [Option.bind_some, if_true]
  have hr := splitGo_rows (l.length + 1) l [] l.length hb (Nat.le_refl _) (by simp) (by simp)
  refine Ev.bind (ev_rows _ _ (by omega) (fun r h => by have := hr.1 r h; omega)) ?_
  simp only [decide_true, if_true]
  refine Ev.bind (ev_spare (by omega)) ?_
  refine Ev.bind (ev_same _ _ (by rw [List.length_append]; simp [marks]; omega)) ?_
  exact ev_of fun k => by simp

end Go.Proofs.Ytijccobeljoikaa.Pure
