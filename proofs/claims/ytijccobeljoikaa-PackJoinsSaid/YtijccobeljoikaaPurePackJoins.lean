/- The plain statement of PackJoins: every Join answers the document's bytes, or error, and leaves the rows as they were; there is no condition. -/
import Derived.Test.YtijccobeljoikaaPkEvE
namespace Go.Proofs.Ytijccobeljoikaa.Pure
open Go.RowKit Go.Proofs.Ytijccobeljoikaa.Pk Go.Proofs.YtijccobeljoikaaW.PrintWords Go.Proofs.YtijccobeljoikaaW.PrintLast
open Go.Proofs.Ytijccobeljoikaa.Plain Go.Proofs.Ytijccobeljoikaa.Walks
set_option linter.unusedVariables false
set_option linter.unusedSimpArgs false

theorem PackJoins (l : List (List Int)) (h : Rowed l) : ∃ k, stanchionlaw01_PackJoins.f k l = some true := by
  refine Ev.rounds ?_
  unfold stanchionlaw01_PackJoins.f stanchionlaw01_aliveJoin.f
  simp only [Option.bind_some, if_true]
  obtain ⟨b, hb, hs⟩ := ev_over h 300000 (by omega)
  refine Ev.bind hb ?_
  cases b with
  | true => simp only [if_true]; exact ev_const _
  | false =>
    have hs := hs rfl
    have hl := rowsSize_len l
    simp only [Bool.false_eq_true, if_false]
    refine Ev.bind (ev_copyRows h) ?_
    rw [join_eq]
    simp only [Option.bind_some]
    refine Ev.bind (ev_join (by omega)) ?_
    refine Ev.bind (ev_same _ _ (by have := joinAns_len (l := l); omega)) ?_
    simp only [decide_true, if_true]
    refine Ev.bind (ev_rows _ _ (by omega) (fun r hr => by have := rowsSize_mem hr; omega)) ?_
    exact ev_of fun k => by simp
end Go.Proofs.Ytijccobeljoikaa.Pure
