/- The plain statement of PackFields: what Join writes Split reads, and what Split reads Join writes; there is no condition. -/
import Derived.Test.YtijccobeljoikaaPkEvE
import Derived.Test.YtijccobeljoikaaPkx6
namespace Go.Proofs.Ytijccobeljoikaa.Pure
open Go.RowKit Go.Proofs.Ytijccobeljoikaa.Pk Go.Proofs.YtijccobeljoikaaW.PrintWords Go.Proofs.YtijccobeljoikaaW.PrintLast
open Go.Proofs.Ytijccobeljoikaa.Plain Go.Proofs.Ytijccobeljoikaa.Walks
set_option linter.unusedVariables false
set_option linter.unusedSimpArgs false

theorem fields_j2 {x : List Int} (hb : Byte x) (h : x.length ≤ 5000) : Ev (fun k => stanchionlaw01_PackFields.j2 k x) true := by
  refine ev_succ ?_
  simp only [stanchionlaw01_PackFields.j2]
  rw [copy_eq (by omega)]
  simp only [Option.bind_some]
  refine Ev.bind (ev_split hb (by omega)) ?_
  by_cases he : (splitGo (x.length + 1) [] x).2 = 0
  · obtain ⟨l, g1, g2, g3, g4⟩ := splitGo_conv _ x [] hb (Nat.lt_succ_self _) (by simp) he
    have g1 : (splitGo (x.length + 1) [] x).1 = l := g1
    simp only [he, if_true, g1, join_eq, joinAns_ok (by simpa using g4) g3, Option.bind_some]
    rw [← g2]
    refine Ev.bind (ev_same _ _ (by omega)) ?_
    exact ev_of fun k => by simp
  · simp only [he, if_false, splitGo_err _ _ _ he]
    exact ev_const _
theorem PackFields (l : List (List Int)) (x : List Int) (h : Rowed l) (hx : Byte x) : ∃ k, stanchionlaw01_PackFields.f k l x = some true := by
  refine Ev.rounds ?_
  unfold stanchionlaw01_PackFields.f stanchionlaw01_aliveJoin.f stanchionlaw01_aliveSplit.f
  simp only [Option.bind_some, if_true]
  refine ev_succ ?_
  simp only [stanchionlaw01_PackFields.j0, Bool.not_true, Bool.false_eq_true, if_false]
  have ht : Ev (fun k => stanchionlaw01_PackFields.j1 k l x true) true := ev_succ (ev_of fun k => by simp [stanchionlaw01_PackFields.j1])
  obtain ⟨b, hb, hs⟩ := ev_over h 100000 (by omega)
  refine Ev.bind hb ?_
  cases b with
  | true => simp only [if_true]; exact ht
  | false =>
    have hs := hs rfl
    have hl := rowsSize_len l
    simp only [Bool.false_eq_true, if_false]
    by_cases hc : (x.length : Int) > 5000
    · simp only [hc, decide_true]; exact ht
    simp only [hc, decide_false]
    have h2 := fields_j2 hx (by omega)
    refine ev_succ ?_
    simp only [stanchionlaw01_PackFields.j1, Bool.false_eq_true, if_false]
    refine Ev.bind (ev_copyRows h) ?_
    rw [join_eq]
    simp only [Option.bind_some]
    rcases joinAns_or l with ⟨g1, g2, g3⟩ | g
    · simp only [g3, if_true]
      refine Ev.bind (ev_split_enc (fun r hr => (h.2 r hr).1) g2 g1 (by omega)) ?_
      simp only [if_true]
      refine Ev.bind (ev_rows _ _ (by omega) (fun r hr => by have := rowsSize_mem hr; omega)) ?_
      simp only [decide_true, if_true]
      exact h2
    · simp only [g]
      exact Ev.congr (fun k => by simp) h2
end Go.Proofs.Ytijccobeljoikaa.Pure
