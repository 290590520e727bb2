/- The plain statement of PackBehind: two lists' bytes, one behind the other, are the bytes of the one list; there is no condition. -/
import Derived.Test.YtijccobeljoikaaPkEvE
import Derived.Test.YtijccobeljoikaaPkx7
namespace Go.Proofs.Ytijccobeljoikaa.Pure
open Go.RowKit Go.Proofs.Ytijccobeljoikaa.Pk Go.Proofs.YtijccobeljoikaaW.PrintWords Go.Proofs.YtijccobeljoikaaW.PrintLast
open Go.Proofs.Ytijccobeljoikaa.Plain Go.Proofs.Ytijccobeljoikaa.Walks
set_option linter.unusedVariables false
set_option linter.unusedSimpArgs false

theorem PackBehind (a b : List (List Int)) (ha : Rowed a) (hb : Rowed b) : ∃ k, stanchionlaw01_PackBehind.f k a b = some true := by
  refine Ev.rounds ?_
  unfold stanchionlaw01_PackBehind.f stanchionlaw01_aliveJoin.f stanchionlaw01_aliveSplit.f
  simp only [Option.bind_some, if_true]
  refine ev_succ ?_
  simp only [stanchionlaw01_PackBehind.j0, Bool.not_true, Bool.false_eq_true, if_false]
  have ht : Ev (fun k => stanchionlaw01_PackBehind.j1 k a b true) true := ev_succ (ev_of fun k => by simp [stanchionlaw01_PackBehind.j1])
  have ht2 : ∀ x y z, Ev (fun k => stanchionlaw01_PackBehind.j2 k x y z true) true := fun x y z => ev_succ (ev_of fun k => by simp [stanchionlaw01_PackBehind.j2])
  obtain ⟨t, h1, hs⟩ := ev_over ha 50000 (by omega)
  refine Ev.bind h1 ?_
  cases t with
  | true => simp only [if_true]; exact ht
  | false =>
  have hs := hs rfl
  simp only [Bool.false_eq_true, if_false]
  obtain ⟨t, h1, hs1⟩ := ev_over hb 50000 (by omega)
  refine Ev.bind h1 ?_
  cases t with
  | true => exact ht
  | false =>
  have hs1 := hs1 rfl
  have hl := rowsSize_len a
  have hl1 := rowsSize_len b
  refine ev_succ ?_
  simp only [stanchionlaw01_PackBehind.j1, Bool.false_eq_true, if_false, join_eq, Option.bind_some]
  refine Ev.bind (ev_copyRows ha) ?_
  refine Ev.bind (ev_copyRows hb) ?_
  refine Ev.bind (ev_copyRows ha) ?_
  refine Ev.bind (ev_copyRows hb) ?_
  refine Ev.congr (fun k => if_pos (by omega)) ?_
  rcases joinAns_or a with ⟨g1, g2, g3⟩ | g
  · rcases joinAns_or b with ⟨f1, f2, f3⟩ | f
    · simp only [g3, f3, if_true]
      by_cases hc : ((a ++ b).length : Int) > 1024
      · simp only [hc, decide_true]; exact ht2 _ _ _
      simp only [hc, decide_false]
      have hr : ∀ r ∈ a ++ b, r.length ≤ 65536 := fun r hr => (List.mem_append.1 hr).elim (g2 r) (f2 r)
      have hby : ∀ r ∈ a ++ b, Byte r := fun r hr => (List.mem_append.1 hr).elim (fun h => (ha.2 r h).1) (fun h => (hb.2 r h).1)
      have hsz := rowsSize_append a b
      have e1 := encL_len g2
      have e2 := encL_len f2
      refine ev_succ ?_
      simp only [stanchionlaw01_PackBehind.j2, Bool.false_eq_true, if_false, join_eq, Option.bind_some, joinAns_ok (l := a ++ b) (by omega) hr, if_true]
      refine Ev.congr (fun k => if_pos (by omega)) ?_
      rw [← encL_append]
      refine Ev.bind (ev_split_enc hby hr (by omega) (by omega)) ?_
      simp only [if_true]
      refine Ev.bind (ev_rows _ _ (by omega) (fun r h => by have := rowsSize_mem h; omega)) ?_
      simp only [decide_true, if_true]
      refine ev_of fun k => ?_
      rw [w64 (by omega) (by omega), encL_append]
      simp
    · simp only [g3, f, if_true]
      exact Ev.congr (fun k => by simp) (ht2 (encL a) [] (a ++ b))
  · simp only [g]
    exact Ev.congr (fun k => by simp) (ht2 [] (joinAns b).1 (a ++ b))
end Go.Proofs.Ytijccobeljoikaa.Pure
