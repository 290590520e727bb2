/- The plain statement of PackLists: Nums and Ints answer what the document's do, and leave what they were given; there is no condition. -/
import Derived.Test.YtijccobeljoikaaPkEvD
import Derived.Test.YtijccobeljoikaaPkx6
namespace Go.Proofs.Ytijccobeljoikaa.Pure
open Go.RowKit Go.Proofs.Ytijccobeljoikaa.Pk Go.Proofs.YtijccobeljoikaaW.PrintWords Go.Proofs.YtijccobeljoikaaW.PrintLast
open Go.Proofs.Ytijccobeljoikaa.Plain Go.Proofs.Ytijccobeljoikaa.Walks
set_option linter.unusedVariables false
set_option linter.unusedSimpArgs false

theorem lists_j1 (l b : List Int) (hb : Byte b) (h1 : l.length ≤ 3000) (h2 : b.length ≤ 3000) : Ev (fun k => stanchionlaw01_PackLists.j1 k l b false) true := by
  refine ev_succ ?_
  simp only [stanchionlaw01_PackLists.j1, Bool.false_eq_true, if_false]
  rw [copyInts_eq (by omega), copy_eq (by omega)]
  simp only [Option.bind_some]
  rw [nums_eq (by omega)]
  simp only [Option.bind_some]
  refine Ev.bind (ev_nums (by omega)) ?_
  refine Ev.bind (ev_ints hb (by omega)) ?_
  refine Ev.bind (ev_refInts hb (by omega)) ?_
  refine Ev.bind (ev_same _ _ (by have := numsGo_len l []; simp only [List.length_nil] at this; omega)) ?_
  simp only [decide_true, if_true]
  refine Ev.bind (ev_sameInts _ (by omega)) ?_
  simp only [if_true]
  refine Ev.bind (ev_sameInts _ (by have := intsGo_len (b.length + 1) [] b; simp only [List.length_nil] at this; omega)) ?_
  exact ev_of fun k => by simp
theorem PackLists : stanchionlaw01_PackLists.Pure := by
  intro l b hm hl hw hm1 hl1 hw1
  have hb := byte_of_wf hw1
  refine Ev.rounds ?_
  unfold stanchionlaw01_PackLists.f
  refine Ev.bind ev_aliveNum ?_
  simp only [if_true]
  refine Ev.bind ev_aliveRead ?_
  refine ev_succ ?_
  simp only [stanchionlaw01_PackLists.j0, Bool.not_true, Bool.false_eq_true, if_false]
  have ht : Ev (fun k => stanchionlaw01_PackLists.j1 k l b true) true := ev_succ (ev_of fun k => by simp [stanchionlaw01_PackLists.j1])
  by_cases h1 : (l.length : Int) > 3000
  · simp only [h1, if_true]
    exact ht
  simp only [h1, if_false]
  by_cases h2 : (b.length : Int) > 3000
  · simp only [h2, decide_true]
    exact ht
  simp only [h2, decide_false]
  exact lists_j1 l b hb (by omega) (by omega)

end Go.Proofs.Ytijccobeljoikaa.Pure
