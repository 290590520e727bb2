/- The plain statement of PackRound: what Num writes Read reads again, and what Read reads Num writes; there is no condition. -/
import Derived.Test.YtijccobeljoikaaPkEvC
namespace Go.Proofs.Ytijccobeljoikaa.Pure
open Go.RowKit Go.Proofs.Ytijccobeljoikaa.Pk Go.Proofs.YtijccobeljoikaaW.PrintWords Go.Proofs.YtijccobeljoikaaW.PrintLast
open Go.Proofs.Ytijccobeljoikaa.Plain Go.Proofs.Ytijccobeljoikaa.Walks
set_option linter.unusedVariables false
set_option linter.unusedSimpArgs false

theorem numAns_in {n : Nat} (h : n < 4611686018427387904) : numAns (n : Int) = (encN n, 0) := by
  unfold numAns; rw [if_neg (by omega)]; rfl
theorem round_j1 {l : List Int} (hb : Byte l) (h : l.length ≤ 10000) : Ev (fun k => stanchionlaw01_PackRound.j1 k l false) true := by
  refine ev_succ ?_
  simp only [stanchionlaw01_PackRound.j1, Bool.false_eq_true, if_false]
  rw [copy_eq (by omega)]
  simp only [Option.bind_some]
  rw [packRead_eq hb (by omega)]
  simp only [Option.bind_some]
  have hl := (readAns_rest hb).2
  rcases readAns_conv hb with ⟨n, hn, hm, hr⟩ | ⟨hr, he⟩
  · have e9 := encN_len9 n hn
    generalize (readAns l).2.1 = more at *
    rw [hr]
    simp only [if_true, pack_num, numAns_in hn, Option.bind_some]
    refine Ev.congr (f := fun k => (stanchionref00_SameBytes.f k (encN n ++ more) l).bind fun t => some t) (fun k => if_pos (by omega)) ?_
    refine Ev.bind (ev_same _ _ (by rw [List.length_append]; omega)) ?_
    exact ev_of fun k => by simp [← hm]
  · generalize (readAns l).2.2 = e at *
    rw [hr]
    simp only [if_neg he, if_true]
    exact ev_const _
theorem PackRound : stanchionlaw01_PackRound.Pure := by
  intro v l hv hm hl hw
  have hb := byte_of_wf hw
  refine Ev.rounds ?_
  unfold stanchionlaw01_PackRound.f
  refine Ev.bind ev_aliveNum ?_
  simp only [if_true]
  refine Ev.bind ev_aliveRead ?_
  refine ev_succ ?_
  simp only [stanchionlaw01_PackRound.j0, Bool.not_true, Bool.false_eq_true, if_false]
  by_cases h1 : (l.length : Int) > 10000
  · simp only [h1, if_true]
    exact ev_const _
  simp only [h1, if_false, pack_num, Option.bind_some]
  by_cases hr : v < 0 ∨ 4611686018427387904 ≤ v
  · have : numAns v = ([], 10) := if_pos hr
    rw [this]
    refine ev_of fun k => ?_
    simp
    omega
  · obtain ⟨n, rfl⟩ := Int.eq_ofNat_of_zero_le (show 0 ≤ v by omega)
    have hn : n < 4611686018427387904 := by omega
    have e9 := encN_len9 n hn
    rw [numAns_in hn]
    simp only [if_true]
    rw [copy_eq (by omega)]
    simp only [Option.bind_some]
    rw [packRead_eq ((encN_byte n).append hb) (by rw [List.length_append]; omega), readAns_enc n l hn]
    simp only [Option.bind_some, if_true]
    refine Ev.congr (f := fun k => (stanchionref00_SameBytes.f k l l).bind fun t => stanchionlaw01_PackRound.j1 k l (!t)) (fun k => if_pos (by omega)) ?_
    refine Ev.bind (ev_same _ _ (by omega)) ?_
    simp only [decide_true, Bool.not_true]
    exact round_j1 hb (by omega)

end Go.Proofs.Ytijccobeljoikaa.Pure
