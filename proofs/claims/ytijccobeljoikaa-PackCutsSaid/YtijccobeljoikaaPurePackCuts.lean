/- The plain statement of PackCuts: the bytes of a number, cut short, are error 11 to Read, and they are nine at most; there is no condition. -/
import Derived.Test.YtijccobeljoikaaPkEvC
namespace Go.Proofs.Ytijccobeljoikaa.Pure
open Go.RowKit Go.Proofs.Ytijccobeljoikaa.Pk Go.Proofs.YtijccobeljoikaaW.PrintWords Go.Proofs.YtijccobeljoikaaW.PrintLast
open Go.Proofs.Ytijccobeljoikaa.Plain Go.Proofs.Ytijccobeljoikaa.Walks
set_option linter.unusedVariables false
set_option linter.unusedSimpArgs false

theorem PackCuts : stanchionlaw01_PackCuts.Pure := by
  intro v c hv hc
  refine Ev.rounds ?_
  unfold stanchionlaw01_PackCuts.f
  refine Ev.bind ev_aliveNum ?_
  simp only [if_true]
  refine Ev.bind ev_aliveRead ?_
  refine ev_succ ?_
  simp only [stanchionlaw01_PackCuts.j0, Bool.not_true, Bool.false_eq_true, if_false, pack_num, Option.bind_some]
  by_cases hr : v < 0 ∨ 4611686018427387904 ≤ v
  · have : numAns v = ([], 10) := if_pos hr
    rw [this]
    exact ev_of fun k => by simp
  · obtain ⟨n, rfl⟩ := Int.eq_ofNat_of_zero_le (show 0 ≤ v by omega)
    have hn : n < 4611686018427387904 := by omega
    have e9 := encN_len9 n hn
    have : numAns (n : Int) = (encN n, 0) := by unfold numAns; rw [if_neg (by omega)]; rfl
    rw [this]
    simp only [if_true]
    by_cases h0 : c < 0
    · simp only [h0, if_true]; exact ev_const _
    by_cases h1 : c ≥ ((encN n).length : Int)
    · simp only [h0, h1, if_true, if_false]; exact ev_const _
    obtain ⟨j, rfl⟩ := Int.eq_ofNat_of_zero_le (show 0 ≤ c by omega)
    simp only [h0, h1, if_false]
    refine ev_of fun k => ?_
    rw [if_pos (by omega), if_pos (by omega), Int.toNat_natCast, packRead_eq ((encN_byte n).take j) (by rw [List.length_take]; omega), readAns_cut n j hn (by omega)]
    simp only [Option.bind_some, if_true, List.length_nil, Int.natCast_zero]
    rw [decide_eq_true (by omega)]
end Go.Proofs.Ytijccobeljoikaa.Pure
