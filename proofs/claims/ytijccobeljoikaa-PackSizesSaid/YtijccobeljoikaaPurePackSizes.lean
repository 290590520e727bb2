/- The plain statement of PackSizes: a greater number has as many bytes or more, and unlike numbers have unlike bytes; there is no condition. -/
import Derived.Test.YtijccobeljoikaaPkEvA
namespace Go.Proofs.Ytijccobeljoikaa.Pure
open Go.RowKit Go.Proofs.Ytijccobeljoikaa.Pk Go.Proofs.YtijccobeljoikaaW.PrintWords Go.Proofs.YtijccobeljoikaaW.PrintLast
open Go.Proofs.Ytijccobeljoikaa.Plain Go.Proofs.Ytijccobeljoikaa.Walks
set_option linter.unusedVariables false
set_option linter.unusedSimpArgs false

theorem encN_mono (n : Nat) : ∀ v w : Nat, v < n → v ≤ w → (encN v).length ≤ (encN w).length := by
  induction n with
  | zero => intro v w h; omega
  | succ n ih =>
    intro v w h hw
    by_cases c : v < 128
    · rw [encN_small c]; exact encN_pos w
    · rw [encN_big c, encN_big (v := w) (by omega)]
      have := ih (v / 128) (w / 128) (by omega) (by omega)
      simp; omega
theorem encN_inj (n : Nat) : ∀ v w : Nat, v < n → encN v = encN w → v = w := by
  induction n with
  | zero => intro v w h; omega
  | succ n ih =>
    intro v w h he
    by_cases c : v < 128
    · by_cases d : w < 128
      · rw [encN_small c, encN_small d] at he
        injection he with he
        omega
      · rw [encN_small c, encN_big d] at he
        injection he with he h2
        omega
    · by_cases d : w < 128
      · rw [encN_big c, encN_small d] at he
        injection he with he h2
        omega
      · rw [encN_big c, encN_big d] at he
        injection he with he h2
        have := ih (v / 128) (w / 128) (by omega) h2
        omega
theorem PackSizes : stanchionlaw01_PackSizes.Pure := by
  intro v w hv hw
  refine Ev.rounds ?_
  unfold stanchionlaw01_PackSizes.f
  refine Ev.bind ev_aliveNum ?_
  simp only [if_true, pack_num, Option.bind_some]
  by_cases h0 : v < 0 ∨ 4611686018427387904 ≤ v
  · have e : numAns v = ([], 10) := if_pos h0
    simp only [e]
    exact ev_of fun k => by simp
  have e0 : numAns v = (encN v.toNat, 0) := if_neg h0
  by_cases h1 : w < 0 ∨ 4611686018427387904 ≤ w
  · have e : numAns w = ([], 10) := if_pos h1
    simp only [e0, e, if_true]
    exact ev_of fun k => by simp
  have e1 : numAns w = (encN w.toNat, 0) := if_neg h1
  simp only [e0, e1, if_true]
  have hs := ev_same (encN v.toNat) (encN w.toNat) (by have := encN_len9 v.toNat (by omega); omega)
  have hd : (decide (encN v.toNat = encN w.toNat) == (v == w)) = true := by
    by_cases he : v = w
    · simp [he]
    · have : encN v.toNat ≠ encN w.toNat := fun h => he (by have := encN_inj (v.toNat + 1) _ _ (by omega) h; omega)
      simp [he, this]
  have fin : Ev (fun k => (stanchionref00_SameBytes.f k (encN v.toNat) (encN w.toNat)).bind fun t => some (t == (v == w))) true := by
    refine Ev.bind hs ?_
    rw [hd]
    exact ev_const _
  have m1 : v ≤ w → ((encN v.toNat).length : Int) ≤ (encN w.toNat).length := fun h => by have := encN_mono (v.toNat + 1) v.toNat w.toNat (by omega) (by omega); omega
  have m2 : w ≤ v → ((encN w.toNat).length : Int) ≤ (encN v.toNat).length := fun h => by have := encN_mono (w.toNat + 1) w.toNat v.toNat (by omega) (by omega); omega
  by_cases c1 : v > w
  · have c2 : ¬ v < w := by omega
    simp only [c1, c2, if_true, if_false]
    have := m2 (by omega)
    simp only [ge_iff_le, this, if_true]
    exact fin
  · have := m1 (by omega)
    simp only [c1, if_false, this, if_true]
    by_cases c2 : v < w
    · simp only [c2, if_true]
      exact fin
    · have := m2 (by omega)
      simp only [c2, if_false, ge_iff_le, this, if_true]
      exact fin

end Go.Proofs.Ytijccobeljoikaa.Pure
