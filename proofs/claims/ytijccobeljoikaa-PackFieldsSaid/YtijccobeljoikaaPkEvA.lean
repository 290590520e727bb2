/- What the printed functions of the numbers' statements come to: plain lemmas, no program. -/
import Derived.Test.YtijccobeljoikaaPkx1
namespace Go.Proofs.Ytijccobeljoikaa.Pure
open Go.RowKit Go.Proofs.Ytijccobeljoikaa.Pk Go.Proofs.YtijccobeljoikaaW.PrintWords Go.Proofs.YtijccobeljoikaaW.PrintLast
open Go.Proofs.Ytijccobeljoikaa.Plain Go.Proofs.Ytijccobeljoikaa.Walks
set_option linter.unusedVariables false
set_option linter.unusedSimpArgs false

theorem w64 {x : Int} (h0 : -9223372036854775808 ≤ x) (h1 : x ≤ 9223372036854775807) : wrap64 x = x := by unfold wrap64; omega
theorem rd_at {l : List Int} {i : Nat} (h : i < l.length) : rd l (i : Int) = l[i] := by simp [rd, List.getD_eq_getElem?_getD, h]
theorem ev_const {α : Type} (r : α) : Ev (fun _ : Nat => some r) r := ⟨0, fun _ _ => rfl⟩
theorem ev_of {α : Type} {g : Nat → Option α} {r : α} (h : ∀ k, g k = some r) : Ev g r := ⟨0, fun k _ => h k⟩
/-- A loop: from one number of rounds to the next. -/
theorem ev_succ {α : Type} {g : Nat → Option α} {r : α} (h : Ev (fun k => g (k + 1)) r) : Ev g r := by
  obtain ⟨K, h⟩ := h
  refine ⟨K + 1, fun k hk => ?_⟩
  obtain ⟨m, rfl⟩ : ∃ m, k = m + 1 := ⟨k - 1, by omega⟩
  exact h m (by omega)

theorem ev_same_l0 (a b : List Int) (hl : a.length = b.length) (hn : a.length < 4611686018427387904) (n : Nat) : ∀ i : Nat, i + n = a.length → Ev (fun k => stanchionref00_SameBytes.l0 k a b (i : Int)) (decide (a.drop i = b.drop i)) := by
  induction n with
  | zero =>
    intro i hi
    refine ev_succ (ev_of fun k => ?_)
    simp only [stanchionref00_SameBytes.l0]
    rw [if_neg (by omega), List.drop_eq_nil_of_le (by omega), List.drop_eq_nil_of_le (by omega)]
    simp
  | succ n ih =>
    intro i hi
    have ha : i < a.length := by omega
    have hb : i < b.length := by omega
    refine ev_succ ?_
    simp only [stanchionref00_SameBytes.l0]
    have e : wrap64 ((i : Int) + 1) = ((i + 1 : Nat) : Int) := by rw [w64 (by omega) (by omega)]; omega
    refine Ev.congr (f := fun k => if a[i] = b[i] then stanchionref00_SameBytes.l0 k a b ((i + 1 : Nat) : Int) else some false) (fun k => by rw [if_pos (by omega), if_pos (by omega), if_pos (by omega), rd_at ha, rd_at hb, e]) ?_
    rw [List.drop_eq_getElem_cons ha, List.drop_eq_getElem_cons hb]
    by_cases h : a[i] = b[i]
    · simp only [List.cons.injEq, h, if_true, true_and]
      exact ih (i + 1) (by omega)
    · simp only [List.cons.injEq, h, if_false, false_and, decide_false]
      exact ev_const _
theorem ev_same (a b : List Int) (hn : a.length < 4611686018427387904) : Ev (fun k => stanchionref00_SameBytes.f k a b) (decide (a = b)) := by
  unfold stanchionref00_SameBytes.f
  by_cases hl : a.length = b.length
  · have := ev_same_l0 a b hl hn a.length 0 (by omega)
    refine Ev.congr (fun k => if_pos (by omega)) ?_
    simpa using this
  · refine ev_of fun k => ?_
    rw [if_neg (by omega)]
    have : a ≠ b := fun h => hl (by rw [h])
    simp [this]

/-- What Num answers. -/
def numAns (v : Int) : List Int × Int := if v < 0 ∨ 4611686018427387904 ≤ v then ([], 10) else (encN v.toNat, 0)
theorem pack_num (v : Int) : pack_Num.f v = some (numAns v) := by
  unfold pack_Num.f pack_Nums.f numsF numAns
  simp only [List.length_singleton, numsGo]
  rw [if_pos (by omega)]
  split <;> simp
theorem numAns_len (v : Int) : (numAns v).1.length ≤ 9 := by
  unfold numAns
  split
  · simp
  · exact encN_len9 _ (by omega)

theorem set_last (pre : List Int) (d x : Int) : (pre ++ [d]).set pre.length x = pre ++ [x] := by
  rw [List.set_append_right _ _ (Nat.le_refl _)]; simp
theorem ev_num_l0 (n : Nat) : ∀ (x : Nat) (pre : List Int), x < n → x < 4611686018427387904 → pre.length + (encN x).length < 1000 → Ev (fun k => stanchionref01_Num.l0 k (x : Int) (pre ++ [((x % 128 : Nat) : Int)])) (pre ++ encN x, 0) := by
  induction n with
  | zero => intro x pre h; omega
  | succ n ih =>
    intro x pre h h1 h2
    refine ev_succ ?_
    simp only [stanchionref01_Num.l0]
    by_cases c : x < 128
    · refine ev_of fun k => ?_
      rw [if_neg (by omega), encN_small c, Nat.mod_eq_of_lt c]
    · rw [encN_big c] at h2 ⊢
      have hl : (pre ++ [((x % 128 : Nat) : Int)]).length = pre.length + 1 := by simp
      have e1 : wrap64 (((pre ++ [((x % 128 : Nat) : Int)]).length : Int) - 1) = (pre.length : Int) := by rw [hl, w64 (by omega) (by omega)]; omega
      have hr : rd (pre ++ [((x % 128 : Nat) : Int)]) (pre.length : Int) = ((x % 128 : Nat) : Int) := by simp [rd, List.getD_eq_getElem?_getD]
      have e2 : wrap64 (Int.tdiv (x : Int) 128) = ((x / 128 : Nat) : Int) := by rw [Int.tdiv_eq_ediv_of_nonneg (by omega), w64 (by omega) (by omega)]; omega
      have e3 : (Int.tmod ((x / 128 : Nat) : Int) 128) % 256 = ((x / 128 % 128 : Nat) : Int) := by rw [Int.tmod_eq_emod_of_nonneg (by omega)]; omega
      have e4 : (((x % 128 : Nat) : Int) + 128) % 256 = ((x % 128 + 128 : Nat) : Int) := by omega
      have hlen : ∀ z : Int, (pre ++ [z]).length < 140737488355328 := fun z => by simp at h2 ⊢; omega
      refine Ev.congr (f := fun k => stanchionref01_Num.l0 k ((x / 128 : Nat) : Int) ((pre ++ [((x % 128 + 128 : Nat) : Int)]) ++ [((x / 128 % 128 : Nat) : Int)])) (fun k => ?_) ?_
      · rw [if_pos (by omega), e1, if_pos (by omega), if_pos (by rw [hl]; omega), hr, Int.toNat_natCast, set_last, e2, e3, e4]
        simp only [Option.bind_some]
        rw [if_pos (hlen _)]
      · have := ih (x / 128) (pre ++ [((x % 128 + 128 : Nat) : Int)]) (by omega) (by omega) (by simp at h2 ⊢; omega)
        simpa using this
theorem ev_num (v : Int) : Ev (fun k => stanchionref01_Num.f k v) (numAns v) := by
  unfold stanchionref01_Num.f numAns
  by_cases h0 : v < 0
  · rw [if_pos (Or.inl h0)]
    refine Ev.congr (fun k => if_pos h0) ?_
    exact ev_succ (ev_of fun k => by simp [stanchionref01_Num.j0])
  · refine Ev.congr (fun k => if_neg h0) ?_
    refine ev_succ ?_
    by_cases h1 : 4611686018427387904 ≤ v
    · rw [if_pos (Or.inr h1)]
      exact ev_of fun k => by simp [stanchionref01_Num.j0, h1]
    · rw [if_neg (by omega)]
      obtain ⟨n, rfl⟩ := Int.eq_ofNat_of_zero_le (show 0 ≤ v by omega)
      have e : (Int.tmod (n : Int) 128) % 256 = ((n % 128 : Nat) : Int) := by rw [Int.tmod_eq_emod_of_nonneg (by omega)]; omega
      have := ev_num_l0 (n + 1) n [] (by omega) (by omega) (by have := encN_len9 n (by omega); simp; omega)
      rw [List.nil_append, List.nil_append] at this
      refine Ev.congr (fun k => ?_) this
      simp only [stanchionref01_Num.j0]
      rw [if_neg (by simp; omega), e]

theorem enc300 : encN 300 = [172, 2] := by rw [encN_big (by omega), encN_small (by omega)]; rfl
theorem ev_aliveNum : Ev (fun k => stanchionlaw01_aliveNum.f k) true := by
  unfold stanchionlaw01_aliveNum.f
  have hn : numAns 300 = ([172, 2], 0) := by
    unfold numAns; rw [if_neg (by omega), show (300 : Int).toNat = 300 from rfl, enc300]
  simp only [pack_num, hn, Option.bind_some, if_true]
  have := ev_same [172, 2] [172, 2] (by simp)
  exact Ev.bind this (ev_const _)
end Go.Proofs.Ytijccobeljoikaa.Pure
