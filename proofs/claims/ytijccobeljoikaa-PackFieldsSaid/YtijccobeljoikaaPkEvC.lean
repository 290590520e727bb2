/- What the printed functions of lists come to: plain lemmas, no program. -/
import Derived.Test.YtijccobeljoikaaPkEvB
import Derived.Test.YtijccobeljoikaaPlainC
import Derived.Test.YtijccobeljoikaaPkx4
import Derived.Test.YtijccobeljoikaaPkx5
namespace Go.Proofs.Ytijccobeljoikaa.Pure
open Go.RowKit Go.Proofs.Ytijccobeljoikaa.Pk Go.Proofs.YtijccobeljoikaaW.PrintWords Go.Proofs.YtijccobeljoikaaW.PrintLast
open Go.Proofs.Ytijccobeljoikaa.Plain Go.Proofs.Ytijccobeljoikaa.Walks
set_option linter.unusedVariables false
set_option linter.unusedSimpArgs false

theorem rd_rows {l : List (List Int)} {i : Nat} (h : i < l.length) : rd_L2 l (i : Int) = l[i] := by simp [rd_L2, List.getD_eq_getElem?_getD, h]
theorem ev_rows_l0 (a b : List (List Int)) (hl : a.length = b.length) (hn : a.length < 4611686018427387904) (hr : ∀ r ∈ a, r.length < 4611686018427387904) (n : Nat) : ∀ i : Nat, i + n = a.length → Ev (fun k => stanchionref00_SameRows.l0 k a b (i : Int)) (decide (a.drop i = b.drop i)) := by
  induction n with
  | zero =>
    intro i hi
    refine ev_succ (ev_of fun k => ?_)
    simp only [stanchionref00_SameRows.l0]
    rw [if_neg (by omega), List.drop_eq_nil_of_le (by omega), List.drop_eq_nil_of_le (by omega)]
    simp
  | succ n ih =>
    intro i hi
    have ha : i < a.length := by omega
    have hb : i < b.length := by omega
    refine ev_succ ?_
    simp only [stanchionref00_SameRows.l0]
    have e : wrap64 ((i : Int) + 1) = ((i + 1 : Nat) : Int) := by rw [w64 (by omega) (by omega)]; omega
    refine Ev.congr (f := fun k => (stanchionref00_SameBytes.f k a[i] b[i]).bind fun t => if t = true then stanchionref00_SameRows.l0 k a b ((i + 1 : Nat) : Int) else some false) (fun k => by rw [if_pos (by omega), if_pos (by omega), if_pos (by omega), rd_rows ha, rd_rows hb, e]) ?_
    rw [List.drop_eq_getElem_cons ha, List.drop_eq_getElem_cons hb]
    refine Ev.bind (ev_same a[i] b[i] (hr _ (List.getElem_mem ha))) ?_
    by_cases h : a[i] = b[i]
    · simp only [List.cons.injEq, h, if_true, true_and, decide_true]
      exact ih (i + 1) (by omega)
    · simp only [List.cons.injEq, h, false_and, decide_false, Bool.false_eq_true, if_false]
      exact ev_const _
theorem ev_rows (a b : List (List Int)) (hn : a.length < 4611686018427387904) (hr : ∀ r ∈ a, r.length < 4611686018427387904) : Ev (fun k => stanchionref00_SameRows.f k a b) (decide (a = b)) := by
  unfold stanchionref00_SameRows.f
  by_cases hl : a.length = b.length
  · have := ev_rows_l0 a b hl hn hr a.length 0 (by omega)
    refine Ev.congr (fun k => if_pos (by omega)) ?_
    simpa using this
  · refine ev_of fun k => ?_
    rw [if_neg (by omega)]
    have : a ≠ b := fun h => hl (by rw [h])
    simp [this]

theorem ev_split_l0 (n : Nat) : ∀ (x : List Int) (acc : List (List Int)), Byte x → x.length < n → x.length < 140737488355328 → acc.length ≤ 1024 → Ev (fun k => pack_Split.l0 k x acc) (splitGo n acc x) := by
  induction n with
  | zero => intro x acc hb h; omega
  | succ n ih =>
    intro x acc hb h h2 ha
    refine ev_succ ?_
    simp only [pack_Split.l0]
    rw [splitGo]
    by_cases h0 : x.length = 0
    · rw [if_pos h0]; exact ev_of fun k => by rw [if_neg (by omega)]
    rw [if_neg h0]
    by_cases h1 : acc.length = 1024
    · rw [if_pos h1]; exact ev_of fun k => by rw [if_pos (by omega), if_pos (by omega)]
    rw [if_neg h1]
    have ht := readGo_told x 0 0 (by omega) hb
    rw [packread_eq hb]
    obtain ⟨⟨v, m, e⟩, hr⟩ : ∃ z, z = readGo 0 0 x := ⟨_, rfl⟩
    rw [← hr] at ht ⊢
    simp only [Option.bind_some] at ht ⊢
    by_cases he : e = 0
    · have ht := ht he
      rw [if_neg (by simpa using he)]
      obtain ⟨v, rfl⟩ := Int.eq_ofNat_of_zero_le (show 0 ≤ v by omega)
      obtain ⟨m, rfl⟩ := Int.eq_ofNat_of_zero_le (show 0 ≤ m by omega)
      by_cases h3 : 65536 < (v : Int)
      · rw [if_pos h3]; exact ev_of fun k => by rw [if_pos (by omega), if_neg (by omega), if_pos he, if_pos (by omega)]
      rw [if_neg h3, List.length_drop, Int.toNat_natCast, Int.toNat_natCast]
      have e1 : wrap64 ((x.length : Int) - m) = ((x.length - m : Nat) : Int) := by rw [w64 (by omega) (by omega)]; omega
      by_cases h4 : ((x.length - m : Nat) : Int) < v
      · rw [if_pos h4]; exact ev_of fun k => by rw [if_pos (by omega), if_neg (by omega), if_pos he, if_neg (by omega), e1, if_pos h4]
      rw [if_neg h4]
      have e2 : wrap64 ((m : Int) + v) = ((m + v : Nat) : Int) := by rw [w64 (by omega) (by omega)]; omega
      have e3 : (x.take (m + v)).drop m = (x.drop m).take v := by rw [List.drop_take, Nat.add_sub_cancel_left]
      have hc : slices_Clone_byte_byte.f ((x.drop m).take v) = some ((x.drop m).take v) := clone_eq (by rw [List.length_take]; omega)
      refine Ev.congr (f := fun k => pack_Split.l0 k ((x.drop m).drop v) (acc ++ [(x.drop m).take v])) (fun k => ?_) (ih _ _ ((hb.drop _).drop _) (by simp only [List.length_drop]; omega) (by simp only [List.length_drop]; omega) (by simp; omega))
      rw [if_pos (by omega), if_neg (by omega), if_pos he, if_neg (by omega), e1, if_neg h4, e2, if_pos (by omega), if_pos (by omega), if_pos (by omega), Int.toNat_natCast, e3, hc, Option.bind_some, if_pos (by omega), if_pos (by omega), List.drop_drop]
    · rw [if_pos he]
      exact ev_of fun k => by rw [if_pos (by omega), if_neg (by omega), if_neg he]
theorem ev_split {x : List Int} (hb : Byte x) (h : x.length < 140737488355328) : Ev (fun k => pack_Split.f k x) (splitGo (x.length + 1) [] x) := by
  unfold pack_Split.f
  exact ev_split_l0 _ x [] hb (by omega) h (by simp)
theorem refSplit_eq {l : List Int} (hb : Byte l) (h : l.length < 140737488355328) : stanchionref01_Split.f l = some (splitGo (l.length + 1) [] l) := if_pos ⟨hb, h⟩

theorem readAns_enc (n : Nat) (more : List Int) (h : n < 4611686018427387904) : readAns (encN n ++ more) = ((n : Int), more, 0) := by
  unfold readAns refAns
  rw [readGo_enc0 n more h]
  simp
theorem readAns_conv {l : List Int} (hb : Byte l) : (∃ n : Nat, n < 4611686018427387904 ∧ l = encN n ++ (readAns l).2.1 ∧ readAns l = ((n : Int), (readAns l).2.1, 0)) ∨ (readAns l = (0, [], (readAns l).2.2) ∧ (readAns l).2.2 ≠ 0) := by
  by_cases he : (readGo 0 0 l).2.2 = 0
  · obtain ⟨n, hr, hn, _, more, hm⟩ := readGo_conv l 0 0 (by omega) hb he
    have hn : n < 4611686018427387904 := by simpa using hn
    have := readAns_enc n more hn
    rw [← hm] at this
    exact .inl ⟨n, hn, by rw [this]; exact hm, by rw [this]⟩
  · refine .inr ?_
    unfold readAns refAns
    rw [if_neg he]
    exact ⟨rfl, he⟩
theorem readAns_cut (n j : Nat) (h : n < 4611686018427387904) (hj : j < (encN n).length) : readAns ((encN n).take j) = (0, [], 11) := by
  unfold readAns refAns
  rw [readGo_cut (n + 1) n 0 j 0 (by omega) (by omega) (by simpa using h) hj]
  rfl
end Go.Proofs.Ytijccobeljoikaa.Pure
