/- What the printed functions of lists of numbers come to: plain lemmas, no program. -/
import Derived.Test.YtijccobeljoikaaPkEvC
namespace Go.Proofs.Ytijccobeljoikaa.Pure
open Go.RowKit Go.Proofs.Ytijccobeljoikaa.Pk Go.Proofs.YtijccobeljoikaaW.PrintWords Go.Proofs.YtijccobeljoikaaW.PrintLast
open Go.Proofs.Ytijccobeljoikaa.Plain Go.Proofs.Ytijccobeljoikaa.Walks
set_option linter.unusedVariables false
set_option linter.unusedSimpArgs false

theorem copyInts_eq {l : List Int} (h : l.length < 17592186044416) : stanchionref00_CopyInts.f l = some l := by
  unfold stanchionref00_CopyInts.f
  simp [h]
theorem nums_eq {l : List Int} (h : l.length < 15000000000000) : pack_Nums.f l = some (numsGo [] l) := if_pos h

theorem ev_nums_l0 (l : List Int) (n : Nat) : ∀ (i : Nat) (acc : List Int), i + n = l.length → l.length < 4611686018427387904 → acc.length + 9 * n < 140737488355328 → Ev (fun k => stanchionref01_Nums.l0 k l acc (i : Int)) (numsGo acc (l.drop i)) := by
  induction n with
  | zero =>
    intro i acc hi h h2
    refine ev_succ (ev_of fun k => ?_)
    simp only [stanchionref01_Nums.l0]
    rw [if_neg (by omega), List.drop_eq_nil_of_le (by omega)]
    rfl
  | succ n ih =>
    intro i acc hi h h2
    have hl : i < l.length := by omega
    refine ev_succ ?_
    simp only [stanchionref01_Nums.l0]
    have e : wrap64 ((i : Int) + 1) = ((i + 1 : Nat) : Int) := by rw [w64 (by omega) (by omega)]; omega
    rw [List.drop_eq_getElem_cons hl, numsGo]
    refine Ev.congr (f := fun k => (stanchionref01_Num.f k l[i]).bind fun t => if t.2 = 0 then (if acc.length + t.1.length < 140737488355328 then stanchionref01_Nums.l0 k l (acc ++ t.1) ((i + 1 : Nat) : Int) else none) else some ([], t.2)) (fun k => by rw [if_pos (by omega), if_pos (by omega), rd_at hl, e]) ?_
    refine Ev.bind (ev_num l[i]) ?_
    unfold numAns
    by_cases hv : l[i] < 0 ∨ 4611686018427387904 ≤ l[i]
    · rw [if_pos hv, if_pos hv]
      exact ev_of fun k => by simp
    · rw [if_neg hv, if_neg hv]
      have e9 := encN_len9 l[i].toNat (by omega)
      simp only [if_true]
      refine Ev.congr (fun k => if_pos (by omega)) ?_
      exact ih (i + 1) _ (by omega) h (by rw [List.length_append]; omega)
theorem ev_nums {l : List Int} (h : l.length < 10000000000000) : Ev (fun k => stanchionref01_Nums.f k l) (numsGo [] l) := by
  unfold stanchionref01_Nums.f
  have := ev_nums_l0 l l.length 0 [] (by omega) (by omega) (by simp; omega)
  simpa using this

theorem ev_ints_l0 (n : Nat) : ∀ (x acc : List Int), Byte x → x.length < n → x.length < 140737488355328 → acc.length + x.length < 17592186044416 → Ev (fun k => pack_Ints.l0 k x acc) (intsGo n acc x) := by
  induction n with
  | zero => intro x acc hb h; omega
  | succ n ih =>
    intro x acc hb h h2 ha
    refine ev_succ ?_
    simp only [pack_Ints.l0]
    rw [intsGo]
    by_cases h0 : x.length = 0
    · rw [if_pos h0]; exact ev_of fun k => by rw [if_neg (by omega)]
    rw [if_neg h0]
    have ht := readGo_told x 0 0 (by omega) hb
    rw [packread_eq hb]
    obtain ⟨⟨v, m, e⟩, hr⟩ : ∃ z, z = readGo 0 0 x := ⟨_, rfl⟩
    rw [← hr] at ht ⊢
    simp only [Option.bind_some] at ht ⊢
    by_cases he : e = 0
    · have ht := ht he
      rw [if_neg (by simpa using he)]
      refine Ev.congr (f := fun k => pack_Ints.l0 k (x.drop m.toNat) (acc ++ [v])) (fun k => ?_) (ih _ _ (hb.drop _) (by rw [List.length_drop]; omega) (by rw [List.length_drop]; omega) (by simp only [List.length_drop, List.length_append, List.length_singleton]; omega))
      rw [if_pos (by omega), if_pos he, if_pos (by omega), if_pos (by omega), if_pos (by omega)]
    · rw [if_pos he]
      exact ev_of fun k => by rw [if_pos (by omega), if_neg he]
theorem ev_refInts_l0 (n : Nat) : ∀ (x acc : List Int), Byte x → x.length < n → x.length < 140737488355328 → acc.length + x.length < 17592186044416 → Ev (fun k => stanchionref01_Ints.l0 k x acc) (intsGo n acc x) := by
  induction n with
  | zero => intro x acc hb h; omega
  | succ n ih =>
    intro x acc hb h h2 ha
    refine ev_succ ?_
    simp only [stanchionref01_Ints.l0]
    rw [intsGo]
    by_cases h0 : x.length = 0
    · rw [if_pos h0]; exact ev_of fun k => by rw [if_neg (by omega)]
    rw [if_neg h0]
    have ht := readGo_told x 0 0 (by omega) hb
    rw [refRead_eq hb h2]
    simp only [Option.bind_some]
    unfold readAns refAns
    obtain ⟨⟨v, m, e⟩, hr⟩ : ∃ z, z = readGo 0 0 x := ⟨_, rfl⟩
    rw [← hr] at ht ⊢
    simp only [Option.bind_some] at ht ⊢
    by_cases he : e = 0
    · have ht := ht he
      simp only [if_pos he, if_true]
      rw [if_neg (by simpa using he)]
      refine Ev.congr (f := fun k => stanchionref01_Ints.l0 k (x.drop m.toNat) (acc ++ [v])) (fun k => ?_) (ih _ _ (hb.drop _) (by rw [List.length_drop]; omega) (by rw [List.length_drop]; omega) (by simp only [List.length_drop, List.length_append, List.length_singleton]; omega))
      rw [if_pos (by omega), if_pos (by omega)]
    · simp only [if_neg he]
      rw [if_pos he]
      exact ev_of fun k => by rw [if_pos (by omega)]
theorem ev_ints {x : List Int} (hb : Byte x) (h : x.length < 17592186044416) : Ev (fun k => pack_Ints.f k x) (intsGo (x.length + 1) [] x) := by
  unfold pack_Ints.f
  exact ev_ints_l0 _ x [] hb (by omega) (by omega) (by simp; omega)
theorem ev_refInts {x : List Int} (hb : Byte x) (h : x.length < 17592186044416) : Ev (fun k => stanchionref01_Ints.f k x) (intsGo (x.length + 1) [] x) := by
  unfold stanchionref01_Ints.f
  exact ev_refInts_l0 _ x [] hb (by omega) (by omega) (by simp; omega)

theorem ev_sameInts_l0 (a : List Int) (hn : a.length < 4611686018427387904) (n : Nat) : ∀ i : Nat, i + n = a.length → Ev (fun k => stanchionref00_SameInts.l0 k a a (i : Int)) true := by
  induction n with
  | zero =>
    intro i hi
    refine ev_succ (ev_of fun k => ?_)
    simp only [stanchionref00_SameInts.l0]
    rw [if_neg (by omega)]
  | succ n ih =>
    intro i hi
    have ha : i < a.length := by omega
    refine ev_succ ?_
    simp only [stanchionref00_SameInts.l0]
    have e : wrap64 ((i : Int) + 1) = ((i + 1 : Nat) : Int) := by rw [w64 (by omega) (by omega)]; omega
    refine Ev.congr (f := fun k => stanchionref00_SameInts.l0 k a a ((i + 1 : Nat) : Int)) (fun k => by rw [if_pos (by omega), if_pos (by omega), if_pos (by omega), if_pos trivial, e]) (ih (i + 1) (by omega))
theorem ev_sameInts (a : List Int) (hn : a.length < 4611686018427387904) : Ev (fun k => stanchionref00_SameInts.f k a a) true := by
  unfold stanchionref00_SameInts.f
  exact Ev.congr (fun k => if_pos rfl) (ev_sameInts_l0 a hn a.length 0 (by omega))
end Go.Proofs.Ytijccobeljoikaa.Pure
