/- What the printed functions of rows come to: plain lemmas, no program. -/
import Derived.Test.YtijccobeljoikaaPkEvC
import Derived.Test.YtijccobeljoikaaPlainD
import Derived.Test.YtijccobeljoikaaPkx2
import Derived.Test.YtijccobeljoikaaPkOrC
namespace Go.Proofs.Ytijccobeljoikaa.Pure
open Go.RowKit Go.Proofs.Ytijccobeljoikaa.Pk Go.Proofs.YtijccobeljoikaaW.PrintWords Go.Proofs.YtijccobeljoikaaW.PrintLast
open Go.Proofs.Ytijccobeljoikaa.Plain Go.Proofs.Ytijccobeljoikaa.Walks
set_option linter.unusedVariables false
set_option linter.unusedSimpArgs false

/-- Rows of bytes as they come in. -/
def Rowed (l : List (List Int)) : Prop := l.length * 24 ≤ 140737488351232 ∧ ∀ r ∈ l, Byte r ∧ r.length ≤ 140737488351232
theorem Rowed.len {l : List (List Int)} (h : Rowed l) : l.length < 5864062014805 := by have := h.1; omega

theorem ev_over_l0 (l : List (List Int)) (h : Rowed l) (lim : Nat) (hlim : lim < 1000000000) (n : Nat) : ∀ i acc : Nat, i + n = l.length → acc ≤ lim → ∃ b, Ev (fun k => stanchionref00_Rows.l0 k l (lim : Int) (acc : Int) (i : Int)) b ∧ (b = false → acc + rowsSize (l.drop i) ≤ lim) := by
  have hlen := h.len
  induction n with
  | zero =>
    intro i acc hi ha
    refine ⟨false, ev_succ (ev_of fun k => ?_), fun _ => ?_⟩
    · simp only [stanchionref00_Rows.l0]
      rw [if_neg (by omega)]
    · rw [List.drop_eq_nil_of_le (by omega)]; simp [rowsSize]; exact ha
  | succ n ih =>
    intro i acc hi ha
    have hl : i < l.length := by omega
    have hr := (h.2 l[i] (List.getElem_mem hl)).2
    have e : wrap64 ((i : Int) + 1) = ((i + 1 : Nat) : Int) := by rw [w64 (by omega) (by omega)]; omega
    have e2 : wrap64 ((acc : Int) + wrap64 (1 + (l[i].length : Int))) = ((acc + (1 + l[i].length) : Nat) : Int) := by
      rw [w64 (x := 1 + (l[i].length : Int)) (by omega) (by omega), w64 (by omega) (by omega)]; omega
    by_cases hc : lim < acc + (1 + l[i].length)
    · refine ⟨true, ev_succ (ev_of fun k => ?_), fun h => by cases h⟩
      simp only [stanchionref00_Rows.l0]
      rw [if_pos (by omega), if_pos (by omega), rd_rows hl, e2, if_pos (by omega)]
    · obtain ⟨b, hb, hs⟩ := ih (i + 1) (acc + (1 + l[i].length)) (by omega) (by omega)
      refine ⟨b, ev_succ (Ev.congr (fun k => ?_) hb), fun hf => ?_⟩
      · simp only [stanchionref00_Rows.l0]
        rw [if_pos (by omega), if_pos (by omega), rd_rows hl, e2, if_neg (by omega), e]
      · have := hs hf
        rw [List.drop_eq_getElem_cons hl, rowsSize]; omega
theorem ev_over {l : List (List Int)} (h : Rowed l) (lim : Nat) (hlim : lim < 1000000000) : ∃ b, Ev (fun k => stanchionref00_Rows.f k l (lim : Int)) b ∧ (b = false → rowsSize l ≤ lim) := by
  obtain ⟨b, hb, hs⟩ := ev_over_l0 l h lim hlim l.length 0 0 (by omega) (by omega)
  exact ⟨b, hb, fun hf => by simpa using hs hf⟩

theorem ev_copyRows_l0 (l : List (List Int)) (h : Rowed l) (n : Nat) : ∀ (i : Nat) (acc : List (List Int)), i + n = l.length → acc.length = i → Ev (fun k => stanchionref00_CopyRows.l0 k l acc (i : Int)) (acc ++ l.drop i) := by
  have hlen := h.len
  induction n with
  | zero =>
    intro i acc hi ha
    refine ev_succ (ev_of fun k => ?_)
    simp only [stanchionref00_CopyRows.l0]
    rw [if_neg (by omega), List.drop_eq_nil_of_le (by omega), List.append_nil]
  | succ n ih =>
    intro i acc hi ha
    have hl : i < l.length := by omega
    have hr := (h.2 l[i] (List.getElem_mem hl)).2
    have e : wrap64 ((i : Int) + 1) = ((i + 1 : Nat) : Int) := by rw [w64 (by omega) (by omega)]; omega
    have := ih (i + 1) (acc ++ [l[i]]) (by omega) (by simp [ha])
    rw [List.append_assoc, List.singleton_append, ← List.drop_eq_getElem_cons hl] at this
    refine ev_succ (Ev.congr (fun k => ?_) this)
    simp only [stanchionref00_CopyRows.l0]
    rw [if_pos (by omega), if_pos (by omega), rd_rows hl, copy_eq (by omega), Option.bind_some, if_pos (by omega), e]
theorem ev_copyRows {l : List (List Int)} (h : Rowed l) : Ev (fun k => stanchionref00_CopyRows.f k l) l := by
  have := ev_copyRows_l0 l h l.length 0 [] (by omega) rfl
  unfold stanchionref00_CopyRows.f
  simpa using this

theorem ev_join_l0 (l : List (List Int)) (hs : ∀ r ∈ l, r.length < 140737488355328) (hlen : l.length < 5864062014805) (n : Nat) : ∀ (i : Nat) (acc : List Int), i + n = l.length → acc.length + 10 * rowsSize (l.drop i) < 140737488355328 → Ev (fun k => stanchionref01_Join.l0 k l acc (i : Int)) (joinGo acc (l.drop i)) := by
  induction n with
  | zero =>
    intro i acc hi ha
    refine ev_succ (ev_of fun k => ?_)
    simp only [stanchionref01_Join.l0]
    rw [if_neg (by omega), List.drop_eq_nil_of_le (by omega)]
    rfl
  | succ n ih =>
    intro i acc hi ha
    have hl : i < l.length := by omega
    have e : wrap64 ((i : Int) + 1) = ((i + 1 : Nat) : Int) := by rw [w64 (by omega) (by omega)]; omega
    rw [List.drop_eq_getElem_cons hl, rowsSize] at ha
    rw [List.drop_eq_getElem_cons hl, joinGo]
    refine ev_succ ?_
    simp only [stanchionref01_Join.l0]
    by_cases hc : 65536 < l[i].length
    · rw [if_pos hc]
      exact ev_of fun k => by rw [if_pos (by omega), if_pos (by omega), rd_rows hl, if_pos (by omega)]
    · rw [if_neg hc]
      have h9 := encN_len9 l[i].length (by omega)
      refine Ev.congr (f := fun k => (stanchionref01_Num.f k (l[i].length : Int)).bind fun t => if acc.length + t.1.length < 140737488355328 then ((some (acc ++ t.1 : List Int)).bind fun y => if y.length + l[i].length < 140737488355328 then stanchionref01_Join.l0 k l (y ++ l[i]) ((i + 1 : Nat) : Int) else none) else none) (fun k => by rw [if_pos (by omega), if_pos (by omega), rd_rows hl, if_neg (by omega), e]) ?_
      refine Ev.bind (ev_num _) ?_
      have hn : numAns (l[i].length : Int) = (encN l[i].length, 0) := by unfold numAns; rw [if_neg (by omega)]; rfl
      rw [hn]
      simp only [Option.bind_some]
      refine Ev.congr (f := fun k => stanchionref01_Join.l0 k l (acc ++ encN l[i].length ++ l[i]) ((i + 1 : Nat) : Int)) (fun k => by rw [if_pos (by omega), if_pos (by rw [List.length_append]; omega)]) ?_
      exact ih (i + 1) _ (by omega) (by simp only [List.length_append]; omega)
/-- What Join answers. -/
def joinAns (l : List (List Int)) : List Int × Int := if 1024 < l.length then ([], 13) else joinGo [] l
theorem join_eq (l : List (List Int)) : pack_Join.f l = some (joinAns l) := rfl
theorem ev_join {l : List (List Int)} (h : rowsSize l < 10000000000000) : Ev (fun k => stanchionref01_Join.f k l) (joinAns l) := by
  unfold stanchionref01_Join.f joinAns
  have h2 := rowsSize_len l
  by_cases hc : 1024 < l.length
  · rw [if_pos hc]; exact ev_of fun k => if_pos (by omega)
  · rw [if_neg hc]
    refine Ev.congr (fun k => if_neg (by omega)) ?_
    have := ev_join_l0 l (fun r hr => by have := rowsSize_mem hr; omega) (by omega) l.length 0 [] (by omega) (by simp; omega)
    simpa using this
theorem joinAns_ok {l : List (List Int)} (h : l.length ≤ 1024) (hr : ∀ r ∈ l, r.length ≤ 65536) : joinAns l = (encL l, 0) := by
  unfold joinAns; rw [if_neg (by omega), joinGo_ok hr]; rfl
theorem joinAns_or (l : List (List Int)) : (l.length ≤ 1024 ∧ (∀ r ∈ l, r.length ≤ 65536) ∧ joinAns l = (encL l, 0)) ∨ joinAns l = ([], 13) := by
  by_cases h : l.length ≤ 1024
  · by_cases hr : ∀ r ∈ l, r.length ≤ 65536
    · exact .inl ⟨h, hr, joinAns_ok h hr⟩
    · refine .inr ?_
      unfold joinAns; rw [if_neg (by omega), joinGo_bad hr]
  · refine .inr ?_
    unfold joinAns; rw [if_pos (by omega)]
theorem joinAns_len {l : List (List Int)} : (joinAns l).1.length ≤ 10 * rowsSize l := by
  rcases joinAns_or l with ⟨_, hr, h⟩ | h
  · rw [h]; exact encL_len hr
  · rw [h]; simp
theorem ev_split_enc {l : List (List Int)} (hb : ∀ r ∈ l, Byte r) (hr : ∀ r ∈ l, r.length ≤ 65536) (h : l.length ≤ 1024) (hs : rowsSize l ≤ 1000000000) : Ev (fun k => pack_Split.f k (encL l)) (l, 0) := by
  have hl := encL_len hr
  have := ev_split (encL_byte hb) (show (encL l).length < 140737488355328 by omega)
  rw [splitGo_enc hr _ [] (by omega) (by simp; omega)] at this
  simpa using this
end Go.Proofs.Ytijccobeljoikaa.Pure
