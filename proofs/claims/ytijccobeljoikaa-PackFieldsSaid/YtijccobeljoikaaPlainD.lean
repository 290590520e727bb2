/- Plain mathematics of lists of fields: what is joined is split again, and what is split was joined. -/
import Derived.Test.YtijccobeljoikaaPlainC
namespace Go.Proofs.Ytijccobeljoikaa.Plain

/-- How much a list of fields weighs. -/
def rowsSize : List (List Int) → Nat
  | [] => 0
  | r :: l => 1 + r.length + rowsSize l
theorem rowsSize_mem {l : List (List Int)} {r : List Int} (h : r ∈ l) : r.length + 1 ≤ rowsSize l := by
  induction l with
  | nil => cases h
  | cons x l ih =>
    rcases List.mem_cons.1 h with rfl | h
    · simp [rowsSize]; omega
    · have := ih h; simp [rowsSize]; omega
theorem rowsSize_len (l : List (List Int)) : l.length ≤ rowsSize l := by
  induction l with
  | nil => simp [rowsSize]
  | cons x l ih => simp [rowsSize]; omega
theorem rowsSize_append (a b : List (List Int)) : rowsSize (a ++ b) = rowsSize a + rowsSize b := by
  induction a with
  | nil => simp [rowsSize]
  | cons x l ih => simp [rowsSize, ih]; omega

/-- The bytes of a list of fields. -/
def encL : List (List Int) → List Int
  | [] => []
  | f :: l => encN f.length ++ f ++ encL l
theorem encL_append (a b : List (List Int)) : encL (a ++ b) = encL a ++ encL b := by
  induction a with
  | nil => rfl
  | cons x l ih => simp [encL, ih]
theorem encL_byte {l : List (List Int)} (h : ∀ r ∈ l, Byte r) : Byte (encL l) := by
  induction l with
  | nil => exact Byte.nil
  | cons x l ih => exact ((encN_byte _).append (h x List.mem_cons_self)).append (ih fun r hr => h r (List.mem_cons_of_mem _ hr))
theorem encL_len {l : List (List Int)} (h : ∀ r ∈ l, r.length ≤ 65536) : (encL l).length ≤ 10 * rowsSize l := by
  induction l with
  | nil => simp [encL]
  | cons x l ih =>
    have h1 := h x List.mem_cons_self
    have := ih fun r hr => h r (List.mem_cons_of_mem _ hr)
    have h9 := encN_len9 x.length (by omega)
    simp [encL, rowsSize]; omega
theorem joinGo_ok {l : List (List Int)} (h : ∀ r ∈ l, r.length ≤ 65536) : ∀ acc, joinGo acc l = (acc ++ encL l, 0) := by
  induction l with
  | nil => intro acc; simp [joinGo, encL]
  | cons x l ih =>
    intro acc
    have h1 := h x List.mem_cons_self
    rw [joinGo, if_neg (by omega), ih fun r hr => h r (List.mem_cons_of_mem _ hr)]
    simp [encL]
theorem joinGo_bad {l : List (List Int)} (h : ¬ ∀ r ∈ l, r.length ≤ 65536) : ∀ acc, joinGo acc l = ([], 13) := by
  induction l with
  | nil => exact absurd (by simp) h
  | cons x l ih =>
    intro acc
    rw [joinGo]
    split
    · rfl
    · rename_i h1
      refine ih (fun hh => h fun r hr => ?_) _
      rcases List.mem_cons.1 hr with rfl | hr
      · omega
      · exact hh r hr
theorem splitGo_enc {l : List (List Int)} (h : ∀ r ∈ l, r.length ≤ 65536) : ∀ (n : Nat) (rows : List (List Int)), (encL l).length < n → rows.length + l.length ≤ 1024 → splitGo n rows (encL l) = (rows ++ l, 0) := by
  induction l with
  | nil =>
    intro n rows hn hl
    cases n with
    | zero => omega
    | succ n => simp [splitGo, encL]
  | cons x l ih =>
    intro n rows hn hl
    cases n with
    | zero => omega
    | succ n =>
      have h1 := h x List.mem_cons_self
      have hp := encN_pos x.length
      have hr : readGo 0 0 (encL (x :: l)) = ((x.length : Int), ((encN x.length).length : Int), 0) := by
        rw [encL, List.append_assoc]; exact readGo_enc0 _ _ (by omega)
      have hd : (encL (x :: l)).drop (encN x.length).length = x ++ encL l := by rw [encL, List.append_assoc, List.drop_left]
      have hlen : (encL (x :: l)).length = (encN x.length).length + x.length + (encL l).length := by simp [encL]; omega
      simp only [List.length_cons] at hl
      rw [splitGo, hr]
      simp only [Int.toNat_natCast, hd, List.take_left, List.drop_left]
      rw [if_neg (by omega), if_neg (by omega), if_neg (by simp), if_neg (by omega), if_neg (by simp; omega), ih (fun r hr => h r (List.mem_cons_of_mem _ hr)) n _ (by omega) (by simp; omega)]
      simp
theorem splitGo_conv (n : Nat) : ∀ (x : List Int) (rows : List (List Int)), Byte x → x.length < n → rows.length ≤ 1024 → (splitGo n rows x).2 = 0 → ∃ l, (splitGo n rows x).1 = rows ++ l ∧ x = encL l ∧ (∀ r ∈ l, r.length ≤ 65536) ∧ rows.length + l.length ≤ 1024 := by
  induction n with
  | zero => intro x rows hb h; omega
  | succ n ih =>
    intro x rows hb h hl h0
    rw [splitGo] at h0 ⊢
    split
    · rename_i h1
      exact ⟨[], by simp, by simpa [encL] using h1, by simp, by simpa using hl⟩
    rename_i h1; rw [if_neg h1] at h0
    split
    · rename_i h2; rw [if_pos h2] at h0; simp at h0
    rename_i h2; rw [if_neg h2] at h0
    split
    · rename_i h3; rw [if_pos h3] at h0; exact absurd h0 h3
    rename_i h3; rw [if_neg h3] at h0
    split
    · rename_i h4; rw [if_pos h4] at h0; simp at h0
    rename_i h4; rw [if_neg h4] at h0
    split
    · rename_i h5; rw [if_pos h5] at h0; simp at h0
    rename_i h5; rw [if_neg h5] at h0
    obtain ⟨m, hr, _, _, more, hm⟩ := readGo_conv x 0 0 (by omega) hb (by simpa using h3)
    have e1 : (readGo 0 0 x).1.toNat = m := by rw [hr]; simp
    have e2 : x.drop (readGo 0 0 x).2.1.toNat = more := by rw [hr]; simp; rw [hm, List.drop_left]
    have e3 : (readGo 0 0 x).1 = m := by rw [hr]; simp
    rw [e2] at h5 h0 ⊢
    rw [e1] at h0 ⊢
    rw [e3] at h4 h5
    have hlen : x.length = (encN m).length + more.length := by rw [hm]; simp
    have hp := encN_pos m
    have hbm : Byte more := fun c hc => hb c (by rw [hm]; exact List.mem_append.2 (.inr hc))
    obtain ⟨l, g1, g2, g3, g4⟩ := ih (more.drop m) (rows ++ [more.take m]) (hbm.drop _) (by simp; omega) (by simp; omega) h0
    have ht : (more.take m).length = m := by rw [List.length_take]; omega
    refine ⟨more.take m :: l, by rw [g1]; simp, ?_, ?_, by simp at g4 ⊢; omega⟩
    · rw [encL, ht, ← g2, List.append_assoc, List.take_append_drop]; exact hm
    · intro r hr
      rcases List.mem_cons.1 hr with rfl | hr
      · rw [ht]; omega
      · exact g3 r hr
theorem splitGo_err (n : Nat) : ∀ (x : List Int) (rows : List (List Int)), (splitGo n rows x).2 ≠ 0 → (splitGo n rows x).1 = [] := by
  induction n with
  | zero => intro x rows h; simp [splitGo] at h
  | succ n ih =>
    intro x rows h
    rw [splitGo] at h ⊢
    split
    · rename_i h1; rw [if_pos h1] at h; simp at h
    rename_i h1; rw [if_neg h1] at h
    split
    · rfl
    rename_i h2; rw [if_neg h2] at h
    split
    · rfl
    rename_i h3; rw [if_neg h3] at h
    split
    · rfl
    rename_i h4; rw [if_neg h4] at h
    split
    · rfl
    rename_i h5; rw [if_neg h5] at h
    exact ih _ _ h
end Go.Proofs.Ytijccobeljoikaa.Plain
