/- What the printed helpers of the net's laws come to: plain lemmas, no program. -/
import Derived.Test.YtijccobeljoikaaNtx4
import Derived.Test.YtijccobeljoikaaPlain
namespace Go.Proofs.Ytijccobeljoikaa.Nt
open Go.RowKit Go.Proofs.YtijccobeljoikaaW.PrintWords Go.Proofs.YtijccobeljoikaaW.PrintLast
set_option linter.unusedVariables false
set_option linter.unusedSimpArgs false

theorem w64 {x : Int} (h0 : -9223372036854775808 ≤ x) (h1 : x ≤ 9223372036854775807) : wrap64 x = x := by unfold wrap64; omega
theorem ev_const {α : Type} (r : α) : Ev (fun _ : Nat => some r) r := ⟨0, fun _ _ => rfl⟩
theorem ev_of {α : Type} {g : Nat → Option α} {r : α} (h : ∀ k, g k = some r) : Ev g r := ⟨0, fun k _ => h k⟩
theorem ev_succ {α : Type} {g : Nat → Option α} {r : α} (h : Ev (fun k => g (k + 1)) r) : Ev g r := by
  obtain ⟨K, h⟩ := h
  refine ⟨K + 1, fun k hk => ?_⟩
  obtain ⟨m, rfl⟩ : ∃ m, k = m + 1 := ⟨k - 1, by omega⟩
  exact h m (by omega)

theorem rd_at {l : List Int} {i : Nat} (h : i < l.length) : rd l (i : Int) = l[i] := by simp [rd, List.getD_eq_getElem?_getD, h]
theorem rdL3_at {l : List (List Int)} {i : Nat} (h : i < l.length) : rd_L3 l (i : Int) = l[i] := by simp [rd_L3, List.getD_eq_getElem?_getD, h]
theorem rd74_at {l : List S74} {i : Nat} (h : i < l.length) : rd_T74 l (i : Int) = l[i] := by simp [rd_T74, List.getD_eq_getElem?_getD, h]
theorem rd63_at {l : List S63} {i : Nat} (h : i < l.length) : rd_T63 l (i : Int) = l[i] := by simp [rd_T63, List.getD_eq_getElem?_getD, h]

/-- Mails no longer than memory allows. -/
def Mem (m : S74) : Prop := m.f1.f2.length ≤ 140737488351232 ∧ m.f1.f3.length * 24 ≤ 140737488351232 ∧ ∀ r ∈ m.f1.f3, r.length ≤ 140737488351232
def Mems (ms : List S74) : Prop := ms.length * 88 ≤ 140737488351232 ∧ ∀ m ∈ ms, Mem m

theorem copyBytes_eq {l : List Int} (h : l.length < 140737488355328) : stanchionref00_CopyBytes.f l = some l := by
  unfold stanchionref00_CopyBytes.f
  simp [h]
theorem ev_copyRows_l0 (l : List (List Int)) (hl : l.length < 5864062014805) (hr : ∀ r ∈ l, r.length < 140737488355328) (n : Nat) : ∀ i : Nat, i + n = l.length → Ev (fun k => stanchionref00_CopyRows.l0 k l (l.take i) (i : Int)) l := by
  induction n with
  | zero =>
    intro i hi
    refine ev_succ (ev_of fun k => ?_)
    simp only [stanchionref00_CopyRows.l0]
    rw [if_neg (by omega), List.take_of_length_le (by omega)]
  | succ n ih =>
    intro i hi
    have hil : i < l.length := by omega
    refine ev_succ (Ev.congr (fun k => ?_) (ih (i + 1) (by omega)))
    simp only [stanchionref00_CopyRows.l0]
    rw [if_pos (by omega), if_pos (by omega), rdL3_at hil, copyBytes_eq (hr _ (List.getElem_mem hil)), Option.bind_some, if_pos (by rw [List.length_take]; omega), w64 (by omega) (by omega), List.take_append_getElem hil]
    rfl
theorem ev_copyRows (l : List (List Int)) (hl : l.length < 5864062014805) (hr : ∀ r ∈ l, r.length < 140737488355328) : Ev (fun k => stanchionref00_CopyRows.f k l) l := by
  have := ev_copyRows_l0 l hl hr l.length 0 (by omega)
  simpa [stanchionref00_CopyRows.f] using this
theorem mail_eta (m : S74) : (⟨(⟨m.f0.f0, m.f0.f1⟩ : S70), (⟨(⟨m.f1.f0.f0, m.f1.f0.f1⟩ : S70), m.f1.f1, m.f1.f2, m.f1.f3⟩ : S72)⟩ : S74) = m := rfl
theorem ev_copyLetter {m : S74} (h : Mem m) : Ev (fun k => stanchionref00_CopyLetter.f k m.f1.f0.f0 m.f1.f0.f1 m.f1.f1 m.f1.f2 m.f1.f3) (m.f1.f0.f0, m.f1.f0.f1, m.f1.f1, m.f1.f2, m.f1.f3) := by
  obtain ⟨h1, h2, h3⟩ := h
  unfold stanchionref00_CopyLetter.f
  rw [copyBytes_eq (by omega)]
  simp only [Option.bind_some]
  exact Ev.bind (ev_copyRows _ (by omega) (fun r hr => by have := h3 r hr; omega)) (ev_const _)
theorem ev_copyMails_l0 (l : List S74) (h : Mems l) (n : Nat) : ∀ i : Nat, i + n = l.length → Ev (fun k => stanchionref00_CopyMails.l0 k l (l.take i) (i : Int)) l := by
  obtain ⟨hl, hm⟩ := h
  induction n with
  | zero =>
    intro i hi
    refine ev_succ (ev_of fun k => ?_)
    simp only [stanchionref00_CopyMails.l0]
    rw [if_neg (by omega), List.take_of_length_le (by omega)]
  | succ n ih =>
    intro i hi
    have hil : i < l.length := by omega
    obtain ⟨K1, h1⟩ := ev_copyLetter (hm _ (List.getElem_mem hil))
    obtain ⟨K2, h2⟩ := ih (i + 1) (by omega)
    refine ev_succ ⟨max K1 K2, fun k hk => ?_⟩
    simp only [stanchionref00_CopyMails.l0]
    rw [if_pos (by omega), if_pos (by omega), rd74_at hil, show stanchionref00_CopyLetter.f k l[i].f1.f0.f0 l[i].f1.f0.f1 l[i].f1.f1 l[i].f1.f2 l[i].f1.f3 = _ from h1 k (by omega), Option.bind_some, if_pos (by rw [List.length_take]; omega), w64 (by omega) (by omega)]
    have := h2 k (by omega)
    rw [← List.take_append_getElem hil] at this
    exact this
theorem ev_copyMails {l : List S74} (h : Mems l) : Ev (fun k => stanchionref00_CopyMails.f k l) l := by
  have := ev_copyMails_l0 l h l.length 0 (by omega)
  simpa [stanchionref00_CopyMails.f] using this

theorem ev_sameBytes_l0 (a : List Int) (hn : a.length < 4611686018427387904) (n : Nat) : ∀ i : Nat, i + n = a.length → Ev (fun k => stanchionref00_SameBytes.l0 k a a (i : Int)) true := by
  induction n with
  | zero =>
    intro i hi
    refine ev_succ (ev_of fun k => ?_)
    simp only [stanchionref00_SameBytes.l0]
    rw [if_neg (by omega)]
  | succ n ih =>
    intro i hi
    obtain ⟨K2, h2⟩ := ih (i + 1) (by omega)
    refine ev_succ ⟨K2, fun k hk => ?_⟩
    simp only [stanchionref00_SameBytes.l0]
    rw [if_pos (by omega), if_pos (by omega), if_pos (by omega), if_pos trivial, w64 (by omega) (by omega)]
    exact h2 k hk
theorem ev_sameBytes {a : List Int} (hn : a.length < 4611686018427387904) : Ev (fun k => stanchionref00_SameBytes.f k a a) true := by
  have := ev_sameBytes_l0 a hn a.length 0 (by omega)
  simpa [stanchionref00_SameBytes.f] using this
theorem ev_sameRows_l0 (a : List (List Int)) (hn : a.length < 4611686018427387904) (hr : ∀ r ∈ a, r.length < 4611686018427387904) (n : Nat) : ∀ i : Nat, i + n = a.length → Ev (fun k => stanchionref00_SameRows.l0 k a a (i : Int)) true := by
  induction n with
  | zero =>
    intro i hi
    refine ev_succ (ev_of fun k => ?_)
    simp only [stanchionref00_SameRows.l0]
    rw [if_neg (by omega)]
  | succ n ih =>
    intro i hi
    have hil : i < a.length := by omega
    obtain ⟨K1, h1⟩ := ev_sameBytes (hr _ (List.getElem_mem hil))
    obtain ⟨K2, h2⟩ := ih (i + 1) (by omega)
    refine ev_succ ⟨max K1 K2, fun k hk => ?_⟩
    simp only [stanchionref00_SameRows.l0]
    rw [if_pos (by omega), if_pos (by omega), if_pos (by omega), rdL3_at hil, show stanchionref00_SameBytes.f k a[i] a[i] = _ from h1 k (by omega), Option.bind_some, if_pos rfl, w64 (by omega) (by omega)]
    exact h2 k (by omega)
theorem ev_sameRows {a : List (List Int)} (hn : a.length < 4611686018427387904) (hr : ∀ r ∈ a, r.length < 4611686018427387904) : Ev (fun k => stanchionref00_SameRows.f k a a) true := by
  have := ev_sameRows_l0 a hn hr a.length 0 (by omega)
  simpa [stanchionref00_SameRows.f] using this

theorem ev_weight_l0 (a b c : Int) (body : List Int) (tags : List (List Int)) (hl : tags.length < 4611686018427387904) (n : Nat) : ∀ (i : Nat) (x : Int), i + n = tags.length → ∃ r, Ev (fun k => stanchionref00_Weight.l0 k x (i : Int) a b c body tags) r := by
  induction n with
  | zero =>
    intro i x hi
    refine ⟨x, ev_succ (ev_of fun k => ?_)⟩
    simp only [stanchionref00_Weight.l0]
    rw [if_neg (by omega)]
  | succ n ih =>
    intro i x hi
    obtain ⟨r, K2, h2⟩ := ih (i + 1) (wrap64 (x + (wrap64 (1 + ((rd_L3 tags i).length : Int))))) (by omega)
    refine ⟨r, ev_succ ⟨K2, fun k hk => ?_⟩⟩
    simp only [stanchionref00_Weight.l0]
    rw [if_pos (by omega), if_pos (by omega), w64 (x := (i : Int) + 1) (by omega) (by omega)]
    exact h2 k hk
theorem ev_weight (a b c : Int) (body : List Int) (tags : List (List Int)) (hl : tags.length < 4611686018427387904) : ∃ r, Ev (fun k => stanchionref00_Weight.f k a b c body tags) r :=
  ev_weight_l0 a b c body tags hl tags.length 0 _ (by omega)

theorem ev_great_l1 (l : List S63) (hl : l.length < 4611686018427387904) (i : Nat) (hi : i < l.length) (hm : l[i].f2.length < 4611686018427387904) (ht : ∀ m ∈ l[i].f2, m.f1.f3.length < 4611686018427387904)
    (hr : ∀ x : Int, ∃ r, Ev (fun k => stanchionlaw21_great.l0 k l x ((i + 1 : Nat) : Int)) r) (n : Nat) : ∀ (j : Nat) (x : Int), j + n = l[i].f2.length → ∃ r, Ev (fun k => stanchionlaw21_great.l1 k l x (i : Int) (j : Int)) r := by
  have out : ∀ (j : Nat) (x : Int), (¬ (j : Int) < ((l[i].f2).length : Int) ∨ ¬ x < 10000) → ∃ r, Ev (fun k => stanchionlaw21_great.l1 k l x (i : Int) (j : Int)) r := by
    intro j x hx
    obtain ⟨r, K2, h2⟩ := hr x
    refine ⟨r, ev_succ ⟨K2, fun k hk => ?_⟩⟩
    simp only [stanchionlaw21_great.l1]
    rw [if_pos (by omega), if_pos (by omega), rd63_at hi, w64 (x := (i : Int) + 1) (by omega) (by omega)]
    by_cases c : (j : Int) < ((l[i].f2).length : Int)
    · rw [if_pos c, if_neg (by omega)]; exact h2 k hk
    · rw [if_neg c]; exact h2 k hk
  induction n with
  | zero => intro j x hj; exact out j x (.inl (by omega))
  | succ n ih =>
    intro j x hj
    by_cases c : x < 10000
    · have hjl : j < l[i].f2.length := by omega
      obtain ⟨q, K1, h1⟩ := ev_weight l[i].f2[j].f1.f0.f0 l[i].f2[j].f1.f0.f1 l[i].f2[j].f1.f1 l[i].f2[j].f1.f2 l[i].f2[j].f1.f3 (ht _ (List.getElem_mem hjl))
      obtain ⟨r, K2, h2⟩ := ih (j + 1) (wrap64 (x + q)) (by omega)
      refine ⟨r, ev_succ ⟨max K1 K2, fun k hk => ?_⟩⟩
      simp only [stanchionlaw21_great.l1]
      rw [if_pos (by omega), if_pos (by omega), rd63_at hi, if_pos (by omega), if_pos c, if_pos (by omega), rd74_at hjl, show stanchionref00_Weight.f k l[i].f2[j].f1.f0.f0 l[i].f2[j].f1.f0.f1 l[i].f2[j].f1.f1 l[i].f2[j].f1.f2 l[i].f2[j].f1.f3 = _ from h1 k (by omega), Option.bind_some, w64 (x := (j : Int) + 1) (by omega) (by omega)]
      exact h2 k (by omega)
    · exact out j x (.inr c)
theorem ev_great_l0 (l : List S63) (hl : l.length < 4611686018427387904) (hm : ∀ o ∈ l, o.f2.length < 4611686018427387904 ∧ ∀ m ∈ o.f2, m.f1.f3.length < 4611686018427387904) (n : Nat) : ∀ (i : Nat) (x : Int), i + n = l.length → ∃ r, Ev (fun k => stanchionlaw21_great.l0 k l x (i : Int)) r := by
  have out : ∀ (i : Nat) (x : Int), (¬ (i : Int) < (l.length : Int) ∨ ¬ x ≤ 100000) → ∃ r, Ev (fun k => stanchionlaw21_great.l0 k l x (i : Int)) r := by
    intro i x hx
    refine ⟨if x > 8000 then true else decide ((l.length : Int) > 60), ev_succ (ev_succ (ev_of fun k => ?_))⟩
    simp only [stanchionlaw21_great.l0, stanchionlaw21_great.j1]
    by_cases c : (i : Int) < (l.length : Int)
    · rw [if_pos c, decide_eq_false (by omega), if_neg (by decide)]
      by_cases d : x > 8000
      · rw [if_pos d, if_pos d]
      · rw [if_neg d, if_neg d]
    · rw [if_neg c, if_neg (by decide)]
      by_cases d : x > 8000
      · rw [if_pos d, if_pos d]
      · rw [if_neg d, if_neg d]
  induction n with
  | zero => intro i x hi; exact out i x (.inl (by omega))
  | succ n ih =>
    intro i x hi
    by_cases c : x ≤ 100000
    · have hil : i < l.length := by omega
      obtain ⟨h1, h2⟩ := hm _ (List.getElem_mem hil)
      obtain ⟨r, K, h⟩ := ev_great_l1 l hl i hil h1 h2 (fun x => ih (i + 1) x (by omega)) l[i].f2.length 0 (wrap64 (x + (wrap64 (1 + ((l[i].f2).length : Int))))) (by omega)
      refine ⟨r, ev_succ (ev_succ ⟨K, fun k hk => ?_⟩)⟩
      simp only [stanchionlaw21_great.l0, stanchionlaw21_great.j1]
      rw [if_pos (by omega), if_pos (decide_eq_true c), if_pos (by omega), if_pos (by omega), rd63_at hil]
      exact h k hk
    · exact out i x (.inr c)
theorem ev_great (l : List S63) (hl : l.length < 4611686018427387904) (hm : ∀ o ∈ l, Mems o.f2) : ∃ r, Ev (fun k => stanchionlaw21_great.f k l) r :=
  ev_great_l0 l hl (fun o ho => by obtain ⟨h1, h2⟩ := hm o ho; exact ⟨by omega, fun m hx => by have := (h2 m hx).2.1; omega⟩) l.length 0 0 (by omega)
theorem Mem.fits {m : S74} (h : Mem m) : m.f1.f2.length < 140737488355328 ∧ m.f1.f3.length * 24 ≤ 140737488355328 ∧ ∀ r ∈ m.f1.f3, r.length < 140737488355328 :=
  ⟨by have := h.1; omega, by have := h.2.1; omega, fun r hr => by have := h.2.2 r hr; omega⟩
end Go.Proofs.Ytijccobeljoikaa.Nt
