/- Plain mathematics: what is written is read again, and what is read was written. -/
import Derived.Test.YtijccobeljoikaaPlainB
namespace Go.Proofs.Ytijccobeljoikaa.Plain

theorem pow7 (i : Nat) (h : i + 1 ≤ 8) : 2 ^ (62 - 7 * i) = 128 * 2 ^ (62 - 7 * (i + 1)) := by
  rw [show 62 - 7 * i = 7 + (62 - 7 * (i + 1)) by omega, Nat.pow_add]
theorem pow7i (i : Nat) : (2 : Int) ^ (7 * (i + 1)) = 128 * 2 ^ (7 * i) := by
  rw [show 7 * (i + 1) = 7 + 7 * i by omega, Int.pow_add]; rfl
theorem enc_byte (n : Nat) : ∀ v : Nat, v < n → Byte (encN v) := by
  induction n with
  | zero => intro v h; omega
  | succ n ih =>
    intro v h c hc
    by_cases s : v < 128
    · rw [encN_small s, List.mem_singleton] at hc; omega
    · rw [encN_big s] at hc
      rcases List.mem_cons.1 hc with rfl | hc
      · omega
      · exact ih (v / 128) (by omega) c hc
theorem encN_byte (v : Nat) : Byte (encN v) := enc_byte (v + 1) v (by omega)

/-- What is written is read again. -/
theorem readGo_enc (m : Nat) : ∀ (n i : Nat) (v : Int) (more : List Int), n < m → i ≤ 8 → n < 2 ^ (62 - 7 * i) → (0 < i → 0 < n) → readGo i v (encN n ++ more) = (v + n * 2 ^ (7 * i), ((i + (encN n).length : Nat) : Int), 0) := by
  induction m with
  | zero => intro n i v more h; omega
  | succ m ih =>
    intro n i v more h hi hn h0
    by_cases s : n < 128
    · rw [encN_small s, List.singleton_append, readGo]
      have h8 : i = 8 → n < 64 := by rintro rfl; simpa using hn
      rw [if_neg (by omega), if_pos (by omega), Int.emod_eq_of_lt (by omega) (by omega)]
      simp
    · have hi8 : i + 1 ≤ 8 := by
        rcases Nat.lt_or_ge i 8 with h | h
        · exact h
        · obtain rfl : i = 8 := by omega
          have : n < 64 := by simpa using hn
          omega
      rw [encN_big s, List.cons_append, readGo, if_neg (by omega), if_neg (by omega)]
      rw [pow7 i hi8] at hn
      rw [ih (n / 128) (i + 1) _ more (by omega) hi8 (by omega) (by omega), pow7i, show ((n % 128 + 128 : Nat) : Int) % 128 = ((n % 128 : Nat) : Int) by omega]
      simp only [List.length_cons, Prod.mk.injEq, and_true]
      refine ⟨?_, by omega⟩
      have e : (n : Int) = ((n % 128 : Nat) : Int) + 128 * ((n / 128 : Nat) : Int) := by omega
      conv => rhs; rw [e]
      rw [Int.add_mul, ← Int.add_assoc, ← Int.mul_assoc, Int.mul_comm ((n / 128 : Nat) : Int) 128]
theorem readGo_enc0 (n : Nat) (more : List Int) (h : n < 4611686018427387904) : readGo 0 0 (encN n ++ more) = ((n : Int), ((encN n).length : Int), 0) := by
  rw [readGo_enc (n + 1) n 0 0 more (by omega) (by omega) (by omega) (by omega)]
  simp

/-- What is read was written. -/
theorem readGo_conv (l : List Int) : ∀ (i : Nat) (v : Int), i ≤ 8 → Byte l → (readGo i v l).2.2 = 0 → ∃ n : Nat, readGo i v l = (v + n * 2 ^ (7 * i), ((i + (encN n).length : Nat) : Int), 0) ∧ n < 2 ^ (62 - 7 * i) ∧ (0 < i → 0 < n) ∧ ∃ more, l = encN n ++ more := by
  induction l with
  | nil => intro i v hi hb h; simp [readGo] at h
  | cons c l ih =>
    intro i v hi hb h
    have hc := hb c List.mem_cons_self
    rw [readGo] at h ⊢
    split
    · rename_i h1; rw [if_pos h1] at h; simp at h
    · rename_i h1
      rw [if_neg h1] at h
      split
      · rename_i h2
        obtain ⟨n, rfl⟩ := Int.eq_ofNat_of_zero_le hc.1
        refine ⟨n, ?_, ?_, by omega, l, by rw [encN_small (by omega)]; rfl⟩
        · rw [encN_small (by omega), Int.emod_eq_of_lt (by omega) (by omega)]; simp
        · rcases Nat.lt_or_ge i 8 with h8 | h8
          · rw [pow7 i h8]
            have : 0 < 2 ^ (62 - 7 * (i + 1)) := Nat.pow_pos (by omega)
            omega
          · obtain rfl : i = 8 := by omega
            simp; omega
      · rename_i h2
        rw [if_neg h2] at h
        have hi8 : i + 1 ≤ 8 := by omega
        obtain ⟨n, hr, hn, hp, more, hm⟩ := ih (i + 1) _ hi8 (fun x hx => hb x (List.mem_cons_of_mem _ hx)) h
        have hp := hp (by omega)
        obtain ⟨d, hd⟩ := Int.eq_ofNat_of_zero_le (show 0 ≤ c - 128 by omega)
        have hc : c = (d : Int) + 128 := by omega
        subst hc
        refine ⟨d + 128 * n, ?_, by rw [pow7 i hi8]; omega, by omega, more, ?_⟩
        · rw [hr, encN_big (v := d + 128 * n) (by omega), show (d + 128 * n) / 128 = n by omega, pow7i, show ((d : Int) + 128) % 128 = (d : Int) by omega]
          simp only [List.length_cons, Prod.mk.injEq, and_true]
          refine ⟨?_, by omega⟩
          rw [show ((d + 128 * n : Nat) : Int) = (d : Int) + 128 * (n : Int) by omega, Int.add_mul, ← Int.add_assoc, ← Int.mul_assoc, Int.mul_comm (n : Int) 128]
        · rw [encN_big (v := d + 128 * n) (by omega), show (d + 128 * n) / 128 = n by omega, hm, show (d + 128 * n) % 128 = d by omega]
          simp

/-- A number that is cut short: error 11. -/
theorem readGo_cut (m : Nat) : ∀ (n i j : Nat) (v : Int), n < m → i ≤ 8 → n < 2 ^ (62 - 7 * i) → j < (encN n).length → readGo i v ((encN n).take j) = (0, 0, 11) := by
  induction m with
  | zero => intro n i j v h; omega
  | succ m ih =>
    intro n i j v h hi hn hj
    cases j with
    | zero => rfl
    | succ j =>
      by_cases s : n < 128
      · rw [encN_small s] at hj; simp at hj
      · have hi8 : i + 1 ≤ 8 := by
          rcases Nat.lt_or_ge i 8 with h | h
          · exact h
          · obtain rfl : i = 8 := by omega
            have : n < 64 := by simpa using hn
            omega
        rw [encN_big s] at hj ⊢
        rw [List.take_succ_cons, readGo, if_neg (by omega), if_neg (by omega)]
        rw [pow7 i hi8] at hn
        exact ih (n / 128) (i + 1) j _ (by omega) hi8 (by omega) (by simpa using hj)

/-- The rows of a list: no longer than the bytes, no more than 1024. -/
theorem splitGo_rows (n : Nat) : ∀ (x : List Int) (acc : List (List Int)) (B : Nat), Byte x → x.length ≤ B → (∀ r ∈ acc, r.length ≤ B) → acc.length ≤ 1024 → (∀ r ∈ (splitGo n acc x).1, r.length ≤ B) ∧ (splitGo n acc x).1.length ≤ 1024 := by
  induction n with
  | zero => intro x acc B hb hx ha hl; exact ⟨ha, hl⟩
  | succ n ih =>
    intro x acc B hb hx ha hl
    rw [splitGo]
    split
    · exact ⟨ha, hl⟩
    split
    · exact ⟨by simp, by simp⟩
    split
    · exact ⟨by simp, by simp⟩
    split
    · exact ⟨by simp, by simp⟩
    split
    · exact ⟨by simp, by simp⟩
    · refine ih _ _ B ((hb.drop _).drop _) (by simp only [List.length_drop]; omega) ?_ (by simp; omega)
      intro r hr
      rcases List.mem_append.1 hr with hr | hr
      · exact ha r hr
      · rw [List.mem_singleton] at hr
        rw [hr, List.length_take, List.length_drop]
        omega
/-- The numbers of a list, behind acc. -/
def intsGo : Nat → List Int → List Int → List Int × Int
  | 0, acc, _ => (acc, 0)
  | k + 1, acc, b => if b.length = 0 then (acc, 0) else if (readGo 0 0 b).2.2 ≠ 0 then ([], (readGo 0 0 b).2.2) else intsGo k (acc ++ [(readGo 0 0 b).1]) (b.drop (readGo 0 0 b).2.1.toNat)
theorem intsGo_len (n : Nat) : ∀ acc x, (intsGo n acc x).1.length ≤ acc.length + n := by
  induction n with
  | zero => intro acc x; simp [intsGo]
  | succ n ih =>
    intro acc x
    rw [intsGo]
    split
    · simp
    split
    · simp
    · have := ih (acc ++ [(readGo 0 0 x).1]) (x.drop (readGo 0 0 x).2.1.toNat)
      simp at this; omega
theorem numsGo_len (l : List Int) : ∀ acc, (numsGo acc l).1.length ≤ acc.length + 9 * l.length := by
  induction l with
  | nil => intro acc; simp [numsGo]
  | cons v l ih =>
    intro acc
    rw [numsGo]
    split
    · simp
    · have := ih (acc ++ encN v.toNat)
      have h9 := encN_len9 v.toNat (by omega)
      simp at this ⊢; omega
end Go.Proofs.Ytijccobeljoikaa.Plain
