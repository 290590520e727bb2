/- Plain mathematics of reading numbers and lists of fields: no program in sight. -/
import Derived.Test.YtijccobeljoikaaPlain
namespace Go.Proofs.Ytijccobeljoikaa.Plain

def Byte (l : List Int) : Prop := ∀ c ∈ l, 0 ≤ c ∧ c ≤ 255
theorem Byte.drop {l : List Int} (h : Byte l) (n : Nat) : Byte (l.drop n) := fun c hc => h c (List.mem_of_mem_drop hc)
theorem Byte.take {l : List Int} (h : Byte l) (n : Nat) : Byte (l.take n) := fun c hc => h c (List.mem_of_mem_take hc)
theorem Byte.append {a b : List Int} (ha : Byte a) (hb : Byte b) : Byte (a ++ b) := fun c hc => (List.mem_append.1 hc).elim (ha c) (hb c)
theorem Byte.nil : Byte [] := fun c hc => by cases hc
instance (l : List Int) : Decidable (Byte l) := inferInstanceAs (Decidable (∀ c ∈ l, _))

/-- What is read: a number that is not negative, out of at least one byte and of no more than there are. -/
theorem readGo_told (l : List Int) : ∀ (i : Nat) (v : Int), 0 ≤ v → Byte l → (readGo i v l).2.2 = 0 → v ≤ (readGo i v l).1 ∧ (i : Int) + 1 ≤ (readGo i v l).2.1 ∧ (readGo i v l).2.1 ≤ i + l.length := by
  induction l with
  | nil => intro i v hv hb h; simp [readGo] at h
  | cons c l ih =>
    intro i v hv hb h
    have hc := hb c List.mem_cons_self
    have hp : (0 : Int) ≤ c % 128 * 2 ^ (7 * i) := Int.mul_nonneg (by omega) (Int.pow_nonneg (by omega))
    rw [readGo] at h ⊢
    split
    · rename_i h1; rw [if_pos h1] at h; simp at h
    · rename_i h1
      rw [if_neg h1] at h
      split
      · simp; omega
      · rename_i h2
        rw [if_neg h2] at h
        have := ih (i + 1) _ (by omega) (fun x hx => hb x (List.mem_cons_of_mem _ hx)) h
        simp only [List.length_cons]
        omega
theorem readGo_err (l : List Int) : ∀ (i : Nat) (v : Int), (readGo i v l).2.2 ≠ 0 → readGo i v l = (0, 0, (readGo i v l).2.2) := by
  induction l with
  | nil => intro i v h; rfl
  | cons c l ih =>
    intro i v h
    rw [readGo] at h ⊢
    split
    · rfl
    · rename_i h1
      rw [if_neg h1] at h
      split
      · rename_i h2; rw [if_pos h2] at h; simp at h
      · rename_i h2
        rw [if_neg h2] at h
        exact ih _ _ h

/-- The fields of a list, behind acc. -/
def splitGo : Nat → List (List Int) → List Int → List (List Int) × Int
  | 0, acc, _ => (acc, 0)
  | k + 1, acc, b => if b.length = 0 then (acc, 0) else if acc.length = 1024 then ([], 13) else
      if (readGo 0 0 b).2.2 ≠ 0 then ([], (readGo 0 0 b).2.2) else if 65536 < (readGo 0 0 b).1 then ([], 13) else
      if ((b.drop (readGo 0 0 b).2.1.toNat).length : Int) < (readGo 0 0 b).1 then ([], 11) else
      splitGo k (acc ++ [(b.drop (readGo 0 0 b).2.1.toNat).take (readGo 0 0 b).1.toNat]) ((b.drop (readGo 0 0 b).2.1.toNat).drop (readGo 0 0 b).1.toNat)

end Go.Proofs.Ytijccobeljoikaa.Plain
