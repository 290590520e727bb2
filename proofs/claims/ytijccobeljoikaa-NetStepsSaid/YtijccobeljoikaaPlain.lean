/- Plain mathematics of the varint encoding: no program in sight. -/
import Derived.IntWalk
namespace Go.Proofs.Ytijccobeljoikaa.Plain

/-- The bytes of a number: groups of seven bits, the least first. -/
def encN (v : Nat) : List Int := if v < 128 then [(v : Int)] else ((v % 128 + 128 : Nat) : Int) :: encN (v / 128)
termination_by v
decreasing_by omega

theorem encN_small {v : Nat} (h : v < 128) : encN v = [(v : Int)] := by rw [encN, if_pos h]
theorem encN_big {v : Nat} (h : ¬ v < 128) : encN v = ((v % 128 + 128 : Nat) : Int) :: encN (v / 128) := by rw [encN, if_neg h]

theorem encN_len_le (n : Nat) : ∀ v : Nat, v < 128 ^ (n + 1) → (encN v).length ≤ n + 1 := by
  induction n with
  | zero => intro v h; rw [encN_small (by simpa using h)]; simp
  | succ n ih =>
    intro v h
    by_cases c : v < 128
    · rw [encN_small c]; simp
    · rw [encN_big c]
      have := ih (v / 128) (by rw [Nat.pow_succ] at h; omega)
      simp; omega
theorem encN_len9 (v : Nat) (h : v < 4611686018427387904) : (encN v).length ≤ 9 := encN_len_le 8 v (by omega)
theorem encN_pos (v : Nat) : 1 ≤ (encN v).length := by
  rw [encN]; split <;> simp

/-- Numbers behind one another, behind acc; a number out of range: error 10. -/
def numsGo (acc : List Int) : List Int → List Int × Int
  | [] => (acc, 0)
  | v :: l => if v < 0 ∨ 4611686018427387904 ≤ v then ([], 10) else numsGo (acc ++ encN v.toNat) l

/-- A list of fields behind acc; a field that is too long: error 13. -/
def joinGo (acc : List Int) : List (List Int) → List Int × Int
  | [] => (acc, 0)
  | f :: l => if 65536 < f.length then ([], 13) else joinGo (acc ++ encN f.length ++ f) l

/-- The number at the beginning, read byte by byte from place i on, v so far: the number, how many bytes, the error. -/
def readGo (i : Nat) (v : Int) : List Int → Int × Int × Int
  | [] => (0, 0, 11)
  | c :: l => if (i = 8 ∧ 64 ≤ c) ∨ (c = 0 ∧ 0 < i) then (0, 0, 12) else
    if c < 128 then (v + c % 128 * 2 ^ (7 * i), i + 1, 0) else readGo (i + 1) (v + c % 128 * 2 ^ (7 * i)) l

end Go.Proofs.Ytijccobeljoikaa.Plain
