/- Put together of my texts: Plain, PlainB, PlainC, PlainD, Base, BaseB, BaseC, Num, OrNums, OrJoin, OrRead, Msx0. -/
import Derived.IntWalk
import Derived.Test.YtijccobeljoikaaProg
import Derived.Below
import Derived.Deep.Draws
import Derived.Deep.AppendLies
import Derived.Maps.AppendAt
import Derived.OwnWalk
import Derived.Laws.BytesArg
import Derived.Laws.MakeOwn
import Derived.Laws.OwnMore
import Derived.Deep.OwnRows
import Derived.Tactics
import Derived.Lib.ConvBytes
import Derived.Laws.Slices
import Derived.WalkKit
import Derived.KernelRfl
import Derived.RowKit3
import Derived.Deep.LoopGhost
import Derived.Deep.QuietTactic
import Derived.BigQuiet
import Derived.WideLaws
import Derived.Deep.DeepCutAuto
import Derived.Deep.CutBlock
import Derived.Deep.RegionHeld3
import Derived.Laws.Rows
import Derived.Lib.AppendStr
import Derived.ArgAppend
import Derived.Laws.IdiomCopy
import Derived.OrdersHeld
import Derived.Laws.BitsLemmas
import Derived.RowKit
import Derived.Test.YtijccobeljoikaaWWords
import Derived.Test.YtijccobeljoikaaWLast
import Derived.Test.YtijccobeljoikaaWTab
import Derived.WalkSpells
import Derived.Laws.BitsAllLaws
/- Plain mathematics of the varint encoding: no program in sight. -/
namespace Go.Proofs.Ytijccobeljoikaa.Plain

/-- The bytes of a number: groups of seven bits, the least first. -/
def encN (v : Nat) : List Int := if v < 128 then [(v : Int)] else ((v % 128 + 128 : Nat) : Int) :: encN (v / 128)
termination_by v
decreasing_by omega

theorem encN_small {v : Nat} (h : v < 128) : encN v = [(v : Int)] := by rw [encN, if_pos h]
theorem encN_big {v : Nat} (h : ¬ v < 128) : encN v = ((v % 128 + 128 : Nat) : Int) :: encN (v / 128) := by rw [encN, if_neg h]

theorem encN_len_le (n : Nat) : ∀ v : Nat, v < 128 ^ (n + 1) → (encN v).length ≤ n + 1 := by
  induction n with
  | zero => intro v h; rw [encN_small (by simpa using h)]; simp
  | succ n ih =>
    intro v h
    by_cases c : v < 128
    · rw [encN_small c]; simp
    · rw [encN_big c]
      have := ih (v / 128) (by rw [Nat.pow_succ] at h; omega)
      simp; omega
theorem encN_len9 (v : Nat) (h : v < 4611686018427387904) : (encN v).length ≤ 9 := encN_len_le 8 v (by omega)
theorem encN_pos (v : Nat) : 1 ≤ (encN v).length := by
  rw [encN]; split <;> simp

/-- Numbers behind one another, behind acc; a number out of range: error 10. -/
def numsGo (acc : List Int) : List Int → List Int × Int
  | [] => (acc, 0)
  | v :: l => if v < 0 ∨ 4611686018427387904 ≤ v then ([], 10) else numsGo (acc ++ encN v.toNat) l

/-- A list of fields behind acc; a field that is too long: error 13. -/
def joinGo (acc : List Int) : List (List Int) → List Int × Int
  | [] => (acc, 0)
  | f :: l => if 65536 < f.length then ([], 13) else joinGo (acc ++ encN f.length ++ f) l

/-- The number at the beginning, read byte by byte from place i on, v so far: the number, how many bytes, the error. -/
def readGo (i : Nat) (v : Int) : List Int → Int × Int × Int
  | [] => (0, 0, 11)
  | c :: l => if (i = 8 ∧ 64 ≤ c) ∨ (c = 0 ∧ 0 < i) then (0, 0, 12) else
    if c < 128 then (v + c % 128 * 2 ^ (7 * i), i + 1, 0) else readGo (i + 1) (v + c % 128 * 2 ^ (7 * i)) l

end Go.Proofs.Ytijccobeljoikaa.Plain

/- Plain mathematics of reading numbers and lists of fields: no program in sight. -/
namespace Go.Proofs.Ytijccobeljoikaa.Plain

def Byte (l : List Int) : Prop := ∀ c ∈ l, 0 ≤ c ∧ c ≤ 255
theorem Byte.drop {l : List Int} (h : Byte l) (n : Nat) : Byte (l.drop n) := fun c hc => h c (List.mem_of_mem_drop hc)
theorem Byte.take {l : List Int} (h : Byte l) (n : Nat) : Byte (l.take n) := fun c hc => h c (List.mem_of_mem_take hc)
theorem Byte.append {a b : List Int} (ha : Byte a) (hb : Byte b) : Byte (a ++ b) := fun c hc => (List.mem_append.1 hc).elim (ha c) (hb c)
theorem Byte.nil : Byte [] := fun c hc => by cases hc
instance (l : List Int) : Decidable (Byte l) := inferInstanceAs (Decidable (∀ c ∈ l, _))

/-- What is read: a number that is not negative, out of at least one byte and of no more than there are. -/
theorem readGo_told (l : List Int) : ∀ (i : Nat) (v : Int), 0 ≤ v → Byte l → (readGo i v l).2.2 = 0 → v ≤ (readGo i v l).1 ∧ (i : Int) + 1 ≤ (readGo i v l).2.1 ∧ (readGo i v l).2.1 ≤ i + l.length := by
  induction l with
  | nil => intro i v hv hb h; simp [readGo] at h
  | cons c l ih =>
    intro i v hv hb h
    have hc := hb c List.mem_cons_self
    have hp : (0 : Int) ≤ c % 128 * 2 ^ (7 * i) := Int.mul_nonneg (by omega) (Int.pow_nonneg (by omega))
    rw [readGo] at h ⊢
    split
    · rename_i h1; rw [if_pos h1] at h; simp at h
    · rename_i h1
      rw [if_neg h1] at h
      split
      · simp; omega
      · rename_i h2
        rw [if_neg h2] at h
        have := ih (i + 1) _ (by omega) (fun x hx => hb x (List.mem_cons_of_mem _ hx)) h
        simp only [List.length_cons]
        omega
/-- The fields of a list, behind acc. -/
def splitGo : Nat → List (List Int) → List Int → List (List Int) × Int
  | 0, acc, _ => (acc, 0)
  | k + 1, acc, b => if b.length = 0 then (acc, 0) else if acc.length = 1024 then ([], 13) else
      if (readGo 0 0 b).2.2 ≠ 0 then ([], (readGo 0 0 b).2.2) else if 65536 < (readGo 0 0 b).1 then ([], 13) else
      if ((b.drop (readGo 0 0 b).2.1.toNat).length : Int) < (readGo 0 0 b).1 then ([], 11) else
      splitGo k (acc ++ [(b.drop (readGo 0 0 b).2.1.toNat).take (readGo 0 0 b).1.toNat]) ((b.drop (readGo 0 0 b).2.1.toNat).drop (readGo 0 0 b).1.toNat)

end Go.Proofs.Ytijccobeljoikaa.Plain

/- Plain mathematics: what is written is read again, and what is read was written. -/
namespace Go.Proofs.Ytijccobeljoikaa.Plain

theorem pow7 (i : Nat) (h : i + 1 ≤ 8) : 2 ^ (62 - 7 * i) = 128 * 2 ^ (62 - 7 * (i + 1)) := by
  rw [show 62 - 7 * i = 7 + (62 - 7 * (i + 1)) by omega, Nat.pow_add]
theorem pow7i (i : Nat) : (2 : Int) ^ (7 * (i + 1)) = 128 * 2 ^ (7 * i) := by
  rw [show 7 * (i + 1) = 7 + 7 * i by omega, Int.pow_add]; rfl
/-- What is written is read again. -/
theorem readGo_enc (m : Nat) : ∀ (n i : Nat) (v : Int) (more : List Int), n < m → i ≤ 8 → n < 2 ^ (62 - 7 * i) → (0 < i → 0 < n) → readGo i v (encN n ++ more) = (v + n * 2 ^ (7 * i), ((i + (encN n).length : Nat) : Int), 0) := by
  induction m with
  | zero => intro n i v more h; omega
  | succ m ih =>
    intro n i v more h hi hn h0
    by_cases s : n < 128
    · rw [encN_small s, List.singleton_append, readGo]
      have h8 : i = 8 → n < 64 := by rintro rfl; simpa using hn
      rw [if_neg (by omega), if_pos (by omega), Int.emod_eq_of_lt (by omega) (by omega)]
      simp
    · have hi8 : i + 1 ≤ 8 := by
        rcases Nat.lt_or_ge i 8 with h | h
        · exact h
        · obtain rfl : i = 8 := by omega
          have : n < 64 := by simpa using hn
          omega
      rw [encN_big s, List.cons_append, readGo, if_neg (by omega), if_neg (by omega)]
      rw [pow7 i hi8] at hn
      rw [ih (n / 128) (i + 1) _ more (by omega) hi8 (by omega) (by omega), pow7i, show ((n % 128 + 128 : Nat) : Int) % 128 = ((n % 128 : Nat) : Int) by omega]
      simp only [List.length_cons, Prod.mk.injEq, and_true]
      refine ⟨?_, by omega⟩
      have e : (n : Int) = ((n % 128 : Nat) : Int) + 128 * ((n / 128 : Nat) : Int) := by omega
      conv => rhs; rw [e]
      rw [Int.add_mul, ← Int.add_assoc, ← Int.mul_assoc, Int.mul_comm ((n / 128 : Nat) : Int) 128]
theorem readGo_enc0 (n : Nat) (more : List Int) (h : n < 4611686018427387904) : readGo 0 0 (encN n ++ more) = ((n : Int), ((encN n).length : Int), 0) := by
  rw [readGo_enc (n + 1) n 0 0 more (by omega) (by omega) (by omega) (by omega)]
  simp

/-- What is read was written. -/
theorem readGo_conv (l : List Int) : ∀ (i : Nat) (v : Int), i ≤ 8 → Byte l → (readGo i v l).2.2 = 0 → ∃ n : Nat, readGo i v l = (v + n * 2 ^ (7 * i), ((i + (encN n).length : Nat) : Int), 0) ∧ n < 2 ^ (62 - 7 * i) ∧ (0 < i → 0 < n) ∧ ∃ more, l = encN n ++ more := by
  induction l with
  | nil => intro i v hi hb h; simp [readGo] at h
  | cons c l ih =>
    intro i v hi hb h
    have hc := hb c List.mem_cons_self
    rw [readGo] at h ⊢
    split
    · rename_i h1; rw [if_pos h1] at h; simp at h
    · rename_i h1
      rw [if_neg h1] at h
      split
      · rename_i h2
        obtain ⟨n, rfl⟩ := Int.eq_ofNat_of_zero_le hc.1
        refine ⟨n, ?_, ?_, by omega, l, by rw [encN_small (by omega)]; rfl⟩
        · rw [encN_small (by omega), Int.emod_eq_of_lt (by omega) (by omega)]; simp
        · rcases Nat.lt_or_ge i 8 with h8 | h8
          · rw [pow7 i h8]
            have : 0 < 2 ^ (62 - 7 * (i + 1)) := Nat.pow_pos (by omega)
            omega
          · obtain rfl : i = 8 := by omega
            simp; omega
      · rename_i h2
        rw [if_neg h2] at h
        have hi8 : i + 1 ≤ 8 := by omega
        obtain ⟨n, hr, hn, hp, more, hm⟩ := ih (i + 1) _ hi8 (fun x hx => hb x (List.mem_cons_of_mem _ hx)) h
        have hp := hp (by omega)
        obtain ⟨d, hd⟩ := Int.eq_ofNat_of_zero_le (show 0 ≤ c - 128 by omega)
        have hc : c = (d : Int) + 128 := by omega
        subst hc
        refine ⟨d + 128 * n, ?_, by rw [pow7 i hi8]; omega, by omega, more, ?_⟩
        · rw [hr, encN_big (v := d + 128 * n) (by omega), show (d + 128 * n) / 128 = n by omega, pow7i, show ((d : Int) + 128) % 128 = (d : Int) by omega]
          simp only [List.length_cons, Prod.mk.injEq, and_true]
          refine ⟨?_, by omega⟩
          rw [show ((d + 128 * n : Nat) : Int) = (d : Int) + 128 * (n : Int) by omega, Int.add_mul, ← Int.add_assoc, ← Int.mul_assoc, Int.mul_comm (n : Int) 128]
        · rw [encN_big (v := d + 128 * n) (by omega), show (d + 128 * n) / 128 = n by omega, hm, show (d + 128 * n) % 128 = d by omega]
          simp

/-- The numbers of a list, behind acc. -/
def intsGo : Nat → List Int → List Int → List Int × Int
  | 0, acc, _ => (acc, 0)
  | k + 1, acc, b => if b.length = 0 then (acc, 0) else if (readGo 0 0 b).2.2 ≠ 0 then ([], (readGo 0 0 b).2.2) else intsGo k (acc ++ [(readGo 0 0 b).1]) (b.drop (readGo 0 0 b).2.1.toNat)
end Go.Proofs.Ytijccobeljoikaa.Plain

/- Plain mathematics of lists of fields: what is joined is split again, and what is split was joined. -/
namespace Go.Proofs.Ytijccobeljoikaa.Plain

/-- How much a list of fields weighs. -/
def rowsSize : List (List Int) → Nat
  | [] => 0
  | r :: l => 1 + r.length + rowsSize l
/-- The bytes of a list of fields. -/
def encL : List (List Int) → List Int
  | [] => []
  | f :: l => encN f.length ++ f ++ encL l
theorem encL_len {l : List (List Int)} (h : ∀ r ∈ l, r.length ≤ 65536) : (encL l).length ≤ 10 * rowsSize l := by
  induction l with
  | nil => simp [encL]
  | cons x l ih =>
    have h1 := h x List.mem_cons_self
    have := ih fun r hr => h r (List.mem_cons_of_mem _ hr)
    have h9 := encN_len9 x.length (by omega)
    simp [encL, rowsSize]; omega
theorem joinGo_ok {l : List (List Int)} (h : ∀ r ∈ l, r.length ≤ 65536) : ∀ acc, joinGo acc l = (acc ++ encL l, 0) := by
  induction l with
  | nil => intro acc; simp [joinGo, encL]
  | cons x l ih =>
    intro acc
    have h1 := h x List.mem_cons_self
    rw [joinGo, if_neg (by omega), ih fun r hr => h r (List.mem_cons_of_mem _ hr)]
    simp [encL]
theorem joinGo_bad {l : List (List Int)} (h : ¬ ∀ r ∈ l, r.length ≤ 65536) : ∀ acc, joinGo acc l = ([], 13) := by
  induction l with
  | nil => exact absurd (by simp) h
  | cons x l ih =>
    intro acc
    rw [joinGo]
    split
    · rfl
    · rename_i h1
      refine ih (fun hh => h fun r hr => ?_) _
      rcases List.mem_cons.1 hr with rfl | hr
      · omega
      · exact hh r hr
theorem splitGo_enc {l : List (List Int)} (h : ∀ r ∈ l, r.length ≤ 65536) : ∀ (n : Nat) (rows : List (List Int)), (encL l).length < n → rows.length + l.length ≤ 1024 → splitGo n rows (encL l) = (rows ++ l, 0) := by
  induction l with
  | nil =>
    intro n rows hn hl
    cases n with
    | zero => omega
    | succ n => simp [splitGo, encL]
  | cons x l ih =>
    intro n rows hn hl
    cases n with
    | zero => omega
    | succ n =>
      have h1 := h x List.mem_cons_self
      have hp := encN_pos x.length
      have hr : readGo 0 0 (encL (x :: l)) = ((x.length : Int), ((encN x.length).length : Int), 0) := by
        rw [encL, List.append_assoc]; exact readGo_enc0 _ _ (by omega)
      have hd : (encL (x :: l)).drop (encN x.length).length = x ++ encL l := by rw [encL, List.append_assoc, List.drop_left]
      have hlen : (encL (x :: l)).length = (encN x.length).length + x.length + (encL l).length := by simp [encL]; omega
      simp only [List.length_cons] at hl
      rw [splitGo, hr]
      simp only [Int.toNat_natCast, hd, List.take_left, List.drop_left]
      rw [if_neg (by omega), if_neg (by omega), if_neg (by simp), if_neg (by omega), if_neg (by simp; omega), ih (fun r hr => h r (List.mem_cons_of_mem _ hr)) n _ (by omega) (by simp; omega)]
      simp
theorem splitGo_conv (n : Nat) : ∀ (x : List Int) (rows : List (List Int)), Byte x → x.length < n → rows.length ≤ 1024 → (splitGo n rows x).2 = 0 → ∃ l, (splitGo n rows x).1 = rows ++ l ∧ x = encL l ∧ (∀ r ∈ l, r.length ≤ 65536) ∧ rows.length + l.length ≤ 1024 := by
  induction n with
  | zero => intro x rows hb h; omega
  | succ n ih =>
    intro x rows hb h hl h0
    rw [splitGo] at h0 ⊢
    split
    · rename_i h1
      exact ⟨[], by simp, by simpa [encL] using h1, by simp, by simpa using hl⟩
    rename_i h1; rw [if_neg h1] at h0
    split
    · rename_i h2; rw [if_pos h2] at h0; simp at h0
    rename_i h2; rw [if_neg h2] at h0
    split
    · rename_i h3; rw [if_pos h3] at h0; exact absurd h0 h3
    rename_i h3; rw [if_neg h3] at h0
    split
    · rename_i h4; rw [if_pos h4] at h0; simp at h0
    rename_i h4; rw [if_neg h4] at h0
    split
    · rename_i h5; rw [if_pos h5] at h0; simp at h0
    rename_i h5; rw [if_neg h5] at h0
    obtain ⟨m, hr, _, _, more, hm⟩ := readGo_conv x 0 0 (by omega) hb (by simpa using h3)
    have e1 : (readGo 0 0 x).1.toNat = m := by rw [hr]; simp
    have e2 : x.drop (readGo 0 0 x).2.1.toNat = more := by rw [hr]; simp; rw [hm, List.drop_left]
    have e3 : (readGo 0 0 x).1 = m := by rw [hr]; simp
    rw [e2] at h5 h0 ⊢
    rw [e1] at h0 ⊢
    rw [e3] at h4 h5
    have hlen : x.length = (encN m).length + more.length := by rw [hm]; simp
    have hp := encN_pos m
    have hbm : Byte more := fun c hc => hb c (by rw [hm]; exact List.mem_append.2 (.inr hc))
    obtain ⟨l, g1, g2, g3, g4⟩ := ih (more.drop m) (rows ++ [more.take m]) (hbm.drop _) (by simp; omega) (by simp; omega) h0
    have ht : (more.take m).length = m := by rw [List.length_take]; omega
    refine ⟨more.take m :: l, by rw [g1]; simp, ?_, ?_, by simp at g4 ⊢; omega⟩
    · rw [encL, ht, ← g2, List.append_assoc, List.take_append_drop]; exact hm
    · intro r hr
      rcases List.mem_cons.1 hr with rfl | hr
      · rw [ht]; omega
      · exact g3 r hr
end Go.Proofs.Ytijccobeljoikaa.Plain

/- The imports and small facts that my own walks share. -/
namespace Go.Proofs.Ytijccobeljoikaa.Walks
open Go.RowKit Go.Proofs.YtijccobeljoikaaW.PrintWords Go.Proofs.YtijccobeljoikaaW.PrintLast
set_option linter.unusedVariables false
set_option linter.unusedSimpArgs false

theorem info3 : (Try.prog.info? 3).map (fun i => (i.zero, i.size, i.bytes)) = some (some (.int .i64 0), 1, 8) := by kernel_rfl
theorem info5 : (Try.prog.info? 5).map (fun i => (i.zero, i.size, i.bytes)) = some (some (.int .u8 0), 1, 1) := by kernel_rfl
theorem info22 : (Try.prog.info? 22).map (fun i => (i.zero, i.size, i.bytes)) = some (some (.slice none 0 0), 1, 24) := by kernel_rfl

theorem drop_step {α : Type} {l : List α} {k : Nat} (h : k < l.length) : l.drop k = l[k] :: l.drop (k + 1) := List.drop_eq_getElem_cons h

/-- An element of a list of byte lists, read at index k. -/
theorem at_row {e : Nat} {α : Type} {d : Kd α} {w : World} {A : Option Addr} {n : Nat} {xs : List (List α)} (h : Kd.C (Kd.slice e d) w A n xs) (k : Nat) (hk : k < xs.length) :
    ∃ ad A0 c0, A = some ad ∧ w.cell? (ad.add k) = some (.slice A0 xs[k].length c0) ∧ xs[k].length ≤ c0 ∧ d.C w A0 xs[k].length xs[k] := by
  obtain ⟨ad, c, e, _, hK, hc0⟩ := Kd.C_get h ([] : List α) (k : Int) (by omega) (by have := h.1; omega)
  have hg : xs.getD (k : Int).toNat [] = xs[k] := by simp [List.getD_eq_getElem?_getD, hk]
  rw [hg] at hK
  have hc : ∀ j u, c[j]? = some u → w.cell? (ad.add ((k : Int).toNat * 1 + j)) = some u := hc0
  obtain ⟨A0, c0, rfl, l0, g0⟩ := hK
  exact ⟨ad, A0, c0, e, by have hq := hc 0 _ rfl; rwa [Nat.mul_one, Nat.add_zero, Int.toNat_natCast] at hq, l0, g0⟩
/-- An element of a list of numbers, read at index k. -/
theorem at_num {i : IntKind} {w : World} {A : Option Addr} {n : Nat} {xs : List Int} (h : Kd.C (Kd.int i) w A n xs) (k : Nat) (hk : k < xs.length) :
    ∃ ad, A = some ad ∧ w.cell? (ad.add k) = some (.int i xs[k]) := by
  obtain ⟨ad, e, hc⟩ := Kd.at_int h (k : Int) (by omega) (by have := h.1; omega)
  refine ⟨ad, e, ?_⟩
  rw [Int.toNat_natCast] at hc
  rw [hc]
  simp [rd, List.getD_eq_getElem?_getD, hk]
theorem R_of_own {w : World} {base n : Nat} {v : Value} {zs : List Int} (h : w.ownsRow base 5 1 v n (nums .u8 zs)) : Kd.R (Kd.int .u8) 5 w base (fun _ => True) v zs := by
  have hl : zs.length = n := by have := h.1; simpa [nums] using this
  subst hl
  exact Kd.R_of_own (enc := Value.int .u8) (h1 := fun _ => rfl) h (fun _ _ => trivial)

/-! ### append(v, ys...) where the two slices' types have different names -/
section
variable {P : Program} {ops : Array Oper} {rest : List Oper} {o : Oper} {a : Act} {Q : Exit → Act → World → Prop}
theorem run_append_types {t t' e e' : TypeId} (ht : P.underlying t = some (.slice e)) (ht' : P.underlying t' = some (.slice e')) (ty : TypeId) (x y : Value) (w : World) :
    (Builtin.append_ #[t, t'] ty #[x, y]).run P w = (Builtin.append_ #[t, t] ty #[x, y]).run P w := by
  cases x <;> simp [Builtin.append_, run_underlying ht, run_underlying ht']
theorem append_row2 {w0 W : World} (base : Nat) (hgd : o.guard = none) (s x : Operand) (t t' e e' : TypeId) (k : IntKind) (bytes : Nat)
    (ho : o.op = .call { callee := .builtin .append, args := #[s, x], argTypes := #[t, t'] })
    (ht : P.underlying t = some (.slice e)) (ht' : P.underlying t' = some (.slice e')) (hinfo : (P.info? e).map (fun i => (i.zero, i.size, i.bytes)) = some (some (.int k 0), 1, bytes)) (hb0 : 0 < bytes)
    (v : Value) (xs ys : List Int) (A : Option Addr) (m c : Nat) (hs : a.eval s = v) (hx : a.eval x = .slice A m c)
    (HO : W.ownsRow base e 1 v xs.length (nums k xs)) (HR : ReadsInt W k A m ys) (HB : Below base w0 W) (hbase : base ≤ W.heap.size) (hl : (xs.length + m) * bytes ≤ 140737488355328)
    (h : ∀ v1 w1, w1.ownsRow base e 1 v1 (xs ++ ys).length (nums k (xs ++ ys)) → Below base w0 w1 → W.grownBy w1 v.ownBlock → (v1.ownBlock = v.ownBlock ∨ ∃ b, v1.ownBlock = some b ∧ W.heap.size ≤ b) → wpList P ops Q rest (a.put o.dst v1) w1) :
    wpList P ops Q (o :: rest) a W := by
  obtain ⟨i0, hi, hzz⟩ := Option.map_eq_some_iff.1 hinfo
  simp only [Prod.mk.injEq] at hzz
  obtain ⟨hz0, hz1, hz2⟩ := hzz
  have hm : ys.length = m := HR.1
  have hlen : xs.length + m ≤ 140737488355328 := Nat.le_trans (Nat.le_mul_of_pos_right _ hb0) hl
  have hrun : ∃ v1 w1, (Builtin.append_ #[t, t'] o.type #[v, .slice A m c]).run P W = .ok v1 w1 ∧ w1.ownsRow base e 1 v1 (xs ++ ys).length (nums k (xs ++ ys)) ∧ W.grownBy w1 v.ownBlock ∧ (v1.ownBlock = v.ownBlock ∨ v1.ownBlock = some W.heap.size) := by
    rw [run_append_types ht ht']
    rcases A with _ | ad
    · have h0 : m = 0 := by
        rcases Nat.eq_zero_or_pos m with h0 | h0
        · exact h0
        · obtain ⟨ad, h, _⟩ := HR.2.2 h0
          cases h
      subst h0
      obtain rfl : ys = [] := List.eq_nil_of_length_eq_zero hm
      refine ⟨v, W, ?_, by simpa using HO, World.grownBy.refl W _, .inl rfl⟩
      rcases HO.2 with ⟨rfl, hn⟩ | ⟨g, cap, cur, rfl, _, _, hnc, _⟩
      · simp [Builtin.append_, run_underlying ht, sizeOf, typeInfo, hi, Builtin.lenOf, Builtin.firstCells]
      · simp [Builtin.append_, run_underlying ht, sizeOf, typeInfo, hi, Builtin.lenOf, Builtin.firstCells, hnc, storeCells]
    · have hcells : ∀ j u, (nums k ys)[j]? = some u → W.cell? (ad.add j) = some u := by
        intro j u hu
        have hj : j < ys.length := by
          rcases Nat.lt_or_ge j ys.length with h | h
          · exact h
          · simp [nums, List.getElem?_eq_none h] at hu
        obtain ⟨ad', h', hc⟩ := HR.2.2 (by omega)
        injection h' with h'
        subst h'
        have := hc j (by omega)
        simp [nums, List.getElem?_eq_getElem hj] at hu
        subst hu
        rw [this]
        simp [List.getD_eq_getElem?_getD, List.getElem?_eq_getElem hj]
      obtain ⟨v1, w1, hr, h2, h3, _, h5⟩ := run_append_own_at (P := P) W base t o.type e i0 (.int k 0) 1 bytes ht hi hz0 hz1 hz2 rfl (by omega) v xs.length (nums k xs) HO ad m c (nums k ys) (by simp [nums, hm]) hcells
        (by intro u hu; simp only [nums, List.mem_map] at hu; obtain ⟨q, _, rfl⟩ := hu; rfl) (by simp only [maxLen]; omega) hl hbase
      exact ⟨v1, w1, hr, by simpa [nums, hm] using h2, h3, h5⟩
  obtain ⟨v1, w1, hr, hown, hg, hat⟩ := hrun
  refine wpList_plain hgd fun K hK => ?_
  unfold Oper.wp execOp
  simp only [ho, resolve, invoke, builtin, Sem.run_bind, Sem.run_pure, Result.andThen_ok, List.map_toArray, List.map_cons, List.map_nil, hs, hx, hr]
  refine hK _ _ (h v1 w1 hown (HB.grown hg hbase (own_base HO)) hg ?_)
  rcases hat with hat | hat
  · exact .inl hat
  · exact .inr ⟨_, hat, Nat.le_refl _⟩
end
end Go.Proofs.Ytijccobeljoikaa.Walks

/- More small facts that my own walks share: blocks that are read as lists. -/
namespace Go.Proofs.Ytijccobeljoikaa.Walks
open Go.RowKit Go.Proofs.YtijccobeljoikaaW.PrintWords Go.Proofs.YtijccobeljoikaaW.PrintLast
set_option linter.unusedVariables false
set_option linter.unusedSimpArgs false
/-- A block that holds the bytes xs is read as them. -/
theorem C_bytes_block {w : World} {g : Nat} {cs : Array Value} {t : TypeId} {fr : Nat × Nat} {xs : List Int} (h : w.heap[g]? = some (.cells cs t fr)) (hn : xs.length ≤ 9223372036854775807)
    (hc : ∀ j : Nat, j < xs.length → cs[j]? = some (Value.int .u8 (xs.getD j 0))) : (Kd.int .u8).C w (some ⟨g, 0, none⟩) xs.length xs :=
  Kd.C_of_reads (d := (0 : Int)) (h1 := fun _ => rfl) ⟨rfl, hn, fun _ => ⟨_, rfl, fun j hj => by rw [add_plain, cell_of_row w g j cs t fr h]; exact hc j hj⟩⟩
/-- A block of slices, each of which is read, is read as the list of these. -/
theorem C_rows_block {w : World} {g : Nat} {cs : Array Value} {t : TypeId} {fr : Nat × Nat} {xs : List (List Int)} (h : w.heap[g]? = some (.cells cs t fr)) (hn : xs.length ≤ 9223372036854775807)
    (hc : ∀ (j : Nat) (p : List Int), xs[j]? = some p → ∃ A c, cs[j]? = some (Value.slice A p.length c) ∧ p.length ≤ c ∧ (Kd.int .u8).C w A p.length p) : Kd.C (Kd.slice 5 (Kd.int .u8)) w (some ⟨g, 0, none⟩) xs.length xs := by
  refine ⟨rfl, hn, fun _ => ⟨_, rfl, fun j p hp => ?_⟩⟩
  obtain ⟨A, c, h1, h2, h3⟩ := hc j p hp
  refine ⟨[Value.slice A p.length c], rfl, ⟨A, c, rfl, h2, h3⟩, fun i u hu => ?_⟩
  have hi : i = 0 := by
    rcases Nat.eq_zero_or_pos i with h0 | h0
    · exact h0
    · rw [List.getElem?_eq_none (by simp; omega)] at hu; cases hu
  subst hi
  simp at hu
  subst hu
  rw [add_plain, show j * (Kd.slice 5 (Kd.int .u8)).sz + 0 = j from by show j * 1 + 0 = j; omega, cell_of_row w g j cs t fr h, h1]
/-- b[m:] of a list of bytes that is read: the list that is left has a name of its own. -/
theorem cut_bytes (A : Option Addr) (c m : Nat) (xs : List Int) (hm : m ≤ xs.length) (hc : xs.length ≤ c) : ∃ (A' : Option Addr) (ys : List Int), ys = xs.drop m ∧ ys.length ≤ c - m ∧
    (∀ W : World, (Instr.slice 22 (.slice A xs.length c) (some (.int .i64 (m : Int))) none none).run Try.prog W = .ok (.slice A' ys.length (c - m)) W) ∧
    ∀ w : World, (Kd.int .u8).C w A xs.length xs → (Kd.int .u8).C w A' ys.length ys := by
  obtain ⟨i, hi, h⟩ := Option.map_eq_some_iff.1 info5
  simp only [Prod.mk.injEq] at h
  obtain ⟨A', h1, h2⟩ := print_cut (P := Try.prog) 22 5 .i64 Try.underlying22 hi h.2.1 A xs.length c m hm
  have hl : (xs.drop m).length = xs.length - m := List.length_drop
  refine ⟨A', xs.drop m, rfl, by omega, fun W => by rw [hl]; exact h1 W, fun w hw => ?_⟩
  rw [hl]
  exact Kd.C_of_reads (d := (0 : Int)) (h1 := fun _ => rfl) (h2 w .u8 xs hc (Kd.reads_of_C (d := (0 : Int)) (h1 := fun _ => rfl) hw))
end Go.Proofs.Ytijccobeljoikaa.Walks

/- More small facts that my own walks share: cuts. -/
namespace Go.Proofs.Ytijccobeljoikaa.Walks
open Go.RowKit Go.Proofs.YtijccobeljoikaaW.PrintWords Go.Proofs.YtijccobeljoikaaW.PrintLast
set_option linter.unusedVariables false
set_option linter.unusedSimpArgs false
/-- b[:m] of a list of bytes that is read. -/
theorem take_bytes (A : Option Addr) (c m : Nat) (xs : List Int) (hm : m ≤ xs.length) (hc : xs.length ≤ c) : ∃ (ys : List Int), ys = xs.take m ∧ ys.length ≤ c ∧
    (∀ W : World, (Instr.slice 22 (.slice A xs.length c) none (some (.int .i64 (m : Int))) none).run Try.prog W = .ok (.slice A ys.length c) W) ∧
    ∀ w : World, (Kd.int .u8).C w A xs.length xs → (Kd.int .u8).C w A ys.length ys := by
  obtain ⟨i, hi, h⟩ := Option.map_eq_some_iff.1 info5
  simp only [Prod.mk.injEq] at h
  obtain ⟨h1, h2, h3⟩ := print_take_int (P := Try.prog) (k := .u8) 22 5 Try.underlying22 hi h.2.1 A c xs (m : Int) (by omega) (by omega) hc
  rw [Int.toNat_natCast] at h1 h2 h3
  exact ⟨xs.take m, rfl, h3, h1, fun w hw => Kd.C_of_reads (d := (0 : Int)) (h1 := fun _ => rfl) (h2 w (Kd.reads_of_C (d := (0 : Int)) (h1 := fun _ => rfl) hw))⟩
/-- How many elements a slice value has. -/
def lenOfV : Value → Nat | .slice _ n _ => n | _ => 0
end Go.Proofs.Ytijccobeljoikaa.Walks

/- The walk of pack's (*out).num: it appends a number's bytes to the list behind the pointer. -/
namespace Go.Proofs.Ytijccobeljoikaa.Walks
open Go.RowKit Go.Proofs.YtijccobeljoikaaW.PrintWords Go.Proofs.YtijccobeljoikaaW.PrintLast
open Go.Proofs.Ytijccobeljoikaa.Plain
set_option linter.unusedVariables false
set_option linter.unusedSimpArgs false

theorem or128F : ∀ a : Fin 256, Go.bits .or .u8 ((a.val : Nat) : Int) 128 = ((a.val % 128 + 128 : Nat) : Int) := by decide +kernel
theorem or128 (x : Nat) : Go.bits .or .u8 ((x : Int) % 256) 128 = ((x % 128 + 128 : Nat) : Int) := by
  have h := or128F ⟨x % 256, Nat.mod_lt _ (by omega)⟩
  simp only at h
  rw [show ((x : Int) % 256) = ((x % 256 : Nat) : Int) by omega, h]
  congr 2
  omega

/-- Behind the append: the new bytes' row, and the variable that holds it. -/
theorem stored_outs {w wr w2 : World} {base b n : Nat} {v1 v2 : Value} {ys zs : List Int} (hbase : base ≤ b) (hb : wr.heap[b]? = some (.cells #[v1] 115 (0, 0)))
    (hown : w2.ownsRow base 5 1 v2 n (nums .u8 zs)) (hB : Below base w w2) (hg : wr.grownBy w2 v1.ownBlock) (ho : wr.ownsRow base 5 1 v1 ys.length (nums .u8 ys)) :
    w2.heap[b]? = some (.cells #[v1] 115 (0, 0)) ∧ (w2.setCell ⟨b, 0, none⟩ v2).heap[b]? = some (.cells #[v2] 115 (0, 0)) ∧ (w2.setCell ⟨b, 0, none⟩ v2).ownsRow base 5 1 v2 n (nums .u8 zs) ∧ Below base w (w2.setCell ⟨b, 0, none⟩ v2) := by
  have h2 : w2.heap[b]? = some (.cells #[v1] 115 (0, 0)) := blk_grown hb hg (own_ne ho hb (by decide))
  exact ⟨h2, by simpa using blk_set h2 0 v2, own_setCell hown (own_ne hown h2 (by decide)) v2, hB.setCell hbase v2⟩
theorem stored_out {w wr w2 : World} {base b : Nat} {v1 v2 : Value} {ys : List Int} {y : Int} (hbase : base ≤ b) (hb : wr.heap[b]? = some (.cells #[v1] 115 (0, 0)))
    (hown : w2.ownsRow base 5 1 v2 (ys ++ [y]).length (nums .u8 (ys ++ [y]))) (hB : Below base w w2) (hg : wr.grownBy w2 v1.ownBlock) (ho : wr.ownsRow base 5 1 v1 ys.length (nums .u8 ys)) :
    w2.heap[b]? = some (.cells #[v1] 115 (0, 0)) ∧ (w2.setCell ⟨b, 0, none⟩ v2).heap[b]? = some (.cells #[v2] 115 (0, 0)) ∧ (w2.setCell ⟨b, 0, none⟩ v2).ownsRow base 5 1 v2 (ys ++ [y]).length (nums .u8 (ys ++ [y])) ∧ Below base w (w2.setCell ⟨b, 0, none⟩ v2) := by
  have h2 : w2.heap[b]? = some (.cells #[v1] 115 (0, 0)) := blk_grown hb hg (own_ne ho hb (by decide))
  exact ⟨h2, by simpa using blk_set h2 0 v2, own_setCell hown (own_ne hown h2 (by decide)) v2, hB.setCell hbase v2⟩

/-- What num leaves: the variable at block b holds a row of the bytes zs. -/
def OutIs (base b : Nat) (zs : List Int) (w w' : World) : Prop := ∃ v1, w'.heap[b]? = some (.cells #[v1] 115 (0, 0)) ∧ w'.ownsRow base 5 1 v1 zs.length (nums .u8 zs) ∧ Below base w w'

set_option maxHeartbeats 1000000 in
set_option maxRecDepth 100000 in
theorem num_calls (b : Nat) (v : Int) (h0 : 0 ≤ v) (h1 : v < 4611686018427387904) (vv : Value) (xs : List Int) (w : World) (base : Nat)
    (hb : w.heap[b]? = some (.cells #[vv] 115 (0, 0))) (hbase : base ≤ b) (HO : w.ownsRow base 5 1 vv xs.length (nums .u8 xs)) (hl : xs.length + 20 < 140737488355328) :
    Calls Try.prog 83 #[.pointer (some ⟨b, 0, none⟩), .int .i64 v] w fun e w' => e = .returned (.tuple #[]) ∧ OutIs base b (xs ++ encN v.toNat) w w' := by
  have HB := Aside0.mk hb
  have HW := Aside0.mk HO
  have Hlen : Aside0 ((xs ++ encN v.toNat).length ≤ xs.length + 9) := ⟨by have := encN_len9 v.toNat (by omega); simp; omega⟩
  clear hb HO
  go_enter Try.func83, Try.ntmps83
  go_wp2_with fail
  go_loopw [1] (fun u wr => ∃ (x : Int) (ys : List Int) (v1 : Value), u = .int .i64 x ∧ 0 ≤ x ∧ x < 4611686018427387904 ∧ Aside0 (wr.heap[b]? = some (.cells #[v1] 115 (0, 0))) ∧ Aside0 (wr.ownsRow base 5 1 v1 ys.length (nums .u8 ys)) ∧ Aside0 (Below base w wr) ∧ Aside0 (ys ++ encN x.toNat = xs ++ encN v.toNat)) (fun u _ => (intOf u).toNat)
  case atStart => exact ⟨v, xs, vv, rfl, h0, h1, HB, HW, ⟨Below.refl _ _⟩, ⟨rfl⟩⟩
  case round =>
    obtain ⟨x, ys, v1, rfl, hx0, hx1, Hb, Ho, Hbl, He⟩ := hrel
    have hcb : wr.cell? ⟨b, 0, none⟩ = some v1 := (blk_cell Hb.out 0).trans rfl
    have hys : ys.length ≤ xs.length + 9 := by have := Hlen.out; rw [← He.out] at this; simp at this; omega
    have hws : base ≤ wr.heap.size := by have := blk_lt Hb.out; omega
    by_cases c : 128 ≤ x
    · go_wp2_with (at_builtin; refine print_append_num (w0 := w) base rfl (.tmp 11) (.tmp 15) 115 5 .u8 1 rfl Try.underlying115 info5 (by decide) v1 ys _ rfl rfl Ho.out Hbl.out hws (by omega) ?_; intro v2 w2 hown hB hg hat; rw [List.length_append, List.length_singleton] at hown; obtain ⟨A2, c2, e2⟩ := own_slice hown; subst e2; obtain ⟨h2, h3, h4, h5⟩ := stored_out (v2 := .slice A2 (ys.length + 1) c2) (y := bits .or .u8 (x % 256) 128) hbase Hb.out (by rw [List.length_append, List.length_singleton]; exact hown) hB hg Ho.out; have hc2 : w2.cell? ⟨b, 0, none⟩ = some v1 := (blk_cell h2 0).trans rfl; have hf2 : w2.frozen? ⟨b, 0, none⟩ = false := blk_frozen h2 0; replace h3 := Aside0.mk h3; replace h4 := Aside0.mk h4; replace h5 := Aside0.mk h5; clear hown hB hg hat h2)
      go_wp2
      go_roundw
      case measure => simp [intOf]; omega
      case rel =>
        refine ⟨x / 128, _, _, rfl, by omega, by omega, h3, h4, h5, ⟨?_⟩⟩
        rw [← He.out]
        obtain ⟨n, rfl⟩ := Int.eq_ofNat_of_zero_le hx0
        rw [or128, List.append_assoc, Int.toNat_natCast, encN_big (v := n) (by omega), show ((n : Int) / 128).toNat = n / 128 by omega]
        rfl
    · go_wp2_with (at_builtin; refine print_append_num (w0 := w) base rfl (.tmp 21) (.tmp 24) 115 5 .u8 1 rfl Try.underlying115 info5 (by decide) v1 ys _ rfl rfl Ho.out Hbl.out hws (by omega) ?_; intro v2 w2 hown hB hg hat; rw [List.length_append, List.length_singleton] at hown; obtain ⟨A2, c2, e2⟩ := own_slice hown; subst e2; obtain ⟨h2, h3, h4, h5⟩ := stored_out (v2 := .slice A2 (ys.length + 1) c2) (y := x) hbase Hb.out (by rw [List.length_append, List.length_singleton]; exact hown) hB hg Ho.out; have hc2 : w2.cell? ⟨b, 0, none⟩ = some v1 := (blk_cell h2 0).trans rfl; have hf2 : w2.frozen? ⟨b, 0, none⟩ = false := blk_frozen h2 0; replace h3 := Aside0.mk h3; replace h4 := Aside0.mk h4; replace h5 := Aside0.mk h5; clear hown hB hg hat h2)
      go_wp2
      go_end0
      refine ⟨rfl, _, h3.out, ?_, h5.out⟩
      have he : xs ++ encN v.toNat = ys ++ [x] := by
        rw [← He.out]
        obtain ⟨n, rfl⟩ := Int.eq_ofNat_of_zero_le hx0
        rw [Int.toNat_natCast, encN_small (by omega)]
      rw [he]
      exact h4.out
end Go.Proofs.Ytijccobeljoikaa.Walks

/- The contracts of pack.Nums, pack.Join, slices.Clone of bytes. -/
namespace Go.Proofs.Ytijccobeljoikaa.Walks
open Go.RowKit Go.Proofs.YtijccobeljoikaaW.PrintWords Go.Proofs.YtijccobeljoikaaW.PrintLast
open Go.Proofs.Ytijccobeljoikaa.Plain
set_option linter.unusedVariables false
set_option linter.unusedSimpArgs false

theorem out_below {base b : Nat} {zs : List Int} {w w' : World} (h : OutIs base b zs w w') : Below base w w' := by obtain ⟨_, _, _, h⟩ := h; exact h
theorem out_then {base b : Nat} {ys zs : List Int} {w w1 w2 : World} (h : OutIs base b ys w w1) (k : OutIs base b zs w1 w2) : OutIs base b zs w w2 := by
  obtain ⟨v, h1, h2, h3⟩ := k
  exact ⟨v, h1, h2, (out_below h).trans h3⟩
def numsF (l0 : List Int) : Option (List Int × Int) := if l0.length < 15000000000000 then some (numsGo [] l0) else none

set_option maxHeartbeats 1000000 in
set_option maxRecDepth 100000 in
theorem nums_calls (A0 : Option Addr) (c0 : Nat) (l0 : List Int) (r1 : List Int) (r2 : Int) (w : World) (hr0 : Kd.C (Kd.int .i64) w A0 l0.length l0) (hc0 : l0.length ≤ c0) (h : numsF l0 = some (r1, r2)) :
    Calls Try.prog 43 #[.slice A0 l0.length c0] w fun e w' => ∃ v0_ : Value, e = .returned (.tuple #[v0_, .int .i64 r2]) ∧ Kd.R (Kd.int .u8) 5 w' w.heap.size (fun _ => True) v0_ r1 ∧ Below w.heap.size w w' := by
  have HR0 := Aside0.mk hr0
  have hn : l0.length < 15000000000000 := by
    unfold numsF at h; split at h
    · assumption
    · cases h
  have HN : Aside0 (numsGo [] l0 = (r1, r2)) := ⟨by unfold numsF at h; rw [if_pos hn] at h; injection h⟩
  clear hr0 h hc0
  go_enter Try.func43, Try.ntmps43
  go_wp2_with fail
  go_loopw [9] (fun i wr => ∃ (k : Nat) (acc : List Int), i = .int .i64 k ∧ k ≤ l0.length ∧ acc.length ≤ 9 * k ∧ Aside0 (numsGo acc (l0.drop k) = (r1, r2)) ∧ Aside0 (OutIs w.heap.size w.heap.size acc w wr)) (fun i _ => l0.length - (intOf i).toNat)
  case atStart => exact ⟨0, [], rfl, Nat.zero_le _, by simp, HN, ⟨_, blk_new _ _, own_nil _ _ _ _, (Below.refl _ _).alloc (Nat.le_refl _) _⟩⟩
  case round =>
    clear HN
    obtain ⟨k, acc, rfl, hk, hacc, HA, Ho⟩ := hrel
    have HBw := Aside0.mk (out_below Ho.out)
    obtain ⟨vo, hvo⟩ : ∃ vo, wr.heap[w.heap.size]? = some (.cells #[vo] 115 (0, 0)) ∧ wr.ownsRow w.heap.size 5 1 vo acc.length (nums .u8 acc) := by obtain ⟨vo, h1, h2, _⟩ := Ho.out; exact ⟨vo, h1, h2⟩
    have hcb : wr.cell? ⟨w.heap.size, 0, none⟩ = some vo := (blk_cell hvo.1 0).trans rfl
    have Hv := Aside0.mk hvo
    clear hvo
    by_cases hlt : k < l0.length
    · have hdrop := drop_step hlt
      obtain ⟨x, hx⟩ : ∃ x, x = l0[k] := ⟨_, rfl⟩
      rw [hdrop, ← hx] at HA
      have hrd : rd l0 (k : Int) = x := by rw [hx]; simp [rd, List.getD_eq_getElem?_getD, hlt]
      obtain ⟨ad, e, hcell⟩ := Kd.at_int (Kd.C_below HR0.out HBw.out) (k : Int) (by omega) (by omega)
      subst e
      rw [hrd, Int.toNat_natCast] at hcell
      have Hx := Aside0.mk hx
      clear hx hdrop hrd
      by_cases c1 : x < 0
      · have hr := HA.out
        rw [numsGo, if_pos (Or.inl c1)] at hr
        obtain ⟨rfl, rfl⟩ := Prod.mk.inj hr
        clear hr
        go_wp2
        go_ret2
        exact ⟨_, rfl, Kd.R_nil _ _ _ _ _, HBw.out⟩
      · by_cases c2 : 4611686018427387904 ≤ x
        · have hr := HA.out
          rw [numsGo, if_pos (Or.inr c2)] at hr
          obtain ⟨rfl, rfl⟩ := Prod.mk.inj hr
          clear hr
          go_wp2
          go_ret2
          exact ⟨_, rfl, Kd.R_nil _ _ _ _ _, HBw.out⟩
        · have hr := HA.out
          rw [numsGo, if_neg (by omega)] at hr
          have HA2 := Aside0.mk hr
          have HL := Aside0.mk (encN_len9 x.toNat (by omega))
          clear hr HA
          go_wp2_with (go_at_call 83; refine (num_calls w.heap.size x (by omega) (by omega) vo acc _ w.heap.size Hv.out.1 (Nat.le_refl _) Hv.out.2 (by omega)).mono ?_; rintro e w1 ⟨rfl, hq⟩; have Hq := Aside0.mk (out_then Ho.out hq); clear hq)
          go_wp2
          exact ⟨⟨k + 1, acc ++ encN x.toNat, by go_num, by omega, by have := HL.out; rw [List.length_append]; omega, HA2, Hq⟩, by simp [intOf]; omega⟩
    · have hr := HA.out
      rw [List.drop_eq_nil_of_le (by omega), numsGo] at hr
      obtain ⟨rfl, rfl⟩ := Prod.mk.inj hr
      clear hr
      go_wp2
      go_ret2
      exact ⟨_, rfl, R_of_own Hv.out.2, HBw.out⟩

def cloneF (l0 : List Int) : Option (List Int) := if l0.length < 140737488355328 then some l0 else none
set_option maxRecDepth 100000 in
theorem clone_calls (A0 : Option Addr) (c0 : Nat) (l0 : List Int) (r : List Int) (w : World) (hr0 : Kd.C (Kd.int .u8) w A0 l0.length l0) (hc0 : l0.length ≤ c0) (h : cloneF l0 = some r) :
    Calls Try.prog 85 #[.slice A0 l0.length c0] w fun e w' => ∃ v0_ : Value, e = .returned v0_ ∧ Kd.R (Kd.int .u8) 5 w' w.heap.size (fun _ => True) v0_ r ∧ Below w.heap.size w w' := by
  unfold cloneF at h
  split at h
  · rename_i hn
    injection h with h
    subst h
    rcases A0 with _ | ad
    · have h0 : l0 = [] := by
        rcases Nat.eq_zero_or_pos l0.length with h0 | h0
        · exact List.eq_nil_of_length_eq_zero h0
        · obtain ⟨ad, h, _⟩ := hr0.2.2 h0
          cases h
      subst h0
      have hq := fun w => Lib.run_eql_slice_nil (P := Try.prog) w 22 5 none 0 c0 0 0 Try.underlying22
      clear hr0 hc0 hn
      go_enter Try.func85, Try.ntmps85
      go_wp2
      go_ret
      exact ⟨_, rfl, Kd.R_nil _ _ _ _ _, Below.refl _ _⟩
    · have HR := Aside0.mk (Kd.reads_of_C (d := (0 : Int)) (h1 := fun _ => rfl) hr0)
      have hq := fun w => Lib.run_eql_slice_nil (P := Try.prog) w 22 5 (some ad) l0.length c0 0 0 Try.underlying22
      clear hr0 hc0
      go_enter Try.func85, Try.ntmps85
      go_wp2_with (at_builtin; refine print_append_row (w0 := w) w.heap.size rfl (.tmp 5) (.tmp 6) 22 5 .u8 1 rfl Try.underlying22 info5 (by decide) (.slice (some ⟨w.heap.size, 0, none⟩) 0 0) [] l0 (some ad) l0.length c0 rfl rfl (own_lit w w.heap.size 5 .u8 [] (Nat.le_refl _) (by simp)) (ReadsInt.allocS HR.out _) ((Below.refl _ _).alloc (Nat.le_refl _) _) (by simp) (by simp; omega) ?_; intro v1 w1 hown hB hg hat; rw [List.nil_append] at hown; have Ho := Aside0.mk hown; have HB := Aside0.mk hB; clear hown hB hg hat)
      go_ret
      exact ⟨_, rfl, R_of_own Ho.out, HB.out⟩
  · cases h
end Go.Proofs.Ytijccobeljoikaa.Walks

/- The contract of pack.Join. -/
namespace Go.Proofs.Ytijccobeljoikaa.Walks
open Go.RowKit Go.Proofs.YtijccobeljoikaaW.PrintWords Go.Proofs.YtijccobeljoikaaW.PrintLast
open Go.Proofs.Ytijccobeljoikaa.Plain
set_option linter.unusedVariables false
set_option linter.unusedSimpArgs false

def joinF (l0 : List (List Int)) : Option (List Int × Int) := some (if 1024 < l0.length then ([], 13) else joinGo [] l0)

set_option maxHeartbeats 2000000 in
set_option maxRecDepth 100000 in
theorem join_calls (A0 : Option Addr) (c0 : Nat) (l0 : List (List Int)) (r1 : List Int) (r2 : Int) (w : World) (hr0 : Kd.C (Kd.slice 5 (Kd.int .u8)) w A0 l0.length l0) (hc0 : l0.length ≤ c0) (h : joinF l0 = some (r1, r2)) :
    Calls Try.prog 31 #[.slice A0 l0.length c0] w fun e w' => ∃ v0_ : Value, e = .returned (.tuple #[v0_, .int .i64 r2]) ∧ Kd.R (Kd.int .u8) 5 w' w.heap.size (fun _ => True) v0_ r1 ∧ Below w.heap.size w w' := by
  have HR0 := Aside0.mk hr0
  unfold joinF at h
  injection h with h
  clear hr0 hc0
  by_cases c : 1024 < l0.length
  · rw [if_pos c] at h
    obtain ⟨rfl, rfl⟩ := Prod.mk.inj h
    clear h
    go_enter Try.func31, Try.ntmps31
    go_wp2
    go_ret2
    exact ⟨_, rfl, Kd.R_nil _ _ _ _ _, Below.refl _ _⟩
  rw [if_neg c] at h
  have HN := Aside0.mk h
  clear h
  go_enter Try.func31, Try.ntmps31
  go_wp2_with fail
  go_loopw [12] (fun i wr => ∃ (k : Nat) (acc : List Int), i = .int .i64 k ∧ k ≤ l0.length ∧ acc.length ≤ 65545 * k ∧ Aside0 (joinGo acc (l0.drop k) = (r1, r2)) ∧ Aside0 (OutIs w.heap.size w.heap.size acc w wr)) (fun i _ => l0.length - (intOf i).toNat)
  case atStart => exact ⟨0, [], rfl, Nat.zero_le _, by simp, HN, ⟨_, blk_new _ _, own_nil _ _ _ _, (Below.refl _ _).alloc (Nat.le_refl _) _⟩⟩
  case round =>
    clear HN
    obtain ⟨k, acc, rfl, hk, hacc, HA, Ho⟩ := hrel
    have HBw := Aside0.mk (out_below Ho.out)
    obtain ⟨vo, hvo⟩ : ∃ vo, wr.heap[w.heap.size]? = some (.cells #[vo] 115 (0, 0)) ∧ wr.ownsRow w.heap.size 5 1 vo acc.length (nums .u8 acc) := by obtain ⟨vo, h1, h2, _⟩ := Ho.out; exact ⟨vo, h1, h2⟩
    have hcb : wr.cell? ⟨w.heap.size, 0, none⟩ = some vo := (blk_cell hvo.1 0).trans rfl
    have Hv := Aside0.mk hvo
    clear hvo
    by_cases hlt : k < l0.length
    · rw [drop_step hlt] at HA
      obtain ⟨ad, A1, c1, e, hcell, hl1, hC1⟩ := at_row HR0.out k hlt
      subst e
      replace hcell := (HBw.out.cell (World.block_lt_of_cell? w _ hcell)).trans hcell
      generalize l0[k] = f at hcell HA hl1 hC1
      have HC1 := Aside0.mk hC1
      clear hC1
      by_cases c2 : 65536 < f.length
      · have hr := HA.out
        rw [joinGo, if_pos c2] at hr
        obtain ⟨rfl, rfl⟩ := Prod.mk.inj hr
        clear hr
        go_wp2
        go_ret2
        exact ⟨_, rfl, Kd.R_nil _ _ _ _ _, HBw.out⟩
      · have hr := HA.out
        rw [joinGo, if_neg c2] at hr
        have HA2 := Aside0.mk hr
        have hL := encN_len9 f.length (by omega)
        clear hr HA
        have hws := HBw.out.size
        obtain ⟨zs, hzs⟩ : ∃ zs, zs = acc ++ encN f.length ++ f := ⟨_, rfl⟩
        rw [← hzs] at HA2
        have hzl : zs.length ≤ 65545 * (k + 1) := by rw [hzs, List.length_append, List.length_append]; omega
        have Hzs := Aside0.mk hzs
        clear hzs
        go_wp2_with (first
          | (go_at_call 83; refine (num_calls w.heap.size (f.length : Int) (by omega) (by omega) vo acc _ w.heap.size Hv.out.1 (Nat.le_refl _) Hv.out.2 (by omega)).mono ?_; rintro e w1 ⟨rfl, hq⟩; rw [Int.toNat_natCast] at hq; obtain ⟨v1, hv1, hown1, hb1⟩ := out_then Ho.out hq; have hcb1 : w1.cell? ⟨w.heap.size, 0, none⟩ = some v1 := (blk_cell hv1 0).trans rfl; have hw1 := hb1.size; have Hv1 := Aside0.mk hv1; have Hown1 := Aside0.mk hown1; have Hb1 := Aside0.mk hb1; clear hq hv1 hown1 hb1)
          | (at_builtin; refine append_row2 (w0 := w) w.heap.size rfl (.tmp 22) (.tmp 23) 115 22 5 5 .u8 1 rfl Try.underlying115 Try.underlying22 info5 (by decide) v1 (acc ++ encN f.length) f A1 f.length c1 rfl rfl Hown1.out (Kd.reads_of_C (d := (0 : Int)) (h1 := fun _ => rfl) (Kd.C_below HC1.out Hb1.out)) Hb1.out (by omega) (by rw [List.length_append]; omega) ?_; intro v2 w2 hown hB hg hat; rw [← Hzs.out] at hown; obtain ⟨A2, c2, e2⟩ := own_slice hown; subst e2; obtain ⟨h2, h3, h4, h5⟩ := stored_outs (Nat.le_refl _) Hv1.out hown hB hg Hown1.out; have hc2 : w2.cell? ⟨w.heap.size, 0, none⟩ = some v1 := (blk_cell h2 0).trans rfl; have hf2 : w2.frozen? ⟨w.heap.size, 0, none⟩ = false := blk_frozen h2 0; have Hq := Aside0.mk (show OutIs _ _ _ _ _ from ⟨_, h3, h4, h5⟩); clear hown hB hg hat h2 h3 h4 h5))
        go_wp2
        exact ⟨⟨k + 1, zs, by go_num, by omega, hzl, HA2, Hq⟩, by simp [intOf]; omega⟩
    · have hr := HA.out
      rw [List.drop_eq_nil_of_le (by omega), joinGo] at hr
      obtain ⟨rfl, rfl⟩ := Prod.mk.inj hr
      clear hr
      go_wp2
      go_ret2
      exact ⟨_, rfl, R_of_own Hv.out.2, HBw.out⟩
end Go.Proofs.Ytijccobeljoikaa.Walks

/- The contract of pack's read: the number at the beginning, and how many bytes it has. -/
namespace Go.Proofs.Ytijccobeljoikaa.Walks
open Go.RowKit Go.Proofs.YtijccobeljoikaaW.PrintWords Go.Proofs.YtijccobeljoikaaW.PrintLast
open Go.Proofs.Ytijccobeljoikaa.Plain
set_option linter.unusedVariables false
set_option linter.unusedSimpArgs false

def readF (l : List Int) : Option (Int × Int × Int) := if ∀ c ∈ l, 0 ≤ c ∧ c ≤ 255 then some (readGo 0 0 l) else none

theorem andNotF : ∀ a : Fin 256, Go.bits .andNot .u8 ((a.val : Nat) : Int) 128 = ((a.val % 128 : Nat) : Int) := by decide +kernel
theorem ofInt_i64 (a : Nat) (ha : a < 9223372036854775808) : (BitVec.ofInt 64 (a : Int)).toNat = a := by
  rw [BitVec.ofInt_natCast, BitVec.toNat_ofNat]; exact Nat.mod_eq_of_lt (by omega)
theorem i64_or_nat (a b : Nat) (ha : a < 9223372036854775808) (hb : b < 9223372036854775808) : bits .or .i64 (a : Int) (b : Int) = ((a ||| b : Nat) : Int) := by
  have hx : a ||| b < 2 ^ 63 := Nat.or_lt_two_pow (by omega) (by omega)
  show IntKind.i64.wrap ((BitVec.ofInt 64 (a : Int) ||| BitVec.ofInt 64 (b : Int)).toNat : Int) = _
  rw [BitVec.toNat_or, ofInt_i64 a ha, ofInt_i64 b hb, IntKind.wrap_i64]
  omega
theorem or_core (x m q n : Nat) (hx : x < q) (hq : q = 2 ^ n) (hlim : m * q + q ≤ 4611686018427387904) (hm : m < 128) :
    bits BinOp.or IntKind.i64 (x : Int) (wrap64 (wrap64 (m : Int) * (q : Int))) = ((x + m * q : Nat) : Int) := by
  have ew1 : wrap64 ((m : Nat) : Int) = (m : Int) := by unfold wrap64; omega
  have ew2 : wrap64 (((m * q : Nat) : Int)) = ((m * q : Nat) : Int) := by unfold wrap64; omega
  rw [ew1, ← Int.natCast_mul, ew2, i64_or_nat x (m * q) (by omega) (by omega)]
  have hor : x ||| m * q = x + m * q := by
    subst hq
    rw [Nat.or_comm, Nat.mul_comm, ← Nat.two_pow_add_eq_or_of_lt hx, Nat.add_comm]
  rw [hor]
theorem pow_le8 {k : Nat} (hk : k ≤ 8) : 2 ^ (7 * k) ≤ 72057594037927936 ∧ (k < 8 → 2 ^ (7 * k) ≤ 562949953421312) ∧ 2 ^ (7 * (k + 1)) = 128 * 2 ^ (7 * k) := by
  have p56 : (2 : Nat) ^ 56 = 72057594037927936 := by decide
  have p49 : (2 : Nat) ^ 49 = 562949953421312 := by decide
  refine ⟨?_, fun h => ?_, ?_⟩
  · rw [← p56]; exact Nat.pow_le_pow_right (by omega) (by omega)
  · rw [← p49]; exact Nat.pow_le_pow_right (by omega) (by omega)
  rw [Nat.mul_add, Nat.pow_add, Nat.mul_comm]
/-- One byte of a number is laid behind those before it. -/
theorem or_step {x c : Int} {k : Nat} (hx0 : 0 ≤ x) (hx : x < 2 ^ (7 * k)) (hk : k ≤ 8) (hc0 : 0 ≤ c) (hc1 : c ≤ 255) (h8 : 8 ≤ k → c < 64) :
    bits BinOp.or IntKind.i64 x (wrap64 (wrap64 (bits BinOp.andNot IntKind.u8 c 128) * 2 ^ (7 * k))) = x + c % 128 * 2 ^ (7 * k) ∧ x + c % 128 * 2 ^ (7 * k) < 2 ^ (7 * (k + 1)) ∧ 0 ≤ x + c % 128 * 2 ^ (7 * k) ∧ x + c % 128 * 2 ^ (7 * k) < 4611686018427387904 := by
  obtain ⟨c, rfl⟩ := Int.eq_ofNat_of_zero_le hc0
  obtain ⟨x, rfl⟩ := Int.eq_ofNat_of_zero_le hx0
  have ha := andNotF ⟨c, by omega⟩
  simp only at ha
  rw [ha]
  obtain ⟨m, hm⟩ : ∃ m, m = c % 128 := ⟨_, rfl⟩
  rw [← hm, show ((c : Int) % 128) = ((m : Nat) : Int) by omega]
  have hm128 : m < 128 := by omega
  have hm8 : 8 ≤ k → m < 64 := by omega
  obtain ⟨hp8, hp7, hnext⟩ := pow_le8 hk
  have e : ((2 : Int) ^ (7 * k)) = ((2 ^ (7 * k) : Nat) : Int) := by simp
  have e2 : ((2 : Int) ^ (7 * (k + 1))) = ((2 ^ (7 * (k + 1)) : Nat) : Int) := by simp
  rw [e2, hnext, e]
  rw [e] at hx
  obtain ⟨q, hq⟩ : ∃ q, q = 2 ^ (7 * k) := ⟨_, rfl⟩
  rw [← hq] at hx hp8 hp7 ⊢
  clear hnext e e2 ha
  have hxn : x < q := by omega
  have hmq : m * q ≤ 127 * q := Nat.mul_le_mul_right q (by omega)
  have hlim : m * q + q ≤ 4611686018427387904 := by
    by_cases h8k : 8 ≤ k
    · have := hm8 h8k
      have : m * q ≤ 63 * q := Nat.mul_le_mul_right q (by omega)
      omega
    · have := hp7 (by omega)
      omega
  rw [or_core x m q _ hxn hq hlim hm128]
  refine ⟨by rw [← Int.natCast_mul]; omega, by rw [← Int.natCast_mul]; omega, by rw [← Int.natCast_mul]; omega, by rw [← Int.natCast_mul]; omega⟩

set_option maxHeartbeats 2000000 in
set_option maxRecDepth 100000 in
theorem read_calls (A0 : Option Addr) (c0 : Nat) (l0 : List Int) (r1 : Int) (r2 : Int) (r3 : Int) (w : World) (hr0 : Kd.C (Kd.int .u8) w A0 l0.length l0) (hc0 : l0.length ≤ c0) (h : readF l0 = some (r1, r2, r3)) :
    Calls Try.prog 84 #[.slice A0 l0.length c0] w fun e w' => e = .returned (.tuple #[.int .i64 r1, .int .i64 r2, .int .i64 r3]) ∧ Drawn0 w w' := by
  have hm : l0.length ≤ 9223372036854775807 := hr0.2.1
  have HR0 := Aside0.mk hr0
  obtain ⟨hrng, hgo⟩ : (∀ c ∈ l0, 0 ≤ c ∧ c ≤ 255) ∧ readGo 0 0 l0 = (r1, r2, r3) := by
    unfold readF at h; split at h
    · rename_i hh; injection h with h; exact ⟨hh, h⟩
    · cases h
  have HG := Aside0.mk hrng
  have HN := Aside0.mk hgo
  clear hr0 h hc0 hrng hgo
  go_enter Try.func84, Try.ntmps84
  go_wp2_with fail
  go_loopw [2, 10] (fun v i wr => ∃ (k : Nat) (x : Int), i = .int .i64 k ∧ v = .int .i64 x ∧ k ≤ 8 ∧ k ≤ l0.length ∧ 0 ≤ x ∧ Aside0 (x < 2 ^ (7 * k)) ∧ Aside0 (readGo k x (l0.drop k) = (r1, r2, r3)) ∧ Aside0 (Drawn0 w wr)) (fun _ i _ => l0.length - (intOf i).toNat)
  case atStart => exact ⟨0, 0, rfl, rfl, by omega, Nat.zero_le _, by omega, ⟨by decide⟩, HN, ⟨Drawn0.refl _⟩⟩
  case round =>
    clear HN
    obtain ⟨k, x, rfl, rfl, hk8, hk, hx0, Hx, HA, Hd⟩ := hrel
    by_cases hlt : k < l0.length
    · rw [drop_step hlt] at HA
      obtain ⟨ad, e, hcell⟩ := at_num (Kd.C_below HR0.out Hd.out.below) k hlt
      subst e
      have hcr := HG.out l0[k] (List.getElem_mem hlt)
      generalize l0[k] = c at hcell HA hcr
      obtain ⟨hc0, hc1⟩ := hcr
      have Hc := Aside0.mk (⟨hc0, hc1⟩ : 0 ≤ c ∧ c ≤ 255)
      by_cases hA1 : 8 ≤ k ∧ 64 ≤ c
      · have hr := HA.out
        rw [readGo, if_pos (by omega)] at hr
        simp only [Prod.mk.injEq] at hr
        obtain ⟨rfl, rfl, rfl⟩ := hr
        obtain ⟨h8, h64⟩ := hA1
        have b8 : ((k : Int) == 8) = true := by simp; omega
        go_wp2
        go_ret3
        exact ⟨rfl, Hd.out⟩
      · obtain ⟨b, b8, hb⟩ : ∃ b : Bool, ((k : Int) == 8) = b ∧ (b = true → c < 64) := ⟨_, rfl, fun h => by simp at h; omega⟩
        by_cases hA2 : c ≤ 0 ∧ 0 < k
        · have hr := HA.out
          rw [readGo, if_pos (by omega)] at hr
          simp only [Prod.mk.injEq] at hr
          obtain ⟨rfl, rfl, rfl⟩ := hr
          obtain ⟨hz, hk0⟩ := hA2
          have bz : (c == 0) = true := by simp; omega
          cases b
          all_goals
            clear hb
            go_wp2
            go_ret3
            exact ⟨rfl, Hd.out⟩
        · have hr := HA.out
          rw [readGo, if_neg (by omega)] at hr
          obtain ⟨bz, hbz, hz⟩ : ∃ bz : Bool, (c == 0) = bz ∧ (bz = true → k ≤ 0) := ⟨_, rfl, fun h => by simp at h; omega⟩
          by_cases c128 : c < 128
          · rw [if_pos c128] at hr
            have hs := or_step hx0 Hx.out hk8 hc0 hc1 (fun h => by omega)
            simp only [Prod.mk.injEq] at hr
            obtain ⟨rfl, rfl, rfl⟩ := hr
            have Hs := Aside0.mk hs.1
            clear hs hA1 hA2
            cases b <;> cases bz
            all_goals
              try have hc6 := hb rfl
              clear hb
              try have hk0 : decide (0 < k) = false := by have := hz rfl; simp; omega
              clear hz
              go_wp2
              go_ret3
              refine ⟨?_, Hd.out⟩
              show Ending.returned (Value.tuple #[Value.int .i64 (bits BinOp.or IntKind.i64 x (wrap64 (wrap64 (bits BinOp.andNot IntKind.u8 c 128) * 2 ^ (7 * k)))), Value.int .i64 ((k : Int) + 1), Value.int .i64 0]) = _
              rw [Hs.out]
          · rw [if_neg c128] at hr
            have HA2 := Aside0.mk hr
            have hs := or_step hx0 Hx.out hk8 hc0 hc1 (fun h => by omega)
            have e1 : b = false := by rw [← b8]; simp; omega
            have e2 : bz = false := by rw [← hbz]; simp; omega
            subst e1 e2
            have Hs := Aside0.mk hs
            clear hr HA hs hA1 hA2 hb hz
            have hk7 : k + 1 ≤ 8 := by have := b8; simp at this; omega
            go_wp2
            refine ⟨⟨k + 1, x + c % 128 * 2 ^ (7 * k), by go_num, by rw [Hs.out.1], hk7, by omega, Hs.out.2.2.1, ⟨Hs.out.2.1⟩, HA2, Hd⟩, by simp [intOf]; omega⟩
    · have hr := HA.out
      rw [List.drop_eq_nil_of_le (by omega), readGo] at hr
      simp only [Prod.mk.injEq] at hr
      obtain ⟨rfl, rfl, rfl⟩ := hr
      go_wp2
      go_ret3
      exact ⟨rfl, Hd.out⟩
end Go.Proofs.Ytijccobeljoikaa.Walks

/- Written by ownprint.py, an own program round the print: plain Lean functions for Go functions, and that the Go code comes to what they say. -/
namespace Go.Proofs.Ytijccobeljoikaa.Ms
open Go.RowKit Go.Proofs.YtijccobeljoikaaW.PrintWords Go.Proofs.YtijccobeljoikaaW.PrintLast
set_option linter.unusedVariables false
set_option linter.unusedSimpArgs false



def errW : Option Int → Value
  | none => .nilIface
  | some c => .iface 0 (.int .i64 c)
theorem errW_none : errW none = .nilIface := rfl
theorem errW_some (c : Int) : errW (some c) = .iface 0 (.int .i64 c) := rfl

theorem info3 : (Try.prog.info? 3).map (fun i => (i.zero, i.size, i.bytes)) = some (some (.int .i64 0), 1, 8) := by kernel_rfl
theorem info5 : (Try.prog.info? 5).map (fun i => (i.zero, i.size, i.bytes)) = some (some (.int .u8 0), 1, 1) := by kernel_rfl
theorem info22 : (Try.prog.info? 22).map (fun i => (i.zero, i.size, i.bytes)) = some (some (.slice none 0 0), 1, 24) := by kernel_rfl
theorem info72 : (Try.prog.info? 72).map (fun i => (i.zero, i.size, i.bytes)) = some (some (.agg #[(.int .i64 0), (.int .i64 0), (.int .i64 0), (.slice none 0 0), (.slice none 0 0)]), 5, 72) := by kernel_rfl
theorem info101 : (Try.prog.info? 101).map (fun i => (i.zero, i.size, i.bytes)) = some (some (.agg #[(.int .i64 0), (.int .i64 0), (.int .i64 0), (.int .i64 0), (.int .i64 0), (.slice none 0 0), (.slice none 0 0)]), 7, 88) := by kernel_rfl
-- the values' own types
/-! #### struct type 70 -/
structure S70 where
  f0 : Int
  f1 : Int
def z70 : S70 := ⟨(0 : Int), (0 : Int)⟩
def k70 : Kd S70 := Kd.iso (Kd.pair (Kd.int .i64) (Kd.int .i64)) (fun x : S70 => (x.f0, x.f1))
theorem k70_open {w : World} {x : S70} {cs : List Value} (h : k70.K w x cs) : cs = [.int .i64 x.f0, .int .i64 x.f1] := by
  obtain ⟨_, _, rfl, rfl, rfl⟩ := h
  exact rfl
theorem k70_mkM (w : World) (base : Nat) (ok : Nat → Prop) (x : S70)  : k70.M w base ok x [.int .i64 x.f0, .int .i64 x.f1] := ⟨[.int .i64 x.f0], [.int .i64 x.f1], rfl, rfl, rfl⟩
def rd_L3 (xs : List (List Int)) (i : Int) : (List Int) := xs.getD i.toNat ([] : List Int)
theorem at_L3 {w : World} {A : Option Addr} {n : Nat} {xs : List (List Int)} (h : Kd.C (Kd.slice 5 (Kd.int .u8)) w A n xs) (i : Int) (h0 : 0 ≤ i) (h1 : i < n) : ∃ ad A0 c0, A = some ad ∧ w.cell? (ad.add i.toNat) = some (.slice A0 (rd_L3 xs i).length c0) ∧ (rd_L3 xs i).length ≤ c0 ∧ (Kd.int .u8).C w A0 (rd_L3 xs i).length (rd_L3 xs i) := by
  obtain ⟨ad, c, e, _, hK, hc0⟩ := Kd.C_get h ([] : List Int) i h0 h1
  have hc : ∀ j u, c[j]? = some u → w.cell? (ad.add (i.toNat * 1 + j)) = some u := hc0
  obtain ⟨A0, c0, rfl, l0, g0⟩ := hK
  exact ⟨ad, A0, c0, e, by have hq := hc 0 _ rfl; rwa [Nat.mul_one, Nat.add_zero] at hq, l0, g0⟩

/-! #### struct type 72 -/
structure S72 where
  f0 : S70
  f1 : Int
  f2 : (List Int)
  f3 : (List (List Int))
def z72 : S72 := ⟨z70, (0 : Int), ([] : List Int), ([] : List (List Int))⟩
def k72 : Kd S72 := Kd.iso (Kd.pair k70 (Kd.pair (Kd.int .i64) (Kd.pair (Kd.slice 5 (Kd.int .u8)) (Kd.slice 22 (Kd.slice 5 (Kd.int .u8)))))) (fun x : S72 => (x.f0, x.f1, x.f2, x.f3))
theorem k72_open {w : World} {x : S72} {cs : List Value} (h : k72.K w x cs) : ∃ A3 c3 A4 c4, cs = [.int .i64 x.f0.f0, .int .i64 x.f0.f1, .int .i64 x.f1, .slice A3 x.f2.length c3, .slice A4 x.f3.length c4] ∧ x.f2.length ≤ c3 ∧ (Kd.int .u8).C w A3 x.f2.length x.f2 ∧ x.f3.length ≤ c4 ∧ (Kd.slice 5 (Kd.int .u8)).C w A4 x.f3.length x.f3 := by
  obtain ⟨_, _, rfl, s0, ⟨_, _, rfl, rfl, ⟨_, _, rfl, ⟨A3, c3, rfl, l3, g3⟩, ⟨A4, c4, rfl, l4, g4⟩⟩⟩⟩ := h
  obtain rfl := k70_open s0
  exact ⟨A3, c3, A4, c4, rfl, l3, g3, l4, g4⟩
theorem k72_mkM (w : World) (base : Nat) (ok : Nat → Prop) (x : S72) {v3 : Value} (g3 : (Kd.int .u8).R 5 w base ok v3 x.f2) {v4 : Value} (g4 : (Kd.slice 5 (Kd.int .u8)).R 22 w base ok v4 x.f3) : k72.M w base ok x [.int .i64 x.f0.f0, .int .i64 x.f0.f1, .int .i64 x.f1, v3, v4] := ⟨[.int .i64 x.f0.f0, .int .i64 x.f0.f1], [.int .i64 x.f1, v3, v4], rfl, (k70_mkM w base ok x.f0 ), ⟨[.int .i64 x.f1], [v3, v4], rfl, rfl, ⟨[v3], [v4], rfl, ⟨v3, rfl, g3⟩, ⟨v4, rfl, g4⟩⟩⟩⟩
def rd_T72 (xs : List S72) (i : Int) : S72 := xs.getD i.toNat z72
theorem at_T72 {w : World} {A : Option Addr} {n : Nat} {xs : List S72} (h : Kd.C k72 w A n xs) (i : Int) (h0 : 0 ≤ i) (h1 : i < n) : ∃ ad A3 c3 A4 c4, A = some ad ∧ w.cell? (ad.add (i.toNat * 5)) = some (.int .i64 (rd_T72 xs i).f0.f0) ∧ w.cell? ⟨(ad.add (i.toNat * 5)).block, (ad.add (i.toNat * 5)).off + 1, none⟩ = some (.int .i64 (rd_T72 xs i).f0.f1) ∧ w.cell? ⟨(ad.add (i.toNat * 5)).block, (ad.add (i.toNat * 5)).off + 2, none⟩ = some (.int .i64 (rd_T72 xs i).f1) ∧ w.cell? ⟨(ad.add (i.toNat * 5)).block, (ad.add (i.toNat * 5)).off + 3, none⟩ = some (.slice A3 (rd_T72 xs i).f2.length c3) ∧ w.cell? ⟨(ad.add (i.toNat * 5)).block, (ad.add (i.toNat * 5)).off + 4, none⟩ = some (.slice A4 (rd_T72 xs i).f3.length c4) ∧ (rd_T72 xs i).f2.length ≤ c3 ∧ (Kd.int .u8).C w A3 (rd_T72 xs i).f2.length (rd_T72 xs i).f2 ∧ (rd_T72 xs i).f3.length ≤ c4 ∧ (Kd.slice 5 (Kd.int .u8)).C w A4 (rd_T72 xs i).f3.length (rd_T72 xs i).f3 := by
  obtain ⟨ad, c, e, _, hK, hc0⟩ := Kd.C_get h z72 i h0 h1
  have hc : ∀ j u, c[j]? = some u → w.cell? (ad.add (i.toNat * 5 + j)) = some u := hc0
  obtain ⟨A3, c3, A4, c4, rfl, l3, g3, l4, g4⟩ := k72_open hK
  exact ⟨ad, A3, c3, A4, c4, e, hc 0 _ rfl, by rw [← add_field _ _ 1 (by omega)]; exact hc 1 _ rfl, by rw [← add_field _ _ 2 (by omega)]; exact hc 2 _ rfl, by rw [← add_field _ _ 3 (by omega)]; exact hc 3 _ rfl, by rw [← add_field _ _ 4 (by omega)]; exact hc 4 _ rfl, l3, g3, l4, g4⟩

/-! #### struct type 87 -/
structure S87 where
  f0 : Int
  f1 : Int
  f2 : Int
  f3 : (List Int)
def z87 : S87 := ⟨(0 : Int), (0 : Int), (0 : Int), ([] : List Int)⟩
def k87 : Kd S87 := Kd.iso (Kd.pair (Kd.int .i64) (Kd.pair (Kd.int .i64) (Kd.pair (Kd.int .i64) (Kd.slice 5 (Kd.int .u8))))) (fun x : S87 => (x.f0, x.f1, x.f2, x.f3))
theorem k87_open {w : World} {x : S87} {cs : List Value} (h : k87.K w x cs) : ∃ A3 c3, cs = [.int .i64 x.f0, .int .i64 x.f1, .int .i64 x.f2, .slice A3 x.f3.length c3] ∧ x.f3.length ≤ c3 ∧ (Kd.int .u8).C w A3 x.f3.length x.f3 := by
  obtain ⟨_, _, rfl, rfl, ⟨_, _, rfl, rfl, ⟨_, _, rfl, rfl, ⟨A3, c3, rfl, l3, g3⟩⟩⟩⟩ := h
  exact ⟨A3, c3, rfl, l3, g3⟩
theorem k87_mkM (w : World) (base : Nat) (ok : Nat → Prop) (x : S87) {v3 : Value} (g3 : (Kd.int .u8).R 5 w base ok v3 x.f3) : k87.M w base ok x [.int .i64 x.f0, .int .i64 x.f1, .int .i64 x.f2, v3] := ⟨[.int .i64 x.f0], [.int .i64 x.f1, .int .i64 x.f2, v3], rfl, rfl, ⟨[.int .i64 x.f1], [.int .i64 x.f2, v3], rfl, rfl, ⟨[.int .i64 x.f2], [v3], rfl, rfl, ⟨v3, rfl, g3⟩⟩⟩⟩
/-! #### struct type 101 -/
structure S101 where
  f0 : Int
  f1 : Int
  f2 : S87
  f3 : (List S72)
def z101 : S101 := ⟨(0 : Int), (0 : Int), z87, ([] : List S72)⟩
def k101 : Kd S101 := Kd.iso (Kd.pair (Kd.int .i64) (Kd.pair (Kd.int .i64) (Kd.pair k87 (Kd.slice 72 k72)))) (fun x : S101 => (x.f0, x.f1, x.f2, x.f3))
theorem k101_open {w : World} {x : S101} {cs : List Value} (h : k101.K w x cs) : ∃ A5 c5 A6 c6, cs = [.int .i64 x.f0, .int .i64 x.f1, .int .i64 x.f2.f0, .int .i64 x.f2.f1, .int .i64 x.f2.f2, .slice A5 x.f2.f3.length c5, .slice A6 x.f3.length c6] ∧ x.f2.f3.length ≤ c5 ∧ (Kd.int .u8).C w A5 x.f2.f3.length x.f2.f3 ∧ x.f3.length ≤ c6 ∧ k72.C w A6 x.f3.length x.f3 := by
  obtain ⟨_, _, rfl, rfl, ⟨_, _, rfl, rfl, ⟨_, _, rfl, s2, ⟨A6, c6, rfl, l6, g6⟩⟩⟩⟩ := h
  obtain ⟨A5, c5, rfl, l5, g5⟩ := k87_open s2
  exact ⟨A5, c5, A6, c6, rfl, l5, g5, l6, g6⟩
theorem k101_mkM (w : World) (base : Nat) (ok : Nat → Prop) (x : S101) {v5 : Value} (g5 : (Kd.int .u8).R 5 w base ok v5 x.f2.f3) {v6 : Value} (g6 : k72.R 72 w base ok v6 x.f3) : k101.M w base ok x [.int .i64 x.f0, .int .i64 x.f1, .int .i64 x.f2.f0, .int .i64 x.f2.f1, .int .i64 x.f2.f2, v5, v6] := ⟨[.int .i64 x.f0], [.int .i64 x.f1, .int .i64 x.f2.f0, .int .i64 x.f2.f1, .int .i64 x.f2.f2, v5, v6], rfl, rfl, ⟨[.int .i64 x.f1], [.int .i64 x.f2.f0, .int .i64 x.f2.f1, .int .i64 x.f2.f2, v5, v6], rfl, rfl, ⟨[.int .i64 x.f2.f0, .int .i64 x.f2.f1, .int .i64 x.f2.f2, v5], [v6], rfl, (k87_mkM w base ok x.f2 g5), ⟨v6, rfl, g6⟩⟩⟩⟩
def rd_T101 (xs : List S101) (i : Int) : S101 := xs.getD i.toNat z101
theorem at_T101 {w : World} {A : Option Addr} {n : Nat} {xs : List S101} (h : Kd.C k101 w A n xs) (i : Int) (h0 : 0 ≤ i) (h1 : i < n) : ∃ ad A5 c5 A6 c6, A = some ad ∧ w.cell? (ad.add (i.toNat * 7)) = some (.int .i64 (rd_T101 xs i).f0) ∧ w.cell? ⟨(ad.add (i.toNat * 7)).block, (ad.add (i.toNat * 7)).off + 1, none⟩ = some (.int .i64 (rd_T101 xs i).f1) ∧ w.cell? ⟨(ad.add (i.toNat * 7)).block, (ad.add (i.toNat * 7)).off + 2, none⟩ = some (.int .i64 (rd_T101 xs i).f2.f0) ∧ w.cell? ⟨(ad.add (i.toNat * 7)).block, (ad.add (i.toNat * 7)).off + 3, none⟩ = some (.int .i64 (rd_T101 xs i).f2.f1) ∧ w.cell? ⟨(ad.add (i.toNat * 7)).block, (ad.add (i.toNat * 7)).off + 4, none⟩ = some (.int .i64 (rd_T101 xs i).f2.f2) ∧ w.cell? ⟨(ad.add (i.toNat * 7)).block, (ad.add (i.toNat * 7)).off + 5, none⟩ = some (.slice A5 (rd_T101 xs i).f2.f3.length c5) ∧ w.cell? ⟨(ad.add (i.toNat * 7)).block, (ad.add (i.toNat * 7)).off + 6, none⟩ = some (.slice A6 (rd_T101 xs i).f3.length c6) ∧ (rd_T101 xs i).f2.f3.length ≤ c5 ∧ (Kd.int .u8).C w A5 (rd_T101 xs i).f2.f3.length (rd_T101 xs i).f2.f3 ∧ (rd_T101 xs i).f3.length ≤ c6 ∧ k72.C w A6 (rd_T101 xs i).f3.length (rd_T101 xs i).f3 := by
  obtain ⟨ad, c, e, _, hK, hc0⟩ := Kd.C_get h z101 i h0 h1
  have hc : ∀ j u, c[j]? = some u → w.cell? (ad.add (i.toNat * 7 + j)) = some u := hc0
  obtain ⟨A5, c5, A6, c6, rfl, l5, g5, l6, g6⟩ := k101_open hK
  exact ⟨ad, A5, c5, A6, c6, e, hc 0 _ rfl, by rw [← add_field _ _ 1 (by omega)]; exact hc 1 _ rfl, by rw [← add_field _ _ 2 (by omega)]; exact hc 2 _ rfl, by rw [← add_field _ _ 3 (by omega)]; exact hc 3 _ rfl, by rw [← add_field _ _ 4 (by omega)]; exact hc 4 _ rfl, by rw [← add_field _ _ 5 (by omega)]; exact hc 5 _ rfl, by rw [← add_field _ _ 6 (by omega)]; exact hc 6 _ rfl, l5, g5, l6, g6⟩

end Go.Proofs.Ytijccobeljoikaa.Ms
