/- The contract of pack's read: the number at the beginning, and how many bytes it has. -/
import Derived.Test.YtijccobeljoikaaBase
import Derived.Test.YtijccobeljoikaaPlain
import Derived.Laws.BitsAllLaws
namespace Go.Proofs.Ytijccobeljoikaa.Walks
open Go.RowKit Go.Proofs.YtijccobeljoikaaW.PrintWords Go.Proofs.YtijccobeljoikaaW.PrintLast Go.Proofs.YtijccobeljoikaaW.PrintMore
open Go.Proofs.Ytijccobeljoikaa.Plain
set_option linter.unusedVariables false
set_option linter.unusedSimpArgs false

def readF (l : List Int) : Option (Int × Int × Int) := if ∀ c ∈ l, 0 ≤ c ∧ c ≤ 255 then some (readGo 0 0 l) else none

theorem andNotF : ∀ a : Fin 256, Go.bits .andNot .u8 ((a.val : Nat) : Int) 128 = ((a.val % 128 : Nat) : Int) := by decide +kernel
theorem ofInt_i64 (a : Nat) (ha : a < 9223372036854775808) : (BitVec.ofInt 64 (a : Int)).toNat = a := by
  rw [BitVec.ofInt_natCast, BitVec.toNat_ofNat]; exact Nat.mod_eq_of_lt (by omega)
theorem i64_or_nat (a b : Nat) (ha : a < 9223372036854775808) (hb : b < 9223372036854775808) : bits .or .i64 (a : Int) (b : Int) = ((a ||| b : Nat) : Int) := by
  have hx : a ||| b < 2 ^ 63 := Nat.or_lt_two_pow (by omega) (by omega)
  show IntKind.i64.wrap ((BitVec.ofInt 64 (a : Int) ||| BitVec.ofInt 64 (b : Int)).toNat : Int) = _
  rw [BitVec.toNat_or, ofInt_i64 a ha, ofInt_i64 b hb, IntKind.wrap_i64]
  omega
theorem or_core (x m q n : Nat) (hx : x < q) (hq : q = 2 ^ n) (hlim : m * q + q ≤ 4611686018427387904) (hm : m < 128) :
    bits BinOp.or IntKind.i64 (x : Int) (wrap64 (wrap64 (m : Int) * (q : Int))) = ((x + m * q : Nat) : Int) := by
  have ew1 : wrap64 ((m : Nat) : Int) = (m : Int) := by unfold wrap64; omega
  have ew2 : wrap64 (((m * q : Nat) : Int)) = ((m * q : Nat) : Int) := by unfold wrap64; omega
  rw [ew1, ← Int.natCast_mul, ew2, i64_or_nat x (m * q) (by omega) (by omega)]
  have hor : x ||| m * q = x + m * q := by
    subst hq
    rw [Nat.or_comm, Nat.mul_comm, ← Nat.two_pow_add_eq_or_of_lt hx, Nat.add_comm]
  rw [hor]
theorem pow_le8 {k : Nat} (hk : k ≤ 8) : 2 ^ (7 * k) ≤ 72057594037927936 ∧ (k < 8 → 2 ^ (7 * k) ≤ 562949953421312) ∧ 2 ^ (7 * (k + 1)) = 128 * 2 ^ (7 * k) := by
  have p56 : (2 : Nat) ^ 56 = 72057594037927936 := by decide
  have p49 : (2 : Nat) ^ 49 = 562949953421312 := by decide
  refine ⟨?_, fun h => ?_, ?_⟩
  · rw [← p56]; exact Nat.pow_le_pow_right (by omega) (by omega)
  · rw [← p49]; exact Nat.pow_le_pow_right (by omega) (by omega)
  rw [Nat.mul_add, Nat.pow_add, Nat.mul_comm]
/-- One byte of a number is laid behind those before it. -/
theorem or_step {x c : Int} {k : Nat} (hx0 : 0 ≤ x) (hx : x < 2 ^ (7 * k)) (hk : k ≤ 8) (hc0 : 0 ≤ c) (hc1 : c ≤ 255) (h8 : 8 ≤ k → c < 64) :
    bits BinOp.or IntKind.i64 x (wrap64 (wrap64 (bits BinOp.andNot IntKind.u8 c 128) * 2 ^ (7 * k))) = x + c % 128 * 2 ^ (7 * k) ∧ x + c % 128 * 2 ^ (7 * k) < 2 ^ (7 * (k + 1)) ∧ 0 ≤ x + c % 128 * 2 ^ (7 * k) ∧ x + c % 128 * 2 ^ (7 * k) < 4611686018427387904 := by
  obtain ⟨c, rfl⟩ := Int.eq_ofNat_of_zero_le hc0
  obtain ⟨x, rfl⟩ := Int.eq_ofNat_of_zero_le hx0
  have ha := andNotF ⟨c, by omega⟩
  simp only at ha
  rw [ha]
  obtain ⟨m, hm⟩ : ∃ m, m = c % 128 := ⟨_, rfl⟩
  rw [← hm, show ((c : Int) % 128) = ((m : Nat) : Int) by omega]
  have hm128 : m < 128 := by omega
  have hm8 : 8 ≤ k → m < 64 := by omega
  obtain ⟨hp8, hp7, hnext⟩ := pow_le8 hk
  have e : ((2 : Int) ^ (7 * k)) = ((2 ^ (7 * k) : Nat) : Int) := by simp
  have e2 : ((2 : Int) ^ (7 * (k + 1))) = ((2 ^ (7 * (k + 1)) : Nat) : Int) := by simp
  rw [e2, hnext, e]
  rw [e] at hx
  obtain ⟨q, hq⟩ : ∃ q, q = 2 ^ (7 * k) := ⟨_, rfl⟩
  rw [← hq] at hx hp8 hp7 ⊢
  clear hnext e e2 ha
  have hxn : x < q := by omega
  have hmq : m * q ≤ 127 * q := Nat.mul_le_mul_right q (by omega)
  have hlim : m * q + q ≤ 4611686018427387904 := by
    by_cases h8k : 8 ≤ k
    · have := hm8 h8k
      have : m * q ≤ 63 * q := Nat.mul_le_mul_right q (by omega)
      omega
    · have := hp7 (by omega)
      omega
  rw [or_core x m q _ hxn hq hlim hm128]
  refine ⟨by rw [← Int.natCast_mul]; omega, by rw [← Int.natCast_mul]; omega, by rw [← Int.natCast_mul]; omega, by rw [← Int.natCast_mul]; omega⟩

set_option maxHeartbeats 2000000 in
set_option maxRecDepth 100000 in
theorem read_calls (A0 : Option Addr) (c0 : Nat) (l0 : List Int) (r1 : Int) (r2 : Int) (r3 : Int) (w : World) (hr0 : Kd.C (Kd.int .u8) w A0 l0.length l0) (hc0 : l0.length ≤ c0) (h : readF l0 = some (r1, r2, r3)) :
    Calls Try.prog 84 #[.slice A0 l0.length c0] w fun e w' => e = .returned (.tuple #[.int .i64 r1, .int .i64 r2, .int .i64 r3]) ∧ Drawn0 w w' := by
  have hm : l0.length ≤ 9223372036854775807 := hr0.2.1
  have HR0 := Aside0.mk hr0
  obtain ⟨hrng, hgo⟩ : (∀ c ∈ l0, 0 ≤ c ∧ c ≤ 255) ∧ readGo 0 0 l0 = (r1, r2, r3) := by
    unfold readF at h; split at h
    · rename_i hh; injection h with h; exact ⟨hh, h⟩
    · cases h
  have HG := Aside0.mk hrng
  have HN := Aside0.mk hgo
  clear hr0 h hc0 hrng hgo
  go_enter Try.func84, Try.ntmps84
  go_wp2_with fail
  go_loopw [2, 10] (fun v i wr => ∃ (k : Nat) (x : Int), i = .int .i64 k ∧ v = .int .i64 x ∧ k ≤ 8 ∧ k ≤ l0.length ∧ 0 ≤ x ∧ Aside0 (x < 2 ^ (7 * k)) ∧ Aside0 (readGo k x (l0.drop k) = (r1, r2, r3)) ∧ Aside0 (Drawn0 w wr)) (fun _ i _ => l0.length - (intOf i).toNat)
  case atStart => exact ⟨0, 0, rfl, rfl, by omega, Nat.zero_le _, by omega, ⟨by decide⟩, HN, ⟨Drawn0.refl _⟩⟩
  case round =>
    clear HN
    obtain ⟨k, x, rfl, rfl, hk8, hk, hx0, Hx, HA, Hd⟩ := hrel
    by_cases hlt : k < l0.length
    · rw [drop_step hlt] at HA
      obtain ⟨ad, e, hcell⟩ := at_num (Kd.C_below HR0.out Hd.out.below) k hlt
      subst e
      have hcr := HG.out l0[k] (List.getElem_mem hlt)
      generalize l0[k] = c at hcell HA hcr
      obtain ⟨hc0, hc1⟩ := hcr
      have Hc := Aside0.mk (⟨hc0, hc1⟩ : 0 ≤ c ∧ c ≤ 255)
      by_cases hA1 : 8 ≤ k ∧ 64 ≤ c
      · have hr := HA.out
        rw [readGo, if_pos (by omega)] at hr
        simp only [Prod.mk.injEq] at hr
        obtain ⟨rfl, rfl, rfl⟩ := hr
        obtain ⟨h8, h64⟩ := hA1
        have b8 : ((k : Int) == 8) = true := by simp; omega
        go_wp2
        go_ret3
        exact ⟨rfl, Hd.out⟩
      · obtain ⟨b, b8, hb⟩ : ∃ b : Bool, ((k : Int) == 8) = b ∧ (b = true → c < 64) := ⟨_, rfl, fun h => by simp at h; omega⟩
        by_cases hA2 : c ≤ 0 ∧ 0 < k
        · have hr := HA.out
          rw [readGo, if_pos (by omega)] at hr
          simp only [Prod.mk.injEq] at hr
          obtain ⟨rfl, rfl, rfl⟩ := hr
          obtain ⟨hz, hk0⟩ := hA2
          have bz : (c == 0) = true := by simp; omega
          cases b
          all_goals
            clear hb
            go_wp2
            go_ret3
            exact ⟨rfl, Hd.out⟩
        · have hr := HA.out
          rw [readGo, if_neg (by omega)] at hr
          obtain ⟨bz, hbz, hz⟩ : ∃ bz : Bool, (c == 0) = bz ∧ (bz = true → k ≤ 0) := ⟨_, rfl, fun h => by simp at h; omega⟩
          by_cases c128 : c < 128
          · rw [if_pos c128] at hr
            have hs := or_step hx0 Hx.out hk8 hc0 hc1 (fun h => by omega)
            simp only [Prod.mk.injEq] at hr
            obtain ⟨rfl, rfl, rfl⟩ := hr
            have Hs := Aside0.mk hs.1
            clear hs hA1 hA2
            cases b <;> cases bz
            all_goals
              try have hc6 := hb rfl
              clear hb
              try have hk0 : decide (0 < k) = false := by have := hz rfl; simp; omega
              clear hz
              go_wp2
              go_ret3
              refine ⟨?_, Hd.out⟩
              show Ending.returned (Value.tuple #[Value.int .i64 (bits BinOp.or IntKind.i64 x (wrap64 (wrap64 (bits BinOp.andNot IntKind.u8 c 128) * 2 ^ (7 * k)))), Value.int .i64 ((k : Int) + 1), Value.int .i64 0]) = _
              rw [Hs.out]
          · rw [if_neg c128] at hr
            have HA2 := Aside0.mk hr
            have hs := or_step hx0 Hx.out hk8 hc0 hc1 (fun h => by omega)
            have e1 : b = false := by rw [← b8]; simp; omega
            have e2 : bz = false := by rw [← hbz]; simp; omega
            subst e1 e2
            have Hs := Aside0.mk hs
            clear hr HA hs hA1 hA2 hb hz
            have hk7 : k + 1 ≤ 8 := by have := b8; simp at this; omega
            go_wp2
            refine ⟨⟨k + 1, x + c % 128 * 2 ^ (7 * k), by go_num, by rw [Hs.out.1], hk7, by omega, Hs.out.2.2.1, ⟨Hs.out.2.1⟩, HA2, Hd⟩, by simp [intOf]; omega⟩
    · have hr := HA.out
      rw [List.drop_eq_nil_of_le (by omega), readGo] at hr
      simp only [Prod.mk.injEq] at hr
      obtain ⟨rfl, rfl, rfl⟩ := hr
      go_wp2
      go_ret3
      exact ⟨rfl, Hd.out⟩
end Go.Proofs.Ytijccobeljoikaa.Walks
