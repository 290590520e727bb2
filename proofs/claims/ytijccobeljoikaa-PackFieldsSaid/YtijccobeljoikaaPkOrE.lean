/- The document's Read: the number at the beginning, and the rest. -/
import Derived.Test.YtijccobeljoikaaPkx2
import Derived.Test.YtijccobeljoikaaBaseB
namespace Go.Proofs.Ytijccobeljoikaa.Pk
open Go.RowKit Go.Proofs.YtijccobeljoikaaW.PrintWords Go.Proofs.YtijccobeljoikaaW.PrintLast Go.Proofs.YtijccobeljoikaaW.PrintMore
open Go.Proofs.Ytijccobeljoikaa.Plain Go.Proofs.Ytijccobeljoikaa.Walks
set_option linter.unusedVariables false
set_option linter.unusedSimpArgs false

/-- What Read answers, out of what reading comes to. -/
def refAns (l : List Int) (t : Int × Int × Int) : Int × List Int × Int := if t.2.2 = 0 then (t.1, l.drop t.2.1.toNat, 0) else (0, [], t.2.2)
def stanchionref01_Read.f (l0 : List Int) : Option (Int × List Int × Int) := if (∀ c ∈ l0, 0 ≤ c ∧ c ≤ 255) ∧ l0.length < 140737488355328 then some (refAns l0 (readGo 0 0 l0)) else none
theorem shl_step {x c : Int} {k : Nat} (hx0 : 0 ≤ x) (hx : x < 2 ^ (7 * k)) (hk : k ≤ 8) (hc0 : 0 ≤ c) (hc1 : c ≤ 255) (h8 : 8 ≤ k → c < 64) : 0 ≤ c % 128 * 2 ^ (7 * k) ∧ c % 128 * 2 ^ (7 * k) < 4611686018427387904 := by
  have h := or_step hx0 hx hk hc0 hc1 h8
  have h0 : (0 : Int) ≤ c % 128 * 2 ^ (7 * k) := Int.mul_nonneg (by omega) (Int.pow_nonneg (by omega))
  omega

set_option maxHeartbeats 4000000 in
set_option maxRecDepth 100000 in
theorem stanchionref01_Read.calls (A0 : Option Addr) (c0 : Nat) (l0 : List Int) (r1 : Int) (r2 : List Int) (r3 : Int) (w : World) (hr0 : Kd.C (Kd.int .u8) w A0 l0.length l0) (hc0 : l0.length ≤ c0) (h : stanchionref01_Read.f l0 = some (r1, r2, r3)) :
    Calls Try.prog 37 #[.slice A0 l0.length c0] w fun e w' => ∃ v1_ : Value, e = .returned (.tuple #[.int .i64 r1, v1_, .int .i64 r3]) ∧ Kd.R (Kd.int .u8) 5 w' w.heap.size (fun _ => True) v1_ r2 ∧ Below w.heap.size w w' := by
  have hm : l0.length ≤ 9223372036854775807 := hr0.2.1
  have HR0 := Aside0.mk hr0
  obtain ⟨⟨hrng, hlim⟩, hgo⟩ : ((∀ c ∈ l0, 0 ≤ c ∧ c ≤ 255) ∧ l0.length < 140737488355328) ∧ refAns l0 (readGo 0 0 l0) = (r1, r2, r3) := by
    unfold stanchionref01_Read.f at h; split at h
    · rename_i hh; injection h with h; exact ⟨hh, h⟩
    · cases h
  have HG := Aside0.mk hrng
  have HN := Aside0.mk hgo
  have HC0 := Aside0.mk hc0
  have HLim := Aside0.mk hlim
  clear hr0 h hc0 hrng hgo hlim
  go_enter Try.func37, Try.ntmps37
  go_wp2_with fail
  go_loopw [5, 6] (fun v i wr => ∃ (k : Nat) (x : Int), i = .int .i64 k ∧ v = .int .i64 x ∧ k ≤ 8 ∧ k ≤ l0.length ∧ 0 ≤ x ∧ Aside0 (x < 2 ^ (7 * k)) ∧ Aside0 (refAns l0 (readGo k x (l0.drop k)) = (r1, r2, r3)) ∧ Aside0 (Drawn0 w wr)) (fun _ i _ => l0.length - (intOf i).toNat)
  case atStart => exact ⟨0, 0, rfl, rfl, by omega, Nat.zero_le _, by omega, ⟨by decide⟩, HN, ⟨Drawn0.refl _⟩⟩
  case round =>
    clear HN
    obtain ⟨k, x, rfl, rfl, hk8, hk, hx0, Hx, HA, Hd⟩ := hrel
    by_cases hlt : k < l0.length
    · rw [drop_step hlt] at HA
      obtain ⟨ad, e, hcell⟩ := at_num (Kd.C_below HR0.out Hd.out.below) k hlt
      subst e
      have hcr := HG.out l0[k] (List.getElem_mem hlt)
      generalize l0[k] = c at hcell HA hcr
      obtain ⟨hc0, hc1⟩ := hcr
      have Hc := Aside0.mk (⟨hc0, hc1⟩ : 0 ≤ c ∧ c ≤ 255)
      by_cases hA1 : 8 ≤ k ∧ 64 ≤ c
      · have hr := HA.out
        rw [readGo, if_pos (by omega)] at hr
        simp only [refAns, Prod.mk.injEq] at hr
        obtain ⟨rfl, rfl, rfl⟩ := hr
        obtain ⟨h8, h64⟩ := hA1
        have b8 : ((k : Int) == 8) = true := by simp; omega
        by_cases c128 : c < 128
        · have bg : decide (63 < c % 128) = true := by simp; omega
          go_wp2
          go_ret3
          exact ⟨_, rfl, Kd.R_nil _ _ _ _ _, Hd.out.below⟩
        · go_wp2
          go_ret3
          exact ⟨_, rfl, Kd.R_nil _ _ _ _ _, Hd.out.below⟩
      · obtain ⟨b, b8, hb⟩ : ∃ b : Bool, ((k : Int) == 8) = b ∧ (b = true → c < 64) := ⟨_, rfl, fun h => by simp at h; omega⟩
        by_cases hA2 : c ≤ 0 ∧ 0 < k
        · have hr := HA.out
          rw [readGo, if_pos (by omega)] at hr
          simp only [refAns, Prod.mk.injEq] at hr
          obtain ⟨rfl, rfl, rfl⟩ := hr
          obtain ⟨hz, hk0⟩ := hA2
          have bz : (c % 128 == 0) = true := by simp; omega
          cases b
          all_goals
            clear hb
            go_wp2
            go_ret3
            exact ⟨_, rfl, Kd.R_nil _ _ _ _ _, Hd.out.below⟩
        · have hr := HA.out
          rw [readGo, if_neg (by omega)] at hr
          have hs := or_step hx0 Hx.out hk8 hc0 hc1 (fun h => by omega)
          have hsh := shl_step hx0 Hx.out hk8 hc0 hc1 (fun h => by omega)
          have Hs := Aside0.mk hs
          obtain ⟨hsh0, hsh1⟩ := hsh
          have hs3 := hs.2.2.2
          have hs0 := hs.2.2.1
          clear hs
          by_cases c128 : c < 128
          · rw [if_pos c128] at hr
            simp only [refAns, if_true, Prod.mk.injEq] at hr
            obtain ⟨rfl, hr2, rfl⟩ := hr
            have hd1 : ((k : Int) + 1).toNat = k + 1 := by omega
            rw [hd1] at hr2
            obtain ⟨A1, ys, hys, hyc, hcut, hAd⟩ := cut_bytes (some ad) c0 (k + 1) l0 (by omega) HC0.out
            rw [show ((k + 1 : Nat) : Int) = (k : Int) + 1 by omega] at hcut
            have hcp : stanchionref00_CopyBytes.f ys = some ys := by
              unfold stanchionref00_CopyBytes.f
              have hyl : ys.length < 140737488355328 := by have := HLim.out; rw [hys, List.length_drop]; omega
              simp [hyl]
            have Hy := Aside0.mk (hys.trans hr2)
            have HA1 := Aside0.mk (hAd wr (Kd.C_below HR0.out Hd.out.below))
            have Hcp := Aside0.mk hcp
            have Hyc := Aside0.mk hyc
            clear hys hr2 hAd hcp hyc hd1
            cases b <;> cases hbz : (c % 128 == 0)
            all_goals
              try have hc6 := hb rfl
              clear hb
              have hk0 : (c % 128 == 0) = true → decide (0 < k) = false := fun h => by simp at h; simp; omega
              try have hk1 := hk0 hbz
              clear hk0
              clear hA1 hA2
              go_wp2_with (go_at_call 41; refine (stanchionref00_CopyBytes.calls A1 _ ys ys _ HA1.out Hyc.out Hcp.out).mono ?_; rintro e w1 ⟨v1, rfl, hR, hB⟩; have HR1 := Aside0.mk hR; have HB1 := Aside0.mk hB; clear hR hB)
              go_ret3
              exact ⟨v1, rfl, by rw [← Hy.out]; exact Kd.R_lower HR1.out Hd.out.below.size, below_then Hd.out.below Hd.out.below.size HB1.out⟩
          · rw [if_neg c128] at hr
            have HA2 := Aside0.mk hr
            have e1 : b = false := by rw [← b8]; simp; omega
            subst e1
            clear hr HA hA1 hA2 hb
            have hk7 : k + 1 ≤ 8 := by have := b8; simp at this; omega
            go_wp2
            exact ⟨⟨k + 1, x + c % 128 * 2 ^ (7 * k), by go_num, rfl, hk7, by omega, Hs.out.2.2.1, ⟨Hs.out.2.1⟩, HA2, Hd⟩, by simp [intOf]; omega⟩
    · have hr := HA.out
      rw [List.drop_eq_nil_of_le (by omega), readGo] at hr
      simp only [refAns, Prod.mk.injEq] at hr
      obtain ⟨rfl, rfl, rfl⟩ := hr
      go_wp2
      go_ret3
      exact ⟨_, rfl, Kd.R_nil _ _ _ _ _, Hd.out.below⟩
end Go.Proofs.Ytijccobeljoikaa.Pk
