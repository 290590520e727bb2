/- Put together of my texts: MtZ, MuC. -/
import Derived.Test.YtijccobeljoikaaMi14
import Derived.Test.YtijccobeljoikaaMi1
import Derived.Test.YtijccobeljoikaaMi7
/- msg: the document's Read, Split, Ints; nums. Its first part was taken over (mkref2.py) from my texts of the pack laws. -/
namespace Go.Proofs.Ytijccobeljoikaa.Pk
open Go.RowKit Go.Proofs.YtijccobeljoikaaW.PrintWords Go.Proofs.YtijccobeljoikaaW.PrintLast
open Go.Proofs.Ytijccobeljoikaa.Plain Go.Proofs.Ytijccobeljoikaa.Walks
set_option linter.unusedVariables false
set_option linter.unusedSimpArgs false

def stanchionref00_CopyBytes.f (l : List Int) : Option (List Int) := if l.length < 140737488355328 then some l else none
theorem stanchionref00_CopyBytes.calls (A0 : Option Addr) (c0 : Nat) (l0 : List Int) (r : List Int) (w : World) (hr0 : Kd.C (Kd.int .u8) w A0 l0.length l0) (hc0 : l0.length ≤ c0) (h : stanchionref00_CopyBytes.f l0 = some r) :
    Calls Try.prog 41 #[.slice A0 l0.length c0] w fun e w' => ∃ v0_ : Value, e = .returned v0_ ∧ Kd.R (Kd.int .u8) 5 w' w.heap.size (fun _ => True) v0_ r ∧ Below w.heap.size w w' := by
  unfold stanchionref00_CopyBytes.f at h
  split at h
  · obtain rfl := Option.some.inj h
    refine (Ms.copyBytes_calls A0 c0 l0 w hr0 hc0 (by omega)).mono ?_
    rintro e w' ⟨A1, c1, rfl, hG⟩
    exact ⟨_, rfl, Kd.R_mono hG.own (fun _ _ => trivial), hG.keep⟩
  · cases h
/-- What Read answers, out of what reading comes to. -/
def refAns (l : List Int) (t : Int × Int × Int) : Int × List Int × Int := if t.2.2 = 0 then (t.1, l.drop t.2.1.toNat, 0) else (0, [], t.2.2)
def stanchionref01_Read.f (l0 : List Int) : Option (Int × List Int × Int) := if (∀ c ∈ l0, 0 ≤ c ∧ c ≤ 255) ∧ l0.length < 140737488355328 then some (refAns l0 (readGo 0 0 l0)) else none
theorem shl_step {x c : Int} {k : Nat} (hx0 : 0 ≤ x) (hx : x < 2 ^ (7 * k)) (hk : k ≤ 8) (hc0 : 0 ≤ c) (hc1 : c ≤ 255) (h8 : 8 ≤ k → c < 64) : 0 ≤ c % 128 * 2 ^ (7 * k) ∧ c % 128 * 2 ^ (7 * k) < 4611686018427387904 := by
  have h := or_step hx0 hx hk hc0 hc1 h8
  have h0 : (0 : Int) ≤ c % 128 * 2 ^ (7 * k) := Int.mul_nonneg (by omega) (Int.pow_nonneg (by omega))
  omega

set_option maxHeartbeats 4000000 in
set_option maxRecDepth 100000 in
theorem stanchionref01_Read.calls (A0 : Option Addr) (c0 : Nat) (l0 : List Int) (r1 : Int) (r2 : List Int) (r3 : Int) (w : World) (hr0 : Kd.C (Kd.int .u8) w A0 l0.length l0) (hc0 : l0.length ≤ c0) (h : stanchionref01_Read.f l0 = some (r1, r2, r3)) :
    Calls Try.prog 37 #[.slice A0 l0.length c0] w fun e w' => ∃ v1_ : Value, e = .returned (.tuple #[.int .i64 r1, v1_, .int .i64 r3]) ∧ Kd.R (Kd.int .u8) 5 w' w.heap.size (fun _ => True) v1_ r2 ∧ Below w.heap.size w w' := by
  have hm : l0.length ≤ 9223372036854775807 := hr0.2.1
  have HR0 := Aside0.mk hr0
  obtain ⟨⟨hrng, hlim⟩, hgo⟩ : ((∀ c ∈ l0, 0 ≤ c ∧ c ≤ 255) ∧ l0.length < 140737488355328) ∧ refAns l0 (readGo 0 0 l0) = (r1, r2, r3) := by
    unfold stanchionref01_Read.f at h; split at h
    · rename_i hh; injection h with h; exact ⟨hh, h⟩
    · cases h
  have HG := Aside0.mk hrng
  have HN := Aside0.mk hgo
  have HC0 := Aside0.mk hc0
  have HLim := Aside0.mk hlim
  clear hr0 h hc0 hrng hgo hlim
  go_enter Try.func37, Try.ntmps37
  go_wp2_with fail
  go_loopw [5, 6] (fun v i wr => ∃ (k : Nat) (x : Int), i = .int .i64 k ∧ v = .int .i64 x ∧ k ≤ 8 ∧ k ≤ l0.length ∧ 0 ≤ x ∧ Aside0 (x < 2 ^ (7 * k)) ∧ Aside0 (refAns l0 (readGo k x (l0.drop k)) = (r1, r2, r3)) ∧ Aside0 (Drawn0 w wr)) (fun _ i _ => l0.length - (intOf i).toNat)
  case atStart => exact ⟨0, 0, rfl, rfl, by omega, Nat.zero_le _, by omega, ⟨by decide⟩, HN, ⟨Drawn0.refl _⟩⟩
  case round =>
    clear HN
    obtain ⟨k, x, rfl, rfl, hk8, hk, hx0, Hx, HA, Hd⟩ := hrel
    by_cases hlt : k < l0.length
    · rw [drop_step hlt] at HA
      obtain ⟨ad, e, hcell⟩ := at_num (Kd.C_below HR0.out Hd.out.below) k hlt
      subst e
      have hcr := HG.out l0[k] (List.getElem_mem hlt)
      generalize l0[k] = c at hcell HA hcr
      obtain ⟨hc0, hc1⟩ := hcr
      have Hc := Aside0.mk (⟨hc0, hc1⟩ : 0 ≤ c ∧ c ≤ 255)
      by_cases hA1 : 8 ≤ k ∧ 64 ≤ c
      · have hr := HA.out
        rw [readGo, if_pos (by omega)] at hr
        simp only [refAns, Prod.mk.injEq] at hr
        obtain ⟨rfl, rfl, rfl⟩ := hr
        obtain ⟨h8, h64⟩ := hA1
        have b8 : ((k : Int) == 8) = true := by simp; omega
        by_cases c128 : c < 128
        · have bg : decide (63 < c % 128) = true := by simp; omega
          go_wp2
          go_ret3
          exact ⟨_, rfl, Kd.R_nil _ _ _ _ _, Hd.out.below⟩
        · go_wp2
          go_ret3
          exact ⟨_, rfl, Kd.R_nil _ _ _ _ _, Hd.out.below⟩
      · obtain ⟨b, b8, hb⟩ : ∃ b : Bool, ((k : Int) == 8) = b ∧ (b = true → c < 64) := ⟨_, rfl, fun h => by simp at h; omega⟩
        by_cases hA2 : c ≤ 0 ∧ 0 < k
        · have hr := HA.out
          rw [readGo, if_pos (by omega)] at hr
          simp only [refAns, Prod.mk.injEq] at hr
          obtain ⟨rfl, rfl, rfl⟩ := hr
          obtain ⟨hz, hk0⟩ := hA2
          have bz : (c % 128 == 0) = true := by simp; omega
          cases b
          all_goals
            clear hb
            go_wp2
            go_ret3
            exact ⟨_, rfl, Kd.R_nil _ _ _ _ _, Hd.out.below⟩
        · have hr := HA.out
          rw [readGo, if_neg (by omega)] at hr
          have hs := or_step hx0 Hx.out hk8 hc0 hc1 (fun h => by omega)
          have hsh := shl_step hx0 Hx.out hk8 hc0 hc1 (fun h => by omega)
          have Hs := Aside0.mk hs
          obtain ⟨hsh0, hsh1⟩ := hsh
          have hs3 := hs.2.2.2
          have hs0 := hs.2.2.1
          clear hs
          by_cases c128 : c < 128
          · rw [if_pos c128] at hr
            simp only [refAns, if_true, Prod.mk.injEq] at hr
            obtain ⟨rfl, hr2, rfl⟩ := hr
            have hd1 : ((k : Int) + 1).toNat = k + 1 := by omega
            rw [hd1] at hr2
            obtain ⟨A1, ys, hys, hyc, hcut, hAd⟩ := cut_bytes (some ad) c0 (k + 1) l0 (by omega) HC0.out
            rw [show ((k + 1 : Nat) : Int) = (k : Int) + 1 by omega] at hcut
            have hcp : stanchionref00_CopyBytes.f ys = some ys := by
              unfold stanchionref00_CopyBytes.f
              have hyl : ys.length < 140737488355328 := by have := HLim.out; rw [hys, List.length_drop]; omega
              simp [hyl]
            have Hy := Aside0.mk (hys.trans hr2)
            have HA1 := Aside0.mk (hAd wr (Kd.C_below HR0.out Hd.out.below))
            have Hcp := Aside0.mk hcp
            have Hyc := Aside0.mk hyc
            clear hys hr2 hAd hcp hyc hd1
            cases b <;> cases hbz : (c % 128 == 0)
            all_goals
              try have hc6 := hb rfl
              clear hb
              have hk0 : (c % 128 == 0) = true → decide (0 < k) = false := fun h => by simp at h; simp; omega
              try have hk1 := hk0 hbz
              clear hk0
              clear hA1 hA2
              go_wp2_with (go_at_call 41; refine (stanchionref00_CopyBytes.calls A1 _ ys ys _ HA1.out Hyc.out Hcp.out).mono ?_; rintro e w1 ⟨v1, rfl, hR, hB⟩; have HR1 := Aside0.mk hR; have HB1 := Aside0.mk hB; clear hR hB)
              go_ret3
              exact ⟨v1, rfl, by rw [← Hy.out]; exact Kd.R_lower HR1.out Hd.out.below.size, below_then Hd.out.below Hd.out.below.size HB1.out⟩
          · rw [if_neg c128] at hr
            have HA2 := Aside0.mk hr
            have e1 : b = false := by rw [← b8]; simp; omega
            subst e1
            clear hr HA hA1 hA2 hb
            have hk7 : k + 1 ≤ 8 := by have := b8; simp at this; omega
            go_wp2
            exact ⟨⟨k + 1, x + c % 128 * 2 ^ (7 * k), by go_num, rfl, hk7, by omega, Hs.out.2.2.1, ⟨Hs.out.2.1⟩, HA2, Hd⟩, by simp [intOf]; omega⟩
    · have hr := HA.out
      rw [List.drop_eq_nil_of_le (by omega), readGo] at hr
      simp only [refAns, Prod.mk.injEq] at hr
      obtain ⟨rfl, rfl, rfl⟩ := hr
      go_wp2
      go_ret3
      exact ⟨_, rfl, Kd.R_nil _ _ _ _ _, Hd.out.below⟩
def stanchionref01_Split.f (l0 : List Int) : Option ((List (List Int)) × Int) := if Byte l0 ∧ l0.length < 140737488355328 then some (splitGo (l0.length + 1) [] l0) else none

theorem rows_lit_nil (w : World) (ok : Nat → Prop) (hok : ok w.heap.size) : Kd.R (Kd.slice 5 (Kd.int .u8)) 22 (w.alloc (.cells #[] 22)) w.heap.size ok (.slice (some ⟨w.heap.size, 0, none⟩) 0 0) [] :=
  ⟨fun k hk => by simp [Value.ownBlock] at hk; rw [← hk]; exact hok, [], World.ownsRow_lit (base := w.heap.size) (e := 22) (size := 1) w #[] 0 (Nat.le_refl _) (by simp [maxLen]) rfl, Reps.none _ _⟩

theorem field_M {w2 : World} {b0 b1 : Nat} (hb : b0 ≤ b1) {vf v : Value} {zs : List Int} {acc : List (List Int)} {ok : Nat → Prop} (hf : Kd.R (Kd.int .u8) 5 w2 b1 (fun _ => True) vf zs) (hO : Kd.R (Kd.slice 5 (Kd.int .u8)) 22 w2 b0 ok v acc) :
    (Kd.slice 5 (Kd.int .u8)).M w2 b0 (fun k => b0 ≤ k ∧ some k ≠ v.ownBlock) zs [vf] :=
  Kd.M_row (Kd.R_lower (Kd.R_mono (Kd.R_apart' (Kd.R_bound hf) (Kd.R_typed hO) (by decide)) (fun k hk => ⟨by have := hk.1.2.1; omega, hk.2⟩)) hb)

set_option maxHeartbeats 4000000 in
set_option maxRecDepth 100000 in
theorem stanchionref01_Split.calls (A0 : Option Addr) (c0 : Nat) (l0 : List Int) (r1 : List (List Int)) (r2 : Int) (w : World) (hr0 : Kd.C (Kd.int .u8) w A0 l0.length l0) (hc0 : l0.length ≤ c0) (h : stanchionref01_Split.f l0 = some (r1, r2)) :
    Calls Try.prog 40 #[.slice A0 l0.length c0] w fun e w' => ∃ v0_ : Value, e = .returned (.tuple #[v0_, .int .i64 r2]) ∧ Kd.R (Kd.slice 5 (Kd.int .u8)) 22 w' w.heap.size (fun k_ => (w.heap.size ≤ k_)) v0_ r1 ∧ Below w.heap.size w w' := by
  have HR0 := Aside0.mk hr0
  obtain ⟨⟨hrng, hlim⟩, hgo⟩ : (Byte l0 ∧ l0.length < 140737488355328) ∧ splitGo (l0.length + 1) [] l0 = (r1, r2) := by
    unfold stanchionref01_Split.f at h; split at h
    · rename_i hh; injection h with h; exact ⟨hh, h⟩
    · cases h
  have HG := Aside0.mk hrng
  have HN := Aside0.mk hgo
  have HC0 := Aside0.mk hc0
  have HLim := Aside0.mk hlim
  clear hr0 h hc0 hrng hgo
  go_enter Try.func40, Try.ntmps40
  go_wp2_with fail
  go_loopw [0, 4] (fun b v wr => ∃ (k : Nat) (acc : List (List Int)) (xs : List Int) (A : Option Addr) (c : Nat), b = .slice A xs.length c ∧ Aside0 (xs.length ≤ c) ∧ xs.length < k ∧ xs.length < 140737488355328 ∧ acc.length ≤ 1024 ∧ Aside0 (Byte xs) ∧
      Aside0 (Kd.C (Kd.int .u8) wr A xs.length xs) ∧ Aside0 (Kd.R (Kd.slice 5 (Kd.int .u8)) 22 wr w.heap.size (fun k_ => w.heap.size ≤ k_) v acc) ∧ Aside0 (splitGo k acc xs = (r1, r2)) ∧ Aside0 (Below w.heap.size w wr)) (fun b _ _ => lenOfV b)
  case atStart =>
    exact ⟨l0.length + 1, [], l0, A0, c0, rfl, HC0, by omega, hlim, by simp, HG, ⟨Kd.C_alloc HR0.out _⟩, ⟨rows_lit_nil _ _ (Nat.le_refl _)⟩, HN, ⟨(Below.refl _ _).alloc (Nat.le_refl _) _⟩⟩
  case round =>
    clear HN
    obtain ⟨k, acc, xs, A, c, rfl, Hc, hxk, hxl, hacc, HB, HC, HR, HA, Hb⟩ := hrel
    obtain ⟨Av, cv, ev⟩ := Kd.R_slice HR.out
    subst ev
    obtain ⟨k, rfl⟩ : ∃ m, k = m + 1 := ⟨k - 1, by omega⟩
    by_cases h0 : xs.length = 0
    · have hr := HA.out
      rw [splitGo, if_pos h0] at hr
      obtain ⟨rfl, rfl⟩ := Prod.mk.inj hr
      have b0 : decide ((0 : Int) < (xs.length : Int)) = false := decide_eq_false (by omega)
      have b0' : decide (0 < xs.length) = false := decide_eq_false (by omega)
      clear hr h0
      go_wp2
      go_ret2
      exact ⟨_, rfl, HR.out, Hb.out⟩
    · have b0 : decide ((0 : Int) < (xs.length : Int)) = true := decide_eq_true (by omega)
      have b0' : decide (0 < xs.length) = true := decide_eq_true (by omega)
      by_cases h1 : acc.length = 1024
      · have hr := HA.out
        rw [splitGo, if_neg h0, if_pos h1] at hr
        obtain ⟨rfl, rfl⟩ := Prod.mk.inj hr
        have b1 : ((acc.length : Int) == 1024) = true := by simp; omega
        clear hr h0 h1
        go_wp2
        go_ret2
        exact ⟨_, rfl, Kd.R_nil _ _ _ _ _, Hb.out⟩
      · have b1 : ((acc.length : Int) == 1024) = false := by simp; omega
        have hr := HA.out
        rw [splitGo, if_neg h0, if_neg h1] at hr
        have hread : stanchionref01_Read.f xs = some (refAns xs (readGo 0 0 xs)) := if_pos ⟨HB.out, hxl⟩
        have htold := readGo_told xs 0 0 (by omega) HB.out
        generalize readGo 0 0 xs = t at hr hread htold
        obtain ⟨n, m, e⟩ := t
        simp only at hr htold
        have hacc1 : acc.length < 1024 := by omega
        have hx0 : ¬ (xs.length = 0) := h0
        clear h0 h1 HA
        by_cases he : e = 0
        · subst he
          rw [if_neg (by simp)] at hr
          simp only [refAns, if_true] at hread
          obtain ⟨hn0, hm0, hm1⟩ := htold rfl
          obtain ⟨n, rfl⟩ := Int.eq_ofNat_of_zero_le hn0
          obtain ⟨m, rfl⟩ := Int.eq_ofNat_of_zero_le (show 0 ≤ m by omega)
          simp only [Int.toNat_natCast] at hr hread
          obtain ⟨ys, hys⟩ : ∃ ys, ys = xs.drop m := ⟨_, rfl⟩
          have hyl : ys.length + m = xs.length := by rw [hys, List.length_drop]; omega
          have hyb : Byte ys := by rw [hys]; exact HB.out.drop _
          rw [← hys] at hr hread
          have Hread := Aside0.mk hread
          have Hyb := Aside0.mk hyb
          have hyl2 : ys.length + 1 ≤ xs.length := by omega
          clear hread hys hyb hm0 hm1 htold hyl hn0
          have step : ∀ e w1, (∃ v1_ : Value, e = Ending.returned (.tuple #[.int .i64 (n : Int), v1_, .int .i64 0]) ∧ Kd.R (Kd.int .u8) 5 w1 wr.heap.size (fun _ => True) v1_ ys ∧ Below wr.heap.size wr w1) → ∃ (A1 : Option Addr) (c1 : Nat), e = Ending.returned (.tuple #[.int .i64 (n : Int), .slice A1 ys.length c1, .int .i64 0]) ∧ Aside0 (ys.length ≤ c1) ∧ Aside0 (Kd.R (Kd.int .u8) 5 w1 wr.heap.size (fun _ => True) (.slice A1 ys.length c1) ys) ∧ Aside0 (Below wr.heap.size wr w1) := by
            rintro e w1 ⟨v1, rfl, hR, hB⟩
            obtain ⟨A1, c1, rfl, hl, hC⟩ := Kd.R_reads hR
            exact ⟨A1, c1, rfl, ⟨hl⟩, ⟨hR⟩, ⟨hB⟩⟩
          have Hstep := Aside0.mk step
          clear step
          by_cases h2 : (65536 : Int) < (n : Int)
          · rw [if_pos h2] at hr
            obtain ⟨rfl, rfl⟩ := Prod.mk.inj hr
            clear hr
            go_wp2_with (go_at_call 37; refine (stanchionref01_Read.calls A c xs _ _ _ _ HC.out Hc.out Hread.out).mono ?_; intro e w1 hh; obtain ⟨A1, c1, rfl, Hc1, HC1, HB1⟩ := Hstep.out e w1 hh; clear hh)
            go_ret2
            exact ⟨_, rfl, Kd.R_nil _ _ _ _ _, below_then Hb.out Hb.out.size HB1.out⟩
          · rw [if_neg h2] at hr
            by_cases h3 : ((ys.length : Int) < (n : Int))
            · rw [if_pos h3] at hr
              obtain ⟨rfl, rfl⟩ := Prod.mk.inj hr
              clear hr
              go_wp2_with (go_at_call 37; refine (stanchionref01_Read.calls A c xs _ _ _ _ HC.out Hc.out Hread.out).mono ?_; intro e w1 hh; obtain ⟨A1, c1, rfl, Hc1, HC1, HB1⟩ := Hstep.out e w1 hh; clear hh)
              go_ret2
              exact ⟨_, rfl, Kd.R_nil _ _ _ _ _, below_then Hb.out Hb.out.size HB1.out⟩
            · rw [if_neg h3] at hr
              have HA2 := Aside0.mk hr
              clear hr
              have hcopy : ∀ zs : List Int, zs.length ≤ ys.length → stanchionref00_CopyBytes.f zs = some zs := fun zs hz => by
                unfold stanchionref00_CopyBytes.f
                have : zs.length < 140737488355328 := by omega
                simp [this]
              have Hcopy := Aside0.mk hcopy
              clear hcopy
              go_wp2_with (first
                | (go_at_call 37; refine (stanchionref01_Read.calls A c xs _ _ _ _ HC.out Hc.out Hread.out).mono ?_; intro e w1 hh; obtain ⟨A1, c1, rfl, Hc1, HC1, HB1⟩ := Hstep.out e w1 hh; clear hh; obtain ⟨zs, hzs, hzc, htake, hzC⟩ := take_bytes A1 c1 n ys (by omega) Hc1.out; obtain ⟨A2, us, hus, huc, hcut, huC⟩ := cut_bytes A1 c1 n ys (by omega) Hc1.out; have hzl : zs.length ≤ ys.length := (by rw [hzs, List.length_take]; omega); have hul : us.length ≤ ys.length := (by rw [hus, List.length_drop]; omega); have Hzs := Aside0.mk hzs; have Hzc := Aside0.mk hzc; have HzC := Aside0.mk hzC; have Hus := Aside0.mk hus; have Huc := Aside0.mk huc; have HuC := Aside0.mk huC; clear hzs hzc hzC hus huc huC)
                | (go_at_call 41; refine (stanchionref00_CopyBytes.calls A1 c1 zs zs _ (HzC.out _ (Kd.R_reads' HC1.out).2.2) Hzc.out (Hcopy.out zs hzl)).mono ?_; rintro e w2 ⟨vf, rfl, hRf, hB2⟩; obtain ⟨Af, cf, ef⟩ := Kd.R_slice hRf; subst ef; have HRf := Aside0.mk hRf; have HB2 := Aside0.mk hB2; clear hRf hB2; have HR2 := Aside0.mk (Kd.R_below (Kd.R_below HR.out HB1.out) HB2.out); have Hb2 := Aside0.mk (below_then (below_then Hb.out Hb.out.size HB1.out) (by have := Hb.out.size; have := HB1.out.size; omega) HB2.out); have hs2 := Hb2.out.size; have hs1 : w.heap.size ≤ w1.heap.size := (by have := Hb.out.size; have := HB1.out.size; omega))
                | (at_builtin; refine Kd.R_append (Kd.slice 5 (Kd.int .u8)) (w0 := w) w.heap.size rfl (.tmp 30) (.tmp 35) 32 22 (.slice none 0 0) 24 rfl Try.underlying32 Walks.info22 rfl (by decide) (by omega) (.slice Av acc.length cv) acc zs [.slice Af zs.length cf] (fun k_ => w.heap.size ≤ k_) (fun k_ => w.heap.size ≤ k_ ∧ some k_ ≠ (Value.slice Av acc.length cv).ownBlock) rfl rfl (field_M hs1 HRf.out HR2.out) (fun _ h => h) (fun k hk => by omega) HR2.out Hb2.out hs2 (by omega) ?_; intro v3 w3 hR3 hB3 hg3 hat3; obtain ⟨A3, c3, e3⟩ := Kd.R_slice hR3; subst e3; have HR3 := Aside0.mk hR3; have HB3 := Aside0.mk hB3; have HU3 := Aside0.mk (HuC.out _ (Kd.R_reads' (Kd.R_grown (Kd.R_apart' (Kd.R_below HC1.out HB2.out) (Kd.R_typed HR2.out) (by decide)) hg3 (fun k hk => hk.2))).2.2); clear hR3 hB3 hg3 hat3))
              exact ⟨⟨k, acc ++ [zs], us, A2, c1 - n, rfl, Huc, by omega, by omega, by rw [List.length_append, List.length_singleton]; omega, ⟨by rw [Hus.out]; exact Hyb.out.drop _⟩, HU3, ⟨by have := HR3.out; rw [List.length_append, List.length_singleton] at this; exact this⟩, ⟨by rw [Hzs.out, Hus.out]; exact HA2.out⟩, HB3⟩, by simp only [lenOfV]; omega⟩
        · rw [if_pos he] at hr
          obtain ⟨rfl, rfl⟩ := Prod.mk.inj hr
          rw [refAns, if_neg he] at hread
          have Hread := Aside0.mk hread
          have be : (e != 0) = true := by simp [he]
          clear hr hread htold hx0 he
          go_wp2_with (go_at_call 37; refine (stanchionref01_Read.calls A c xs _ _ _ _ HC.out Hc.out Hread.out).mono ?_; rintro e w1 ⟨v1, rfl, hR, hB⟩; have HB1 := Aside0.mk hB; clear hR hB)
          go_ret2
          exact ⟨_, rfl, Kd.R_nil _ _ _ _ _, below_then Hb.out Hb.out.size HB1.out⟩
end Go.Proofs.Ytijccobeljoikaa.Pk
namespace Go.Proofs.Ytijccobeljoikaa.Ms
open Go.RowKit Go.Proofs.YtijccobeljoikaaW.PrintWords Go.Proofs.YtijccobeljoikaaW.PrintLast
open Go.Proofs.Ytijccobeljoikaa.Plain Go.Proofs.Ytijccobeljoikaa.Walks
set_option linter.unusedVariables false
set_option linter.unusedSimpArgs false

theorem refSplit_calls (A : Option Addr) (c : Nat) (l : List Int) (r : List (List Int)) (x : Int) (w : World) (hC : Kd.C (Kd.int .u8) w A l.length l) (hc : l.length ≤ c) (hb : Byte l) (hl : l.length < 140737488355328) (h : splitP l = (r, x)) :
    Calls Try.prog 40 #[.slice A l.length c] w fun e w' => ∃ A1 c1, e = .returned (.tuple #[.slice A1 r.length c1, .int .i64 x]) ∧ Got (Kd.slice 5 (Kd.int .u8)) 22 w w' A1 c1 r := by
  refine (Pk.stanchionref01_Split.calls A c l r x w hC hc (by unfold Pk.stanchionref01_Split.f; rw [if_pos ⟨hb, hl⟩]; exact congrArg some h)).mono ?_
  rintro e w' ⟨v, rfl, hR, hB⟩
  obtain ⟨A1, c1, rfl⟩ := Kd.R_slice hR
  exact ⟨A1, c1, rfl, ⟨hR, hB⟩⟩
set_option maxHeartbeats 4000000 in
set_option maxRecDepth 100000 in
theorem refInts_calls (A0 : Option Addr) (c0 : Nat) (l0 : List Int) (r1 : List Int) (r2 : Int) (w : World) (hr0 : Kd.C (Kd.int .u8) w A0 l0.length l0) (hc0 : l0.length ≤ c0) (hb : Byte l0) (hl : l0.length < 17592186044416) (h : intsP l0 = (r1, r2)) :
    Calls Try.prog 46 #[.slice A0 l0.length c0] w fun e w' => ∃ A1 c1, e = .returned (.tuple #[.slice A1 r1.length c1, .int .i64 r2]) ∧ Got (Kd.int .i64) 3 w w' A1 c1 r1 := by
  have HR0 := Aside0.mk hr0
  have hgo : intsGo (l0.length + 1) [] l0 = (r1, r2) := h
  have HG := Aside0.mk hb
  have HN := Aside0.mk hgo
  have HC0 := Aside0.mk hc0
  clear hr0 h hc0 hb hgo
  go_enter Try.func46, Try.ntmps46
  go_wp2_with fail
  go_loopw [0, 4] (fun b v wr => ∃ (k : Nat) (acc : List Int) (xs : List Int) (A : Option Addr) (c : Nat), b = .slice A xs.length c ∧ Aside0 (xs.length ≤ c) ∧ xs.length < k ∧ acc.length + xs.length < 17592186044416 ∧ Aside0 (Byte xs) ∧
      Aside0 (Kd.C (Kd.int .u8) wr A xs.length xs) ∧ Aside0 (Kd.R (Kd.int .i64) 3 wr w.heap.size (fun k_ => w.heap.size ≤ k_) v acc) ∧ Aside0 (intsGo k acc xs = (r1, r2)) ∧ Aside0 (Below w.heap.size w wr)) (fun b _ _ => lenOfV b)
  case atStart =>
    exact ⟨l0.length + 1, [], l0, A0, c0, rfl, HC0, by omega, by simpa using hl, HG, ⟨Kd.C_alloc HR0.out _⟩, ⟨new_R (Kd.int .i64) 3 w w.heap.size _ (Nat.le_refl _) (Nat.le_refl _)⟩, HN, ⟨(Below.refl _ _).alloc (Nat.le_refl _) _⟩⟩
  case round =>
    clear HN
    obtain ⟨k, acc, xs, A, c, rfl, Hc, hxk, hxl, HB, HC, HR, HA, Hb⟩ := hrel
    obtain ⟨Av, cv, ev⟩ := Kd.R_slice HR.out
    subst ev
    obtain ⟨k, rfl⟩ : ∃ m, k = m + 1 := ⟨k - 1, by omega⟩
    by_cases h0 : xs.length = 0
    · have hr := HA.out
      rw [intsGo, if_pos h0] at hr
      obtain ⟨rfl, rfl⟩ := Prod.mk.inj hr
      have b0 : decide ((0 : Int) < (xs.length : Int)) = false := decide_eq_false (by omega)
      have b0' : decide (0 < xs.length) = false := decide_eq_false (by omega)
      clear hr h0
      go_wp2
      go_ret2
      exact ⟨_, _, rfl, HR.out, Hb.out⟩
    · have b0 : decide ((0 : Int) < (xs.length : Int)) = true := decide_eq_true (by omega)
      have b0' : decide (0 < xs.length) = true := decide_eq_true (by omega)
      have hr := HA.out
      rw [intsGo, if_neg h0] at hr
      have hread : Pk.stanchionref01_Read.f xs = some (Pk.refAns xs (readGo 0 0 xs)) := if_pos ⟨HB.out, by omega⟩
      have htold := readGo_told xs 0 0 (by omega) HB.out
      generalize readGo 0 0 xs = t at hr hread htold
      obtain ⟨n, m, e⟩ := t
      simp only at hr htold
      have hx0 : ¬ (xs.length = 0) := h0
      clear h0 HA
      by_cases he : e = 0
      · subst he
        rw [if_neg (by simp)] at hr
        simp only [Pk.refAns, if_true] at hread
        obtain ⟨hn0, hm0, hm1⟩ := htold rfl
        obtain ⟨m, rfl⟩ := Int.eq_ofNat_of_zero_le (show 0 ≤ m by omega)
        simp only [Int.toNat_natCast] at hr hread
        obtain ⟨ys, hys⟩ : ∃ ys, ys = xs.drop m := ⟨_, rfl⟩
        have hyl : ys.length + m = xs.length := by rw [hys, List.length_drop]; omega
        have hyb : Byte ys := by rw [hys]; exact HB.out.drop _
        rw [← hys] at hr hread
        have Hread := Aside0.mk hread
        have Hyb := Aside0.mk hyb
        have hyl2 : ys.length + 1 ≤ xs.length := by omega
        have HA2 := Aside0.mk hr
        clear hread hys hyb hm0 hm1 htold hyl hn0 hr
        go_wp2_with (first
          | (go_at_call 37; refine (Pk.stanchionref01_Read.calls A c xs _ _ _ _ HC.out Hc.out Hread.out).mono ?_; rintro e w1 ⟨v1, rfl, hR, hB⟩; obtain ⟨A1, c1, e1⟩ := Kd.R_slice hR; subst e1; have HC1 := Aside0.mk hR; have HR2 := Aside0.mk (Kd.R_below HR.out hB); have Hb2 := Aside0.mk (below_then Hb.out Hb.out.size hB); have hs2 := Hb2.out.size; clear hR hB)
          | (at_builtin; refine Kd.R_append (Kd.int .i64) (w0 := w) w.heap.size rfl (.tmp 21) (.tmp 23) 27 3 (.int .i64 0) 8 rfl Try.underlying27 info3 rfl (by decide) (by decide) (.slice Av acc.length cv) acc n [.int .i64 n] (fun k_ => w.heap.size ≤ k_) (fun k_ => w.heap.size ≤ k_ ∧ some k_ ≠ (Value.slice Av acc.length cv).ownBlock) rfl rfl rfl (fun _ h => h) (fun k hk => by omega) HR2.out Hb2.out hs2 (by omega) ?_; intro v3 w3 hR3 hB3 hg3 hat3; obtain ⟨A3, c3, e3⟩ := Kd.R_slice hR3; subst e3; have HR3 := Aside0.mk hR3; have HB3 := Aside0.mk hB3; have HU3 := Aside0.mk (Kd.R_reads' (Kd.R_grown (Kd.R_apart' HC1.out (Kd.R_typed HR2.out) (by decide)) hg3 (fun k hk => hk.2))); clear hR3 hB3 hg3 hat3))
        exact ⟨⟨k, acc ++ [n], ys, A1, c1, rfl, ⟨HU3.out.2.1⟩, by omega, by rw [List.length_append, List.length_singleton]; omega, Hyb, ⟨HU3.out.2.2⟩, ⟨by have := HR3.out; rw [List.length_append, List.length_singleton] at this; exact this⟩, HA2, HB3⟩, by simp only [lenOfV]; omega⟩
      · rw [if_pos he] at hr
        obtain ⟨rfl, rfl⟩ := Prod.mk.inj hr
        rw [Pk.refAns, if_neg he] at hread
        have Hread := Aside0.mk hread
        have be : (e != 0) = true := by simp [he]
        clear hr hread htold hx0 he
        go_wp2_with (go_at_call 37; refine (Pk.stanchionref01_Read.calls A c xs _ _ _ _ HC.out Hc.out Hread.out).mono ?_; rintro e w1 ⟨v1, rfl, hR, hB⟩; have HB1 := Aside0.mk hB; clear hR hB)
        go_ret2
        exact ⟨none, 0, rfl, ⟨Kd.R_nil _ _ _ _ _, below_then Hb.out Hb.out.size HB1.out⟩⟩
end Go.Proofs.Ytijccobeljoikaa.Ms

/- msg: the document: fields, ReadEntry, ReadLetter. -/
namespace Go.Proofs.Ytijccobeljoikaa.Ms
open Go.RowKit Go.Proofs.YtijccobeljoikaaW.PrintWords Go.Proofs.YtijccobeljoikaaW.PrintLast
open Go.Proofs.Ytijccobeljoikaa.Plain Go.Proofs.Ytijccobeljoikaa.Walks
set_option linter.unusedVariables false
set_option linter.unusedSimpArgs false
theorem Got.andThen {α : Type} {d : Kd α} {e : Nat} {w w1 w2 : World} {A : Option Addr} {c : Nat} {zs : List α} (h : Got d e w w1 A c zs) (hB : Below w1.heap.size w1 w2) : Got d e w w2 A c zs :=
  ⟨Kd.R_below h.own hB, below_then h.keep h.keep.size hB⟩
/-- fields: the fields and the first one's numbers. -/
def headO (l : List Int) (n k : Nat) : Option (List (List Int) × List Int) := (fieldsO l n).bind fun s => (intsO (s.getD 0 []) k).map fun v => (s, v)
set_option maxHeartbeats 8000000 in
set_option maxRecDepth 100000 in
theorem fields113_33 (A : Option Addr) (c : Nat) (l : List Int) (o : Option (List (List Int) × List Int)) (w : World) (hC : Kd.C (Kd.int .u8) w A l.length l) (hc : l.length ≤ c) (hb : Byte l) (hl : l.length < 140737488355328) (ho : headO l 3 3 = o) :
    Calls Try.prog 113 #[.slice A l.length c, .int .i64 3, .int .i64 3] w fun e w' => match (generalizing := false) o with
      | some t => ∃ g1 c1 g4 c4, e = .returned (.tuple #[.slice (some ⟨g1, 0, none⟩) t.1.length c1, .slice (some ⟨g4, 0, none⟩) t.2.length c4, .bool true]) ∧ Got (Kd.slice 5 (Kd.int .u8)) 22 w w' (some ⟨g1, 0, none⟩) c1 t.1 ∧ Got (Kd.int .i64) 3 w w' (some ⟨g4, 0, none⟩) c4 t.2
      | none => (∃ u1 u2, e = .returned (.tuple #[u1, u2, .bool false])) ∧ Below w.heap.size w w' := by
  rcases split_cases l 3 with ⟨rs, x, hs, hbad, hf⟩ | ⟨rs, hs, hn, hf⟩
  · have : o = none := by rw [← ho, headO, hf]; rfl
    subst this
    have hE := refSplit_calls A c l rs x w hC hc hb hl hs
    clear hC hc hb hl ho hf hs
    go_enter Try.func113, Try.ntmps113
    go_wp2_with (fail)
    with_reducible refine hE.mono ?_
    clear hE
    rintro e w1 ⟨A1, c1, rfl, hG⟩
    have HB1 := Aside0.mk hG.keep
    clear hG
    by_cases hx : x = 0
    · subst hx
      have hn : ¬ rs.length = 3 := by rcases hbad with h | h; exact absurd rfl h; exact h
      have b0 : ((rs.length : Int) != 3) = true := bne_iff_ne.mpr (by omega)
      have b1 : (rs.length == 3) = false := beq_eq_false_iff_ne.mpr hn
      clear hbad hn
      go_wp2_with (fail)
      go_ret3
      exact ⟨⟨_, _, rfl⟩, HB1.out⟩
    · have b0 : (x != 0) = true := bne_iff_ne.mpr hx
      clear hbad hx
      go_wp2_with (fail)
      go_ret3
      exact ⟨⟨_, _, rfl⟩, HB1.out⟩
  · obtain ⟨s0, s1, s2, rfl⟩ := three hn
    obtain ⟨hj, hbs, _⟩ := fieldsO_some hb hf
    have Hb0 := Aside0.mk (hbs s0 (by simp))
    have Hl0 := Aside0.mk ((joinP_some hj).2.1 s0 (by simp))
    have hE := refSplit_calls A c l [s0, s1, s2] 0 w hC hc hb hl hs
    clear hC hc hb hl hs hj hbs hn
    go_enter Try.func113, Try.ntmps113
    go_wp2_with (fail)
    with_reducible refine hE.mono ?_
    clear hE
    rintro e w1 ⟨A1, c1, rfl, hG⟩
    obtain ⟨g1, rfl, hg1⟩ := got_head hG (by simp)
    obtain ⟨A2, c2, y0, hR0⟩ := rows_at hG 0 (by simp)
    simp only [List.getElem_cons_zero] at y0 hR0
    have HG1 := Aside0.mk hG
    have HR0 := Aside0.mk hR0
    clear hG hR0 hg1
    go_wp2_with (fail)
    rcases ints_cases s0 3 with ⟨vs, x, hi, hbad, hfi⟩ | ⟨vs, hi, hn, hfi⟩
    · have : o = none := by rw [← ho, headO, hf]; show (intsO s0 3).map _ = none; rw [hfi]; rfl
      subst this
      have hE := refInts_calls A2 c2 s0 vs x w1 (Kd.R_reads' HR0.out).2.2 (Kd.R_reads' HR0.out).2.1 Hb0.out (by have := Hl0.out; omega) hi
      clear hf ho hfi hi
      refine hE.mono ?_
      clear hE
      rintro e w2 ⟨A4, c4, rfl, hG⟩
      have HB2 := Aside0.mk (below_then HG1.out.keep HG1.out.keep.size hG.keep)
      clear hG
      by_cases hx : x = 0
      · subst hx
        have hn : ¬ vs.length = 3 := by rcases hbad with h | h; exact absurd rfl h; exact h
        have b0 : ((vs.length : Int) == 3) = false := beq_eq_false_iff_ne.mpr (by omega)
        have b1 : (vs.length == 3) = false := beq_eq_false_iff_ne.mpr hn
        clear hbad hn
        go_wp2_with (fail)
        go_ret3
        exact ⟨⟨_, _, rfl⟩, HB2.out⟩
      · have b0 : (x == 0) = false := beq_eq_false_iff_ne.mpr hx
        clear hbad hx
        go_wp2_with (fail)
        go_ret3
        exact ⟨⟨_, _, rfl⟩, HB2.out⟩
    · obtain ⟨v0, v1, v2, rfl⟩ := three hn
      have : o = some ([s0, s1, s2], [v0, v1, v2]) := by rw [← ho, headO, hf]; show (intsO s0 3).map _ = _; rw [hfi]; rfl
      subst this
      have hE := refInts_calls A2 c2 s0 [v0, v1, v2] 0 w1 (Kd.R_reads' HR0.out).2.2 (Kd.R_reads' HR0.out).2.1 Hb0.out (by have := Hl0.out; omega) hi
      clear hf ho hfi hi hn
      refine hE.mono ?_
      clear hE
      rintro e w2 ⟨A4, c4, rfl, hG⟩
      obtain ⟨g4, rfl, hg4⟩ := got_head hG (by simp)
      have HG2 := Aside0.mk hG
      clear hG hg4
      go_wp2_with (fail)
      go_ret3
      exact ⟨g1, c1, g4, c4, rfl, HG1.out.andThen HG2.out.keep, HG2.out.lift HG1.out.keep⟩
set_option maxHeartbeats 8000000 in
set_option maxRecDepth 100000 in
theorem fields113_23 (A : Option Addr) (c : Nat) (l : List Int) (o : Option (List (List Int) × List Int)) (w : World) (hC : Kd.C (Kd.int .u8) w A l.length l) (hc : l.length ≤ c) (hb : Byte l) (hl : l.length < 140737488355328) (ho : headO l 2 3 = o) :
    Calls Try.prog 113 #[.slice A l.length c, .int .i64 2, .int .i64 3] w fun e w' => match (generalizing := false) o with
      | some t => ∃ g1 c1 g4 c4, e = .returned (.tuple #[.slice (some ⟨g1, 0, none⟩) t.1.length c1, .slice (some ⟨g4, 0, none⟩) t.2.length c4, .bool true]) ∧ Got (Kd.slice 5 (Kd.int .u8)) 22 w w' (some ⟨g1, 0, none⟩) c1 t.1 ∧ Got (Kd.int .i64) 3 w w' (some ⟨g4, 0, none⟩) c4 t.2
      | none => (∃ u1 u2, e = .returned (.tuple #[u1, u2, .bool false])) ∧ Below w.heap.size w w' := by
  rcases split_cases l 2 with ⟨rs, x, hs, hbad, hf⟩ | ⟨rs, hs, hn, hf⟩
  · have : o = none := by rw [← ho, headO, hf]; rfl
    subst this
    have hE := refSplit_calls A c l rs x w hC hc hb hl hs
    clear hC hc hb hl ho hf hs
    go_enter Try.func113, Try.ntmps113
    go_wp2_with (fail)
    with_reducible refine hE.mono ?_
    clear hE
    rintro e w1 ⟨A1, c1, rfl, hG⟩
    have HB1 := Aside0.mk hG.keep
    clear hG
    by_cases hx : x = 0
    · subst hx
      have hn : ¬ rs.length = 2 := by rcases hbad with h | h; exact absurd rfl h; exact h
      have b0 : ((rs.length : Int) != 2) = true := bne_iff_ne.mpr (by omega)
      have b1 : (rs.length == 2) = false := beq_eq_false_iff_ne.mpr hn
      clear hbad hn
      go_wp2_with (fail)
      go_ret3
      exact ⟨⟨_, _, rfl⟩, HB1.out⟩
    · have b0 : (x != 0) = true := bne_iff_ne.mpr hx
      clear hbad hx
      go_wp2_with (fail)
      go_ret3
      exact ⟨⟨_, _, rfl⟩, HB1.out⟩
  · obtain ⟨s0, s1, rfl⟩ := two hn
    obtain ⟨hj, hbs, _⟩ := fieldsO_some hb hf
    have Hb0 := Aside0.mk (hbs s0 (by simp))
    have Hl0 := Aside0.mk ((joinP_some hj).2.1 s0 (by simp))
    have hE := refSplit_calls A c l [s0, s1] 0 w hC hc hb hl hs
    clear hC hc hb hl hs hj hbs hn
    go_enter Try.func113, Try.ntmps113
    go_wp2_with (fail)
    with_reducible refine hE.mono ?_
    clear hE
    rintro e w1 ⟨A1, c1, rfl, hG⟩
    obtain ⟨g1, rfl, hg1⟩ := got_head hG (by simp)
    obtain ⟨A2, c2, y0, hR0⟩ := rows_at hG 0 (by simp)
    simp only [List.getElem_cons_zero] at y0 hR0
    have HG1 := Aside0.mk hG
    have HR0 := Aside0.mk hR0
    clear hG hR0 hg1
    go_wp2_with (fail)
    rcases ints_cases s0 3 with ⟨vs, x, hi, hbad, hfi⟩ | ⟨vs, hi, hn, hfi⟩
    · have : o = none := by rw [← ho, headO, hf]; show (intsO s0 3).map _ = none; rw [hfi]; rfl
      subst this
      have hE := refInts_calls A2 c2 s0 vs x w1 (Kd.R_reads' HR0.out).2.2 (Kd.R_reads' HR0.out).2.1 Hb0.out (by have := Hl0.out; omega) hi
      clear hf ho hfi hi
      refine hE.mono ?_
      clear hE
      rintro e w2 ⟨A4, c4, rfl, hG⟩
      have HB2 := Aside0.mk (below_then HG1.out.keep HG1.out.keep.size hG.keep)
      clear hG
      by_cases hx : x = 0
      · subst hx
        have hn : ¬ vs.length = 3 := by rcases hbad with h | h; exact absurd rfl h; exact h
        have b0 : ((vs.length : Int) == 3) = false := beq_eq_false_iff_ne.mpr (by omega)
        have b1 : (vs.length == 3) = false := beq_eq_false_iff_ne.mpr hn
        clear hbad hn
        go_wp2_with (fail)
        go_ret3
        exact ⟨⟨_, _, rfl⟩, HB2.out⟩
      · have b0 : (x == 0) = false := beq_eq_false_iff_ne.mpr hx
        clear hbad hx
        go_wp2_with (fail)
        go_ret3
        exact ⟨⟨_, _, rfl⟩, HB2.out⟩
    · obtain ⟨v0, v1, v2, rfl⟩ := three hn
      have : o = some ([s0, s1], [v0, v1, v2]) := by rw [← ho, headO, hf]; show (intsO s0 3).map _ = _; rw [hfi]; rfl
      subst this
      have hE := refInts_calls A2 c2 s0 [v0, v1, v2] 0 w1 (Kd.R_reads' HR0.out).2.2 (Kd.R_reads' HR0.out).2.1 Hb0.out (by have := Hl0.out; omega) hi
      clear hf ho hfi hi hn
      refine hE.mono ?_
      clear hE
      rintro e w2 ⟨A4, c4, rfl, hG⟩
      obtain ⟨g4, rfl, hg4⟩ := got_head hG (by simp)
      have HG2 := Aside0.mk hG
      clear hG hg4
      go_wp2_with (fail)
      go_ret3
      exact ⟨g1, c1, g4, c4, rfl, HG1.out.andThen HG2.out.keep, HG2.out.lift HG1.out.keep⟩
set_option maxHeartbeats 8000000 in
set_option maxRecDepth 100000 in
theorem fields113_32 (A : Option Addr) (c : Nat) (l : List Int) (o : Option (List (List Int) × List Int)) (w : World) (hC : Kd.C (Kd.int .u8) w A l.length l) (hc : l.length ≤ c) (hb : Byte l) (hl : l.length < 140737488355328) (ho : headO l 3 2 = o) :
    Calls Try.prog 113 #[.slice A l.length c, .int .i64 3, .int .i64 2] w fun e w' => match (generalizing := false) o with
      | some t => ∃ g1 c1 g4 c4, e = .returned (.tuple #[.slice (some ⟨g1, 0, none⟩) t.1.length c1, .slice (some ⟨g4, 0, none⟩) t.2.length c4, .bool true]) ∧ Got (Kd.slice 5 (Kd.int .u8)) 22 w w' (some ⟨g1, 0, none⟩) c1 t.1 ∧ Got (Kd.int .i64) 3 w w' (some ⟨g4, 0, none⟩) c4 t.2
      | none => (∃ u1 u2, e = .returned (.tuple #[u1, u2, .bool false])) ∧ Below w.heap.size w w' := by
  rcases split_cases l 3 with ⟨rs, x, hs, hbad, hf⟩ | ⟨rs, hs, hn, hf⟩
  · have : o = none := by rw [← ho, headO, hf]; rfl
    subst this
    have hE := refSplit_calls A c l rs x w hC hc hb hl hs
    clear hC hc hb hl ho hf hs
    go_enter Try.func113, Try.ntmps113
    go_wp2_with (fail)
    with_reducible refine hE.mono ?_
    clear hE
    rintro e w1 ⟨A1, c1, rfl, hG⟩
    have HB1 := Aside0.mk hG.keep
    clear hG
    by_cases hx : x = 0
    · subst hx
      have hn : ¬ rs.length = 3 := by rcases hbad with h | h; exact absurd rfl h; exact h
      have b0 : ((rs.length : Int) != 3) = true := bne_iff_ne.mpr (by omega)
      have b1 : (rs.length == 3) = false := beq_eq_false_iff_ne.mpr hn
      clear hbad hn
      go_wp2_with (fail)
      go_ret3
      exact ⟨⟨_, _, rfl⟩, HB1.out⟩
    · have b0 : (x != 0) = true := bne_iff_ne.mpr hx
      clear hbad hx
      go_wp2_with (fail)
      go_ret3
      exact ⟨⟨_, _, rfl⟩, HB1.out⟩
  · obtain ⟨s0, s1, s2, rfl⟩ := three hn
    obtain ⟨hj, hbs, _⟩ := fieldsO_some hb hf
    have Hb0 := Aside0.mk (hbs s0 (by simp))
    have Hl0 := Aside0.mk ((joinP_some hj).2.1 s0 (by simp))
    have hE := refSplit_calls A c l [s0, s1, s2] 0 w hC hc hb hl hs
    clear hC hc hb hl hs hj hbs hn
    go_enter Try.func113, Try.ntmps113
    go_wp2_with (fail)
    with_reducible refine hE.mono ?_
    clear hE
    rintro e w1 ⟨A1, c1, rfl, hG⟩
    obtain ⟨g1, rfl, hg1⟩ := got_head hG (by simp)
    obtain ⟨A2, c2, y0, hR0⟩ := rows_at hG 0 (by simp)
    simp only [List.getElem_cons_zero] at y0 hR0
    have HG1 := Aside0.mk hG
    have HR0 := Aside0.mk hR0
    clear hG hR0 hg1
    go_wp2_with (fail)
    rcases ints_cases s0 2 with ⟨vs, x, hi, hbad, hfi⟩ | ⟨vs, hi, hn, hfi⟩
    · have : o = none := by rw [← ho, headO, hf]; show (intsO s0 2).map _ = none; rw [hfi]; rfl
      subst this
      have hE := refInts_calls A2 c2 s0 vs x w1 (Kd.R_reads' HR0.out).2.2 (Kd.R_reads' HR0.out).2.1 Hb0.out (by have := Hl0.out; omega) hi
      clear hf ho hfi hi
      refine hE.mono ?_
      clear hE
      rintro e w2 ⟨A4, c4, rfl, hG⟩
      have HB2 := Aside0.mk (below_then HG1.out.keep HG1.out.keep.size hG.keep)
      clear hG
      by_cases hx : x = 0
      · subst hx
        have hn : ¬ vs.length = 2 := by rcases hbad with h | h; exact absurd rfl h; exact h
        have b0 : ((vs.length : Int) == 2) = false := beq_eq_false_iff_ne.mpr (by omega)
        have b1 : (vs.length == 2) = false := beq_eq_false_iff_ne.mpr hn
        clear hbad hn
        go_wp2_with (fail)
        go_ret3
        exact ⟨⟨_, _, rfl⟩, HB2.out⟩
      · have b0 : (x == 0) = false := beq_eq_false_iff_ne.mpr hx
        clear hbad hx
        go_wp2_with (fail)
        go_ret3
        exact ⟨⟨_, _, rfl⟩, HB2.out⟩
    · obtain ⟨v0, v1, rfl⟩ := two hn
      have : o = some ([s0, s1, s2], [v0, v1]) := by rw [← ho, headO, hf]; show (intsO s0 2).map _ = _; rw [hfi]; rfl
      subst this
      have hE := refInts_calls A2 c2 s0 [v0, v1] 0 w1 (Kd.R_reads' HR0.out).2.2 (Kd.R_reads' HR0.out).2.1 Hb0.out (by have := Hl0.out; omega) hi
      clear hf ho hfi hi hn
      refine hE.mono ?_
      clear hE
      rintro e w2 ⟨A4, c4, rfl, hG⟩
      obtain ⟨g4, rfl, hg4⟩ := got_head hG (by simp)
      have HG2 := Aside0.mk hG
      clear hG hg4
      go_wp2_with (fail)
      go_ret3
      exact ⟨g1, c1, g4, c4, rfl, HG1.out.andThen HG2.out.keep, HG2.out.lift HG1.out.keep⟩
def reE_T4 : Bool × List (List Nat × List Nat) := (true, [([], []), ([0], [0]), ([1], [1]), ([2], [2]), ([], []), ([4], [4]), ([5], [5]), ([], []), ([7], [7]), ([8], [8]), ([], []), ([10], [10]), ([11], [11]), ([3, 6, 9, 12], [3, 6, 9, 12]), ([], []), ([14, 13, 0, 1, 2, 3, 4, 5, 6, 7, 8, 9, 10, 11, 12, 13, 14], [13, 14])])
def reE_B4 : List Nat := [0, 1, 3, 7, 0, 16, 48, 0, 128, 384, 0, 1024, 3072, 8191, 0, 32767]
theorem reE_tab4 : rtab .any (opsOf Try.f80 4) = reE_T4 := by kernel_rfl
theorem reE_bits4 : waitsOk reE_T4.2 reE_B4 = true := by kernel_rfl
def reL_T5 : Bool × List (List Nat × List Nat) := (true, [([], []), ([0], [0]), ([1], [1]), ([], []), ([3], [3]), ([4], [4]), ([2, 5], [2, 5]), ([], []), ([7], [7]), ([8], [8]), ([], []), ([10], [10]), ([11], [11]), ([], []), ([6, 9, 12, 13], [6, 9, 12, 13]), ([], []), ([15, 14, 0, 1, 2, 3, 4, 5, 6, 7, 8, 9, 10, 11, 12, 13, 14, 15], [14, 15])])
def reL_B5 : List Nat := [0, 1, 3, 0, 8, 24, 63, 0, 128, 384, 0, 1024, 3072, 0, 16383, 0, 65535]
theorem reL_tab5 : rtab .any (opsOf Try.f78 5) = reL_T5 := by kernel_rfl
theorem reL_bits5 : waitsOk reL_T5.2 reL_B5 = true := by kernel_rfl
/-- What the document's reading an entry comes to. -/
def RefEnt (w : World) (o : Option S87) (e : Ending) (w' : World) : Prop :=
  Below w.heap.size w w' ∧ match o with
    | some x => ∃ A3 c3, e = .returned (.tuple #[.agg #[.int .i64 x.f0, .int .i64 x.f1, .int .i64 x.f2, .slice A3 x.f3.length c3], .int .i64 0]) ∧ Kd.R (Kd.int .u8) 5 w' w.heap.size (fun k => w.heap.size ≤ k) (.slice A3 x.f3.length c3) x.f3
    | none => e = .returned (.tuple #[.agg #[.int .i64 0, .int .i64 0, .int .i64 0, .slice none 0 0], .int .i64 12])
def RefLet (w : World) (o : Option S72) (e : Ending) (w' : World) : Prop :=
  Below w.heap.size w w' ∧ match o with
    | some x => ∃ A3 c3 A4 c4, e = .returned (.tuple #[.agg #[.int .i64 x.f0.f0, .int .i64 x.f0.f1, .int .i64 x.f1, .slice A3 x.f2.length c3, .slice A4 x.f3.length c4], .int .i64 0]) ∧ Kd.R (Kd.int .u8) 5 w' w.heap.size (fun k => w.heap.size ≤ k) (.slice A3 x.f2.length c3) x.f2 ∧ Kd.R (Kd.slice 5 (Kd.int .u8)) 22 w' w.heap.size (fun k => w.heap.size ≤ k) (.slice A4 x.f3.length c4) x.f3
    | none => e = .returned (.tuple #[.agg #[.int .i64 0, .int .i64 0, .int .i64 0, .slice none 0 0, .slice none 0 0], .int .i64 12])
theorem entryO_head (l : List Int) : entryO l = (headO l 2 3).bind fun t => if goodEntry (mkEntry t.1 t.2) then some (mkEntry t.1 t.2) else none := by
  unfold entryO headO
  cases fieldsO l 2 with
  | none => rfl
  | some s => show (intsO (s.getD 0 []) 3).bind _ = ((intsO (s.getD 0 []) 3).map _).bind _; cases intsO (s.getD 0 []) 3 <;> rfl
theorem letterO_head (l : List Int) : letterO l = (headO l 3 3).bind fun t => (splitO (t.1.getD 2 [])).bind fun ts => if goodLetter (mkLetter t.1 t.2 ts) then some (mkLetter t.1 t.2 ts) else none := by
  unfold letterO headO
  cases fieldsO l 3 with
  | none => rfl
  | some s => show (intsO (s.getD 0 []) 3).bind _ = ((intsO (s.getD 0 []) 3).map _).bind _; cases intsO (s.getD 0 []) 3 <;> rfl
theorem headO_some {l : List Int} {n k : Nat} {t : List (List Int) × List Int} (hb : Byte l) (h : headO l n k = some t) : t.1.length = n ∧ t.2.length = k ∧ (∀ r ∈ t.1, Byte r ∧ r.length ≤ 65536) ∧ (0 < n → ∀ v ∈ t.2, 0 ≤ v ∧ v < 4611686018427387904) := by
  unfold headO at h
  obtain ⟨s, hs, h⟩ := bind_some h
  obtain ⟨v, hv, rfl⟩ := Option.map_eq_some_iff.1 h
  obtain ⟨hj, hbs, hn⟩ := fieldsO_some hb hs
  refine ⟨hn, ?_, fun r hr => ⟨hbs r hr, (joinP_some hj).2.1 r hr⟩, fun h0 => ?_⟩
  · unfold intsO at hv; split at hv
    · rename_i hh; injection hv with hv; rw [← hv]; exact hh.2
    · cases hv
  · have hm : s.getD 0 [] ∈ s := by
      cases s with
      | nil => simp at hn; omega
      | cons a s => simp
    exact (intsO_some (hbs _ hm) hv).2.2
set_option maxHeartbeats 8000000 in
set_option maxRecDepth 100000 in
theorem refRead80_calls (A : Option Addr) (c : Nat) (l : List Int) (o : Option S87) (w : World) (hC : Kd.C (Kd.int .u8) w A l.length l) (hc : l.length ≤ c) (hb : Byte l) (hl : l.length < 140737488355328) (ho : entryO l = o) :
    Calls Try.prog 80 #[.slice A l.length c] w fun e w' => RefEnt w o e w' := by
  have hu87 := Try.underlying87
  have HC := Aside0.mk (And.intro hC hc)
  have HX0 := Aside0.mk (blk_new w (.cells #[.int .i64 0, .int .i64 0, .int .i64 0, .slice none 0 0] 87))
  have HB0 := Aside0.mk (below_alloc (Below.refl w.heap.size w) (.cells #[.int .i64 0, .int .i64 0, .int .i64 0, .slice none 0 0] 87))
  rw [entryO_head] at ho
  obtain ⟨t, ht⟩ : ∃ t, headO l 2 3 = t := ⟨_, rfl⟩
  rw [ht] at ho
  have HT := Aside0.mk ht
  have HBL := Aside0.mk (And.intro hb hl)
  clear hC hc hb hl ht
  go_enter Try.func80, Try.ntmps80
  go_wp2_with (fail)
  generalize w.alloc (.cells #[.int .i64 0, .int .i64 0, .int .i64 0, .slice none 0 0] 87) = w0 at HX0 HB0 ⊢
  refine (fields113_23 A c l t w0 (Kd.C_below HC.out.1 HB0.out) HC.out.2 HBL.out.1 HBL.out.2 HT.out).mono ?_
  intro e w1 hh
  cases t with
  | none =>
    obtain ⟨⟨u1, u2, rfl⟩, hB⟩ := hh
    have : o = none := ho.symm
    subst this
    have HX1 := Aside0.mk ((hB.block _ (blk_lt2 HX0.out)).trans HX0.out)
    have HB1 := Aside0.mk (below_then HB0.out HB0.out.size hB)
    clear hB ho
    go_wp2_with (refine wpList_store_row rfl 87 (.tmp 2) (.tmp 16) rfl w.heap.size #[.int .i64 0, .int .i64 0, .int .i64 0, .slice none 0 0] rfl rfl 87 _ HX1.out size87 rfl (by simp [Value.oneCell']) ?_; have HX9 := Aside0.mk (setRow_heap _ _ _ #[.int .i64 0, .int .i64 0, .int .i64 0, .slice none 0 0] _ _ HX1.out); have HB9 := Aside0.mk (below_setRow HB1.out (Nat.le_refl _) #[.int .i64 0, .int .i64 0, .int .i64 0, .slice none 0 0]))
    exact bodyPost_ret (v := .tuple #[.agg #[.int .i64 0, .int .i64 0, .int .i64 0, .slice none 0 0], .int .i64 12]) (results_row_tmp (p := 2) (u := 3) (ty := 87) rfl _ _ w.heap.size 87 _ _ _ rfl HX9.out hu87 rfl size87) rfl ⟨HB9.out, rfl⟩
  | some t =>
    obtain ⟨hn, hk, hr, hv⟩ := headO_some HBL.out.1 HT.out
    obtain ⟨rs, vs⟩ := t
    obtain ⟨s0, s1, rfl⟩ := two hn
    obtain ⟨v0, v1, v2, rfl⟩ := three hk
    have hvr := hv (by decide) v0 (by simp)
    obtain ⟨g1, c1, g4, c4, rfl, hG, hG4⟩ := hh
    obtain ⟨A3, c3, y1, hR1⟩ := rows_at hG 1 (by simp)
    have z0 := nums_at hG4 0 (by simp)
    have z1 := nums_at hG4 1 (by simp)
    have z2 := nums_at hG4 2 (by simp)
    simp only [List.getElem_cons_zero, List.getElem_cons_succ] at y1 hR1 z0 z1 z2
    have HB2 := Aside0.mk (below_then HB0.out HB0.out.size hG.keep)
    have HR2 := Aside0.mk (Kd.R_mono (Kd.R_lower hR1 HB0.out.size) (fun k hk => Nat.le_trans HB0.out.size hk))
    have HZ := Aside0.mk (And.intro z0 (And.intro z1 (And.intro z2 y1)))
    have HBX2 := Aside0.mk ((hG.keep.block _ (blk_lt2 HX0.out)).trans HX0.out)
    obtain ⟨m, hm⟩ : ∃ m : S87, m = ⟨v0 - 1, v1, v2, s1⟩ := ⟨_, rfl⟩
    have ho2 : (if goodEntry m then some m else none) = o := by rw [hm]; exact ho
    clear hG hG4 z0 z1 z2 y1 hR1 hr hv hn hk ho HT
    go_upto_region 4 with (fail)
    refine start_ (n := 16) (S := At4 ⟨g4, 0, none⟩ ⟨g4, 1, none⟩ ⟨g4, 2, none⟩ ⟨g1, 1, none⟩ (.int .i64 v0) (.int .i64 v1) (.int .i64 v2) (.slice A3 s1.length c3) w1) (ds := []) #[false, false, false, false, false, false, false, false, false, false, false, false, false, false, false, false] (by kernel_rfl) rfl rfl
      ⟨HZ.out.1, HZ.out.2.1, HZ.out.2.2.1, HZ.out.2.2.2, below_drew1 (Below.refl _ _)⟩ (fun hHeld => ?_)
    generalize w1.drew = w3 at hHeld ⊢
    refine with_tabW reE_tab4 reE_bits4 (fun HT_ HW_ => ?_)
    refine pure_ (i := 0) (N := some 17) (v := ?_) (a' := ?_) #[true, false, false, false, false, false, false, false, false, false, false, false, false, false, false, false] rfl rfl (any_of HT_.out (by kernel_rfl)) (fun _ _ _ h => h) (Or.inl ⟨by rfl, ?_⟩) ?_ ?_
    rotate_left
    · intro w'
      go_simp
      with_reducible rfl
    rotate_left
    · simp only [Act.put, List.setIfInBounds_toArray, List.set_cons_zero, List.set_cons_succ, i64_w, i32_w]
      rfl
    refine pure_ (i := 1) (N := some 18) (v := ?_) (a' := ?_) #[true, true, false, false, false, false, false, false, false, false, false, false, false, false, false, false] rfl rfl (any_of HT_.out (by kernel_rfl)) (fun _ _ _ h => h) (Or.inl ⟨by rfl, ?_⟩) ?_ ?_
    rotate_left
    · intro w'
      go_simp
      with_reducible rfl
    rotate_left
    · simp only [Act.put, List.setIfInBounds_toArray, List.set_cons_zero, List.set_cons_succ, i64_w, i32_w]
      rfl
    refine take_ (i := 2) (N := some 19) (v := ?_) (a' := ?_) #[true, true, true, false, false, false, false, false, false, false, false, false, false, false, false, false] rfl rfl (take_ofW HT_.out HW_.out (by kernel_rfl)) (fun _ _ _ h => h) (Or.inl ⟨by rfl, ?_⟩) hHeld ?_ ?_
    rotate_left
    · rintro w' ⟨s0, s1, s2, s3, s4⟩
      go_simp
      with_reducible rfl
    rotate_left
    · simp only [Act.put, List.setIfInBounds_toArray, List.set_cons_zero, List.set_cons_succ, i64_w, i32_w]
      rfl
    refine pure_ (i := 3) (N := some 20) (v := ?_) (a' := ?_) #[true, true, true, true, false, false, false, false, false, false, false, false, false, false, false, false] rfl rfl (any_of HT_.out (by kernel_rfl)) (fun _ _ _ h => h) (Or.inl ⟨by rfl, ?_⟩) ?_ ?_
    rotate_left
    · intro w'
      go_simp
      with_reducible rfl
    rotate_left
    · simp only [Act.put, List.setIfInBounds_toArray, List.set_cons_zero, List.set_cons_succ, i64_w, i32_w]
      rfl
    refine pure_ (i := 4) (N := some 21) (v := ?_) (a' := ?_) #[true, true, true, true, true, false, false, false, false, false, false, false, false, false, false, false] rfl rfl (any_of HT_.out (by kernel_rfl)) (fun _ _ _ h => h) (Or.inl ⟨by rfl, ?_⟩) ?_ ?_
    rotate_left
    · intro w'
      go_simp
      with_reducible rfl
    rotate_left
    · simp only [Act.put, List.setIfInBounds_toArray, List.set_cons_zero, List.set_cons_succ, i64_w, i32_w]
      rfl
    refine pure_ (i := 5) (N := some 22) (v := ?_) (a' := ?_) #[true, true, true, true, true, true, false, false, false, false, false, false, false, false, false, false] rfl rfl (any_of HT_.out (by kernel_rfl)) (fun _ _ _ h => h) (Or.inl ⟨by rfl, ?_⟩) ?_ ?_
    rotate_left
    · intro w'
      go_simp
      with_reducible rfl
    rotate_left
    · simp only [Act.put, List.setIfInBounds_toArray, List.set_cons_zero, List.set_cons_succ, i64_w, i32_w]
      rfl
    refine take_ (i := 6) (N := some 23) (v := ?_) (a' := ?_) #[true, true, true, true, true, true, true, false, false, false, false, false, false, false, false, false] rfl rfl (take_ofW HT_.out HW_.out (by kernel_rfl)) (fun _ _ _ h => h) (Or.inl ⟨by rfl, ?_⟩) hHeld ?_ ?_
    rotate_left
    · rintro w' ⟨s0, s1, s2, s3, s4⟩
      go_simp
      with_reducible rfl
    rotate_left
    · simp only [Act.put, List.setIfInBounds_toArray, List.set_cons_zero, List.set_cons_succ, i64_w, i32_w]
      rfl
    refine pure_ (i := 7) (N := some 24) (v := ?_) (a' := ?_) #[true, true, true, true, true, true, true, true, false, false, false, false, false, false, false, false] rfl rfl (any_of HT_.out (by kernel_rfl)) (fun _ _ _ h => h) (Or.inl ⟨by rfl, ?_⟩) ?_ ?_
    rotate_left
    · intro w'
      go_simp
      with_reducible rfl
    rotate_left
    · simp only [Act.put, List.setIfInBounds_toArray, List.set_cons_zero, List.set_cons_succ, i64_w, i32_w]
      rfl
    refine pure_ (i := 8) (N := some 25) (v := ?_) (a' := ?_) #[true, true, true, true, true, true, true, true, true, false, false, false, false, false, false, false] rfl rfl (any_of HT_.out (by kernel_rfl)) (fun _ _ _ h => h) (Or.inl ⟨by rfl, ?_⟩) ?_ ?_
    rotate_left
    · intro w'
      go_simp
      with_reducible rfl
    rotate_left
    · simp only [Act.put, List.setIfInBounds_toArray, List.set_cons_zero, List.set_cons_succ, i64_w, i32_w]
      rfl
    refine take_ (i := 9) (N := some 26) (v := ?_) (a' := ?_) #[true, true, true, true, true, true, true, true, true, true, false, false, false, false, false, false] rfl rfl (take_ofW HT_.out HW_.out (by kernel_rfl)) (fun _ _ _ h => h) (Or.inl ⟨by rfl, ?_⟩) hHeld ?_ ?_
    rotate_left
    · rintro w' ⟨s0, s1, s2, s3, s4⟩
      go_simp
      with_reducible rfl
    rotate_left
    · simp only [Act.put, List.setIfInBounds_toArray, List.set_cons_zero, List.set_cons_succ, i64_w, i32_w]
      rfl
    refine pure_ (i := 10) (N := some 27) (v := ?_) (a' := ?_) #[true, true, true, true, true, true, true, true, true, true, true, false, false, false, false, false] rfl rfl (any_of HT_.out (by kernel_rfl)) (fun _ _ _ h => h) (Or.inl ⟨by rfl, ?_⟩) ?_ ?_
    rotate_left
    · intro w'
      go_simp
      with_reducible rfl
    rotate_left
    · simp only [Act.put, List.setIfInBounds_toArray, List.set_cons_zero, List.set_cons_succ, i64_w, i32_w]
      rfl
    refine pure_ (i := 11) (N := some 28) (v := ?_) (a' := ?_) #[true, true, true, true, true, true, true, true, true, true, true, true, false, false, false, false] rfl rfl (any_of HT_.out (by kernel_rfl)) (fun _ _ _ h => h) (Or.inl ⟨by rfl, ?_⟩) ?_ ?_
    rotate_left
    · intro w'
      go_simp
      with_reducible rfl
    rotate_left
    · simp only [Act.put, List.setIfInBounds_toArray, List.set_cons_zero, List.set_cons_succ, i64_w, i32_w]
      rfl
    refine take_ (i := 12) (N := some 29) (v := ?_) (a' := ?_) #[true, true, true, true, true, true, true, true, true, true, true, true, true, false, false, false] rfl rfl (take_ofW HT_.out HW_.out (by kernel_rfl)) (fun _ _ _ h => h) (Or.inl ⟨by rfl, ?_⟩) hHeld ?_ ?_
    rotate_left
    · rintro w' ⟨s0, s1, s2, s3, s4⟩
      go_simp
      with_reducible rfl
    rotate_left
    · simp only [Act.put, List.setIfInBounds_toArray, List.set_cons_zero, List.set_cons_succ, i64_w, i32_w]
      rfl
    refine pure_ (i := 13) (N := some 30) (v := ?_) (a' := ?_) #[true, true, true, true, true, true, true, true, true, true, true, true, true, true, false, false] rfl rfl (any_of HT_.out (by kernel_rfl)) (fun _ _ _ h => h) (Or.inl ⟨by rfl, ?_⟩) ?_ ?_
    rotate_left
    · intro w'
      go_simp
      with_reducible rfl
    rotate_left
    · simp only [Act.put, List.setIfInBounds_toArray, List.set_cons_zero, List.set_cons_succ, i64_w, i32_w]
      rfl
    refine one_ (i := 14) (N := some 7) #[true, true, true, true, true, true, true, true, true, true, true, true, true, true, true, false] rfl rfl (one_of HT_.out (by kernel_rfl)) (by decide) (fun K hK => ?_)
    go_simp
    rw [show wrap64 (v0 - 1) = v0 - 1 by unfold wrap64; omega]
    have hHeld3 := hHeld
    refine hK.out _ _ (hHeld.step (below_alloc (Below.refl _ _) _)) (fun hHeld => ?_)
    clear hK K
    refine one_ (i := 15) (N := none) #[true, true, true, true, true, true, true, true, true, true, true, true, true, true, true, true] rfl rfl (one_of HT_.out (by kernel_rfl)) (by decide) (fun K hK => ?_)
    go_simp
    refine hK.out _ _ (hHeld3.step (below_alloc (Below.refl _ _) _)) (fun hHeld => ?_)
    clear hK K
    refine done_ (done_of HT_.out (by kernel_rfl)) ?_
    have HX := Aside0.mk (blk_new w3 (.cells #[.int .i64 (v0 - 1), .int .i64 v1, .int .i64 v2, .slice A3 s1.length c3] 87))
    have HB5 := Aside0.mk (below_then HB2.out HB2.out.size hHeld.2.2.2.2)
    have HR5 := Aside0.mk (Kd.R_below HR2.out hHeld.2.2.2.2)
    have HBX := Aside0.mk ((hHeld.2.2.2.2.block _ (blk_lt2 HBX2.out)).trans HBX2.out)
    obtain ⟨g5, hg5⟩ : ∃ g5, g5 = w3.heap.size := ⟨_, rfl⟩
    rw [← hg5] at HX ⊢
    clear hg5 hHeld hHeld3 HR2 HB2 HZ HBX2
    generalize w3.alloc (.cells #[.int .i64 (v0 - 1), .int .i64 v1, .int .i64 v2, .slice A3 s1.length c3] 87) = w5 at HX HB5 HR5 HBX ⊢
    have x0 : w5.cell? ⟨g5, 0, none⟩ = some (.int .i64 (v0 - 1)) := (blk_cell HX.out 0).trans rfl
    have x1 : w5.cell? ⟨g5, 1, none⟩ = some (.int .i64 v1) := (blk_cell HX.out 1).trans rfl
    have x2 : w5.cell? ⟨g5, 2, none⟩ = some (.int .i64 v2) := (blk_cell HX.out 2).trans rfl
    have x3 : w5.cell? ⟨g5, 3, none⟩ = some (.slice A3 s1.length c3) := (blk_cell HX.out 3).trans rfl
    go_wp2_with (fail)
    have hE := entry119_calls ⟨v0 - 1, v1, v2, s1⟩ A3 c3 w5
    rw [← hm] at hE
    rw [hm] at hE
    with_reducible refine hE.mono ?_
    clear hE
    rintro e w6 ⟨rfl, hB⟩
    have HX6 := Aside0.mk ((hB.block _ (blk_lt2 HX.out)).trans HX.out)
    have HBX6 := Aside0.mk ((hB.block _ (blk_lt2 HBX.out)).trans HBX.out)
    have HB6 := Aside0.mk (below_then HB5.out HB5.out.size hB)
    have HR6 := Aside0.mk (Kd.R_below HR5.out hB)
    clear hB x0 x1 x2 x3 HX HBX HB5 HR5
    rw [← hm]
    obtain ⟨q, hq⟩ : ∃ q, q = goodEntry m := ⟨_, rfl⟩
    rw [← hq] at ho2 ⊢
    cases q with
    | false =>
      have : o = none := ho2.symm
      subst this
      clear ho2 hq
      go_wp2_with (refine wpList_store_row rfl 87 (.tmp 2) (.tmp 34) rfl w.heap.size #[.int .i64 0, .int .i64 0, .int .i64 0, .slice none 0 0] rfl rfl 87 _ HBX6.out size87 rfl (by simp [Value.oneCell']) ?_; have HX9 := Aside0.mk (setRow_heap _ _ _ #[.int .i64 0, .int .i64 0, .int .i64 0, .slice none 0 0] _ _ HBX6.out); have HB9 := Aside0.mk (below_setRow HB6.out (Nat.le_refl _) #[.int .i64 0, .int .i64 0, .int .i64 0, .slice none 0 0]))
      exact bodyPost_ret (v := .tuple #[.agg #[.int .i64 0, .int .i64 0, .int .i64 0, .slice none 0 0], .int .i64 12]) (results_row_tmp (p := 2) (u := 3) (ty := 87) rfl _ _ w.heap.size 87 _ _ _ rfl HX9.out hu87 rfl size87) rfl ⟨HB9.out, rfl⟩
    | true =>
      have : o = some m := ho2.symm
      subst this
      subst hm
      clear ho2 hq
      have x0 : w6.cell? ⟨g5, 0, none⟩ = some (.int .i64 (v0 - 1)) := (blk_cell HX6.out 0).trans rfl
      have x1 : w6.cell? ⟨g5, 1, none⟩ = some (.int .i64 v1) := (blk_cell HX6.out 1).trans rfl
      have x2 : w6.cell? ⟨g5, 2, none⟩ = some (.int .i64 v2) := (blk_cell HX6.out 2).trans rfl
      have x3 : w6.cell? ⟨g5, 3, none⟩ = some (.slice A3 s1.length c3) := (blk_cell HX6.out 3).trans rfl
      go_wp2_with (refine wpList_store_row rfl 87 (.tmp 2) (.tmp 35) rfl w.heap.size #[.int .i64 (v0 - 1), .int .i64 v1, .int .i64 v2, .slice A3 s1.length c3] rfl rfl 87 _ HBX6.out size87 rfl (by simp [Value.oneCell']) ?_; have HR8 := Aside0.mk (R_row HR6.out HBX6.out (by simp [Kd.int, Kd.scalar]) #[.int .i64 (v0 - 1), .int .i64 v1, .int .i64 v2, .slice A3 s1.length c3]); have HBX8 := Aside0.mk (setRow_heap _ _ _ #[.int .i64 (v0 - 1), .int .i64 v1, .int .i64 v2, .slice A3 s1.length c3] _ _ HBX6.out); have HB8 := Aside0.mk (below_setRow HB6.out (Nat.le_refl _) #[.int .i64 (v0 - 1), .int .i64 v1, .int .i64 v2, .slice A3 s1.length c3]))
      exact bodyPost_ret (v := .tuple #[.agg #[.int .i64 (v0 - 1), .int .i64 v1, .int .i64 v2, .slice A3 s1.length c3], .int .i64 0]) (results_row_tmp (p := 2) (u := 3) (ty := 87) rfl _ _ w.heap.size 87 _ _ _ rfl HBX8.out hu87 rfl size87) rfl ⟨HB8.out, A3, c3, rfl, HR8.out⟩
set_option maxHeartbeats 8000000 in
set_option maxRecDepth 100000 in
theorem refRead78_calls (A : Option Addr) (c : Nat) (l : List Int) (o : Option S72) (w : World) (hC : Kd.C (Kd.int .u8) w A l.length l) (hc : l.length ≤ c) (hb : Byte l) (hl : l.length < 140737488355328) (ho : letterO l = o) :
    Calls Try.prog 78 #[.slice A l.length c] w fun e w' => RefLet w o e w' := by
  have hu72 := Try.underlying72
  have hu70 := Try.underlying70
  have HC := Aside0.mk (And.intro hC hc)
  have HX0 := Aside0.mk (blk_new w (.cells #[.int .i64 0, .int .i64 0, .int .i64 0, .slice none 0 0, .slice none 0 0] 72))
  have HB0 := Aside0.mk (below_alloc (Below.refl w.heap.size w) (.cells #[.int .i64 0, .int .i64 0, .int .i64 0, .slice none 0 0, .slice none 0 0] 72))
  rw [letterO_head] at ho
  obtain ⟨t, ht⟩ : ∃ t, headO l 3 3 = t := ⟨_, rfl⟩
  rw [ht] at ho
  have HT := Aside0.mk ht
  have HBL := Aside0.mk (And.intro hb hl)
  clear hC hc hb hl ht
  go_enter Try.func78, Try.ntmps78
  go_wp2_with (fail)
  generalize w.alloc (.cells #[.int .i64 0, .int .i64 0, .int .i64 0, .slice none 0 0, .slice none 0 0] 72) = w0 at HX0 HB0 ⊢
  refine (fields113_33 A c l t w0 (Kd.C_below HC.out.1 HB0.out) HC.out.2 HBL.out.1 HBL.out.2 HT.out).mono ?_
  intro e w1 hh
  cases t with
  | none =>
    obtain ⟨⟨u1, u2, rfl⟩, hB⟩ := hh
    have : o = none := ho.symm
    subst this
    have HX1 := Aside0.mk ((hB.block _ (blk_lt2 HX0.out)).trans HX0.out)
    have HB1 := Aside0.mk (below_then HB0.out HB0.out.size hB)
    clear hB ho
    go_wp2_with (refine wpList_store_row rfl 72 (.tmp 2) (.tmp 18) rfl w.heap.size #[.int .i64 0, .int .i64 0, .int .i64 0, .slice none 0 0, .slice none 0 0] rfl rfl 72 _ HX1.out size72 rfl (by simp [Value.oneCell']) ?_; have HX9 := Aside0.mk (setRow_heap _ _ _ #[.int .i64 0, .int .i64 0, .int .i64 0, .slice none 0 0, .slice none 0 0] _ _ HX1.out); have HB9 := Aside0.mk (below_setRow HB1.out (Nat.le_refl _) #[.int .i64 0, .int .i64 0, .int .i64 0, .slice none 0 0, .slice none 0 0]))
    exact bodyPost_ret (v := .tuple #[.agg #[.int .i64 0, .int .i64 0, .int .i64 0, .slice none 0 0, .slice none 0 0], .int .i64 12]) (results_row_tmp (p := 2) (u := 3) (ty := 72) rfl _ _ w.heap.size 72 _ _ _ rfl HX9.out hu72 rfl size72) rfl ⟨HB9.out, rfl⟩
  | some t =>
    obtain ⟨hn, hk, hr, hv⟩ := headO_some HBL.out.1 HT.out
    obtain ⟨rs, vs⟩ := t
    obtain ⟨s0, s1, s2, rfl⟩ := three hn
    obtain ⟨v0, v1, v2, rfl⟩ := three hk
    have Hs2 := Aside0.mk (hr s2 (by simp))
    obtain ⟨g1, c1, g4, c4, rfl, hG, hG4⟩ := hh
    obtain ⟨A3, c3, y1, hR1⟩ := rows_at hG 1 (by simp)
    obtain ⟨A5, c5, y2, hR2⟩ := rows_at hG 2 (by simp)
    have z0 := nums_at hG4 0 (by simp)
    have z1 := nums_at hG4 1 (by simp)
    have z2 := nums_at hG4 2 (by simp)
    simp only [List.getElem_cons_zero, List.getElem_cons_succ] at y1 y2 hR1 hR2 z0 z1 z2
    have HB1 := Aside0.mk (below_then HB0.out HB0.out.size hG.keep)
    have HR1 := Aside0.mk (Kd.R_mono (Kd.R_lower hR1 HB0.out.size) (fun k hk => Nat.le_trans HB0.out.size hk))
    have HR5 := Aside0.mk hR2
    have HZ1 := Aside0.mk (And.intro z0 (And.intro z1 (And.intro z2 y1)))
    have HBX1 := Aside0.mk ((hG.keep.block _ (blk_lt2 HX0.out)).trans HX0.out)
    have ho2 : ((splitO s2).bind fun ts => if goodLetter ⟨⟨v0, v1⟩, v2, s1, ts⟩ then some ⟨⟨v0, v1⟩, v2, s1, ts⟩ else none) = o := ho
    clear hG hG4 z0 z1 z2 y1 hR1 hR2 hr hv hn hk ho HT
    go_wp2_with (fail)
    obtain ⟨ts, u, hts⟩ : ∃ ts u, splitP s2 = (ts, u) := ⟨_, _, rfl⟩
    refine (refSplit_calls A5 c5 s2 ts u w1 (Kd.R_reads' HR5.out).2.2 (Kd.R_reads' HR5.out).2.1 Hs2.out.1 (by have := Hs2.out.2; omega) hts).mono ?_
    rintro e w2 ⟨A6, c6, rfl, hG⟩
    have HB2 := Aside0.mk (below_then HB1.out HB1.out.size hG.keep)
    have HR2 := Aside0.mk (Kd.R_below HR1.out hG.keep)
    have HR6 := Aside0.mk (Kd.R_mono (Kd.R_lower hG.own HB1.out.size) (fun k hk => Nat.le_trans HB1.out.size hk))
    have HZ := Aside0.mk (And.intro (cell_step HZ1.out.1 hG.keep) (And.intro (cell_step HZ1.out.2.1 hG.keep) (And.intro (cell_step HZ1.out.2.2.1 hG.keep) (cell_step HZ1.out.2.2.2 hG.keep))))
    have HBX2 := Aside0.mk ((hG.keep.block _ (blk_lt2 HBX1.out)).trans HBX1.out)
    have HTS := Aside0.mk hts
    clear hG y2 HZ1 HBX1 HR1 hts
    go_upto_region 5 with (fail)
    refine start_ (n := 17) (S := At4 ⟨g4, 0, none⟩ ⟨g4, 1, none⟩ ⟨g4, 2, none⟩ ⟨g1, 1, none⟩ (.int .i64 v0) (.int .i64 v1) (.int .i64 v2) (.slice A3 s1.length c3) w2) (ds := []) #[false, false, false, false, false, false, false, false, false, false, false, false, false, false, false, false, false] (by kernel_rfl) rfl rfl
      ⟨HZ.out.1, HZ.out.2.1, HZ.out.2.2.1, HZ.out.2.2.2, below_drew1 (Below.refl _ _)⟩ (fun hHeld => ?_)
    generalize w2.drew = w3 at hHeld ⊢
    refine with_tabW reL_tab5 reL_bits5 (fun HT_ HW_ => ?_)
    refine pure_ (i := 0) (N := some 26) (v := ?_) (a' := ?_) #[true, false, false, false, false, false, false, false, false, false, false, false, false, false, false, false, false] rfl rfl (any_of HT_.out (by kernel_rfl)) (fun _ _ _ h => h) (Or.inl ⟨by rfl, ?_⟩) ?_ ?_
    rotate_left
    · intro w'
      go_simp
      with_reducible rfl
    rotate_left
    · simp only [Act.put, List.setIfInBounds_toArray, List.set_cons_zero, List.set_cons_succ, i64_w, i32_w]
      rfl
    refine pure_ (i := 1) (N := some 27) (v := ?_) (a' := ?_) #[true, true, false, false, false, false, false, false, false, false, false, false, false, false, false, false, false] rfl rfl (any_of HT_.out (by kernel_rfl)) (fun _ _ _ h => h) (Or.inl ⟨by rfl, ?_⟩) ?_ ?_
    rotate_left
    · intro w'
      go_simp
      with_reducible rfl
    rotate_left
    · simp only [Act.put, List.setIfInBounds_toArray, List.set_cons_zero, List.set_cons_succ, i64_w, i32_w]
      rfl
    refine take_ (i := 2) (N := some 28) (v := ?_) (a' := ?_) #[true, true, true, false, false, false, false, false, false, false, false, false, false, false, false, false, false] rfl rfl (take_ofW HT_.out HW_.out (by kernel_rfl)) (fun _ _ _ h => h) (Or.inl ⟨by rfl, ?_⟩) hHeld ?_ ?_
    rotate_left
    · rintro w' ⟨s0, s1, s2, s3, s4⟩
      go_simp
      with_reducible rfl
    rotate_left
    · simp only [Act.put, List.setIfInBounds_toArray, List.set_cons_zero, List.set_cons_succ, i64_w, i32_w]
      rfl
    refine pure_ (i := 3) (N := some 29) (v := ?_) (a' := ?_) #[true, true, true, true, false, false, false, false, false, false, false, false, false, false, false, false, false] rfl rfl (any_of HT_.out (by kernel_rfl)) (fun _ _ _ h => h) (Or.inl ⟨by rfl, ?_⟩) ?_ ?_
    rotate_left
    · intro w'
      go_simp
      with_reducible rfl
    rotate_left
    · simp only [Act.put, List.setIfInBounds_toArray, List.set_cons_zero, List.set_cons_succ, i64_w, i32_w]
      rfl
    refine pure_ (i := 4) (N := some 30) (v := ?_) (a' := ?_) #[true, true, true, true, true, false, false, false, false, false, false, false, false, false, false, false, false] rfl rfl (any_of HT_.out (by kernel_rfl)) (fun _ _ _ h => h) (Or.inl ⟨by rfl, ?_⟩) ?_ ?_
    rotate_left
    · intro w'
      go_simp
      with_reducible rfl
    rotate_left
    · simp only [Act.put, List.setIfInBounds_toArray, List.set_cons_zero, List.set_cons_succ, i64_w, i32_w]
      rfl
    refine take_ (i := 5) (N := some 31) (v := ?_) (a' := ?_) #[true, true, true, true, true, true, false, false, false, false, false, false, false, false, false, false, false] rfl rfl (take_ofW HT_.out HW_.out (by kernel_rfl)) (fun _ _ _ h => h) (Or.inl ⟨by rfl, ?_⟩) hHeld ?_ ?_
    rotate_left
    · rintro w' ⟨s0, s1, s2, s3, s4⟩
      go_simp
      with_reducible rfl
    rotate_left
    · simp only [Act.put, List.setIfInBounds_toArray, List.set_cons_zero, List.set_cons_succ, i64_w, i32_w]
      rfl
    refine pure_ (i := 6) (N := some 32) (v := ?_) (a' := ?_) #[true, true, true, true, true, true, true, false, false, false, false, false, false, false, false, false, false] rfl rfl (any_of HT_.out (by kernel_rfl)) (fun _ _ _ h => h) (Or.inl ⟨by rfl, ?_⟩) ?_ ?_
    rotate_left
    · intro w'
      go_simp
      with_reducible rfl
    rotate_left
    · simp only [Act.put, List.setIfInBounds_toArray, List.set_cons_zero, List.set_cons_succ, i64_w, i32_w]
      rfl
    refine pure_ (i := 7) (N := some 33) (v := ?_) (a' := ?_) #[true, true, true, true, true, true, true, true, false, false, false, false, false, false, false, false, false] rfl rfl (any_of HT_.out (by kernel_rfl)) (fun _ _ _ h => h) (Or.inl ⟨by rfl, ?_⟩) ?_ ?_
    rotate_left
    · intro w'
      go_simp
      with_reducible rfl
    rotate_left
    · simp only [Act.put, List.setIfInBounds_toArray, List.set_cons_zero, List.set_cons_succ, i64_w, i32_w]
      rfl
    refine pure_ (i := 8) (N := some 34) (v := ?_) (a' := ?_) #[true, true, true, true, true, true, true, true, true, false, false, false, false, false, false, false, false] rfl rfl (any_of HT_.out (by kernel_rfl)) (fun _ _ _ h => h) (Or.inl ⟨by rfl, ?_⟩) ?_ ?_
    rotate_left
    · intro w'
      go_simp
      with_reducible rfl
    rotate_left
    · simp only [Act.put, List.setIfInBounds_toArray, List.set_cons_zero, List.set_cons_succ, i64_w, i32_w]
      rfl
    refine take_ (i := 9) (N := some 35) (v := ?_) (a' := ?_) #[true, true, true, true, true, true, true, true, true, true, false, false, false, false, false, false, false] rfl rfl (take_ofW HT_.out HW_.out (by kernel_rfl)) (fun _ _ _ h => h) (Or.inl ⟨by rfl, ?_⟩) hHeld ?_ ?_
    rotate_left
    · rintro w' ⟨s0, s1, s2, s3, s4⟩
      go_simp
      with_reducible rfl
    rotate_left
    · simp only [Act.put, List.setIfInBounds_toArray, List.set_cons_zero, List.set_cons_succ, i64_w, i32_w]
      rfl
    refine pure_ (i := 10) (N := some 36) (v := ?_) (a' := ?_) #[true, true, true, true, true, true, true, true, true, true, true, false, false, false, false, false, false] rfl rfl (any_of HT_.out (by kernel_rfl)) (fun _ _ _ h => h) (Or.inl ⟨by rfl, ?_⟩) ?_ ?_
    rotate_left
    · intro w'
      go_simp
      with_reducible rfl
    rotate_left
    · simp only [Act.put, List.setIfInBounds_toArray, List.set_cons_zero, List.set_cons_succ, i64_w, i32_w]
      rfl
    refine pure_ (i := 11) (N := some 37) (v := ?_) (a' := ?_) #[true, true, true, true, true, true, true, true, true, true, true, true, false, false, false, false, false] rfl rfl (any_of HT_.out (by kernel_rfl)) (fun _ _ _ h => h) (Or.inl ⟨by rfl, ?_⟩) ?_ ?_
    rotate_left
    · intro w'
      go_simp
      with_reducible rfl
    rotate_left
    · simp only [Act.put, List.setIfInBounds_toArray, List.set_cons_zero, List.set_cons_succ, i64_w, i32_w]
      rfl
    refine take_ (i := 12) (N := some 38) (v := ?_) (a' := ?_) #[true, true, true, true, true, true, true, true, true, true, true, true, true, false, false, false, false] rfl rfl (take_ofW HT_.out HW_.out (by kernel_rfl)) (fun _ _ _ h => h) (Or.inl ⟨by rfl, ?_⟩) hHeld ?_ ?_
    rotate_left
    · rintro w' ⟨s0, s1, s2, s3, s4⟩
      go_simp
      with_reducible rfl
    rotate_left
    · simp only [Act.put, List.setIfInBounds_toArray, List.set_cons_zero, List.set_cons_succ, i64_w, i32_w]
      rfl
    refine pure_ (i := 13) (N := some 39) (v := ?_) (a' := ?_) #[true, true, true, true, true, true, true, true, true, true, true, true, true, true, false, false, false] rfl rfl (any_of HT_.out (by kernel_rfl)) (fun _ _ _ h => h) (Or.inl ⟨by rfl, ?_⟩) ?_ ?_
    rotate_left
    · intro w'
      go_simp
      with_reducible rfl
    rotate_left
    · simp only [Act.put, List.setIfInBounds_toArray, List.set_cons_zero, List.set_cons_succ, i64_w, i32_w]
      rfl
    refine pure_ (i := 14) (N := some 40) (v := ?_) (a' := ?_) #[true, true, true, true, true, true, true, true, true, true, true, true, true, true, true, false, false] rfl rfl (any_of HT_.out (by kernel_rfl)) (fun _ _ _ h => h) (Or.inl ⟨by rfl, ?_⟩) ?_ ?_
    rotate_left
    · intro w'
      go_simp
      with_reducible rfl
    rotate_left
    · simp only [Act.put, List.setIfInBounds_toArray, List.set_cons_zero, List.set_cons_succ, i64_w, i32_w]
      rfl
    refine one_ (i := 15) (N := some 9) #[true, true, true, true, true, true, true, true, true, true, true, true, true, true, true, true, false] rfl rfl (one_of HT_.out (by kernel_rfl)) (by decide) (fun K hK => ?_)
    go_simp
    have hHeld3 := hHeld
    refine hK.out _ _ (hHeld.step (below_alloc (Below.refl _ _) _)) (fun hHeld => ?_)
    clear hK K
    refine one_ (i := 16) (N := none) #[true, true, true, true, true, true, true, true, true, true, true, true, true, true, true, true, true] rfl rfl (one_of HT_.out (by kernel_rfl)) (by decide) (fun K hK => ?_)
    go_simp
    refine hK.out _ _ (hHeld3.step (below_alloc (Below.refl _ _) _)) (fun hHeld => ?_)
    clear hK K
    refine done_ (done_of HT_.out (by kernel_rfl)) ?_
    have HX := Aside0.mk (blk_new w3 (.cells #[.int .i64 v0, .int .i64 v1, .int .i64 v2, .slice A3 s1.length c3, .slice A6 ts.length c6] 72))
    have HB5 := Aside0.mk (below_then HB2.out HB2.out.size hHeld.2.2.2.2)
    have HRa := Aside0.mk (Kd.R_below HR2.out hHeld.2.2.2.2)
    have HRb := Aside0.mk (Kd.R_below HR6.out hHeld.2.2.2.2)
    have HBX := Aside0.mk ((hHeld.2.2.2.2.block _ (blk_lt2 HBX2.out)).trans HBX2.out)
    obtain ⟨g5, hg5⟩ : ∃ g5, g5 = w3.heap.size := ⟨_, rfl⟩
    rw [← hg5] at HX ⊢
    clear hg5 hHeld hHeld3 HR2 HB2 HZ HBX2 HR6
    generalize w3.alloc (.cells #[.int .i64 v0, .int .i64 v1, .int .i64 v2, .slice A3 s1.length c3, .slice A6 ts.length c6] 72) = w5 at HX HB5 HRa HRb HBX ⊢
    by_cases hu : u = 0
    · subst hu
      have ho3 : (if goodLetter ⟨⟨v0, v1⟩, v2, s1, ts⟩ then some (⟨⟨v0, v1⟩, v2, s1, ts⟩ : S72) else none) = o := by rw [splitO, HTS.out, if_pos rfl] at ho2; exact ho2
      clear ho2
      have x0 : w5.cell? ⟨g5, 0, none⟩ = some (.int .i64 v0) := (blk_cell HX.out 0).trans rfl
      have x1 : w5.cell? ⟨g5, 1, none⟩ = some (.int .i64 v1) := (blk_cell HX.out 1).trans rfl
      have x2 : w5.cell? ⟨g5, 2, none⟩ = some (.int .i64 v2) := (blk_cell HX.out 2).trans rfl
      have x3 : w5.cell? ⟨g5, 3, none⟩ = some (.slice A3 s1.length c3) := (blk_cell HX.out 3).trans rfl
      have x4 : w5.cell? ⟨g5, 4, none⟩ = some (.slice A6 ts.length c6) := (blk_cell HX.out 4).trans rfl
      go_wp2_with (fail)
      have hE := letter116_calls ⟨⟨v0, v1⟩, v2, s1, ts⟩ A3 c3 A6 c6 w5 (Kd.R_reads' HRb.out).2.2
      with_reducible refine hE.mono ?_
      clear hE
      rintro e w6 ⟨rfl, hB⟩
      have HX6 := Aside0.mk ((hB.block _ (blk_lt2 HX.out)).trans HX.out)
      have HBX6 := Aside0.mk ((hB.block _ (blk_lt2 HBX.out)).trans HBX.out)
      have HB6 := Aside0.mk (below_then HB5.out HB5.out.size hB)
      have HRa6 := Aside0.mk (Kd.R_below HRa.out hB)
      have HRb6 := Aside0.mk (Kd.R_below HRb.out hB)
      clear hB x0 x1 x2 x3 x4 HX HBX HB5 HRa HRb
      obtain ⟨q, hq⟩ : ∃ q, q = goodLetter ⟨⟨v0, v1⟩, v2, s1, ts⟩ := ⟨_, rfl⟩
      rw [← hq] at ho3 ⊢
      cases q with
      | false =>
        have : o = none := ho3.symm
        subst this
        clear ho3 hq
        go_wp2_with (refine wpList_store_row rfl 72 (.tmp 2) (.tmp 48) rfl w.heap.size #[.int .i64 0, .int .i64 0, .int .i64 0, .slice none 0 0, .slice none 0 0] rfl rfl 72 _ HBX6.out size72 rfl (by simp [Value.oneCell']) ?_; have HX9 := Aside0.mk (setRow_heap _ _ _ #[.int .i64 0, .int .i64 0, .int .i64 0, .slice none 0 0, .slice none 0 0] _ _ HBX6.out); have HB9 := Aside0.mk (below_setRow HB6.out (Nat.le_refl _) #[.int .i64 0, .int .i64 0, .int .i64 0, .slice none 0 0, .slice none 0 0]))
        exact bodyPost_ret (v := .tuple #[.agg #[.int .i64 0, .int .i64 0, .int .i64 0, .slice none 0 0, .slice none 0 0], .int .i64 12]) (results_row_tmp (p := 2) (u := 3) (ty := 72) rfl _ _ w.heap.size 72 _ _ _ rfl HX9.out hu72 rfl size72) rfl ⟨HB9.out, rfl⟩
      | true =>
        have : o = some ⟨⟨v0, v1⟩, v2, s1, ts⟩ := ho3.symm
        subst this
        clear ho3 hq
        have x0 : w6.cell? ⟨g5, 0, none⟩ = some (.int .i64 v0) := (blk_cell HX6.out 0).trans rfl
        have x1 : w6.cell? ⟨g5, 1, none⟩ = some (.int .i64 v1) := (blk_cell HX6.out 1).trans rfl
        have x2 : w6.cell? ⟨g5, 2, none⟩ = some (.int .i64 v2) := (blk_cell HX6.out 2).trans rfl
        have x3 : w6.cell? ⟨g5, 3, none⟩ = some (.slice A3 s1.length c3) := (blk_cell HX6.out 3).trans rfl
        have x4 : w6.cell? ⟨g5, 4, none⟩ = some (.slice A6 ts.length c6) := (blk_cell HX6.out 4).trans rfl
        go_wp2_with (refine wpList_store_row rfl 72 (.tmp 2) (.tmp 49) rfl w.heap.size #[.int .i64 v0, .int .i64 v1, .int .i64 v2, .slice A3 s1.length c3, .slice A6 ts.length c6] rfl rfl 72 _ HBX6.out size72 rfl (by simp [Value.oneCell']) ?_; have HRa8 := Aside0.mk (R_row HRa6.out HBX6.out (by simp [Kd.int, Kd.scalar]) #[.int .i64 v0, .int .i64 v1, .int .i64 v2, .slice A3 s1.length c3, .slice A6 ts.length c6]); have HRb8 := Aside0.mk (R_row HRb6.out HBX6.out (by simp [Kd.slice, Kd.int, Kd.scalar]) #[.int .i64 v0, .int .i64 v1, .int .i64 v2, .slice A3 s1.length c3, .slice A6 ts.length c6]); have HBX8 := Aside0.mk (setRow_heap _ _ _ #[.int .i64 v0, .int .i64 v1, .int .i64 v2, .slice A3 s1.length c3, .slice A6 ts.length c6] _ _ HBX6.out); have HB8 := Aside0.mk (below_setRow HB6.out (Nat.le_refl _) #[.int .i64 v0, .int .i64 v1, .int .i64 v2, .slice A3 s1.length c3, .slice A6 ts.length c6]))
        exact bodyPost_ret (v := .tuple #[.agg #[.int .i64 v0, .int .i64 v1, .int .i64 v2, .slice A3 s1.length c3, .slice A6 ts.length c6], .int .i64 0]) (results_row_tmp (p := 2) (u := 3) (ty := 72) rfl _ _ w.heap.size 72 _ _ _ rfl HBX8.out hu72 rfl size72) rfl ⟨HB8.out, A3, c3, A6, c6, rfl, HRa8.out, HRb8.out⟩
    · have b0 : (u != 0) = true := bne_iff_ne.mpr hu
      have : o = none := by rw [splitO, HTS.out, if_neg hu] at ho2; exact ho2.symm
      subst this
      clear ho2 hu
      go_wp2_with (refine wpList_store_row rfl 72 (.tmp 2) (.tmp 48) rfl w.heap.size #[.int .i64 0, .int .i64 0, .int .i64 0, .slice none 0 0, .slice none 0 0] rfl rfl 72 _ HBX.out size72 rfl (by simp [Value.oneCell']) ?_; have HX9 := Aside0.mk (setRow_heap _ _ _ #[.int .i64 0, .int .i64 0, .int .i64 0, .slice none 0 0, .slice none 0 0] _ _ HBX.out); have HB9 := Aside0.mk (below_setRow HB5.out (Nat.le_refl _) #[.int .i64 0, .int .i64 0, .int .i64 0, .slice none 0 0, .slice none 0 0]))
      exact bodyPost_ret (v := .tuple #[.agg #[.int .i64 0, .int .i64 0, .int .i64 0, .slice none 0 0, .slice none 0 0], .int .i64 12]) (results_row_tmp (p := 2) (u := 3) (ty := 72) rfl _ _ w.heap.size 72 _ _ _ rfl HX9.out hu72 rfl size72) rfl ⟨HB9.out, rfl⟩
end Go.Proofs.Ytijccobeljoikaa.Ms
