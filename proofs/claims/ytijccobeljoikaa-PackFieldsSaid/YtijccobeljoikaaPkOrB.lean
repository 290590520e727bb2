/- The document's Split: the fields of a list. -/
import Derived.Test.YtijccobeljoikaaPkOrE
import Derived.Test.YtijccobeljoikaaPlainB
import Derived.Test.YtijccobeljoikaaBaseC
namespace Go.Proofs.Ytijccobeljoikaa.Pk
open Go.RowKit Go.Proofs.YtijccobeljoikaaW.PrintWords Go.Proofs.YtijccobeljoikaaW.PrintLast Go.Proofs.YtijccobeljoikaaW.PrintMore
open Go.Proofs.Ytijccobeljoikaa.Plain Go.Proofs.Ytijccobeljoikaa.Walks
set_option linter.unusedVariables false
set_option linter.unusedSimpArgs false

def stanchionref01_Split.f (l0 : List Int) : Option ((List (List Int)) × Int) := if Byte l0 ∧ l0.length < 140737488355328 then some (splitGo (l0.length + 1) [] l0) else none

theorem rows_lit_nil (w : World) (ok : Nat → Prop) (hok : ok w.heap.size) : Kd.R (Kd.slice 5 (Kd.int .u8)) 22 (w.alloc (.cells #[] 22)) w.heap.size ok (.slice (some ⟨w.heap.size, 0, none⟩) 0 0) [] :=
  ⟨fun k hk => by simp [Value.ownBlock] at hk; rw [← hk]; exact hok, [], World.ownsRow_lit (base := w.heap.size) (e := 22) (size := 1) w #[] 0 (Nat.le_refl _) (by simp [maxLen]) rfl, Reps.none _ _⟩

theorem field_M {w2 : World} {b0 b1 : Nat} (hb : b0 ≤ b1) {vf v : Value} {zs : List Int} {acc : List (List Int)} {ok : Nat → Prop} (hf : Kd.R (Kd.int .u8) 5 w2 b1 (fun _ => True) vf zs) (hO : Kd.R (Kd.slice 5 (Kd.int .u8)) 22 w2 b0 ok v acc) :
    (Kd.slice 5 (Kd.int .u8)).M w2 b0 (fun k => b0 ≤ k ∧ some k ≠ v.ownBlock) zs [vf] :=
  Kd.M_row (Kd.R_lower (Kd.R_mono (Kd.R_apart' (Kd.R_bound hf) (Kd.R_typed hO) (by decide)) (fun k hk => ⟨by have := hk.1.2.1; omega, hk.2⟩)) hb)

set_option maxHeartbeats 4000000 in
set_option maxRecDepth 100000 in
theorem stanchionref01_Split.calls (A0 : Option Addr) (c0 : Nat) (l0 : List Int) (r1 : List (List Int)) (r2 : Int) (w : World) (hr0 : Kd.C (Kd.int .u8) w A0 l0.length l0) (hc0 : l0.length ≤ c0) (h : stanchionref01_Split.f l0 = some (r1, r2)) :
    Calls Try.prog 40 #[.slice A0 l0.length c0] w fun e w' => ∃ v0_ : Value, e = .returned (.tuple #[v0_, .int .i64 r2]) ∧ Kd.N (Kd.slice 5 (Kd.int .u8)) 22 w' w.heap.size (fun k_ => (w.heap.size ≤ k_)) v0_ r1 ∧ Below w.heap.size w w' := by
  have HR0 := Aside0.mk hr0
  obtain ⟨⟨hrng, hlim⟩, hgo⟩ : (Byte l0 ∧ l0.length < 140737488355328) ∧ splitGo (l0.length + 1) [] l0 = (r1, r2) := by
    unfold stanchionref01_Split.f at h; split at h
    · rename_i hh; injection h with h; exact ⟨hh, h⟩
    · cases h
  have HG := Aside0.mk hrng
  have HN := Aside0.mk hgo
  have HC0 := Aside0.mk hc0
  have HLim := Aside0.mk hlim
  clear hr0 h hc0 hrng hgo
  go_enter Try.func40, Try.ntmps40
  go_wp2_with fail
  go_loopw [0, 4] (fun b v wr => ∃ (k : Nat) (acc : List (List Int)) (xs : List Int) (A : Option Addr) (c : Nat), b = .slice A xs.length c ∧ Aside0 (xs.length ≤ c) ∧ xs.length < k ∧ xs.length < 140737488355328 ∧ acc.length ≤ 1024 ∧ Aside0 (Byte xs) ∧
      Aside0 (Kd.C (Kd.int .u8) wr A xs.length xs) ∧ Aside0 (Kd.R (Kd.slice 5 (Kd.int .u8)) 22 wr w.heap.size (fun k_ => w.heap.size ≤ k_) v acc) ∧ Aside0 (splitGo k acc xs = (r1, r2)) ∧ Aside0 (Below w.heap.size w wr)) (fun b _ _ => lenOfV b)
  case atStart =>
    exact ⟨l0.length + 1, [], l0, A0, c0, rfl, HC0, by omega, hlim, by simp, HG, ⟨Kd.C_alloc HR0.out _⟩, ⟨rows_lit_nil _ _ (Nat.le_refl _)⟩, HN, ⟨(Below.refl _ _).alloc (Nat.le_refl _) _⟩⟩
  case round =>
    clear HN
    obtain ⟨k, acc, xs, A, c, rfl, Hc, hxk, hxl, hacc, HB, HC, HR, HA, Hb⟩ := hrel
    obtain ⟨Av, cv, ev⟩ := Kd.R_slice HR.out
    subst ev
    obtain ⟨k, rfl⟩ : ∃ m, k = m + 1 := ⟨k - 1, by omega⟩
    by_cases h0 : xs.length = 0
    · have hr := HA.out
      rw [splitGo, if_pos h0] at hr
      obtain ⟨rfl, rfl⟩ := Prod.mk.inj hr
      have b0 : decide ((0 : Int) < (xs.length : Int)) = false := decide_eq_false (by omega)
      have b0' : decide (0 < xs.length) = false := decide_eq_false (by omega)
      clear hr h0
      go_wp2
      go_ret2
      exact ⟨_, rfl, Kd.R_N HR.out, Hb.out⟩
    · have b0 : decide ((0 : Int) < (xs.length : Int)) = true := decide_eq_true (by omega)
      have b0' : decide (0 < xs.length) = true := decide_eq_true (by omega)
      by_cases h1 : acc.length = 1024
      · have hr := HA.out
        rw [splitGo, if_neg h0, if_pos h1] at hr
        obtain ⟨rfl, rfl⟩ := Prod.mk.inj hr
        have b1 : ((acc.length : Int) == 1024) = true := by simp; omega
        clear hr h0 h1
        go_wp2
        go_ret2
        exact ⟨_, rfl, Kd.N_nil _ _ _ _ _, Hb.out⟩
      · have b1 : ((acc.length : Int) == 1024) = false := by simp; omega
        have hr := HA.out
        rw [splitGo, if_neg h0, if_neg h1] at hr
        have hread : stanchionref01_Read.f xs = some (refAns xs (readGo 0 0 xs)) := if_pos ⟨HB.out, hxl⟩
        have htold := readGo_told xs 0 0 (by omega) HB.out
        generalize readGo 0 0 xs = t at hr hread htold
        obtain ⟨n, m, e⟩ := t
        simp only at hr htold
        have hacc1 : acc.length < 1024 := by omega
        have hx0 : ¬ (xs.length = 0) := h0
        clear h0 h1 HA
        by_cases he : e = 0
        · subst he
          rw [if_neg (by simp)] at hr
          simp only [refAns, if_true] at hread
          obtain ⟨hn0, hm0, hm1⟩ := htold rfl
          obtain ⟨n, rfl⟩ := Int.eq_ofNat_of_zero_le hn0
          obtain ⟨m, rfl⟩ := Int.eq_ofNat_of_zero_le (show 0 ≤ m by omega)
          simp only [Int.toNat_natCast] at hr hread
          obtain ⟨ys, hys⟩ : ∃ ys, ys = xs.drop m := ⟨_, rfl⟩
          have hyl : ys.length + m = xs.length := by rw [hys, List.length_drop]; omega
          have hyb : Byte ys := by rw [hys]; exact HB.out.drop _
          rw [← hys] at hr hread
          have Hread := Aside0.mk hread
          have Hyb := Aside0.mk hyb
          have hyl2 : ys.length + 1 ≤ xs.length := by omega
          clear hread hys hyb hm0 hm1 htold hyl hn0
          have step : ∀ e w1, (∃ v1_ : Value, e = Ending.returned (.tuple #[.int .i64 (n : Int), v1_, .int .i64 0]) ∧ Kd.R (Kd.int .u8) 5 w1 wr.heap.size (fun _ => True) v1_ ys ∧ Below wr.heap.size wr w1) → ∃ (A1 : Option Addr) (c1 : Nat), e = Ending.returned (.tuple #[.int .i64 (n : Int), .slice A1 ys.length c1, .int .i64 0]) ∧ Aside0 (ys.length ≤ c1) ∧ Aside0 (Kd.R (Kd.int .u8) 5 w1 wr.heap.size (fun _ => True) (.slice A1 ys.length c1) ys) ∧ Aside0 (Below wr.heap.size wr w1) := by
            rintro e w1 ⟨v1, rfl, hR, hB⟩
            obtain ⟨A1, c1, rfl, hl, hC⟩ := Kd.R_reads hR
            exact ⟨A1, c1, rfl, ⟨hl⟩, ⟨hR⟩, ⟨hB⟩⟩
          have Hstep := Aside0.mk step
          clear step
          by_cases h2 : (65536 : Int) < (n : Int)
          · rw [if_pos h2] at hr
            obtain ⟨rfl, rfl⟩ := Prod.mk.inj hr
            clear hr
            go_wp2_with (go_at_call 37; refine (stanchionref01_Read.calls A c xs _ _ _ _ HC.out Hc.out Hread.out).mono ?_; intro e w1 hh; obtain ⟨A1, c1, rfl, Hc1, HC1, HB1⟩ := Hstep.out e w1 hh; clear hh)
            go_ret2
            exact ⟨_, rfl, Kd.N_nil _ _ _ _ _, below_then Hb.out Hb.out.size HB1.out⟩
          · rw [if_neg h2] at hr
            by_cases h3 : ((ys.length : Int) < (n : Int))
            · rw [if_pos h3] at hr
              obtain ⟨rfl, rfl⟩ := Prod.mk.inj hr
              clear hr
              go_wp2_with (go_at_call 37; refine (stanchionref01_Read.calls A c xs _ _ _ _ HC.out Hc.out Hread.out).mono ?_; intro e w1 hh; obtain ⟨A1, c1, rfl, Hc1, HC1, HB1⟩ := Hstep.out e w1 hh; clear hh)
              go_ret2
              exact ⟨_, rfl, Kd.N_nil _ _ _ _ _, below_then Hb.out Hb.out.size HB1.out⟩
            · rw [if_neg h3] at hr
              have HA2 := Aside0.mk hr
              clear hr
              have hcopy : ∀ zs : List Int, zs.length ≤ ys.length → stanchionref00_CopyBytes.f zs = some zs := fun zs hz => by
                unfold stanchionref00_CopyBytes.f
                have : zs.length < 140737488355328 := by omega
                simp [this]
              have Hcopy := Aside0.mk hcopy
              clear hcopy
              go_wp2_with (first
                | (go_at_call 37; refine (stanchionref01_Read.calls A c xs _ _ _ _ HC.out Hc.out Hread.out).mono ?_; intro e w1 hh; obtain ⟨A1, c1, rfl, Hc1, HC1, HB1⟩ := Hstep.out e w1 hh; clear hh; obtain ⟨zs, hzs, hzc, htake, hzC⟩ := take_bytes A1 c1 n ys (by omega) Hc1.out; obtain ⟨A2, us, hus, huc, hcut, huC⟩ := cut_bytes A1 c1 n ys (by omega) Hc1.out; have hzl : zs.length ≤ ys.length := (by rw [hzs, List.length_take]; omega); have hul : us.length ≤ ys.length := (by rw [hus, List.length_drop]; omega); have Hzs := Aside0.mk hzs; have Hzc := Aside0.mk hzc; have HzC := Aside0.mk hzC; have Hus := Aside0.mk hus; have Huc := Aside0.mk huc; have HuC := Aside0.mk huC; clear hzs hzc hzC hus huc huC)
                | (go_at_call 41; refine (stanchionref00_CopyBytes.calls A1 c1 zs zs _ (HzC.out _ (Kd.R_reads' HC1.out).2.2) Hzc.out (Hcopy.out zs hzl)).mono ?_; rintro e w2 ⟨vf, rfl, hRf, hB2⟩; obtain ⟨Af, cf, ef⟩ := Kd.R_slice hRf; subst ef; have HRf := Aside0.mk hRf; have HB2 := Aside0.mk hB2; clear hRf hB2; have HR2 := Aside0.mk (Kd.R_below (Kd.R_below HR.out HB1.out) HB2.out); have Hb2 := Aside0.mk (below_then (below_then Hb.out Hb.out.size HB1.out) (by have := Hb.out.size; have := HB1.out.size; omega) HB2.out); have hs2 := Hb2.out.size; have hs1 : w.heap.size ≤ w1.heap.size := (by have := Hb.out.size; have := HB1.out.size; omega))
                | (at_builtin; refine Kd.R_append (Kd.slice 5 (Kd.int .u8)) (w0 := w) w.heap.size rfl (.tmp 30) (.tmp 35) 32 22 (.slice none 0 0) 24 rfl Try.underlying32 Walks.info22 rfl (by decide) (by omega) (.slice Av acc.length cv) acc zs [.slice Af zs.length cf] (fun k_ => w.heap.size ≤ k_) (fun k_ => w.heap.size ≤ k_ ∧ some k_ ≠ (Value.slice Av acc.length cv).ownBlock) rfl rfl (field_M hs1 HRf.out HR2.out) (fun _ h => h) (fun k hk => by omega) HR2.out Hb2.out hs2 (by omega) ?_; intro v3 w3 hR3 hB3 hg3 hat3; obtain ⟨A3, c3, e3⟩ := Kd.R_slice hR3; subst e3; have HR3 := Aside0.mk hR3; have HB3 := Aside0.mk hB3; have HU3 := Aside0.mk (HuC.out _ (Kd.R_reads' (Kd.R_grown (Kd.R_apart' (Kd.R_below HC1.out HB2.out) (Kd.R_typed HR2.out) (by decide)) hg3 (fun k hk => hk.2))).2.2); clear hR3 hB3 hg3 hat3))
              exact ⟨⟨k, acc ++ [zs], us, A2, c1 - n, rfl, Huc, by omega, by omega, by rw [List.length_append, List.length_singleton]; omega, ⟨by rw [Hus.out]; exact Hyb.out.drop _⟩, HU3, ⟨by have := HR3.out; rw [List.length_append, List.length_singleton] at this; exact this⟩, ⟨by rw [Hzs.out, Hus.out]; exact HA2.out⟩, HB3⟩, by simp only [lenOfV]; omega⟩
        · rw [if_pos he] at hr
          obtain ⟨rfl, rfl⟩ := Prod.mk.inj hr
          rw [refAns, if_neg he] at hread
          have Hread := Aside0.mk hread
          have be : (e != 0) = true := by simp [he]
          clear hr hread htold hx0 he
          go_wp2_with (go_at_call 37; refine (stanchionref01_Read.calls A c xs _ _ _ _ HC.out Hc.out Hread.out).mono ?_; rintro e w1 ⟨v1, rfl, hR, hB⟩; have HB1 := Aside0.mk hB; clear hR hB)
          go_ret2
          exact ⟨_, rfl, Kd.N_nil _ _ _ _ _, below_then Hb.out Hb.out.size HB1.out⟩
end Go.Proofs.Ytijccobeljoikaa.Pk
