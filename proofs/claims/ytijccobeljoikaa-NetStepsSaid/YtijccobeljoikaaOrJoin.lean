/- The contract of pack.Join. -/
import Derived.Test.YtijccobeljoikaaOrNums
namespace Go.Proofs.Ytijccobeljoikaa.Walks
open Go.RowKit Go.Proofs.YtijccobeljoikaaW.PrintWords Go.Proofs.YtijccobeljoikaaW.PrintLast Go.Proofs.YtijccobeljoikaaW.PrintMore
open Go.Proofs.Ytijccobeljoikaa.Plain
set_option linter.unusedVariables false
set_option linter.unusedSimpArgs false

def joinF (l0 : List (List Int)) : Option (List Int × Int) := some (if 1024 < l0.length then ([], 13) else joinGo [] l0)

set_option maxHeartbeats 2000000 in
set_option maxRecDepth 100000 in
theorem join_calls (A0 : Option Addr) (c0 : Nat) (l0 : List (List Int)) (r1 : List Int) (r2 : Int) (w : World) (hr0 : Kd.C (Kd.slice 5 (Kd.int .u8)) w A0 l0.length l0) (hc0 : l0.length ≤ c0) (h : joinF l0 = some (r1, r2)) :
    Calls Try.prog 31 #[.slice A0 l0.length c0] w fun e w' => ∃ v0_ : Value, e = .returned (.tuple #[v0_, .int .i64 r2]) ∧ Kd.R (Kd.int .u8) 5 w' w.heap.size (fun _ => True) v0_ r1 ∧ Below w.heap.size w w' := by
  have HR0 := Aside0.mk hr0
  unfold joinF at h
  injection h with h
  clear hr0 hc0
  by_cases c : 1024 < l0.length
  · rw [if_pos c] at h
    obtain ⟨rfl, rfl⟩ := Prod.mk.inj h
    clear h
    go_enter Try.func31, Try.ntmps31
    go_wp2
    go_ret2
    exact ⟨_, rfl, Kd.R_nil _ _ _ _ _, Below.refl _ _⟩
  rw [if_neg c] at h
  have HN := Aside0.mk h
  clear h
  go_enter Try.func31, Try.ntmps31
  go_wp2_with fail
  go_loopw [12] (fun i wr => ∃ (k : Nat) (acc : List Int), i = .int .i64 k ∧ k ≤ l0.length ∧ acc.length ≤ 65545 * k ∧ Aside0 (joinGo acc (l0.drop k) = (r1, r2)) ∧ Aside0 (OutIs w.heap.size w.heap.size acc w wr)) (fun i _ => l0.length - (intOf i).toNat)
  case atStart => exact ⟨0, [], rfl, Nat.zero_le _, by simp, HN, ⟨_, blk_new _ _, own_nil _ _ _ _, (Below.refl _ _).alloc (Nat.le_refl _) _⟩⟩
  case round =>
    clear HN
    obtain ⟨k, acc, rfl, hk, hacc, HA, Ho⟩ := hrel
    have HBw := Aside0.mk (out_below Ho.out)
    obtain ⟨vo, hvo⟩ : ∃ vo, wr.heap[w.heap.size]? = some (.cells #[vo] 115 (0, 0)) ∧ wr.ownsRow w.heap.size 5 1 vo acc.length (nums .u8 acc) := by obtain ⟨vo, h1, h2, _⟩ := Ho.out; exact ⟨vo, h1, h2⟩
    have hcb : wr.cell? ⟨w.heap.size, 0, none⟩ = some vo := (blk_cell hvo.1 0).trans rfl
    have Hv := Aside0.mk hvo
    clear hvo
    by_cases hlt : k < l0.length
    · rw [drop_step hlt] at HA
      obtain ⟨ad, A1, c1, e, hcell, hl1, hC1⟩ := at_row HR0.out k hlt
      subst e
      replace hcell := (HBw.out.cell (World.block_lt_of_cell? w _ hcell)).trans hcell
      generalize l0[k] = f at hcell HA hl1 hC1
      have HC1 := Aside0.mk hC1
      clear hC1
      by_cases c2 : 65536 < f.length
      · have hr := HA.out
        rw [joinGo, if_pos c2] at hr
        obtain ⟨rfl, rfl⟩ := Prod.mk.inj hr
        clear hr
        go_wp2
        go_ret2
        exact ⟨_, rfl, Kd.R_nil _ _ _ _ _, HBw.out⟩
      · have hr := HA.out
        rw [joinGo, if_neg c2] at hr
        have HA2 := Aside0.mk hr
        have hL := encN_len9 f.length (by omega)
        clear hr HA
        have hws := HBw.out.size
        obtain ⟨zs, hzs⟩ : ∃ zs, zs = acc ++ encN f.length ++ f := ⟨_, rfl⟩
        rw [← hzs] at HA2
        have hzl : zs.length ≤ 65545 * (k + 1) := by rw [hzs, List.length_append, List.length_append]; omega
        have Hzs := Aside0.mk hzs
        clear hzs
        go_wp2_with (first
          | (go_at_call 83; refine (num_calls w.heap.size (f.length : Int) (by omega) (by omega) vo acc _ w.heap.size Hv.out.1 (Nat.le_refl _) Hv.out.2 (by omega)).mono ?_; rintro e w1 ⟨rfl, hq⟩; rw [Int.toNat_natCast] at hq; obtain ⟨v1, hv1, hown1, hb1⟩ := out_then Ho.out hq; have hcb1 : w1.cell? ⟨w.heap.size, 0, none⟩ = some v1 := (blk_cell hv1 0).trans rfl; have hw1 := hb1.size; have Hv1 := Aside0.mk hv1; have Hown1 := Aside0.mk hown1; have Hb1 := Aside0.mk hb1; clear hq hv1 hown1 hb1)
          | (at_builtin; refine append_row2 (w0 := w) w.heap.size rfl (.tmp 22) (.tmp 23) 115 22 5 5 .u8 1 rfl Try.underlying115 Try.underlying22 info5 (by decide) v1 (acc ++ encN f.length) f A1 f.length c1 rfl rfl Hown1.out (Kd.reads_of_C (d := (0 : Int)) (h1 := fun _ => rfl) (Kd.C_below HC1.out Hb1.out)) Hb1.out (by omega) (by rw [List.length_append]; omega) ?_; intro v2 w2 hown hB hg hat; rw [← Hzs.out] at hown; obtain ⟨A2, c2, e2⟩ := own_slice hown; subst e2; obtain ⟨h2, h3, h4, h5⟩ := stored_outs (Nat.le_refl _) Hv1.out hown hB hg Hown1.out; have hc2 : w2.cell? ⟨w.heap.size, 0, none⟩ = some v1 := (blk_cell h2 0).trans rfl; have hf2 : w2.frozen? ⟨w.heap.size, 0, none⟩ = false := blk_frozen h2 0; have Hq := Aside0.mk (show OutIs _ _ _ _ _ from ⟨_, h3, h4, h5⟩); clear hown hB hg hat h2 h3 h4 h5))
        go_wp2
        exact ⟨⟨k + 1, zs, by go_num, by omega, hzl, HA2, Hq⟩, by simp [intOf]; omega⟩
    · have hr := HA.out
      rw [List.drop_eq_nil_of_le (by omega), joinGo] at hr
      obtain ⟨rfl, rfl⟩ := Prod.mk.inj hr
      clear hr
      go_wp2
      go_ret2
      exact ⟨_, rfl, R_of_own Hv.out.2, HBw.out⟩
end Go.Proofs.Ytijccobeljoikaa.Walks
