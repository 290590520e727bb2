/- The contracts of pack.Nums, pack.Join, slices.Clone of bytes. -/
import Derived.Test.YtijccobeljoikaaNum
import Derived.WalkSpells
namespace Go.Proofs.Ytijccobeljoikaa.Walks
open Go.RowKit Go.Proofs.YtijccobeljoikaaW.PrintWords Go.Proofs.YtijccobeljoikaaW.PrintLast Go.Proofs.YtijccobeljoikaaW.PrintMore
open Go.Proofs.Ytijccobeljoikaa.Plain
set_option linter.unusedVariables false
set_option linter.unusedSimpArgs false

theorem out_below {base b : Nat} {zs : List Int} {w w' : World} (h : OutIs base b zs w w') : Below base w w' := by obtain ⟨_, _, _, h⟩ := h; exact h
theorem out_then {base b : Nat} {ys zs : List Int} {w w1 w2 : World} (h : OutIs base b ys w w1) (k : OutIs base b zs w1 w2) : OutIs base b zs w w2 := by
  obtain ⟨v, h1, h2, h3⟩ := k
  exact ⟨v, h1, h2, (out_below h).trans h3⟩
def numsF (l0 : List Int) : Option (List Int × Int) := if l0.length < 15000000000000 then some (numsGo [] l0) else none

set_option maxHeartbeats 1000000 in
set_option maxRecDepth 100000 in
theorem nums_calls (A0 : Option Addr) (c0 : Nat) (l0 : List Int) (r1 : List Int) (r2 : Int) (w : World) (hr0 : Kd.C (Kd.int .i64) w A0 l0.length l0) (hc0 : l0.length ≤ c0) (h : numsF l0 = some (r1, r2)) :
    Calls Try.prog 43 #[.slice A0 l0.length c0] w fun e w' => ∃ v0_ : Value, e = .returned (.tuple #[v0_, .int .i64 r2]) ∧ Kd.R (Kd.int .u8) 5 w' w.heap.size (fun _ => True) v0_ r1 ∧ Below w.heap.size w w' := by
  have HR0 := Aside0.mk hr0
  have hn : l0.length < 15000000000000 := by
    unfold numsF at h; split at h
    · assumption
    · cases h
  have HN : Aside0 (numsGo [] l0 = (r1, r2)) := ⟨by unfold numsF at h; rw [if_pos hn] at h; injection h⟩
  clear hr0 h hc0
  go_enter Try.func43, Try.ntmps43
  go_wp2_with fail
  go_loopw [9] (fun i wr => ∃ (k : Nat) (acc : List Int), i = .int .i64 k ∧ k ≤ l0.length ∧ acc.length ≤ 9 * k ∧ Aside0 (numsGo acc (l0.drop k) = (r1, r2)) ∧ Aside0 (OutIs w.heap.size w.heap.size acc w wr)) (fun i _ => l0.length - (intOf i).toNat)
  case atStart => exact ⟨0, [], rfl, Nat.zero_le _, by simp, HN, ⟨_, blk_new _ _, own_nil _ _ _ _, (Below.refl _ _).alloc (Nat.le_refl _) _⟩⟩
  case round =>
    clear HN
    obtain ⟨k, acc, rfl, hk, hacc, HA, Ho⟩ := hrel
    have HBw := Aside0.mk (out_below Ho.out)
    obtain ⟨vo, hvo⟩ : ∃ vo, wr.heap[w.heap.size]? = some (.cells #[vo] 115 (0, 0)) ∧ wr.ownsRow w.heap.size 5 1 vo acc.length (nums .u8 acc) := by obtain ⟨vo, h1, h2, _⟩ := Ho.out; exact ⟨vo, h1, h2⟩
    have hcb : wr.cell? ⟨w.heap.size, 0, none⟩ = some vo := (blk_cell hvo.1 0).trans rfl
    have Hv := Aside0.mk hvo
    clear hvo
    by_cases hlt : k < l0.length
    · have hdrop := drop_step hlt
      obtain ⟨x, hx⟩ : ∃ x, x = l0[k] := ⟨_, rfl⟩
      rw [hdrop, ← hx] at HA
      have hrd : rd l0 (k : Int) = x := by rw [hx]; simp [rd, List.getD_eq_getElem?_getD, hlt]
      obtain ⟨ad, e, hcell⟩ := Kd.at_int (Kd.C_below HR0.out HBw.out) (k : Int) (by omega) (by omega)
      subst e
      rw [hrd, Int.toNat_natCast] at hcell
      have Hx := Aside0.mk hx
      clear hx hdrop hrd
      by_cases c1 : x < 0
      · have hr := HA.out
        rw [numsGo, if_pos (Or.inl c1)] at hr
        obtain ⟨rfl, rfl⟩ := Prod.mk.inj hr
        clear hr
        go_wp2
        go_ret2
        exact ⟨_, rfl, Kd.R_nil _ _ _ _ _, HBw.out⟩
      · by_cases c2 : 4611686018427387904 ≤ x
        · have hr := HA.out
          rw [numsGo, if_pos (Or.inr c2)] at hr
          obtain ⟨rfl, rfl⟩ := Prod.mk.inj hr
          clear hr
          go_wp2
          go_ret2
          exact ⟨_, rfl, Kd.R_nil _ _ _ _ _, HBw.out⟩
        · have hr := HA.out
          rw [numsGo, if_neg (by omega)] at hr
          have HA2 := Aside0.mk hr
          have HL := Aside0.mk (encN_len9 x.toNat (by omega))
          clear hr HA
          go_wp2_with (go_at_call 83; refine (num_calls w.heap.size x (by omega) (by omega) vo acc _ w.heap.size Hv.out.1 (Nat.le_refl _) Hv.out.2 (by omega)).mono ?_; rintro e w1 ⟨rfl, hq⟩; have Hq := Aside0.mk (out_then Ho.out hq); clear hq)
          go_wp2
          exact ⟨⟨k + 1, acc ++ encN x.toNat, by go_num, by omega, by have := HL.out; rw [List.length_append]; omega, HA2, Hq⟩, by simp [intOf]; omega⟩
    · have hr := HA.out
      rw [List.drop_eq_nil_of_le (by omega), numsGo] at hr
      obtain ⟨rfl, rfl⟩ := Prod.mk.inj hr
      clear hr
      go_wp2
      go_ret2
      exact ⟨_, rfl, R_of_own Hv.out.2, HBw.out⟩

def cloneF (l0 : List Int) : Option (List Int) := if l0.length < 140737488355328 then some l0 else none
set_option maxRecDepth 100000 in
theorem clone_calls (A0 : Option Addr) (c0 : Nat) (l0 : List Int) (r : List Int) (w : World) (hr0 : Kd.C (Kd.int .u8) w A0 l0.length l0) (hc0 : l0.length ≤ c0) (h : cloneF l0 = some r) :
    Calls Try.prog 85 #[.slice A0 l0.length c0] w fun e w' => ∃ v0_ : Value, e = .returned v0_ ∧ Kd.R (Kd.int .u8) 5 w' w.heap.size (fun _ => True) v0_ r ∧ Below w.heap.size w w' := by
  unfold cloneF at h
  split at h
  · rename_i hn
    injection h with h
    subst h
    rcases A0 with _ | ad
    · have h0 : l0 = [] := by
        rcases Nat.eq_zero_or_pos l0.length with h0 | h0
        · exact List.eq_nil_of_length_eq_zero h0
        · obtain ⟨ad, h, _⟩ := hr0.2.2 h0
          cases h
      subst h0
      have hq := fun w => Lib.run_eql_slice_nil (P := Try.prog) w 22 5 none 0 c0 0 0 Try.underlying22
      clear hr0 hc0 hn
      go_enter Try.func85, Try.ntmps85
      go_wp2
      go_ret
      exact ⟨_, rfl, Kd.R_nil _ _ _ _ _, Below.refl _ _⟩
    · have HR := Aside0.mk (Kd.reads_of_C (d := (0 : Int)) (h1 := fun _ => rfl) hr0)
      have hq := fun w => Lib.run_eql_slice_nil (P := Try.prog) w 22 5 (some ad) l0.length c0 0 0 Try.underlying22
      clear hr0 hc0
      go_enter Try.func85, Try.ntmps85
      go_wp2_with (at_builtin; refine print_append_row (w0 := w) w.heap.size rfl (.tmp 5) (.tmp 6) 22 5 .u8 1 rfl Try.underlying22 info5 (by decide) (.slice (some ⟨w.heap.size, 0, none⟩) 0 0) [] l0 (some ad) l0.length c0 rfl rfl (own_lit w w.heap.size 5 .u8 [] (Nat.le_refl _) (by simp)) (ReadsInt.allocS HR.out _) ((Below.refl _ _).alloc (Nat.le_refl _) _) (by simp) (by simp; omega) ?_; intro v1 w1 hown hB hg hat; rw [List.nil_append] at hown; have Ho := Aside0.mk hown; have HB := Aside0.mk hB; clear hown hB hg hat)
      go_ret
      exact ⟨_, rfl, R_of_own Ho.out, HB.out⟩
  · cases h
end Go.Proofs.Ytijccobeljoikaa.Walks
