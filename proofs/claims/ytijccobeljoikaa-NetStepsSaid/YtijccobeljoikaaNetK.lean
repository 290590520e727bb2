/- stanchionlaw21.alive: the fixed case. -/
import Derived.Test.YtijccobeljoikaaNetJ
namespace Go.Proofs.Ytijccobeljoikaa.Nt
open Go.RowKit Go.Proofs.YtijccobeljoikaaW.PrintWords Go.Proofs.YtijccobeljoikaaW.PrintLast Go.Proofs.YtijccobeljoikaaW.PrintMore
open Go.Proofs.Ytijccobeljoikaa.Walks
set_option linter.unusedVariables false
set_option linter.unusedSimpArgs false

/-- The fixed case's mails. -/
def mailN (n : Int) : S74 := ⟨⟨1, n⟩, ⟨⟨0, 0⟩, 0, [], []⟩⟩
theorem mailN_fits (n : Int) : Fits (mailN n) := ⟨by simp [mailN], by simp [mailN], by simp [mailN]⟩
theorem three_C {W : World} {g : Nat} (h : W.heap[g]? = some (.cells #[.int .i64 1, .int .i64 0, .int .i64 0, .int .i64 0, .int .i64 0, .slice none 0 0, .slice none 0 0, .int .i64 1, .int .i64 1, .int .i64 0, .int .i64 0, .int .i64 0, .slice none 0 0, .slice none 0 0, .int .i64 1, .int .i64 2, .int .i64 0, .int .i64 0, .int .i64 0, .slice none 0 0, .slice none 0 0] 74 (0, 0))) : Kd.C k74 W (some ⟨g, 0, none⟩) 3 [mailN 0, mailN 1, mailN 2] := by
  refine ⟨rfl, by omega, fun _ => ⟨_, rfl, fun j p hj => ?_⟩⟩
  rcases j with _ | _ | _ | j
  · obtain rfl : mailN 0 = p := by simpa using hj
    refine ⟨[.int .i64 1, .int .i64 0, .int .i64 0, .int .i64 0, .int .i64 0, .slice none 0 0, .slice none 0 0], rfl, k74_mk W (mailN 0) (A5 := none) (c5 := 0) (Nat.le_refl _) (Kd.C_nil _ _) (A6 := none) (c6 := 0) (Nat.le_refl _) (Kd.C_nil _ _), fun i u hu => ?_⟩
    rw [Addr.add_lit, blk_cell h]
    rcases i with _ | _ | _ | _ | _ | _ | _ | i
    all_goals first | (simp at hu; subst hu; rfl) | simp at hu
  · obtain rfl : mailN 1 = p := by simpa using hj
    refine ⟨[.int .i64 1, .int .i64 1, .int .i64 0, .int .i64 0, .int .i64 0, .slice none 0 0, .slice none 0 0], rfl, k74_mk W (mailN 1) (A5 := none) (c5 := 0) (Nat.le_refl _) (Kd.C_nil _ _) (A6 := none) (c6 := 0) (Nat.le_refl _) (Kd.C_nil _ _), fun i u hu => ?_⟩
    rw [Addr.add_lit, blk_cell h]
    rcases i with _ | _ | _ | _ | _ | _ | _ | i
    all_goals first | (simp at hu; subst hu; rfl) | simp at hu
  · obtain rfl : mailN 2 = p := by simpa using hj
    refine ⟨[.int .i64 1, .int .i64 2, .int .i64 0, .int .i64 0, .int .i64 0, .slice none 0 0, .slice none 0 0], rfl, k74_mk W (mailN 2) (A5 := none) (c5 := 0) (Nat.le_refl _) (Kd.C_nil _ _) (A6 := none) (c6 := 0) (Nat.le_refl _) (Kd.C_nil _ _), fun i u hu => ?_⟩
    rw [Addr.add_lit, blk_cell h]
    rcases i with _ | _ | _ | _ | _ | _ | _ | i
    all_goals first | (simp at hu; subst hu; rfl) | simp at hu
  · simp at hj

set_option maxHeartbeats 4000000 in
set_option maxRecDepth 100000 in
theorem alive_calls (w : World) : Calls Try.prog 48 #[] w fun e w' => e = .returned (.bool true) ∧ Below w.heap.size w w' := by
  have hc : clamp 2 = 2 := by decide
  have hu74 := Try.underlying74
  have hu70 := Try.underlying70
  go_enter Try.func48, Try.ntmps48
  go_wp2_with (first
    | (go_at_call 50; refine (new_calls w.heap.size _ 2 (Nat.le_refl _)).mono ?_; rintro e w1 ⟨g, v, rfl, hN, hg, hv, hB⟩; rw [hc] at hN; have HN := Aside0.mk (hN.below (below_alloc (Below.refl w1.heap.size w1) (Obj.cells #[.int .i64 1, .int .i64 0, .int .i64 0, .int .i64 0, .int .i64 0, .slice none 0 0, .slice none 0 0, .int .i64 1, .int .i64 1, .int .i64 0, .int .i64 0, .int .i64 0, .slice none 0 0, .slice none 0 0, .int .i64 1, .int .i64 2, .int .i64 0, .int .i64 0, .int .i64 0, .slice none 0 0, .slice none 0 0] 74))); have HB := Aside0.mk (below_alloc hB (Obj.cells #[.int .i64 1, .int .i64 0, .int .i64 0, .int .i64 0, .int .i64 0, .slice none 0 0, .slice none 0 0, .int .i64 1, .int .i64 1, .int .i64 0, .int .i64 0, .int .i64 0, .slice none 0 0, .slice none 0 0, .int .i64 1, .int .i64 2, .int .i64 0, .int .i64 0, .int .i64 0, .slice none 0 0, .slice none 0 0] 74)); have HT := Aside0.mk (blk_new w1 (Obj.cells #[.int .i64 1, .int .i64 0, .int .i64 0, .int .i64 0, .int .i64 0, .slice none 0 0, .slice none 0 0, .int .i64 1, .int .i64 1, .int .i64 0, .int .i64 0, .int .i64 0, .slice none 0 0, .slice none 0 0, .int .i64 1, .int .i64 2, .int .i64 0, .int .i64 0, .int .i64 0, .slice none 0 0, .slice none 0 0] 74)); have HGL := Aside0.mk (blk_lt hN.blk); have HV := Aside0.mk hv; clear hN hg hv hB)
    | (go_at_call 54; refine (post_calls w.heap.size w _ g 2 v [] HN.out HB.out.size HB.out (by simp) (by omega) (some ⟨w1.heap.size, 0, none⟩) 3 [mailN 0, mailN 1, mailN 2] (Nat.le_refl _) (fun W' hK => three_C (blk_kept HT.out hK (fun hS => hS.elim (fun he => by have := HGL.out; omega) (fun he => by rw [HV.out] at he; cases he)))) (fun x hx => by simp at hx; rcases hx with rfl | rfl | rfl <;> exact mailN_fits _) (by simp) 2 (by decide)).mono ?_; rintro e w2 ⟨rfl, v2, hN, hA, hK, hB⟩; have HN2 := Aside0.mk (show NetIs w.heap.size w2 g 2 v2 [mailN 0, mailN 1] from hN); have HB2 := Aside0.mk hB; clear hN hA hK hB)
    | (go_at_call 61; refine (len_calls w.heap.size _ g 2 v2 _ HN2.out).mono ?_; rintro e w3 ⟨rfl, hw⟩; rw [hw]; clear hw)
    | (go_at_call 56; refine (take_ok w.heap.size w _ g 2 v2 [mailN 0, mailN 1] 0 HN2.out HB2.out.size HB2.out (by simp)).mono ?_; rintro e w3 ⟨v5, v6, v3, rfl, hM, hN, hv, hK, hB⟩; obtain ⟨u5, u6, he, r5, r6⟩ := k74_openM hM; simp [mailV] at he; obtain ⟨rfl, rfl⟩ := he; obtain ⟨A5, c5, e5⟩ := Kd.R_slice r5; subst e5; obtain ⟨A6, c6, e6⟩ := Kd.R_slice r6; subst e6; simp only [mailV, List.getElem_cons_zero, mailN]; have HN3 := Aside0.mk (fun o => NetIs.below (show NetIs w.heap.size w3 g 2 v3 [mailN 1] from hN) (below_alloc (Below.refl w3.heap.size w3) o)); have HB3 := Aside0.mk (fun o => below_alloc hB o); clear hM hN hv hK hB r5 r6)
    | (go_at_call 59; refine (copy_ok w.heap.size w _ g 2 v3 [mailN 1] 0 (HN3.out _) (HB3.out _).size (HB3.out _) (by simp) (by simp) (by omega)).mono ?_; rintro e w4 ⟨rfl, v4, hN, hA, hK, hB⟩; have HN4 := Aside0.mk (show NetIs w.heap.size w4 g 2 v4 [mailN 1, mailN 1] from hN); have HB4 := Aside0.mk hB; clear hN hA hK hB)
    | (go_at_call 61; refine (len_calls w.heap.size _ g 2 v4 _ HN4.out).mono ?_; rintro e w5 ⟨rfl, hw⟩; rw [hw]; clear hw)
    | (go_at_call 60; refine (all_calls w.heap.size _ g 2 v4 _ HN4.out HB4.out.size).mono ?_; rintro e w5 ⟨v7, rfl, hR, hB⟩; obtain ⟨A7, c7, e7⟩ := Kd.R_slice hR; subst e7; have HB5 := Aside0.mk (below_step HB4.out hB); clear hR hB))
  go_ret
  exact ⟨rfl, HB5.out⟩
end Go.Proofs.Ytijccobeljoikaa.Nt
