/- Written by ownprint.py, an own program round the print: plain Lean functions for Go functions, and that the Go code comes to what they say. -/
import Derived.Test.YtijccobeljoikaaNtx0
import Derived.Test.YtijccobeljoikaaPkOrA
namespace Go.Proofs.Ytijccobeljoikaa.Nt
open Go.RowKit Go.Proofs.YtijccobeljoikaaW.PrintWords Go.Proofs.YtijccobeljoikaaW.PrintLast Go.Proofs.YtijccobeljoikaaW.PrintMore
attribute [local go_sem] max2_int min2_int max_two min_two max_three min_three max_four min_four   -- for this text's walks alone
set_option linter.unusedVariables false
set_option linter.unusedSimpArgs false

/-! ### stanchionref21_Net_Copy: function 58 -/
def stanchionref21_Net_Copy.j0 : Nat → Int → Bool → Int → List (S74) → Option (Int × (List (S74)) × Int)
  | 0, _, _, _, _ => none
  | k + 1, x1, x15, x296000, x296001 => if x15 = true then (some (x296000, x296001, 211)) else (if (x296001.length : Int) ≥ x296000 then (some (x296000, x296001, 210)) else ((some (([] : List (S74)) : List (S74))).bind fun y297 => (if y297.length + x296001.length < 1599289640401 then ((some (y297 ++ x296001 : List (S74))).bind fun y300 => (if 0 ≤ x1 then (if x1 < (x296001.length : Int) then (if y300.length < 1599289640401 then (some (x296000, (y300 ++ [(⟨(⟨(rd_T74 x296001 x1).f0.f0, (rd_T74 x296001 x1).f0.f1⟩ : S70), (⟨(⟨(rd_T74 x296001 x1).f1.f0.f0, (rd_T74 x296001 x1).f1.f0.f1⟩ : S70), (rd_T74 x296001 x1).f1.f1, (rd_T74 x296001 x1).f1.f2, (rd_T74 x296001 x1).f1.f3⟩ : S72)⟩ : S74)]), 0)) else (none)) else (none)) else (none))) else (none))))
def stanchionref21_Net_Copy.f (k : Nat) (a0_0 : Int) (l0_1 : List (S74)) (a1 : Int) : Option (Int × (List (S74)) × Int) := if a1 < 0 then (stanchionref21_Net_Copy.j0 k a1 true a0_0 l0_1) else (stanchionref21_Net_Copy.j0 k a1 (decide (a1 ≥ (l0_1.length : Int))) a0_0 l0_1)
theorem stanchionref21_Net_Copy.mono_l : ∀ k, (∀ y0 y1 y2 y3, LeO (stanchionref21_Net_Copy.j0 k y0 y1 y2 y3) (stanchionref21_Net_Copy.j0 (k + 1) y0 y1 y2 y3))
  | 0 => fun _ _ _ _ r h => by simp [stanchionref21_Net_Copy.j0] at h
  | k + 1 => by
    have ih0 := stanchionref21_Net_Copy.mono_l k
    · intro y0 y1 y2 y3
      unfold stanchionref21_Net_Copy.j0
      repeat' first
      | (with_reducible exact ih0 _ _ _ _)
      | (with_reducible exact LeO.refl _)
      | (with_reducible exact LeO.none _)
      | (with_reducible refine LeO.ite ?_ ?_)
      | (with_reducible refine LeO.bind ?_ (fun _ => ?_))
      | exact ih0 _ _ _ _
      | exact LeO.none _
      | refine LeO.ite ?_ ?_
      | refine LeO.bind ?_ (fun _ => ?_)
theorem stanchionref21_Net_Copy.mono : ∀ a0 a1 a2 k, LeO (stanchionref21_Net_Copy.f k a0 a1 a2) (stanchionref21_Net_Copy.f (k + 1) a0 a1 a2) := by
  intro a0 a1 a2 k
  have ih0 := stanchionref21_Net_Copy.mono_l k
  unfold stanchionref21_Net_Copy.f
  repeat' first
      | (with_reducible exact ih0 _ _ _ _)
      | (with_reducible exact LeO.refl _)
      | (with_reducible exact LeO.none _)
      | (with_reducible refine LeO.ite ?_ ?_)
      | (with_reducible refine LeO.bind ?_ (fun _ => ?_))
      | exact ih0 _ _ _ _
      | exact LeO.none _
      | refine LeO.ite ?_ ?_
      | refine LeO.bind ?_ (fun _ => ?_)
set_option maxHeartbeats 8000000 in
set_option maxRecDepth 100000 in
theorem stanchionref21_Net_Copy.calls (k : Nat) (a0_0 : Int) (P0_1_ : Nat → Prop) (A0_1 : Option Addr) (c0_1 : Nat) (l0_1 : List (S74)) (a1 : Int) (r1 : Int) (r2 : List (S74)) (r3 : Int) (w : World) (hs0_1 : Kd.V k74 74 w w.heap.size (fun k_ => P0_1_ k_) (.slice A0_1 l0_1.length c0_1) l0_1) (h : stanchionref21_Net_Copy.f k a0_0 l0_1 a1 = some (r1, r2, r3)) :
    Calls Try.prog 58 #[.agg #[.int .i64 a0_0, .slice A0_1 l0_1.length c0_1], .int .i64 a1] w fun e w' => ∃ v1_ : Value, e = .returned (.tuple #[.agg #[.int .i64 r1, v1_], .int .i64 r3]) ∧ Kd.V k74 74 w' w.heap.size (fun k_ => (P0_1_ k_ ∨ w.heap.size ≤ k_)) v1_ r2 ∧ Below w.heap.size w w' := by
  have hu60 := Try.underlying60
  have hu74 := Try.underlying74
  have HO0_1 := Aside0.mk (show Kd.V k74 74 w w.heap.size (fun k_ => (P0_1_ k_ ∨ w.heap.size ≤ k_)) (.slice A0_1 l0_1.length c0_1) l0_1 from Kd.V_mono hs0_1 (fun k_ hk => .inl hk))
  have HB := Aside0.mk (Below.refl w.heap.size w)
  have H : (if a1 < 0 then (stanchionref21_Net_Copy.j0 k a1 true a0_0 l0_1) else (stanchionref21_Net_Copy.j0 k a1 (decide (a1 ≥ (l0_1.length : Int))) a0_0 l0_1)) = some (r1, r2, r3) := h
  clear h
  have HC3 := Aside0.mk H
  clear H
  go_enter Try.func58, Try.ntmps58
  go_upto_region 1 with (first | ((with_reducible refine gate_dst (N := 2) rfl ?_); (try (refine gate_guard (by rfl) ?_; dsimp only)); refine box_event ?hg (N := 2) ?hd (cs := #[.int .i64 a0_0, .slice A0_1 l0_1.length c0_1]) (t := 60) ?hr ?_; (case hd => rfl); (case hg => rfl); (case hr => first | (go_simp; done) | (go_simp; rfl)); intro gb295 hg w4 hbox hb; have n0_ := Aside0.mk (Kd.V_below (Kd.V_elderB (by (with_reducible repeat (first | apply Kd.V_alloc | apply Kd.V_drewN | apply Kd.V_drew)); exact HO0_1.out) gb295 (Nat.le_of_eq hg.symm)) hb); have n1_ := Aside0.mk (below_step (by repeat (first | (with_reducible first | exact HB.out | apply below_alloc | apply pw_below_drewN | apply below_drew1) | exact HB.out)) hb); have n2_ := Aside0.mk (hbox); have n3_ := Aside0.mk ((by rw [hg]; exact (below_size (by repeat (first | (with_reducible first | exact HB.out | apply below_alloc | apply pw_below_drewN | apply below_drew1) | exact HB.out))) : w.heap.size ≤ gb295)); have n4_ := Aside0.mk ((by rw [hg]; exact (below_size (by repeat (first | (with_reducible first | exact HB.out | apply below_alloc | apply pw_below_drewN | apply below_drew1) | exact HB.out))) : w.heap.size ≤ gb295)); clear HO0_1; clear HB; have HO0_1 := n0_; have HB := n1_; have BK295 := n2_; have GW295 := n3_; have GE295 := n4_; clear n0_ n1_ n2_ n3_ n4_; clear hb hbox hg) | ((with_reducible refine gate_dst (N := 4) rfl ?_); (try (refine gate_guard (by rfl) ?_; dsimp only)); refine box_event ?hg (N := 4) ?hd (cs := #[.int .i64 0, .slice none 0 0]) (t := 60) ?hr ?_; (case hd => rfl); (case hg => rfl); (case hr => first | (go_simp; done) | (go_simp; rfl)); intro gb296 hg w5 hbox hb; have n0_ := Aside0.mk (Kd.V_below (Kd.V_elderB (by (with_reducible repeat (first | apply Kd.V_alloc | apply Kd.V_drewN | apply Kd.V_drew)); exact HO0_1.out) gb296 (Nat.le_of_eq hg.symm)) hb); have n1_ := Aside0.mk (blk_below (g := gb295) (o := .cells #[.int .i64 a0_0, .slice A0_1 l0_1.length c0_1] 60 (0, 0)) (by (with_reducible repeat (first | refine blk_drewN ?_ _ | refine blk_drew ?_ | refine blk_alloc ?_ _)); exact BK295.out) hb); have n2_ := Aside0.mk (below_step (by repeat (first | (with_reducible first | exact HB.out | apply below_alloc | apply pw_below_drewN | apply below_drew1 | refine below_set ?_ GE295.out) | exact HB.out)) hb); have n3_ := Aside0.mk (hbox); have n4_ := Aside0.mk ((by rw [hg]; exact (below_size (by repeat (first | (with_reducible first | exact HB.out | apply below_alloc | apply pw_below_drewN | apply below_drew1 | refine below_set ?_ GE295.out) | exact HB.out))) : w.heap.size ≤ gb296)); have n5_ := Aside0.mk ((by rw [hg]; exact (below_size (by repeat (first | (with_reducible first | exact HB.out | apply below_alloc | apply pw_below_drewN | apply below_drew1 | refine below_set ?_ GE295.out) | exact HB.out))) : w.heap.size ≤ gb296)); have n6_ := Aside0.mk ((by rw [hg]; exact Nat.ne_of_lt (blk_lt (g := gb295) (o := .cells #[.int .i64 a0_0, .slice A0_1 l0_1.length c0_1] 60 (0, 0)) (by (with_reducible repeat (first | refine blk_drewN ?_ _ | refine blk_drew ?_ | refine blk_alloc ?_ _)); exact BK295.out)) : gb295 ≠ gb296)); have n7_ := Aside0.mk ((by rw [hg]; exact Nat.ne_of_gt (blk_lt (g := gb295) (o := .cells #[.int .i64 a0_0, .slice A0_1 l0_1.length c0_1] 60 (0, 0)) (by (with_reducible repeat (first | refine blk_drewN ?_ _ | refine blk_drew ?_ | refine blk_alloc ?_ _)); exact BK295.out)) : gb296 ≠ gb295)); clear HO0_1; clear BK295; clear HB; have HO0_1 := n0_; have BK295 := n1_; have HB := n2_; have BK296 := n3_; have GW296 := n4_; have GE296 := n5_; have NB295_296 := n6_; have NB296_295 := n7_; clear n0_ n1_ n2_ n3_ n4_ n5_ n6_ n7_; clear hb hbox hg))
  (try simp only [Act.put, List.setIfInBounds_toArray, List.set_cons_zero, List.set_cons_succ])
  go_cut [15] (fun v15 wc => ∃ (kq : Nat) (x15_2 : Bool), v15 = .bool x15_2 ∧ Aside0 (stanchionref21_Net_Copy.j0 kq a1 x15_2 a0_0 l0_1 = some (r1, r2, r3)) ∧ Aside0 (kq ≤ k) ∧ Aside0 (Kd.V k74 74 wc w.heap.size (fun k_ => (P0_1_ k_ ∨ w.heap.size ≤ k_) ∧ k_ ≠ gb295 ∧ k_ ≠ gb296) (.slice A0_1 l0_1.length c0_1) l0_1) ∧ Aside0 (wc.heap[gb295]? = some (.cells #[.int .i64 a0_0, (.slice A0_1 l0_1.length c0_1)] 60 (0, 0))) ∧ Aside0 (wc.heap[gb296]? = some (.cells #[.int .i64 0, (.slice none 0 0)] 60 (0, 0))) ∧ Aside0 (Below w.heap.size w wc))
  case first =>
    have H := HC3.out
    clear HC3
    by_cases c6 : a1 < 0
    · rw [if_pos c6] at H
      have c6b0 : decide (a1 < 0) = true := decide_eq_true c6
      clear c6
      (first | rw [c6b0] | (simp only [i64_w, i32_w]; rw [c6b0]) | skip)
      have H' := Aside0.mk H
      clear H
      go_wp2
      go_meet
      case rel => exact ⟨_, (true), (by first | rfl | (simp; done) | (simp [*]; done)), H', ⟨by first | omega | exact Nat.le_refl _⟩, ⟨by (with_reducible repeat (first | apply Kd.V_alloc | apply Kd.V_drewN | apply Kd.V_drew)); exact Kd.V_mono HO0_1.out (fun _ hk => ⟨hk.1.1, ⟨hk.1.2, hk.2⟩⟩)⟩, ⟨by (with_reducible repeat (first | refine blk_drewN ?_ _ | refine blk_drew ?_ | refine blk_alloc ?_ _)); exact BK295.out⟩, ⟨by (with_reducible repeat (first | refine blk_drewN ?_ _ | refine blk_drew ?_ | refine blk_alloc ?_ _)); exact BK296.out⟩, ⟨by repeat (first | (with_reducible first | exact HB.out | apply below_alloc | apply pw_below_drewN | apply below_drew1 | refine below_set ?_ GE295.out | refine below_set ?_ GE296.out) | exact HB.out)⟩⟩
    · rw [if_neg c6] at H
      have c6b0 : decide (a1 < 0) = false := decide_eq_false c6
      clear c6
      (first | rw [c6b0] | (simp only [i64_w, i32_w]; rw [c6b0]) | skip)
      have H' := Aside0.mk H
      clear H
      have hnb7 := NB295_296.out
      have hnc7 := NB296_295.out
      have hcz8_0 : w5.cell? ⟨gb295, 0, none⟩ = some (.int .i64 a0_0) := (blk_cell BK295.out 0).trans rfl
      have hcz8_1 : w5.cell? ⟨gb295, 1, none⟩ = some (.slice A0_1 l0_1.length c0_1) := (blk_cell BK295.out 1).trans rfl
      have hfz8_0 := blk_frozen BK295.out 0
      have hfz8_1 := blk_frozen BK295.out 1
      go_wp2
      go_meet
      case rel => exact ⟨_, (decide (a1 ≥ (l0_1.length : Int))), (by first | rfl | (simp; done) | (simp [*]; done)), H', ⟨by first | omega | exact Nat.le_refl _⟩, ⟨by (with_reducible repeat (first | apply Kd.V_alloc | apply Kd.V_drewN | apply Kd.V_drew)); exact Kd.V_mono HO0_1.out (fun _ hk => ⟨hk.1.1, ⟨hk.1.2, hk.2⟩⟩)⟩, ⟨by (with_reducible repeat (first | refine blk_drewN ?_ _ | refine blk_drew ?_ | refine blk_alloc ?_ _)); exact BK295.out⟩, ⟨by (with_reducible repeat (first | refine blk_drewN ?_ _ | refine blk_drew ?_ | refine blk_alloc ?_ _)); exact BK296.out⟩, ⟨by repeat (first | (with_reducible first | exact HB.out | apply below_alloc | apply pw_below_drewN | apply below_drew1 | refine below_set ?_ GE295.out | refine below_set ?_ GE296.out) | exact HB.out)⟩⟩
  case rest =>
    clear HC3
    try clear p2
    try clear c5
    try clear c6
    try clear c6b0
    try clear c7
    try clear hcz8_0
    try clear hcz8_1
    try clear hfz8_0
    try clear hfz8_1
    obtain ⟨kq, x15_2, rfl, HA, HJ2, HO_296001, BK295, BK296, HB⟩ := hcut
    cases kq with
    | zero => exact absurd HA.out (by simp [stanchionref21_Net_Copy.j0])
    | succ kj2 =>
      have H := HA.out
      clear HA
      simp only [stanchionref21_Net_Copy.j0] at H
      by_cases c9 : x15_2 = true
      · subst c9
        have H1 : (some (a0_0, l0_1, 211)) = some (r1, r2, r3) := by rw [if_pos rfl] at H; exact H
        clear H
        have H := H1
        clear H1
        simp only [Option.some.injEq, Prod.mk.injEq] at H
        obtain ⟨rfl, rfl, rfl⟩ := H
        have hnb10 := NB295_296.out
        have hnc10 := NB296_295.out
        have hcz11_0 : wc.cell? ⟨gb295, 0, none⟩ = some (.int .i64 a0_0) := (blk_cell BK295.out 0).trans rfl
        have hcz11_1 : wc.cell? ⟨gb295, 1, none⟩ = some (.slice A0_1 l0_1.length c0_1) := (blk_cell BK295.out 1).trans rfl
        have hfz11_0 := blk_frozen BK295.out 0
        have hfz11_1 := blk_frozen BK295.out 1
        have hcz12_0 : wc.cell? ⟨gb296, 0, none⟩ = some (.int .i64 0) := (blk_cell BK296.out 0).trans rfl
        have hcz12_1 : wc.cell? ⟨gb296, 1, none⟩ = some (.slice none 0 0) := (blk_cell BK296.out 1).trans rfl
        have hfz12_0 := blk_frozen BK296.out 0
        have hfz12_1 := blk_frozen BK296.out 1
        go_wp2
        refine bodyPost_ret (results_ct rfl _ _ gb296 60 #[.int .i64 a0_0, .slice A0_1 l0_1.length c0_1] (0, 0) _ rfl (by (with_reducible repeat (first | refine blk_drewN ?_ _ | refine blk_drew ?_ | refine blk_alloc ?_ _)); refine blk_put (cs := #[.int .i64 a0_0, .slice none 0 0]) ?_ 1 _ rfl; (with_reducible repeat (first | refine blk_drewN ?_ _ | refine blk_drew ?_ | refine blk_alloc ?_ _)); refine blk_put (cs := #[.int .i64 0, .slice none 0 0]) ?_ 0 _ rfl; (with_reducible repeat (first | refine blk_drewN ?_ _ | refine blk_drew ?_ | refine blk_alloc ?_ _)); exact BK296.out) Try.underlying60 rfl (by kernel_rfl)) rfl ?_
        exact ⟨_, by first | rfl | (simp [errW_none, errW_some] <;> rfl) | (simp [*, errW_none, errW_some] <;> rfl), by (with_reducible repeat (first | apply Kd.V_alloc | apply Kd.V_drewN | apply Kd.V_drew)); exact Kd.V_mono (Kd.V_far (p := ⟨gb296, 1, none⟩) (Kd.V_far (p := ⟨gb296, 0, none⟩) (Kd.V_mono HO_296001.out (fun k_ hk => (⟨hk, hk.2.2⟩ : _ ∧ k_ ≠ gb296))) (fun _ hk => hk.2) (.int .i64 a0_0)) (fun _ hk => hk.2) (.slice A0_1 l0_1.length c0_1)) (fun _ hk => hk.1.1), by repeat (first | (with_reducible first | exact HB.out | apply below_alloc | apply pw_below_drewN | apply below_drew1 | refine below_set ?_ GE295.out | refine below_set ?_ GE296.out) | exact HB.out)⟩
      · replace c9 := Bool.eq_false_iff.mpr c9
        subst c9
        have H1 : (if (l0_1.length : Int) ≥ a0_0 then (some (a0_0, l0_1, 210)) else ((some (([] : List (S74)) : List (S74))).bind fun y297 => (if y297.length + l0_1.length < 1599289640401 then ((some (y297 ++ l0_1 : List (S74))).bind fun y300 => (if 0 ≤ a1 then (if a1 < (l0_1.length : Int) then (if y300.length < 1599289640401 then (some (a0_0, (y300 ++ [(⟨(⟨(rd_T74 l0_1 a1).f0.f0, (rd_T74 l0_1 a1).f0.f1⟩ : S70), (⟨(⟨(rd_T74 l0_1 a1).f1.f0.f0, (rd_T74 l0_1 a1).f1.f0.f1⟩ : S70), (rd_T74 l0_1 a1).f1.f1, (rd_T74 l0_1 a1).f1.f2, (rd_T74 l0_1 a1).f1.f3⟩ : S72)⟩ : S74)]), 0)) else (none)) else (none)) else (none))) else (none)))) = some (r1, r2, r3) := by rw [if_neg (show ¬ (false = true) by decide)] at H; exact H
        clear H
        have H := H1
        clear H1
        by_cases c13 : (l0_1.length : Int) ≥ a0_0
        · rw [if_pos c13] at H
          have c13b0 : decide (a0_0 ≤ (l0_1.length : Int)) = true := decide_eq_true c13
          clear c13
          simp only [Option.some.injEq, Prod.mk.injEq] at H
          obtain ⟨rfl, rfl, rfl⟩ := H
          have hnb14 := NB295_296.out
          have hnc14 := NB296_295.out
          have hcz15_0 : wc.cell? ⟨gb295, 0, none⟩ = some (.int .i64 a0_0) := (blk_cell BK295.out 0).trans rfl
          have hcz15_1 : wc.cell? ⟨gb295, 1, none⟩ = some (.slice A0_1 l0_1.length c0_1) := (blk_cell BK295.out 1).trans rfl
          have hfz15_0 := blk_frozen BK295.out 0
          have hfz15_1 := blk_frozen BK295.out 1
          have hcz16_0 : wc.cell? ⟨gb296, 0, none⟩ = some (.int .i64 0) := (blk_cell BK296.out 0).trans rfl
          have hcz16_1 : wc.cell? ⟨gb296, 1, none⟩ = some (.slice none 0 0) := (blk_cell BK296.out 1).trans rfl
          have hfz16_0 := blk_frozen BK296.out 0
          have hfz16_1 := blk_frozen BK296.out 1
          go_wp2
          refine bodyPost_ret (results_ct rfl _ _ gb296 60 #[.int .i64 a0_0, .slice A0_1 l0_1.length c0_1] (0, 0) _ rfl (by (with_reducible repeat (first | refine blk_drewN ?_ _ | refine blk_drew ?_ | refine blk_alloc ?_ _)); refine blk_put (cs := #[.int .i64 a0_0, .slice none 0 0]) ?_ 1 _ rfl; (with_reducible repeat (first | refine blk_drewN ?_ _ | refine blk_drew ?_ | refine blk_alloc ?_ _)); refine blk_put (cs := #[.int .i64 0, .slice none 0 0]) ?_ 0 _ rfl; (with_reducible repeat (first | refine blk_drewN ?_ _ | refine blk_drew ?_ | refine blk_alloc ?_ _)); exact BK296.out) Try.underlying60 rfl (by kernel_rfl)) rfl ?_
          exact ⟨_, by first | rfl | (simp [errW_none, errW_some] <;> rfl) | (simp [*, errW_none, errW_some] <;> rfl), by (with_reducible repeat (first | apply Kd.V_alloc | apply Kd.V_drewN | apply Kd.V_drew)); exact Kd.V_mono (Kd.V_far (p := ⟨gb296, 1, none⟩) (Kd.V_far (p := ⟨gb296, 0, none⟩) (Kd.V_mono HO_296001.out (fun k_ hk => (⟨hk, hk.2.2⟩ : _ ∧ k_ ≠ gb296))) (fun _ hk => hk.2) (.int .i64 a0_0)) (fun _ hk => hk.2) (.slice A0_1 l0_1.length c0_1)) (fun _ hk => hk.1.1), by repeat (first | (with_reducible first | exact HB.out | apply below_alloc | apply pw_below_drewN | apply below_drew1 | refine below_set ?_ GE295.out | refine below_set ?_ GE296.out) | exact HB.out)⟩
        · rw [if_neg c13] at H
          have c13b0 : decide (a0_0 ≤ (l0_1.length : Int)) = false := decide_eq_false c13
          clear c13
          obtain ⟨y297, hy297⟩ : ∃ y_ : List (S74), y_ = (([] : List (S74))) := ⟨_, rfl⟩
          replace H : (if y297.length + l0_1.length < 1599289640401 then ((some (y297 ++ l0_1 : List (S74))).bind fun y300 => (if 0 ≤ a1 then (if a1 < (l0_1.length : Int) then (if y300.length < 1599289640401 then (some (a0_0, (y300 ++ [(⟨(⟨(rd_T74 l0_1 a1).f0.f0, (rd_T74 l0_1 a1).f0.f1⟩ : S70), (⟨(⟨(rd_T74 l0_1 a1).f1.f0.f0, (rd_T74 l0_1 a1).f1.f0.f1⟩ : S70), (rd_T74 l0_1 a1).f1.f1, (rd_T74 l0_1 a1).f1.f2, (rd_T74 l0_1 a1).f1.f3⟩ : S72)⟩ : S74)]), 0)) else (none)) else (none)) else (none))) else (none)) = some (r1, r2, r3) := by first | (rw [hy297]; with_reducible exact H) | (have H2_ := (Option.bind_some _ _).symm.trans H; rw [hy297]; with_reducible exact H2_) | (have H2_ := (Option.bind_some _ _).symm.trans H; with_reducible exact H2_) | with_reducible exact H | (rw [hy297]; exact H) | exact H
          have Ny297 := Aside0.mk hy297
          clear hy297
          by_cases c17 : y297.length + l0_1.length < 1599289640401
          · rw [if_pos c17] at H
            have LMc17 := Aside0.mk c17
            clear c17
            obtain ⟨y300, hy300⟩ : ∃ y_ : List (S74), y_ = (y297 ++ l0_1) := ⟨_, rfl⟩
            replace H : (if 0 ≤ a1 then (if a1 < (l0_1.length : Int) then (if y300.length < 1599289640401 then (some (a0_0, (y300 ++ [(⟨(⟨(rd_T74 l0_1 a1).f0.f0, (rd_T74 l0_1 a1).f0.f1⟩ : S70), (⟨(⟨(rd_T74 l0_1 a1).f1.f0.f0, (rd_T74 l0_1 a1).f1.f0.f1⟩ : S70), (rd_T74 l0_1 a1).f1.f1, (rd_T74 l0_1 a1).f1.f2, (rd_T74 l0_1 a1).f1.f3⟩ : S72)⟩ : S74)]), 0)) else (none)) else (none)) else (none)) = some (r1, r2, r3) := by first | (rw [hy300]; with_reducible exact H) | (have H2_ := (Option.bind_some _ _).symm.trans H; rw [hy300]; with_reducible exact H2_) | (have H2_ := (Option.bind_some _ _).symm.trans H; with_reducible exact H2_) | with_reducible exact H | (rw [hy300]; exact H) | exact H
            have Ny300 := Aside0.mk hy300
            clear hy300
            by_cases c18 : 0 ≤ a1
            · rw [if_pos c18] at H
              have c18b0 : decide (0 ≤ a1) = true := decide_eq_true c18
              clear c18
              by_cases c19 : a1 < (l0_1.length : Int)
              · rw [if_pos c19] at H
                have c19b0 : decide (a1 < (l0_1.length : Int)) = true := decide_eq_true c19
                clear c19
                by_cases c20 : y300.length < 1599289640401
                · rw [if_pos c20] at H
                  have LMc20 := Aside0.mk c20
                  clear c20
                  obtain ⟨y304, hy304⟩ : ∃ y_ : List (S74), y_ = (y300 ++ [(⟨(⟨(rd_T74 l0_1 a1).f0.f0, (rd_T74 l0_1 a1).f0.f1⟩ : S70), (⟨(⟨(rd_T74 l0_1 a1).f1.f0.f0, (rd_T74 l0_1 a1).f1.f0.f1⟩ : S70), (rd_T74 l0_1 a1).f1.f1, (rd_T74 l0_1 a1).f1.f2, (rd_T74 l0_1 a1).f1.f3⟩ : S72)⟩ : S74)]) := ⟨_, rfl⟩
                  replace H : (some (a0_0, y304, 0)) = some (r1, r2, r3) := by first | (rw [hy304]; with_reducible exact H) | (have H2_ := (Option.bind_some _ _).symm.trans H; rw [hy304]; with_reducible exact H2_) | (have H2_ := (Option.bind_some _ _).symm.trans H; with_reducible exact H2_) | with_reducible exact H | (rw [hy304]; exact H) | exact H
                  have Ny304 := Aside0.mk hy304
                  clear hy304
                  simp only [Option.some.injEq, Prod.mk.injEq] at H
                  obtain ⟨rfl, rfl, rfl⟩ := H
                  have hnb21 := NB295_296.out
                  have hnc21 := NB296_295.out
                  have hcz22_0 : wc.cell? ⟨gb295, 0, none⟩ = some (.int .i64 a0_0) := (blk_cell BK295.out 0).trans rfl
                  have hcz22_1 : wc.cell? ⟨gb295, 1, none⟩ = some (.slice A0_1 l0_1.length c0_1) := (blk_cell BK295.out 1).trans rfl
                  have hfz22_0 := blk_frozen BK295.out 0
                  have hfz22_1 := blk_frozen BK295.out 1
                  go_wp2_with (first | ((with_reducible refine gate_dst (N := 24) rfl ?_); (try (refine gate_guard (by rfl) ?_; dsimp only)); refine Kd.N_lit k74 _ 74 ?hg (N' := 24) ?hd (xs := ([] : List (S74))) (inner := []) (ok := (fun k_ => (P0_1_ k_ ∨ w.heap.size ≤ k_) ∧ k_ ≠ gb295 ∧ k_ ≠ gb296)) (okp := (fun k_ => (P0_1_ k_ ∨ w.heap.size ≤ k_) ∧ k_ ≠ gb295 ∧ k_ ≠ gb296)) ?hr ?hp (fun _ hk => hk) ((show ∀ k_, wc.heap.size ≤ k_ → (fun k_ => (P0_1_ k_ ∨ w.heap.size ≤ k_) ∧ k_ ≠ gb295 ∧ k_ ≠ gb296) k_ from fun k_ hk => ⟨(.inr (Nat.le_trans (below_size (by repeat (first | (with_reducible first | exact HB.out | apply below_alloc | apply pw_below_drewN | apply below_drew1 | refine below_set ?_ GE295.out | refine below_set ?_ GE296.out) | exact HB.out))) hk)), Kd.freshB (g := gb295) (o := .cells #[.int .i64 a0_0, .slice A0_1 l0_1.length c0_1] 60 (0, 0)) (by (with_reducible repeat (first | refine blk_drewN ?_ _ | refine blk_drew ?_ | refine blk_alloc ?_ _)); exact BK295.out) k_ hk, Kd.freshB (g := gb296) (o := .cells #[.int .i64 0, .slice none 0 0] 60 (0, 0)) (by (with_reducible repeat (first | refine blk_drewN ?_ _ | refine blk_drew ?_ | refine blk_alloc ?_ _)); exact BK296.out) k_ hk⟩) _ (Nat.le_refl _)) (Below.refl _ _) (Nat.le_refl _) (by simp) ?_; (case hd => rfl); (case hg => rfl); (case hr => first | (go_simp; done) | (go_simp; rfl)); (case hp => exact (Reps.none _ _)); intro v298 w23 ho24 hb hg_ hnew_; clear hg_ hnew_; (first | rw [← Ny297.out] at ho24 | (simp only [Int.reduceToNat] at ho24; rw [← Ny297.out] at ho24)); have n0_ := Aside0.mk (Kd.V_elder' (by (with_reducible repeat (first | apply Kd.V_alloc | apply Kd.V_drewN | apply Kd.V_drew)); exact HO_296001.out) (Kd.N_base ho24) hb); have n1_ := Aside0.mk (Kd.N_lower ho24 (below_size (by repeat (first | (with_reducible first | exact HB.out | apply below_alloc | apply pw_below_drewN | apply below_drew1 | refine below_set ?_ GE295.out | refine below_set ?_ GE296.out) | exact HB.out)))); have n2_ := Aside0.mk (blk_below (g := gb295) (o := .cells #[.int .i64 a0_0, .slice A0_1 l0_1.length c0_1] 60 (0, 0)) (by (with_reducible repeat (first | refine blk_drewN ?_ _ | refine blk_drew ?_ | refine blk_alloc ?_ _)); exact BK295.out) hb); have n3_ := Aside0.mk (blk_below (g := gb296) (o := .cells #[.int .i64 0, .slice none 0 0] 60 (0, 0)) (by (with_reducible repeat (first | refine blk_drewN ?_ _ | refine blk_drew ?_ | refine blk_alloc ?_ _)); exact BK296.out) hb); have n4_ := Aside0.mk (below_step (by repeat (first | (with_reducible first | exact HB.out | apply below_alloc | apply pw_below_drewN | apply below_drew1 | refine below_set ?_ GE295.out | refine below_set ?_ GE296.out) | exact HB.out)) hb); clear HO_296001; clear BK295; clear BK296; clear HB; have HO_296001 := n0_; have HO299 := n1_; have BK295 := n2_; have BK296 := n3_; have HB := n4_; clear n0_ n1_ n2_ n3_ n4_; clear hb ho24; have hcz25_0 : w23.cell? ⟨gb295, 0, none⟩ = some (.int .i64 a0_0) := (blk_cell BK295.out 0).trans rfl; have hcz25_1 : w23.cell? ⟨gb295, 1, none⟩ = some (.slice A0_1 l0_1.length c0_1) := (blk_cell BK295.out 1).trans rfl; have hfz25_0 := blk_frozen BK295.out 0; have hfz25_1 := blk_frozen BK295.out 1) | ((with_reducible refine gate_builtin (b := .append) (xs := #[.tmp 24, .tmp 26]) rfl ?_); (try (refine gate_guard (by rfl) ?_; dsimp only)); at_builtin; refine Kd.N_append_rows k74 (w0 := w) w.heap.size rfl (.tmp 24) (.tmp 26) 58 74 (.agg #[(.int .i64 0), (.int .i64 0), (.int .i64 0), (.int .i64 0), (.int .i64 0), (.slice none 0 0), (.slice none 0 0)]) 88 rfl Try.underlying58 info74 rfl (by decide) (by omega) v298 y297 l0_1 _ _ _ (fun k_ => (P0_1_ k_ ∨ w.heap.size ≤ k_) ∧ k_ ≠ gb295 ∧ k_ ≠ gb296) (fun k_ => ((fun k_ => (P0_1_ k_ ∨ w.heap.size ≤ k_) ∧ k_ ≠ gb295 ∧ k_ ≠ gb296)) k_ ∧ some k_ ≠ (v298 : Value).ownBlock) rfl rfl ?aO ?aR (fun _ hk => hk) ?aF ?aB ?aS ?aL ?_; (case aR => exact (by skip; exact Kd.V_F (Kd.V_mono (ok' := (fun k_ => ((fun k_ => (P0_1_ k_ ∨ w.heap.size ≤ k_) ∧ k_ ≠ gb295 ∧ k_ ≠ gb296)) k_ ∧ some k_ ≠ (v298 : Value).ownBlock)) (HO_296001.out) (fun k_ hk => ⟨⟨hk.1.1, ⟨hk.1.2.1, hk.1.2.2⟩⟩, hk.2⟩)))); (case aB => exact (by repeat (first | (with_reducible first | exact HB.out | apply below_alloc | apply pw_below_drewN | apply below_drew1 | refine below_set ?_ GE295.out | refine below_set ?_ GE296.out) | exact HB.out))); (case aF => exact (fun k_ hk => ⟨(.inr (Nat.le_trans (below_size (by repeat (first | (with_reducible first | exact HB.out | apply below_alloc | apply pw_below_drewN | apply below_drew1 | refine below_set ?_ GE295.out | refine below_set ?_ GE296.out) | exact HB.out))) hk)), Kd.freshB (g := gb295) (o := .cells #[.int .i64 a0_0, .slice A0_1 l0_1.length c0_1] 60 (0, 0)) (by (with_reducible repeat (first | refine blk_drewN ?_ _ | refine blk_drew ?_ | refine blk_alloc ?_ _)); exact BK295.out) k_ hk, Kd.freshB (g := gb296) (o := .cells #[.int .i64 0, .slice none 0 0] 60 (0, 0)) (by (with_reducible repeat (first | refine blk_drewN ?_ _ | refine blk_drew ?_ | refine blk_alloc ?_ _)); exact BK296.out) k_ hk⟩)); (case aO => exact (by (with_reducible repeat (first | apply Kd.N_alloc | apply Kd.N_drewN | apply Kd.N_drew)); exact HO299.out)); (case aS => exact (below_size (by repeat (first | (with_reducible first | exact HB.out | apply below_alloc | apply pw_below_drewN | apply below_drew1 | refine below_set ?_ GE295.out | refine below_set ?_ GE296.out) | exact HB.out)))); (case aL => have := LMc17.out; omega); intro v301 w26 ho hb hg hat; rw [← Ny300.out] at ho; have n0_ := Aside0.mk (Kd.V_afterv (ok := (fun k_ => (P0_1_ k_ ∨ w.heap.size ≤ k_) ∧ k_ ≠ gb295 ∧ k_ ≠ gb296)) (by (with_reducible repeat (first | apply Kd.V_alloc | apply Kd.V_drewN | apply Kd.V_drew)); exact HO_296001.out) hg hat); have n1_ := Aside0.mk (blk_grown (g := gb295) (o := .cells #[.int .i64 a0_0, .slice A0_1 l0_1.length c0_1] 60 (0, 0)) (by (with_reducible repeat (first | refine blk_drewN ?_ _ | refine blk_drew ?_ | refine blk_alloc ?_ _)); exact BK295.out) hg (Kd.N_ne HO299.out BK295.out (by decide))); have n2_ := Aside0.mk (blk_grown (g := gb296) (o := .cells #[.int .i64 0, .slice none 0 0] 60 (0, 0)) (by (with_reducible repeat (first | refine blk_drewN ?_ _ | refine blk_drew ?_ | refine blk_alloc ?_ _)); exact BK296.out) hg (Kd.N_ne HO299.out BK296.out (by decide))); have n3_ := Aside0.mk (hb); have n4_ := Aside0.mk (ho); clear HO_296001; clear BK295; clear BK296; clear HB; clear HO299; have HO_296001 := n0_; have BK295 := n1_; have BK296 := n2_; have HB := n3_; have HO302 := n4_; clear n0_ n1_ n2_ n3_ n4_; clear ho hb hg hat; have hcz27_0 : w26.cell? ⟨gb295, 0, none⟩ = some (.int .i64 a0_0) := (blk_cell BK295.out 0).trans rfl; have hcz27_1 : w26.cell? ⟨gb295, 1, none⟩ = some (.slice A0_1 l0_1.length c0_1) := (blk_cell BK295.out 1).trans rfl; have hfz27_0 := blk_frozen BK295.out 0; have hfz27_1 := blk_frozen BK295.out 1; have p303 : 0 ≤ (a1 : Int) := of_decide_eq_true (by first | (with_reducible assumption) | assumption); have q303 : a1 < (l0_1.length : Int) := of_decide_eq_true (by first | (with_reducible assumption) | assumption); obtain ⟨ad303, A303_5, c303_5, A303_6, c303_6, e303, hx303_0, hx303_1, hx303_2, hx303_3, hx303_4, hx303_5, hx303_6, hl303_5, hi303_5, hl303_6, hi303_6⟩ := at_T74 (Kd.V_reads' HO_296001.out).2.2 a1 p303 q303; cases e303; obtain ⟨ce303, hce303, hMe303, hcc303⟩ := Kd.V_get HO_296001.out z74 a1 p303 (by first | exact q303 | exact of_decide_eq_true (by first | (with_reducible assumption) | assumption) | (have e_ := (Kd.V_reads' HO_296001.out).1; omega)); obtain ⟨ua303_5, uc303_5, ua303_6, uc303_6, rfl, ul303_5, ge303_5, ul303_6, ge303_6⟩ := k74_openF hMe303; have hv303_5 := hcc303 5 _ rfl; rw [add_field _ _ 5 (by omega)] at hv303_5; replace hv303_5 := Option.some.inj (hv303_5.symm.trans hx303_5); injection hv303_5 with hva_ hvn_ hvc_; rw [hva_] at ge303_5; rw [hvc_] at ul303_5; have HL303_5 := Aside0.mk (show Kd.V (Kd.int .u8) 5 _ w.heap.size _ _ ((rd_T74 l0_1 a1).f1.f2) from Kd.V_mk ul303_5 ge303_5); clear hva_ hvn_ hvc_ ge303_5 ul303_5; have hv303_6 := hcc303 6 _ rfl; rw [add_field _ _ 6 (by omega)] at hv303_6; replace hv303_6 := Option.some.inj (hv303_6.symm.trans hx303_6); injection hv303_6 with hva_ hvn_ hvc_; rw [hva_] at ge303_6; rw [hvc_] at ul303_6; have HL303_6 := Aside0.mk (show Kd.V (Kd.slice 5 (Kd.int .u8)) 22 _ w.heap.size _ _ ((rd_T74 l0_1 a1).f1.f3) from Kd.V_mk ul303_6 ge303_6); clear hva_ hvn_ hvc_ ge303_6 ul303_6; clear hcc303 hce303; have HR303_5 := Aside0.mk hi303_5; have HC303_5 := Aside0.mk hl303_5; clear hi303_5 hl303_5; have HR303_6 := Aside0.mk hi303_6; have HC303_6 := Aside0.mk hl303_6; clear hi303_6 hl303_6; replace p303 := eq_true p303; replace q303 := eq_true q303) | ((with_reducible refine gate_builtin (b := .append) (xs := #[.tmp 28, .tmp 34]) rfl ?_); (try (refine gate_guard (by rfl) ?_; dsimp only)); at_builtin; refine Kd.N_append k74 (w0 := w) w.heap.size rfl (.tmp 28) (.tmp 34) 58 74 (.agg #[(.int .i64 0), (.int .i64 0), (.int .i64 0), (.int .i64 0), (.int .i64 0), (.slice none 0 0), (.slice none 0 0)]) 88 rfl Try.underlying58 info74 rfl (by decide) (by omega) v301 y300 (⟨(⟨(rd_T74 l0_1 a1).f0.f0, (rd_T74 l0_1 a1).f0.f1⟩ : S70), (⟨(⟨(rd_T74 l0_1 a1).f1.f0.f0, (rd_T74 l0_1 a1).f1.f0.f1⟩ : S70), (rd_T74 l0_1 a1).f1.f1, (rd_T74 l0_1 a1).f1.f2, (rd_T74 l0_1 a1).f1.f3⟩ : S72)⟩ : S74) [.int .i64 ((rd_T74 l0_1 a1).f0.f0), .int .i64 ((rd_T74 l0_1 a1).f0.f1), .int .i64 ((rd_T74 l0_1 a1).f1.f0.f0), .int .i64 ((rd_T74 l0_1 a1).f1.f0.f1), .int .i64 ((rd_T74 l0_1 a1).f1.f1), .slice A303_5 ((rd_T74 l0_1 a1).f1.f2).length c303_5, .slice A303_6 ((rd_T74 l0_1 a1).f1.f3).length c303_6] (fun k_ => (P0_1_ k_ ∨ w.heap.size ≤ k_) ∧ k_ ≠ gb295 ∧ k_ ≠ gb296) (fun k_ => ((fun k_ => (P0_1_ k_ ∨ w.heap.size ≤ k_) ∧ k_ ≠ gb295 ∧ k_ ≠ gb296)) k_ ∧ some k_ ≠ (v301 : Value).ownBlock) rfl rfl ?aP (fun _ hk => hk) ?aF ?aO ?aB ?aS ?aL ?_; (case aP => exact (k74_mkF _ _ (⟨(⟨(rd_T74 l0_1 a1).f0.f0, (rd_T74 l0_1 a1).f0.f1⟩ : S70), (⟨(⟨(rd_T74 l0_1 a1).f1.f0.f0, (rd_T74 l0_1 a1).f1.f0.f1⟩ : S70), (rd_T74 l0_1 a1).f1.f1, (rd_T74 l0_1 a1).f1.f2, (rd_T74 l0_1 a1).f1.f3⟩ : S72)⟩ : S74) (Kd.V_reads' (Kd.V_mono (ok' := (fun k_ => ((fun k_ => (P0_1_ k_ ∨ w.heap.size ≤ k_) ∧ k_ ≠ gb295 ∧ k_ ≠ gb296)) k_ ∧ some k_ ≠ (v301 : Value).ownBlock)) (HL303_5.out) (fun k_ hk => ⟨⟨hk.1.1, ⟨hk.1.2.1, hk.1.2.2⟩⟩, hk.2⟩))).2.1 (Kd.V_F (Kd.V_mono (ok' := (fun k_ => ((fun k_ => (P0_1_ k_ ∨ w.heap.size ≤ k_) ∧ k_ ≠ gb295 ∧ k_ ≠ gb296)) k_ ∧ some k_ ≠ (v301 : Value).ownBlock)) (HL303_5.out) (fun k_ hk => ⟨⟨hk.1.1, ⟨hk.1.2.1, hk.1.2.2⟩⟩, hk.2⟩))) (Kd.V_reads' (Kd.V_mono (ok' := (fun k_ => ((fun k_ => (P0_1_ k_ ∨ w.heap.size ≤ k_) ∧ k_ ≠ gb295 ∧ k_ ≠ gb296)) k_ ∧ some k_ ≠ (v301 : Value).ownBlock)) (HL303_6.out) (fun k_ hk => ⟨⟨hk.1.1, ⟨hk.1.2.1, hk.1.2.2⟩⟩, hk.2⟩))).2.1 (Kd.V_F (Kd.V_mono (ok' := (fun k_ => ((fun k_ => (P0_1_ k_ ∨ w.heap.size ≤ k_) ∧ k_ ≠ gb295 ∧ k_ ≠ gb296)) k_ ∧ some k_ ≠ (v301 : Value).ownBlock)) (HL303_6.out) (fun k_ hk => ⟨⟨hk.1.1, ⟨hk.1.2.1, hk.1.2.2⟩⟩, hk.2⟩))))); (case aB => exact (by repeat (first | (with_reducible first | exact HB.out | apply below_alloc | apply pw_below_drewN | apply below_drew1 | refine below_set ?_ GE295.out | refine below_set ?_ GE296.out) | exact HB.out))); (case aF => exact (fun k_ hk => ⟨(.inr (Nat.le_trans (below_size (by repeat (first | (with_reducible first | exact HB.out | apply below_alloc | apply pw_below_drewN | apply below_drew1 | refine below_set ?_ GE295.out | refine below_set ?_ GE296.out) | exact HB.out))) hk)), Kd.freshB (g := gb295) (o := .cells #[.int .i64 a0_0, .slice (some ad303) l0_1.length c0_1] 60 (0, 0)) (by (with_reducible repeat (first | refine blk_drewN ?_ _ | refine blk_drew ?_ | refine blk_alloc ?_ _)); exact BK295.out) k_ hk, Kd.freshB (g := gb296) (o := .cells #[.int .i64 0, .slice none 0 0] 60 (0, 0)) (by (with_reducible repeat (first | refine blk_drewN ?_ _ | refine blk_drew ?_ | refine blk_alloc ?_ _)); exact BK296.out) k_ hk⟩)); (case aO => exact (by (with_reducible repeat (first | apply Kd.N_alloc | apply Kd.N_drewN | apply Kd.N_drew)); exact HO302.out)); (case aS => exact (below_size (by repeat (first | (with_reducible first | exact HB.out | apply below_alloc | apply pw_below_drewN | apply below_drew1 | refine below_set ?_ GE295.out | refine below_set ?_ GE296.out) | exact HB.out)))); (case aL => have := LMc20.out; omega); intro v305 w28 ho hb hg hat; rw [← Ny304.out] at ho; have n0_ := Aside0.mk (Kd.V_afterv (ok := (fun k_ => (P0_1_ k_ ∨ w.heap.size ≤ k_) ∧ k_ ≠ gb295 ∧ k_ ≠ gb296)) (by (with_reducible repeat (first | apply Kd.V_alloc | apply Kd.V_drewN | apply Kd.V_drew)); exact HO_296001.out) hg hat); have n1_ := Aside0.mk (blk_grown (g := gb295) (o := .cells #[.int .i64 a0_0, .slice (some ad303) l0_1.length c0_1] 60 (0, 0)) (by (with_reducible repeat (first | refine blk_drewN ?_ _ | refine blk_drew ?_ | refine blk_alloc ?_ _)); exact BK295.out) hg (Kd.N_ne HO302.out BK295.out (by decide))); have n2_ := Aside0.mk (blk_grown (g := gb296) (o := .cells #[.int .i64 0, .slice none 0 0] 60 (0, 0)) (by (with_reducible repeat (first | refine blk_drewN ?_ _ | refine blk_drew ?_ | refine blk_alloc ?_ _)); exact BK296.out) hg (Kd.N_ne HO302.out BK296.out (by decide))); have n3_ := Aside0.mk (Kd.V_afterv (ok := (fun k_ => (P0_1_ k_ ∨ w.heap.size ≤ k_) ∧ k_ ≠ gb295 ∧ k_ ≠ gb296)) (by (with_reducible repeat (first | apply Kd.V_alloc | apply Kd.V_drewN | apply Kd.V_drew)); exact HL303_5.out) hg hat); have n4_ := Aside0.mk (Kd.V_afterv (ok := (fun k_ => (P0_1_ k_ ∨ w.heap.size ≤ k_) ∧ k_ ≠ gb295 ∧ k_ ≠ gb296)) (by (with_reducible repeat (first | apply Kd.V_alloc | apply Kd.V_drewN | apply Kd.V_drew)); exact HL303_6.out) hg hat); have n5_ := Aside0.mk (hb); have n6_ := Aside0.mk (ho); clear HO_296001; clear BK295; clear BK296; clear HL303_5; clear HL303_6; clear HB; clear HO302; have HO_296001 := n0_; have BK295 := n1_; have BK296 := n2_; have HL303_5 := n3_; have HL303_6 := n4_; have HB := n5_; have HO306 := n6_; clear n0_ n1_ n2_ n3_ n4_ n5_ n6_; clear ho hb hg hat; obtain ⟨Ao29, co29, eo29⟩ := Kd.N_slice HO306.out; subst eo29; have hcz30_0 : w28.cell? ⟨gb295, 0, none⟩ = some (.int .i64 a0_0) := (blk_cell BK295.out 0).trans rfl; have hcz30_1 : w28.cell? ⟨gb295, 1, none⟩ = some (.slice (some ad303) l0_1.length c0_1) := (blk_cell BK295.out 1).trans rfl; have hfz30_0 := blk_frozen BK295.out 0; have hfz30_1 := blk_frozen BK295.out 1; have hcz31_0 : w28.cell? ⟨gb296, 0, none⟩ = some (.int .i64 0) := (blk_cell BK296.out 0).trans rfl; have hcz31_1 : w28.cell? ⟨gb296, 1, none⟩ = some (.slice none 0 0) := (blk_cell BK296.out 1).trans rfl; have hfz31_0 := blk_frozen BK296.out 0; have hfz31_1 := blk_frozen BK296.out 1))
                  refine bodyPost_ret (results_ct rfl _ _ gb296 60 #[.int .i64 a0_0, .slice Ao29 y304.length co29] (0, 0) _ rfl (by (with_reducible repeat (first | refine blk_drewN ?_ _ | refine blk_drew ?_ | refine blk_alloc ?_ _)); refine blk_put (cs := #[.int .i64 a0_0, .slice none 0 0]) ?_ 1 _ rfl; (with_reducible repeat (first | refine blk_drewN ?_ _ | refine blk_drew ?_ | refine blk_alloc ?_ _)); refine blk_put (cs := #[.int .i64 0, .slice none 0 0]) ?_ 0 _ rfl; (with_reducible repeat (first | refine blk_drewN ?_ _ | refine blk_drew ?_ | refine blk_alloc ?_ _)); refine blk_far ?_ NB296_295.out _; (with_reducible repeat (first | refine blk_drewN ?_ _ | refine blk_drew ?_ | refine blk_alloc ?_ _)); exact BK296.out) Try.underlying60 rfl (by kernel_rfl)) rfl ?_
                  exact ⟨_, by first | rfl | (simp [errW_none, errW_some] <;> rfl) | (simp [*, errW_none, errW_some] <;> rfl), Kd.N_V (by (with_reducible repeat (first | apply Kd.N_alloc | apply Kd.N_drewN | apply Kd.N_drew)); exact Kd.N_mono (Kd.N_far (p := ⟨gb296, 1, none⟩) (Kd.N_far (p := ⟨gb296, 0, none⟩) (Kd.N_far (p := ⟨gb295, 1, none⟩) (Kd.N_mono (Kd.N_mono HO306.out (fun k_ hk => (⟨hk, hk.2.1⟩ : _ ∧ k_ ≠ gb295))) (fun k_ hk => (⟨hk, hk.1.2.2⟩ : _ ∧ k_ ≠ gb296))) (fun _ hk => hk.1.2) (.slice Ao29 y304.length co29)) (fun _ hk => hk.2) (.int .i64 a0_0)) (fun _ hk => hk.2) (.slice Ao29 y304.length co29)) (fun _ hk => hk.1.1.1)), by repeat (first | (with_reducible first | exact HB.out | apply below_alloc | apply pw_below_drewN | apply below_drew1 | refine below_set ?_ GE295.out | refine below_set ?_ GE296.out) | exact HB.out)⟩
                · rw [if_neg c20] at H
                  exact absurd H (by simp)
              · rw [if_neg c19] at H
                exact absurd H (by simp)
            · rw [if_neg c18] at H
              exact absurd H (by simp)
          · rw [if_neg c17] at H
            exact absurd H (by simp)


end Go.Proofs.Ytijccobeljoikaa.Nt
