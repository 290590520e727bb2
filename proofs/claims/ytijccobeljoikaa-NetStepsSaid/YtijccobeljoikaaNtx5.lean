/- Written by ownprint.py, an own program round the print: plain Lean functions for Go functions, and that the Go code comes to what they say. -/
import Derived.Test.YtijccobeljoikaaNtx0
import Derived.Test.YtijccobeljoikaaNtx4
import Derived.Test.YtijccobeljoikaaPkOrA
namespace Go.Proofs.Ytijccobeljoikaa.Nt
open Go.RowKit Go.Proofs.YtijccobeljoikaaW.PrintWords Go.Proofs.YtijccobeljoikaaW.PrintLast Go.Proofs.YtijccobeljoikaaW.PrintMore
attribute [local go_sem] max2_int min2_int max_two min_two max_three min_three max_four min_four   -- for this text's walks alone
set_option linter.unusedVariables false
set_option linter.unusedSimpArgs false

/-! ### stanchionref00_SameLetter: function 81 -/
def stanchionref00_SameLetter.f (k : Nat) (a0_0 : Int) (a0_1 : Int) (a0_2 : Int) (l0_3 : List Int) (l0_4 : List (List Int)) (a1_0 : Int) (a1_1 : Int) (a1_2 : Int) (l1_3 : List Int) (l1_4 : List (List Int)) : Option (Bool) := if (a0_0 == a1_0 && (a0_1 == a1_1)) = true then (if a0_2 = a1_2 then ((stanchionref00_SameBytes.f k l0_3 l1_3).bind fun t257 => (if t257 = true then ((stanchionref00_SameRows.f k l0_4 l1_4).bind fun t258 => (some t258)) else (some false))) else (some false)) else (some false)
theorem stanchionref00_SameLetter.mono : ∀ a0 a1 a2 a3 a4 a5 a6 a7 a8 a9 k, LeO (stanchionref00_SameLetter.f k a0 a1 a2 a3 a4 a5 a6 a7 a8 a9) (stanchionref00_SameLetter.f (k + 1) a0 a1 a2 a3 a4 a5 a6 a7 a8 a9) := by
  intro a0 a1 a2 a3 a4 a5 a6 a7 a8 a9 k
  unfold stanchionref00_SameLetter.f
  repeat' first
      | (with_reducible exact stanchionref00_SameBytes.mono _ _ _)
      | (with_reducible exact stanchionref00_SameRows.mono _ _ _)
      | (with_reducible exact LeO.refl _)
      | (with_reducible exact LeO.none _)
      | (with_reducible refine LeO.ite ?_ ?_)
      | (with_reducible refine LeO.bind ?_ (fun _ => ?_))
      | exact stanchionref00_SameBytes.mono _ _ _
      | exact stanchionref00_SameRows.mono _ _ _
      | exact LeO.none _
      | refine LeO.ite ?_ ?_
      | refine LeO.bind ?_ (fun _ => ?_)
set_option maxHeartbeats 8000000 in
set_option maxRecDepth 100000 in
theorem stanchionref00_SameLetter.calls (k : Nat) (a0_0 : Int) (a0_1 : Int) (a0_2 : Int) (A0_3 : Option Addr) (c0_3 : Nat) (l0_3 : List Int) (A0_4 : Option Addr) (c0_4 : Nat) (l0_4 : List (List Int)) (a1_0 : Int) (a1_1 : Int) (a1_2 : Int) (A1_3 : Option Addr) (c1_3 : Nat) (l1_3 : List Int) (A1_4 : Option Addr) (c1_4 : Nat) (l1_4 : List (List Int)) (r : Bool) (w : World) (hr0_3 : Kd.C (Kd.int .u8) w A0_3 l0_3.length l0_3) (hc0_3 : l0_3.length ≤ c0_3) (hr0_4 : Kd.C (Kd.slice 5 (Kd.int .u8)) w A0_4 l0_4.length l0_4) (hc0_4 : l0_4.length ≤ c0_4) (hr1_3 : Kd.C (Kd.int .u8) w A1_3 l1_3.length l1_3) (hc1_3 : l1_3.length ≤ c1_3) (hr1_4 : Kd.C (Kd.slice 5 (Kd.int .u8)) w A1_4 l1_4.length l1_4) (hc1_4 : l1_4.length ≤ c1_4) (h : stanchionref00_SameLetter.f k a0_0 a0_1 a0_2 l0_3 l0_4 a1_0 a1_1 a1_2 l1_3 l1_4 = some r) :
    Calls Try.prog 81 #[.agg #[.int .i64 a0_0, .int .i64 a0_1, .int .i64 a0_2, .slice A0_3 l0_3.length c0_3, .slice A0_4 l0_4.length c0_4], .agg #[.int .i64 a1_0, .int .i64 a1_1, .int .i64 a1_2, .slice A1_3 l1_3.length c1_3, .slice A1_4 l1_4.length c1_4]] w fun e w' => e = .returned (.bool r) ∧ Below w.heap.size w w' := by
  have hu72 := Try.underlying72
  have hu70 := Try.underlying70
  have HR0_3 := Aside0.mk hr0_3
  have HC0_3 := Aside0.mk hc0_3
  clear hr0_3 hc0_3
  have HR0_4 := Aside0.mk hr0_4
  have HC0_4 := Aside0.mk hc0_4
  clear hr0_4 hc0_4
  have HR1_3 := Aside0.mk hr1_3
  have HC1_3 := Aside0.mk hc1_3
  clear hr1_3 hc1_3
  have HR1_4 := Aside0.mk hr1_4
  have HC1_4 := Aside0.mk hc1_4
  clear hr1_4 hc1_4
  have HB := Aside0.mk (Below.refl w.heap.size w)
  have H : (if (a0_0 == a1_0 && (a0_1 == a1_1)) = true then (if a0_2 = a1_2 then ((stanchionref00_SameBytes.f k l0_3 l1_3).bind fun t257 => (if t257 = true then ((stanchionref00_SameRows.f k l0_4 l1_4).bind fun t258 => (some t258)) else (some false))) else (some false)) else (some false)) = some r := h
  clear h
  by_cases c3 : (a0_0 == a1_0 && (a0_1 == a1_1)) = true
  · have e0_ : (a0_0 = a1_0) = True := eq_true (by have := c3; simp at this; exact this.1)
    have e1_ : (a0_1 = a1_1) = True := eq_true (by have := c3; simp at this; exact this.2)
    rw [if_pos c3] at H
    have c3b0 : (a0_0 == a1_0 && (a0_1 == a1_1)) = true := c3
    (try (have c3b1 : decide (a0_0 = a1_0 && (a0_1 == a1_1)) = true := by simpa using c3))
    (try (have c3b2 : (a0_0 == a1_0 && (a0_1 == a1_1)) = true := by simpa using c3))
    clear c3
    by_cases c4 : a0_2 = a1_2
    · rw [if_pos c4] at H
      have c4b0 : (a0_2 == a1_2) = true := beq_iff_eq.mpr c4
      have c4b1 : (a0_2 != a1_2) = false := bne_eq_false_iff_eq.mpr c4
      clear c4
      replace H := Option.bind_eq_some_iff.mp H
      obtain ⟨t257, A50, H⟩ := H
      replace H : (if t257 = true then ((stanchionref00_SameRows.f k l0_4 l1_4).bind fun t258 => (some t258)) else (some false)) = some r := H
      have A5 := Aside0.mk A50
      clear A50
      by_cases c6 : t257 = true
      · subst c6
        have H1 : ((stanchionref00_SameRows.f k l0_4 l1_4).bind fun t258 => (some t258)) = some r := by rw [if_pos rfl] at H; exact H
        clear H
        have H := H1
        clear H1
        replace H := Option.bind_eq_some_iff.mp H
        obtain ⟨t258, A70, H⟩ := H
        replace H : (some t258) = some r := H
        have A7 := Aside0.mk A70
        clear A70
        obtain rfl := Option.some.inj H
        go_enter Try.func81, Try.ntmps81
        go_wp2_with (first | ((with_reducible refine gate_dst (N := 2) rfl ?_); refine box_event ?hg (N := 2) ?hd (cs := #[.int .i64 a0_0, .int .i64 a0_1, .int .i64 a0_2, .slice A0_3 l0_3.length c0_3, .slice A0_4 l0_4.length c0_4]) (t := 72) ?hr ?_; (case hd => rfl); (case hg => rfl); (case hr => first | (go_simp; done) | (go_simp; rfl)); intro gb255 hg w8 hbox hb; have n0_ := Aside0.mk (below_step (by repeat (first | (with_reducible first | exact HB.out | apply below_alloc | apply pw_below_drewN | apply below_drew1) | exact HB.out)) hb); have n1_ := Aside0.mk (hbox); have n2_ := Aside0.mk ((by rw [hg]; exact (below_size (by repeat (first | (with_reducible first | exact HB.out | apply below_alloc | apply pw_below_drewN | apply below_drew1) | exact HB.out))) : w.heap.size ≤ gb255)); have n3_ := Aside0.mk ((by rw [hg]; exact (below_size (by repeat (first | (with_reducible first | exact HB.out | apply below_alloc | apply pw_below_drewN | apply below_drew1) | exact HB.out))) : w.heap.size ≤ gb255)); clear HB; have HB := n0_; have BK255 := n1_; have GW255 := n2_; have GE255 := n3_; clear n0_ n1_ n2_ n3_; clear hb hbox hg) | ((with_reducible refine gate_dst (N := 3) rfl ?_); refine box_event ?hg (N := 3) ?hd (cs := #[.int .i64 a1_0, .int .i64 a1_1, .int .i64 a1_2, .slice A1_3 l1_3.length c1_3, .slice A1_4 l1_4.length c1_4]) (t := 72) ?hr ?_; (case hd => rfl); (case hg => rfl); (case hr => first | (go_simp; done) | (go_simp; rfl)); intro gb256 hg w9 hbox hb; have n0_ := Aside0.mk (blk_below (g := gb255) (o := .cells #[.int .i64 a0_0, .int .i64 a0_1, .int .i64 a0_2, .slice A0_3 l0_3.length c0_3, .slice A0_4 l0_4.length c0_4] 72 (0, 0)) (by (with_reducible repeat (first | refine blk_drewN ?_ _ | refine blk_drew ?_ | refine blk_alloc ?_ _)); exact BK255.out) hb); have n1_ := Aside0.mk (below_step (by repeat (first | (with_reducible first | exact HB.out | apply below_alloc | apply pw_below_drewN | apply below_drew1 | refine below_set ?_ GE255.out) | exact HB.out)) hb); have n2_ := Aside0.mk (hbox); have n3_ := Aside0.mk ((by rw [hg]; exact (below_size (by repeat (first | (with_reducible first | exact HB.out | apply below_alloc | apply pw_below_drewN | apply below_drew1 | refine below_set ?_ GE255.out) | exact HB.out))) : w.heap.size ≤ gb256)); have n4_ := Aside0.mk ((by rw [hg]; exact (below_size (by repeat (first | (with_reducible first | exact HB.out | apply below_alloc | apply pw_below_drewN | apply below_drew1 | refine below_set ?_ GE255.out) | exact HB.out))) : w.heap.size ≤ gb256)); have n5_ := Aside0.mk ((by rw [hg]; exact Nat.ne_of_lt (blk_lt (g := gb255) (o := .cells #[.int .i64 a0_0, .int .i64 a0_1, .int .i64 a0_2, .slice A0_3 l0_3.length c0_3, .slice A0_4 l0_4.length c0_4] 72 (0, 0)) (by (with_reducible repeat (first | refine blk_drewN ?_ _ | refine blk_drew ?_ | refine blk_alloc ?_ _)); exact BK255.out)) : gb255 ≠ gb256)); have n6_ := Aside0.mk ((by rw [hg]; exact Nat.ne_of_gt (blk_lt (g := gb255) (o := .cells #[.int .i64 a0_0, .int .i64 a0_1, .int .i64 a0_2, .slice A0_3 l0_3.length c0_3, .slice A0_4 l0_4.length c0_4] 72 (0, 0)) (by (with_reducible repeat (first | refine blk_drewN ?_ _ | refine blk_drew ?_ | refine blk_alloc ?_ _)); exact BK255.out)) : gb256 ≠ gb255)); clear BK255; clear HB; have BK255 := n0_; have HB := n1_; have BK256 := n2_; have GW256 := n3_; have GE256 := n4_; have NB255_256 := n5_; have NB256_255 := n6_; clear n0_ n1_ n2_ n3_ n4_ n5_ n6_; clear hb hbox hg; have hnb10 := NB255_256.out; have hnc10 := NB256_255.out; have hcz11_0 : w9.cell? ⟨gb255, 0, none⟩ = some (.int .i64 a0_0) := (blk_cell BK255.out 0).trans rfl; have hcz11_1 : w9.cell? ⟨gb255, 1, none⟩ = some (.int .i64 a0_1) := (blk_cell BK255.out 1).trans rfl; have hcz11_2 : w9.cell? ⟨gb255, 2, none⟩ = some (.int .i64 a0_2) := (blk_cell BK255.out 2).trans rfl; have hcz11_3 : w9.cell? ⟨gb255, 3, none⟩ = some (.slice A0_3 l0_3.length c0_3) := (blk_cell BK255.out 3).trans rfl; have hcz11_4 : w9.cell? ⟨gb255, 4, none⟩ = some (.slice A0_4 l0_4.length c0_4) := (blk_cell BK255.out 4).trans rfl; have hfz11_0 := blk_frozen BK255.out 0; have hfz11_1 := blk_frozen BK255.out 1; have hfz11_2 := blk_frozen BK255.out 2; have hfz11_3 := blk_frozen BK255.out 3; have hfz11_4 := blk_frozen BK255.out 4; have hcz12_0 : w9.cell? ⟨gb256, 0, none⟩ = some (.int .i64 a1_0) := (blk_cell BK256.out 0).trans rfl; have hcz12_1 : w9.cell? ⟨gb256, 1, none⟩ = some (.int .i64 a1_1) := (blk_cell BK256.out 1).trans rfl; have hcz12_2 : w9.cell? ⟨gb256, 2, none⟩ = some (.int .i64 a1_2) := (blk_cell BK256.out 2).trans rfl; have hcz12_3 : w9.cell? ⟨gb256, 3, none⟩ = some (.slice A1_3 l1_3.length c1_3) := (blk_cell BK256.out 3).trans rfl; have hcz12_4 : w9.cell? ⟨gb256, 4, none⟩ = some (.slice A1_4 l1_4.length c1_4) := (blk_cell BK256.out 4).trans rfl; have hfz12_0 := blk_frozen BK256.out 0; have hfz12_1 := blk_frozen BK256.out 1; have hfz12_2 := blk_frozen BK256.out 2; have hfz12_3 := blk_frozen BK256.out 3; have hfz12_4 := blk_frozen BK256.out 4) | (go_at_call 27; (with_reducible refine (stanchionref00_SameBytes.calls k _ _ l0_3 _ _ l1_3 true _ ?side1 ?side2 ?side3 ?side4 A5.out).mono ?_); (case side1 => repeat (first | exact (Kd.C_below HR0_3.out HB.out) | (with_reducible refine Kd.C_alloc ?_ _) | (with_reducible refine Kd.C_drewN ?_ _) | (with_reducible refine Kd.C_drew ?_))); (case side2 => exact HC0_3.out); (case side3 => repeat (first | exact (Kd.C_below HR1_3.out HB.out) | (with_reducible refine Kd.C_alloc ?_ _) | (with_reducible refine Kd.C_drewN ?_ _) | (with_reducible refine Kd.C_drew ?_))); (case side4 => exact HC1_3.out); rintro e w' ⟨rfl, ⟨nd, rfl⟩⟩) | (go_at_call 33; (with_reducible refine (stanchionref00_SameRows.calls k _ _ l0_4 _ _ l1_4 t258 _ ?side1 ?side2 ?side3 ?side4 A7.out).mono ?_); (case side1 => repeat (first | exact (Kd.C_below HR0_4.out (by repeat (first | (with_reducible first | exact HB.out | apply below_alloc | apply pw_below_drewN | apply below_drew1 | refine below_set ?_ GE255.out | refine below_set ?_ GE256.out) | exact HB.out))) | (with_reducible refine Kd.C_alloc ?_ _) | (with_reducible refine Kd.C_drewN ?_ _) | (with_reducible refine Kd.C_drew ?_))); (case side2 => exact HC0_4.out); (case side3 => repeat (first | exact (Kd.C_below HR1_4.out (by repeat (first | (with_reducible first | exact HB.out | apply below_alloc | apply pw_below_drewN | apply below_drew1 | refine below_set ?_ GE255.out | refine below_set ?_ GE256.out) | exact HB.out))) | (with_reducible refine Kd.C_alloc ?_ _) | (with_reducible refine Kd.C_drewN ?_ _) | (with_reducible refine Kd.C_drew ?_))); (case side4 => exact HC1_4.out); rintro e w' ⟨rfl, ⟨nd, rfl⟩⟩))
        go_ret
        exact ⟨by first | rfl | (simp [errW_none, errW_some] <;> rfl) | (simp [*, errW_none, errW_some] <;> rfl), by repeat (first | (with_reducible first | exact HB.out | apply below_alloc | apply pw_below_drewN | apply below_drew1 | refine below_set ?_ GE255.out | refine below_set ?_ GE256.out) | exact HB.out)⟩
      · replace c6 := Bool.eq_false_iff.mpr c6
        subst c6
        have H1 : (some false) = some r := by rw [if_neg (show ¬ (false = true) by decide)] at H; exact H
        clear H
        have H := H1
        clear H1
        obtain rfl := Option.some.inj H
        go_enter Try.func81, Try.ntmps81
        go_wp2_with (first | ((with_reducible refine gate_dst (N := 2) rfl ?_); refine box_event ?hg (N := 2) ?hd (cs := #[.int .i64 a0_0, .int .i64 a0_1, .int .i64 a0_2, .slice A0_3 l0_3.length c0_3, .slice A0_4 l0_4.length c0_4]) (t := 72) ?hr ?_; (case hd => rfl); (case hg => rfl); (case hr => first | (go_simp; done) | (go_simp; rfl)); intro gb255 hg w13 hbox hb; have n0_ := Aside0.mk (below_step (by repeat (first | (with_reducible first | exact HB.out | apply below_alloc | apply pw_below_drewN | apply below_drew1) | exact HB.out)) hb); have n1_ := Aside0.mk (hbox); have n2_ := Aside0.mk ((by rw [hg]; exact (below_size (by repeat (first | (with_reducible first | exact HB.out | apply below_alloc | apply pw_below_drewN | apply below_drew1) | exact HB.out))) : w.heap.size ≤ gb255)); have n3_ := Aside0.mk ((by rw [hg]; exact (below_size (by repeat (first | (with_reducible first | exact HB.out | apply below_alloc | apply pw_below_drewN | apply below_drew1) | exact HB.out))) : w.heap.size ≤ gb255)); clear HB; have HB := n0_; have BK255 := n1_; have GW255 := n2_; have GE255 := n3_; clear n0_ n1_ n2_ n3_; clear hb hbox hg) | ((with_reducible refine gate_dst (N := 3) rfl ?_); refine box_event ?hg (N := 3) ?hd (cs := #[.int .i64 a1_0, .int .i64 a1_1, .int .i64 a1_2, .slice A1_3 l1_3.length c1_3, .slice A1_4 l1_4.length c1_4]) (t := 72) ?hr ?_; (case hd => rfl); (case hg => rfl); (case hr => first | (go_simp; done) | (go_simp; rfl)); intro gb256 hg w14 hbox hb; have n0_ := Aside0.mk (blk_below (g := gb255) (o := .cells #[.int .i64 a0_0, .int .i64 a0_1, .int .i64 a0_2, .slice A0_3 l0_3.length c0_3, .slice A0_4 l0_4.length c0_4] 72 (0, 0)) (by (with_reducible repeat (first | refine blk_drewN ?_ _ | refine blk_drew ?_ | refine blk_alloc ?_ _)); exact BK255.out) hb); have n1_ := Aside0.mk (below_step (by repeat (first | (with_reducible first | exact HB.out | apply below_alloc | apply pw_below_drewN | apply below_drew1 | refine below_set ?_ GE255.out) | exact HB.out)) hb); have n2_ := Aside0.mk (hbox); have n3_ := Aside0.mk ((by rw [hg]; exact (below_size (by repeat (first | (with_reducible first | exact HB.out | apply below_alloc | apply pw_below_drewN | apply below_drew1 | refine below_set ?_ GE255.out) | exact HB.out))) : w.heap.size ≤ gb256)); have n4_ := Aside0.mk ((by rw [hg]; exact (below_size (by repeat (first | (with_reducible first | exact HB.out | apply below_alloc | apply pw_below_drewN | apply below_drew1 | refine below_set ?_ GE255.out) | exact HB.out))) : w.heap.size ≤ gb256)); have n5_ := Aside0.mk ((by rw [hg]; exact Nat.ne_of_lt (blk_lt (g := gb255) (o := .cells #[.int .i64 a0_0, .int .i64 a0_1, .int .i64 a0_2, .slice A0_3 l0_3.length c0_3, .slice A0_4 l0_4.length c0_4] 72 (0, 0)) (by (with_reducible repeat (first | refine blk_drewN ?_ _ | refine blk_drew ?_ | refine blk_alloc ?_ _)); exact BK255.out)) : gb255 ≠ gb256)); have n6_ := Aside0.mk ((by rw [hg]; exact Nat.ne_of_gt (blk_lt (g := gb255) (o := .cells #[.int .i64 a0_0, .int .i64 a0_1, .int .i64 a0_2, .slice A0_3 l0_3.length c0_3, .slice A0_4 l0_4.length c0_4] 72 (0, 0)) (by (with_reducible repeat (first | refine blk_drewN ?_ _ | refine blk_drew ?_ | refine blk_alloc ?_ _)); exact BK255.out)) : gb256 ≠ gb255)); clear BK255; clear HB; have BK255 := n0_; have HB := n1_; have BK256 := n2_; have GW256 := n3_; have GE256 := n4_; have NB255_256 := n5_; have NB256_255 := n6_; clear n0_ n1_ n2_ n3_ n4_ n5_ n6_; clear hb hbox hg; have hnb15 := NB255_256.out; have hnc15 := NB256_255.out; have hcz16_0 : w14.cell? ⟨gb255, 0, none⟩ = some (.int .i64 a0_0) := (blk_cell BK255.out 0).trans rfl; have hcz16_1 : w14.cell? ⟨gb255, 1, none⟩ = some (.int .i64 a0_1) := (blk_cell BK255.out 1).trans rfl; have hcz16_2 : w14.cell? ⟨gb255, 2, none⟩ = some (.int .i64 a0_2) := (blk_cell BK255.out 2).trans rfl; have hcz16_3 : w14.cell? ⟨gb255, 3, none⟩ = some (.slice A0_3 l0_3.length c0_3) := (blk_cell BK255.out 3).trans rfl; have hcz16_4 : w14.cell? ⟨gb255, 4, none⟩ = some (.slice A0_4 l0_4.length c0_4) := (blk_cell BK255.out 4).trans rfl; have hfz16_0 := blk_frozen BK255.out 0; have hfz16_1 := blk_frozen BK255.out 1; have hfz16_2 := blk_frozen BK255.out 2; have hfz16_3 := blk_frozen BK255.out 3; have hfz16_4 := blk_frozen BK255.out 4; have hcz17_0 : w14.cell? ⟨gb256, 0, none⟩ = some (.int .i64 a1_0) := (blk_cell BK256.out 0).trans rfl; have hcz17_1 : w14.cell? ⟨gb256, 1, none⟩ = some (.int .i64 a1_1) := (blk_cell BK256.out 1).trans rfl; have hcz17_2 : w14.cell? ⟨gb256, 2, none⟩ = some (.int .i64 a1_2) := (blk_cell BK256.out 2).trans rfl; have hcz17_3 : w14.cell? ⟨gb256, 3, none⟩ = some (.slice A1_3 l1_3.length c1_3) := (blk_cell BK256.out 3).trans rfl; have hcz17_4 : w14.cell? ⟨gb256, 4, none⟩ = some (.slice A1_4 l1_4.length c1_4) := (blk_cell BK256.out 4).trans rfl; have hfz17_0 := blk_frozen BK256.out 0; have hfz17_1 := blk_frozen BK256.out 1; have hfz17_2 := blk_frozen BK256.out 2; have hfz17_3 := blk_frozen BK256.out 3; have hfz17_4 := blk_frozen BK256.out 4) | (go_at_call 27; (with_reducible refine (stanchionref00_SameBytes.calls k _ _ l0_3 _ _ l1_3 false _ ?side1 ?side2 ?side3 ?side4 A5.out).mono ?_); (case side1 => repeat (first | exact (Kd.C_below HR0_3.out HB.out) | (with_reducible refine Kd.C_alloc ?_ _) | (with_reducible refine Kd.C_drewN ?_ _) | (with_reducible refine Kd.C_drew ?_))); (case side2 => exact HC0_3.out); (case side3 => repeat (first | exact (Kd.C_below HR1_3.out HB.out) | (with_reducible refine Kd.C_alloc ?_ _) | (with_reducible refine Kd.C_drewN ?_ _) | (with_reducible refine Kd.C_drew ?_))); (case side4 => exact HC1_3.out); rintro e w' ⟨rfl, ⟨nd, rfl⟩⟩))
        go_ret
        exact ⟨by first | rfl | (simp [errW_none, errW_some] <;> rfl) | (simp [*, errW_none, errW_some] <;> rfl), by repeat (first | (with_reducible first | exact HB.out | apply below_alloc | apply pw_below_drewN | apply below_drew1 | refine below_set ?_ GE255.out | refine below_set ?_ GE256.out) | exact HB.out)⟩
    · rw [if_neg c4] at H
      have c4b0 : (a0_2 == a1_2) = false := beq_eq_false_iff_ne.mpr c4
      have c4b1 : (a0_2 != a1_2) = true := bne_iff_ne.mpr c4
      obtain rfl := Option.some.inj H
      go_enter Try.func81, Try.ntmps81
      go_wp2_with (first | ((with_reducible refine gate_dst (N := 2) rfl ?_); refine box_event ?hg (N := 2) ?hd (cs := #[.int .i64 a0_0, .int .i64 a0_1, .int .i64 a0_2, .slice A0_3 l0_3.length c0_3, .slice A0_4 l0_4.length c0_4]) (t := 72) ?hr ?_; (case hd => rfl); (case hg => rfl); (case hr => first | (go_simp; done) | (go_simp; rfl)); intro gb255 hg w18 hbox hb; have n0_ := Aside0.mk (below_step (by repeat (first | (with_reducible first | exact HB.out | apply below_alloc | apply pw_below_drewN | apply below_drew1) | exact HB.out)) hb); have n1_ := Aside0.mk (hbox); have n2_ := Aside0.mk ((by rw [hg]; exact (below_size (by repeat (first | (with_reducible first | exact HB.out | apply below_alloc | apply pw_below_drewN | apply below_drew1) | exact HB.out))) : w.heap.size ≤ gb255)); have n3_ := Aside0.mk ((by rw [hg]; exact (below_size (by repeat (first | (with_reducible first | exact HB.out | apply below_alloc | apply pw_below_drewN | apply below_drew1) | exact HB.out))) : w.heap.size ≤ gb255)); clear HB; have HB := n0_; have BK255 := n1_; have GW255 := n2_; have GE255 := n3_; clear n0_ n1_ n2_ n3_; clear hb hbox hg) | ((with_reducible refine gate_dst (N := 3) rfl ?_); refine box_event ?hg (N := 3) ?hd (cs := #[.int .i64 a1_0, .int .i64 a1_1, .int .i64 a1_2, .slice A1_3 l1_3.length c1_3, .slice A1_4 l1_4.length c1_4]) (t := 72) ?hr ?_; (case hd => rfl); (case hg => rfl); (case hr => first | (go_simp; done) | (go_simp; rfl)); intro gb256 hg w19 hbox hb; have n0_ := Aside0.mk (blk_below (g := gb255) (o := .cells #[.int .i64 a0_0, .int .i64 a0_1, .int .i64 a0_2, .slice A0_3 l0_3.length c0_3, .slice A0_4 l0_4.length c0_4] 72 (0, 0)) (by (with_reducible repeat (first | refine blk_drewN ?_ _ | refine blk_drew ?_ | refine blk_alloc ?_ _)); exact BK255.out) hb); have n1_ := Aside0.mk (below_step (by repeat (first | (with_reducible first | exact HB.out | apply below_alloc | apply pw_below_drewN | apply below_drew1 | refine below_set ?_ GE255.out) | exact HB.out)) hb); have n2_ := Aside0.mk (hbox); have n3_ := Aside0.mk ((by rw [hg]; exact (below_size (by repeat (first | (with_reducible first | exact HB.out | apply below_alloc | apply pw_below_drewN | apply below_drew1 | refine below_set ?_ GE255.out) | exact HB.out))) : w.heap.size ≤ gb256)); have n4_ := Aside0.mk ((by rw [hg]; exact (below_size (by repeat (first | (with_reducible first | exact HB.out | apply below_alloc | apply pw_below_drewN | apply below_drew1 | refine below_set ?_ GE255.out) | exact HB.out))) : w.heap.size ≤ gb256)); have n5_ := Aside0.mk ((by rw [hg]; exact Nat.ne_of_lt (blk_lt (g := gb255) (o := .cells #[.int .i64 a0_0, .int .i64 a0_1, .int .i64 a0_2, .slice A0_3 l0_3.length c0_3, .slice A0_4 l0_4.length c0_4] 72 (0, 0)) (by (with_reducible repeat (first | refine blk_drewN ?_ _ | refine blk_drew ?_ | refine blk_alloc ?_ _)); exact BK255.out)) : gb255 ≠ gb256)); have n6_ := Aside0.mk ((by rw [hg]; exact Nat.ne_of_gt (blk_lt (g := gb255) (o := .cells #[.int .i64 a0_0, .int .i64 a0_1, .int .i64 a0_2, .slice A0_3 l0_3.length c0_3, .slice A0_4 l0_4.length c0_4] 72 (0, 0)) (by (with_reducible repeat (first | refine blk_drewN ?_ _ | refine blk_drew ?_ | refine blk_alloc ?_ _)); exact BK255.out)) : gb256 ≠ gb255)); clear BK255; clear HB; have BK255 := n0_; have HB := n1_; have BK256 := n2_; have GW256 := n3_; have GE256 := n4_; have NB255_256 := n5_; have NB256_255 := n6_; clear n0_ n1_ n2_ n3_ n4_ n5_ n6_; clear hb hbox hg; have hnb20 := NB255_256.out; have hnc20 := NB256_255.out; have hcz21_0 : w19.cell? ⟨gb255, 0, none⟩ = some (.int .i64 a0_0) := (blk_cell BK255.out 0).trans rfl; have hcz21_1 : w19.cell? ⟨gb255, 1, none⟩ = some (.int .i64 a0_1) := (blk_cell BK255.out 1).trans rfl; have hcz21_2 : w19.cell? ⟨gb255, 2, none⟩ = some (.int .i64 a0_2) := (blk_cell BK255.out 2).trans rfl; have hcz21_3 : w19.cell? ⟨gb255, 3, none⟩ = some (.slice A0_3 l0_3.length c0_3) := (blk_cell BK255.out 3).trans rfl; have hcz21_4 : w19.cell? ⟨gb255, 4, none⟩ = some (.slice A0_4 l0_4.length c0_4) := (blk_cell BK255.out 4).trans rfl; have hfz21_0 := blk_frozen BK255.out 0; have hfz21_1 := blk_frozen BK255.out 1; have hfz21_2 := blk_frozen BK255.out 2; have hfz21_3 := blk_frozen BK255.out 3; have hfz21_4 := blk_frozen BK255.out 4; have hcz22_0 : w19.cell? ⟨gb256, 0, none⟩ = some (.int .i64 a1_0) := (blk_cell BK256.out 0).trans rfl; have hcz22_1 : w19.cell? ⟨gb256, 1, none⟩ = some (.int .i64 a1_1) := (blk_cell BK256.out 1).trans rfl; have hcz22_2 : w19.cell? ⟨gb256, 2, none⟩ = some (.int .i64 a1_2) := (blk_cell BK256.out 2).trans rfl; have hcz22_3 : w19.cell? ⟨gb256, 3, none⟩ = some (.slice A1_3 l1_3.length c1_3) := (blk_cell BK256.out 3).trans rfl; have hcz22_4 : w19.cell? ⟨gb256, 4, none⟩ = some (.slice A1_4 l1_4.length c1_4) := (blk_cell BK256.out 4).trans rfl; have hfz22_0 := blk_frozen BK256.out 0; have hfz22_1 := blk_frozen BK256.out 1; have hfz22_2 := blk_frozen BK256.out 2; have hfz22_3 := blk_frozen BK256.out 3; have hfz22_4 := blk_frozen BK256.out 4))
      go_ret
      exact ⟨by first | rfl | (simp [errW_none, errW_some] <;> rfl) | (simp [*, errW_none, errW_some] <;> rfl), by repeat (first | (with_reducible first | exact HB.out | apply below_alloc | apply pw_below_drewN | apply below_drew1 | refine below_set ?_ GE255.out | refine below_set ?_ GE256.out) | exact HB.out)⟩
  · have hz_ : ((a0_0 = a1_0) = True ∧ (a0_1 = a1_1) = False) ∨ (a0_0 = a1_0) = False := by
      by_cases e_ : a0_0 = a1_0
      · exact .inl ⟨eq_true e_, eq_false (fun f_ => by simp [e_, f_] at c3)⟩
      · exact .inr (eq_false e_)
    rcases hz_ with ⟨e0_, e1_⟩ | e0_
    all_goals (
      rw [if_neg c3] at H
      have c3b0 : (a0_0 == a1_0 && (a0_1 == a1_1)) = false := by simpa using c3
      (try (have c3b1 : decide (a0_0 = a1_0 && (a0_1 == a1_1)) = false := by simpa using c3))
      (try (have c3b2 : (a0_0 == a1_0 && (a0_1 == a1_1)) = false := by simpa using c3))
      (try (have c3b3 : ¬ (a0_0 = a1_0 && (a0_1 == a1_1)) := by simpa using c3))
      clear c3
      obtain rfl := Option.some.inj H
      go_enter Try.func81, Try.ntmps81
      go_wp2_with (first | ((with_reducible refine gate_dst (N := 2) rfl ?_); refine box_event ?hg (N := 2) ?hd (cs := #[.int .i64 a0_0, .int .i64 a0_1, .int .i64 a0_2, .slice A0_3 l0_3.length c0_3, .slice A0_4 l0_4.length c0_4]) (t := 72) ?hr ?_; (case hd => rfl); (case hg => rfl); (case hr => first | (go_simp; done) | (go_simp; rfl)); intro gb255 hg w23 hbox hb; have n0_ := Aside0.mk (below_step (by repeat (first | (with_reducible first | exact HB.out | apply below_alloc | apply pw_below_drewN | apply below_drew1) | exact HB.out)) hb); have n1_ := Aside0.mk (hbox); have n2_ := Aside0.mk ((by rw [hg]; exact (below_size (by repeat (first | (with_reducible first | exact HB.out | apply below_alloc | apply pw_below_drewN | apply below_drew1) | exact HB.out))) : w.heap.size ≤ gb255)); have n3_ := Aside0.mk ((by rw [hg]; exact (below_size (by repeat (first | (with_reducible first | exact HB.out | apply below_alloc | apply pw_below_drewN | apply below_drew1) | exact HB.out))) : w.heap.size ≤ gb255)); clear HB; have HB := n0_; have BK255 := n1_; have GW255 := n2_; have GE255 := n3_; clear n0_ n1_ n2_ n3_; clear hb hbox hg) | ((with_reducible refine gate_dst (N := 3) rfl ?_); refine box_event ?hg (N := 3) ?hd (cs := #[.int .i64 a1_0, .int .i64 a1_1, .int .i64 a1_2, .slice A1_3 l1_3.length c1_3, .slice A1_4 l1_4.length c1_4]) (t := 72) ?hr ?_; (case hd => rfl); (case hg => rfl); (case hr => first | (go_simp; done) | (go_simp; rfl)); intro gb256 hg w24 hbox hb; have n0_ := Aside0.mk (blk_below (g := gb255) (o := .cells #[.int .i64 a0_0, .int .i64 a0_1, .int .i64 a0_2, .slice A0_3 l0_3.length c0_3, .slice A0_4 l0_4.length c0_4] 72 (0, 0)) (by (with_reducible repeat (first | refine blk_drewN ?_ _ | refine blk_drew ?_ | refine blk_alloc ?_ _)); exact BK255.out) hb); have n1_ := Aside0.mk (below_step (by repeat (first | (with_reducible first | exact HB.out | apply below_alloc | apply pw_below_drewN | apply below_drew1 | refine below_set ?_ GE255.out) | exact HB.out)) hb); have n2_ := Aside0.mk (hbox); have n3_ := Aside0.mk ((by rw [hg]; exact (below_size (by repeat (first | (with_reducible first | exact HB.out | apply below_alloc | apply pw_below_drewN | apply below_drew1 | refine below_set ?_ GE255.out) | exact HB.out))) : w.heap.size ≤ gb256)); have n4_ := Aside0.mk ((by rw [hg]; exact (below_size (by repeat (first | (with_reducible first | exact HB.out | apply below_alloc | apply pw_below_drewN | apply below_drew1 | refine below_set ?_ GE255.out) | exact HB.out))) : w.heap.size ≤ gb256)); have n5_ := Aside0.mk ((by rw [hg]; exact Nat.ne_of_lt (blk_lt (g := gb255) (o := .cells #[.int .i64 a0_0, .int .i64 a0_1, .int .i64 a0_2, .slice A0_3 l0_3.length c0_3, .slice A0_4 l0_4.length c0_4] 72 (0, 0)) (by (with_reducible repeat (first | refine blk_drewN ?_ _ | refine blk_drew ?_ | refine blk_alloc ?_ _)); exact BK255.out)) : gb255 ≠ gb256)); have n6_ := Aside0.mk ((by rw [hg]; exact Nat.ne_of_gt (blk_lt (g := gb255) (o := .cells #[.int .i64 a0_0, .int .i64 a0_1, .int .i64 a0_2, .slice A0_3 l0_3.length c0_3, .slice A0_4 l0_4.length c0_4] 72 (0, 0)) (by (with_reducible repeat (first | refine blk_drewN ?_ _ | refine blk_drew ?_ | refine blk_alloc ?_ _)); exact BK255.out)) : gb256 ≠ gb255)); clear BK255; clear HB; have BK255 := n0_; have HB := n1_; have BK256 := n2_; have GW256 := n3_; have GE256 := n4_; have NB255_256 := n5_; have NB256_255 := n6_; clear n0_ n1_ n2_ n3_ n4_ n5_ n6_; clear hb hbox hg; have hnb25 := NB255_256.out; have hnc25 := NB256_255.out; have hcz26_0 : w24.cell? ⟨gb255, 0, none⟩ = some (.int .i64 a0_0) := (blk_cell BK255.out 0).trans rfl; have hcz26_1 : w24.cell? ⟨gb255, 1, none⟩ = some (.int .i64 a0_1) := (blk_cell BK255.out 1).trans rfl; have hcz26_2 : w24.cell? ⟨gb255, 2, none⟩ = some (.int .i64 a0_2) := (blk_cell BK255.out 2).trans rfl; have hcz26_3 : w24.cell? ⟨gb255, 3, none⟩ = some (.slice A0_3 l0_3.length c0_3) := (blk_cell BK255.out 3).trans rfl; have hcz26_4 : w24.cell? ⟨gb255, 4, none⟩ = some (.slice A0_4 l0_4.length c0_4) := (blk_cell BK255.out 4).trans rfl; have hfz26_0 := blk_frozen BK255.out 0; have hfz26_1 := blk_frozen BK255.out 1; have hfz26_2 := blk_frozen BK255.out 2; have hfz26_3 := blk_frozen BK255.out 3; have hfz26_4 := blk_frozen BK255.out 4; have hcz27_0 : w24.cell? ⟨gb256, 0, none⟩ = some (.int .i64 a1_0) := (blk_cell BK256.out 0).trans rfl; have hcz27_1 : w24.cell? ⟨gb256, 1, none⟩ = some (.int .i64 a1_1) := (blk_cell BK256.out 1).trans rfl; have hcz27_2 : w24.cell? ⟨gb256, 2, none⟩ = some (.int .i64 a1_2) := (blk_cell BK256.out 2).trans rfl; have hcz27_3 : w24.cell? ⟨gb256, 3, none⟩ = some (.slice A1_3 l1_3.length c1_3) := (blk_cell BK256.out 3).trans rfl; have hcz27_4 : w24.cell? ⟨gb256, 4, none⟩ = some (.slice A1_4 l1_4.length c1_4) := (blk_cell BK256.out 4).trans rfl; have hfz27_0 := blk_frozen BK256.out 0; have hfz27_1 := blk_frozen BK256.out 1; have hfz27_2 := blk_frozen BK256.out 2; have hfz27_3 := blk_frozen BK256.out 3; have hfz27_4 := blk_frozen BK256.out 4))
      go_ret
      exact ⟨by first | rfl | (simp [errW_none, errW_some] <;> rfl) | (simp [*, errW_none, errW_some] <;> rfl), by repeat (first | (with_reducible first | exact HB.out | apply below_alloc | apply pw_below_drewN | apply below_drew1 | refine below_set ?_ GE255.out | refine below_set ?_ GE256.out) | exact HB.out)⟩)

/-! ### stanchionref00_SameMails: function 55 -/
def stanchionref00_SameMails.l0 : Nat → List (S74) → List (S74) → Int → Option (Bool)
  | 0, _, _, _ => none
  | k + 1, x0, x1, x5 => if x5 < (x0.length : Int) then (if 0 ≤ x5 then (if x5 < (x1.length : Int) then (if (!(((rd_T74 x0 x5).f0.f0) == ((rd_T74 x1 x5).f0.f0)) || (!(((rd_T74 x0 x5).f0.f1) == ((rd_T74 x1 x5).f0.f1)))) = true then (some false) else ((stanchionref00_SameLetter.f k ((rd_T74 x0 x5).f1.f0.f0) ((rd_T74 x0 x5).f1.f0.f1) ((rd_T74 x0 x5).f1.f1) ((rd_T74 x0 x5).f1.f2) ((rd_T74 x0 x5).f1.f3) ((rd_T74 x1 x5).f1.f0.f0) ((rd_T74 x1 x5).f1.f0.f1) ((rd_T74 x1 x5).f1.f1) ((rd_T74 x1 x5).f1.f2) ((rd_T74 x1 x5).f1.f3)).bind fun t263 => (if t263 = true then (stanchionref00_SameMails.l0 k x0 x1 (wrap64 (x5 + 1))) else (some false)))) else (none)) else (none)) else (some true)
def stanchionref00_SameMails.f (k : Nat) (l0 : List (S74)) (l1 : List (S74)) : Option (Bool) := if (l0.length : Int) = (l1.length : Int) then (stanchionref00_SameMails.l0 k l0 l1 0) else (some false)
theorem stanchionref00_SameMails.mono_l : ∀ k, (∀ y0 y1 y2, LeO (stanchionref00_SameMails.l0 k y0 y1 y2) (stanchionref00_SameMails.l0 (k + 1) y0 y1 y2))
  | 0 => fun _ _ _ r h => by simp [stanchionref00_SameMails.l0] at h
  | k + 1 => by
    have ih0 := stanchionref00_SameMails.mono_l k
    · intro y0 y1 y2
      unfold stanchionref00_SameMails.l0
      repeat' first
      | (with_reducible exact ih0 _ _ _)
      | (with_reducible exact stanchionref00_SameLetter.mono _ _ _ _ _ _ _ _ _ _ _)
      | (with_reducible exact LeO.refl _)
      | (with_reducible exact LeO.none _)
      | (with_reducible refine LeO.ite ?_ ?_)
      | (with_reducible refine LeO.bind ?_ (fun _ => ?_))
      | exact ih0 _ _ _
      | exact stanchionref00_SameLetter.mono _ _ _ _ _ _ _ _ _ _ _
      | exact LeO.none _
      | refine LeO.ite ?_ ?_
      | refine LeO.bind ?_ (fun _ => ?_)
theorem stanchionref00_SameMails.mono : ∀ a0 a1 k, LeO (stanchionref00_SameMails.f k a0 a1) (stanchionref00_SameMails.f (k + 1) a0 a1) := by
  intro a0 a1 k
  have ih0 := stanchionref00_SameMails.mono_l k
  unfold stanchionref00_SameMails.f
  repeat' first
      | (with_reducible exact ih0 _ _ _)
      | (with_reducible exact stanchionref00_SameLetter.mono _ _ _ _ _ _ _ _ _ _ _)
      | (with_reducible exact LeO.refl _)
      | (with_reducible exact LeO.none _)
      | (with_reducible refine LeO.ite ?_ ?_)
      | (with_reducible refine LeO.bind ?_ (fun _ => ?_))
      | exact ih0 _ _ _
      | exact stanchionref00_SameLetter.mono _ _ _ _ _ _ _ _ _ _ _
      | exact LeO.none _
      | refine LeO.ite ?_ ?_
      | refine LeO.bind ?_ (fun _ => ?_)
def stanchionref00_SameMails.T6 : Bool × List (List Nat × List Nat) := (true, [([], []), ([], []), ([0, 1], [0, 1]), ([2], [2]), ([3], [3]), ([], []), ([], []), ([5, 6], [5, 6]), ([7], [7]), ([8], [8]), ([4, 9], [4, 9]), ([10], [10]), ([11], [11]), ([11], [11]), ([12, 13, 11], [11, 12, 13]), ([14, 11], [11, 14]), ([15, 11], [11, 15]), ([11], [11]), ([11], [11]), ([17, 18, 11], [11, 17, 18]), ([19, 11], [11, 19]), ([20, 11], [11, 20]), ([16, 21, 11, 11], [11, 16, 21]), ([22, 11], [11, 22]), ([11, 23], [11, 23])])
def stanchionref00_SameMails.B6 : List Nat := [0, 0, 3, 7, 15, 0, 0, 96, 224, 480, 1023, 2047, 4095, 4095, 16383, 32767, 65535, 4095, 4095, 397311, 921599, 1970175, 4194303, 8388607, 16777215]
theorem stanchionref00_SameMails.tab6 : rtab .any (opsOf Try.f55 6) = stanchionref00_SameMails.T6 := by kernel_rfl
theorem stanchionref00_SameMails.bits6 : waitsOk stanchionref00_SameMails.T6.2 stanchionref00_SameMails.B6 = true := by kernel_rfl
set_option maxHeartbeats 8000000 in
set_option maxRecDepth 100000 in
theorem stanchionref00_SameMails.calls (k : Nat) (A0 : Option Addr) (c0 : Nat) (l0 : List (S74)) (A1 : Option Addr) (c1 : Nat) (l1 : List (S74)) (r : Bool) (w : World) (hr0 : Kd.C k74 w A0 l0.length l0) (hc0 : l0.length ≤ c0) (hr1 : Kd.C k74 w A1 l1.length l1) (hc1 : l1.length ≤ c1) (h : stanchionref00_SameMails.f k l0 l1 = some r) :
    Calls Try.prog 55 #[.slice A0 l0.length c0, .slice A1 l1.length c1] w fun e w' => e = .returned (.bool r) ∧ Below w.heap.size w w' := by
  have hu70 := Try.underlying70
  have hu72 := Try.underlying72
  have HR0 := Aside0.mk hr0
  have HC0 := Aside0.mk hc0
  clear hr0 hc0
  have HR1 := Aside0.mk hr1
  have HC1 := Aside0.mk hc1
  clear hr1 hc1
  have HB := Aside0.mk (Below.refl w.heap.size w)
  have H : (if (l0.length : Int) = (l1.length : Int) then (stanchionref00_SameMails.l0 k l0 l1 0) else (some false)) = some r := h
  clear h
  by_cases c3 : (l0.length : Int) = (l1.length : Int)
  · rw [if_pos c3] at H
    have c3b0 : ((l0.length : Int) == (l1.length : Int)) = true := beq_iff_eq.mpr c3
    have c3b1 : ((l0.length : Int) != (l1.length : Int)) = false := bne_eq_false_iff_eq.mpr c3
    have c3b2 : (l0.length == l1.length) = true := by first | simpa using c3 | (simp at c3 ⊢; omega)
    clear c3
    have H' := Aside0.mk H
    clear H
    go_enter Try.func55, Try.ntmps55
    go_wp2
    go_loopg [5] k (fun kq v5 w' => ∃ (x5_1 : Int), v5 = .int .i64 x5_1 ∧ Aside0 (stanchionref00_SameMails.l0 kq l0 l1 x5_1 = some r) ∧ Aside0 (kq ≤ k) ∧ Aside0 (Below w.heap.size w w'))
    case atStart => exact ⟨(0), (by first | rfl | (simp; done) | (simp [*]; done)), H', ⟨Nat.le_refl _⟩, ⟨by repeat (first | (with_reducible first | exact HB.out | apply below_alloc | apply pw_below_drewN | apply below_drew1) | exact HB.out)⟩⟩
    case round =>
      clear H'
      try clear c1
      try clear p2
      try clear c3
      try clear c3b0
      try clear c3b1
      try clear c3b2
      obtain ⟨x5_1, rfl, HA, HK1, HB⟩ := hrel
      cases gk with
      | zero => exact absurd HA.out (by simp [stanchionref00_SameMails.l0])
      | succ k1 =>
        have H := HA.out
        clear HA
        simp only [stanchionref00_SameMails.l0] at H
        by_cases c4 : x5_1 < (l0.length : Int)
        · rw [if_pos c4] at H
          have c4b0 : decide (x5_1 < (l0.length : Int)) = true := decide_eq_true c4
          clear c4
          by_cases c5 : 0 ≤ x5_1
          · rw [if_pos c5] at H
            have c5b0 : decide (0 ≤ x5_1) = true := decide_eq_true c5
            clear c5
            by_cases c6 : x5_1 < (l1.length : Int)
            · rw [if_pos c6] at H
              have c6b0 : decide (x5_1 < (l1.length : Int)) = true := decide_eq_true c6
              clear c6
              by_cases c7 : (!(((rd_T74 l0 x5_1).f0.f0) == ((rd_T74 l1 x5_1).f0.f0)) || (!(((rd_T74 l0 x5_1).f0.f1) == ((rd_T74 l1 x5_1).f0.f1)))) = true
              · have hz_ : ((((rd_T74 l0 x5_1).f0.f0) = ((rd_T74 l1 x5_1).f0.f0)) = True ∧ (((rd_T74 l0 x5_1).f0.f1) = ((rd_T74 l1 x5_1).f0.f1)) = False) ∨ (((rd_T74 l0 x5_1).f0.f0) = ((rd_T74 l1 x5_1).f0.f0)) = False := by
                  by_cases e_ : ((rd_T74 l0 x5_1).f0.f0) = ((rd_T74 l1 x5_1).f0.f0)
                  · exact .inl ⟨eq_true e_, eq_false (fun f_ => by simp [e_, f_] at c7)⟩
                  · exact .inr (eq_false e_)
                rcases hz_ with ⟨e0_, e1_⟩ | e0_
                all_goals (
                  rw [if_pos c7] at H
                  have c7b0 : (!(((rd_T74 l0 x5_1).f0.f0) == ((rd_T74 l1 x5_1).f0.f0)) || (!(((rd_T74 l0 x5_1).f0.f1) == ((rd_T74 l1 x5_1).f0.f1)))) = true := c7
                  clear c7
                  obtain rfl := Option.some.inj H
                  try go_wp2
                  have n0_ := Aside0.mk (below_drew1 HB.out)
                  clear HB
                  have HB := n0_
                  clear n0_
                  have p259 : 0 ≤ (x5_1 : Int) := of_decide_eq_true (by first | (with_reducible assumption) | assumption)
                  have q259 : x5_1 < (l0.length : Int) := of_decide_eq_true (by first | (with_reducible assumption) | assumption)
                  obtain ⟨ad259, A259_5, c259_5, A259_6, c259_6, e259, hx259_0, hx259_1, hx259_2, hx259_3, hx259_4, hx259_5, hx259_6, hl259_5, hi259_5, hl259_6, hi259_6⟩ := at_T74 HR0.out x5_1 p259 q259
                  have hw259_6 := hx259_6
                  have hw259_5 := hx259_5
                  have hw259_4 := hx259_4
                  have hw259_3 := hx259_3
                  have hw259_2 := hx259_2
                  have hw259_1 := hx259_1
                  have hw259_0 := hx259_0
                  cases e259
                  replace hx259_0 := (HB.out.cell (World.block_lt_of_cell? w _ hx259_0)).trans hx259_0
                  replace hx259_1 := (HB.out.cell (World.block_lt_of_cell? w _ hx259_1)).trans hx259_1
                  replace hx259_2 := (HB.out.cell (World.block_lt_of_cell? w _ hx259_2)).trans hx259_2
                  replace hx259_3 := (HB.out.cell (World.block_lt_of_cell? w _ hx259_3)).trans hx259_3
                  replace hx259_4 := (HB.out.cell (World.block_lt_of_cell? w _ hx259_4)).trans hx259_4
                  replace hx259_5 := (HB.out.cell (World.block_lt_of_cell? w _ hx259_5)).trans hx259_5
                  replace hx259_6 := (HB.out.cell (World.block_lt_of_cell? w _ hx259_6)).trans hx259_6
                  have HR259_5 := Aside0.mk hi259_5
                  have HC259_5 := Aside0.mk hl259_5
                  clear hi259_5 hl259_5
                  have HR259_6 := Aside0.mk hi259_6
                  have HC259_6 := Aside0.mk hl259_6
                  clear hi259_6 hl259_6
                  replace p259 := eq_true p259
                  replace q259 := eq_true q259
                  have p260 : 0 ≤ (x5_1 : Int) := of_decide_eq_true (by first | (with_reducible assumption) | assumption)
                  have q260 : x5_1 < (l1.length : Int) := of_decide_eq_true (by first | (with_reducible assumption) | assumption)
                  obtain ⟨ad260, A260_5, c260_5, A260_6, c260_6, e260, hx260_0, hx260_1, hx260_2, hx260_3, hx260_4, hx260_5, hx260_6, hl260_5, hi260_5, hl260_6, hi260_6⟩ := at_T74 HR1.out x5_1 p260 q260
                  have hw260_6 := hx260_6
                  have hw260_5 := hx260_5
                  have hw260_4 := hx260_4
                  have hw260_3 := hx260_3
                  have hw260_2 := hx260_2
                  have hw260_1 := hx260_1
                  have hw260_0 := hx260_0
                  cases e260
                  replace hx260_0 := (HB.out.cell (World.block_lt_of_cell? w _ hx260_0)).trans hx260_0
                  replace hx260_1 := (HB.out.cell (World.block_lt_of_cell? w _ hx260_1)).trans hx260_1
                  replace hx260_2 := (HB.out.cell (World.block_lt_of_cell? w _ hx260_2)).trans hx260_2
                  replace hx260_3 := (HB.out.cell (World.block_lt_of_cell? w _ hx260_3)).trans hx260_3
                  replace hx260_4 := (HB.out.cell (World.block_lt_of_cell? w _ hx260_4)).trans hx260_4
                  replace hx260_5 := (HB.out.cell (World.block_lt_of_cell? w _ hx260_5)).trans hx260_5
                  replace hx260_6 := (HB.out.cell (World.block_lt_of_cell? w _ hx260_6)).trans hx260_6
                  have HR260_5 := Aside0.mk hi260_5
                  have HC260_5 := Aside0.mk hl260_5
                  clear hi260_5 hl260_5
                  have HR260_6 := Aside0.mk hi260_6
                  have HC260_6 := Aside0.mk hl260_6
                  clear hi260_6 hl260_6
                  replace p260 := eq_true p260
                  replace q260 := eq_true q260
                  refine start_ (n := 25) (S := fun w' => w'.cell? (ad259.add ((x5_1).toNat * 7)) = some (.int .i64 ((rd_T74 l0 x5_1).f0.f0)) ∧ w'.cell? ⟨(ad259.add ((x5_1).toNat * 7)).block, (ad259.add ((x5_1).toNat * 7)).off + 1, none⟩ = some (.int .i64 ((rd_T74 l0 x5_1).f0.f1)) ∧ w'.cell? ⟨(ad259.add ((x5_1).toNat * 7)).block, (ad259.add ((x5_1).toNat * 7)).off + 2, none⟩ = some (.int .i64 ((rd_T74 l0 x5_1).f1.f0.f0)) ∧ w'.cell? ⟨(ad259.add ((x5_1).toNat * 7)).block, (ad259.add ((x5_1).toNat * 7)).off + 3, none⟩ = some (.int .i64 ((rd_T74 l0 x5_1).f1.f0.f1)) ∧ w'.cell? ⟨(ad259.add ((x5_1).toNat * 7)).block, (ad259.add ((x5_1).toNat * 7)).off + 4, none⟩ = some (.int .i64 ((rd_T74 l0 x5_1).f1.f1)) ∧ w'.cell? ⟨(ad259.add ((x5_1).toNat * 7)).block, (ad259.add ((x5_1).toNat * 7)).off + 5, none⟩ = some (.slice A259_5 ((rd_T74 l0 x5_1).f1.f2).length c259_5) ∧ w'.cell? ⟨(ad259.add ((x5_1).toNat * 7)).block, (ad259.add ((x5_1).toNat * 7)).off + 6, none⟩ = some (.slice A259_6 ((rd_T74 l0 x5_1).f1.f3).length c259_6) ∧ w'.cell? (ad260.add ((x5_1).toNat * 7)) = some (.int .i64 ((rd_T74 l1 x5_1).f0.f0)) ∧ w'.cell? ⟨(ad260.add ((x5_1).toNat * 7)).block, (ad260.add ((x5_1).toNat * 7)).off + 1, none⟩ = some (.int .i64 ((rd_T74 l1 x5_1).f0.f1)) ∧ w'.cell? ⟨(ad260.add ((x5_1).toNat * 7)).block, (ad260.add ((x5_1).toNat * 7)).off + 2, none⟩ = some (.int .i64 ((rd_T74 l1 x5_1).f1.f0.f0)) ∧ w'.cell? ⟨(ad260.add ((x5_1).toNat * 7)).block, (ad260.add ((x5_1).toNat * 7)).off + 3, none⟩ = some (.int .i64 ((rd_T74 l1 x5_1).f1.f0.f1)) ∧ w'.cell? ⟨(ad260.add ((x5_1).toNat * 7)).block, (ad260.add ((x5_1).toNat * 7)).off + 4, none⟩ = some (.int .i64 ((rd_T74 l1 x5_1).f1.f1)) ∧ w'.cell? ⟨(ad260.add ((x5_1).toNat * 7)).block, (ad260.add ((x5_1).toNat * 7)).off + 5, none⟩ = some (.slice A260_5 ((rd_T74 l1 x5_1).f1.f2).length c260_5) ∧ w'.cell? ⟨(ad260.add ((x5_1).toNat * 7)).block, (ad260.add ((x5_1).toNat * 7)).off + 6, none⟩ = some (.slice A260_6 ((rd_T74 l1 x5_1).f1.f3).length c260_6)) (ds := []) #[false, false, false, false, false, false, false, false, false, false, false, false, false, false, false, false, false, false, false, false, false, false, false, false, false] (by kernel_rfl) rfl rfl ⟨((HB.out.cell (World.block_lt_of_cell? w _ hw259_0)).trans hw259_0), ((HB.out.cell (World.block_lt_of_cell? w _ hw259_1)).trans hw259_1), ((HB.out.cell (World.block_lt_of_cell? w _ hw259_2)).trans hw259_2), ((HB.out.cell (World.block_lt_of_cell? w _ hw259_3)).trans hw259_3), ((HB.out.cell (World.block_lt_of_cell? w _ hw259_4)).trans hw259_4), ((HB.out.cell (World.block_lt_of_cell? w _ hw259_5)).trans hw259_5), ((HB.out.cell (World.block_lt_of_cell? w _ hw259_6)).trans hw259_6), ((HB.out.cell (World.block_lt_of_cell? w _ hw260_0)).trans hw260_0), ((HB.out.cell (World.block_lt_of_cell? w _ hw260_1)).trans hw260_1), ((HB.out.cell (World.block_lt_of_cell? w _ hw260_2)).trans hw260_2), ((HB.out.cell (World.block_lt_of_cell? w _ hw260_3)).trans hw260_3), ((HB.out.cell (World.block_lt_of_cell? w _ hw260_4)).trans hw260_4), ((HB.out.cell (World.block_lt_of_cell? w _ hw260_5)).trans hw260_5), ((HB.out.cell (World.block_lt_of_cell? w _ hw260_6)).trans hw260_6)⟩ (fun hHeld => ?_); refine with_tabW stanchionref00_SameMails.tab6 stanchionref00_SameMails.bits6 (fun HT_ HW_ => ?_)
                  generalize wr.drew = w8 at HB HR259_5 HR259_6 HR260_5 HR260_6 hx259_0 hx259_1 hx259_2 hx259_3 hx259_4 hx259_5 hx259_6 hx260_0 hx260_1 hx260_2 hx260_3 hx260_4 hx260_5 hx260_6 hHeld ⊢
                  refine pure_ (i := 0) (N := some 17) (v := ?_) (a' := ?_) #[true, false, false, false, false, false, false, false, false, false, false, false, false, false, false, false, false, false, false, false, false, false, false, false, false] rfl rfl (any_of HT_.out (by kernel_rfl)) (fun _ _ _ h => h) (Or.inl ⟨by rfl, ?_⟩) ?_ ?_
                  rotate_left
                  · intro w'
                    go_simp
                    with_reducible rfl
                  rotate_left
                  · simp only [Act.put, List.setIfInBounds_toArray, List.set_cons_zero, List.set_cons_succ, i64_w, i32_w]
                    rfl
                  refine pure_ (i := 1) (N := some 18) (v := ?_) (a' := ?_) #[true, true, false, false, false, false, false, false, false, false, false, false, false, false, false, false, false, false, false, false, false, false, false, false, false] rfl rfl (any_of HT_.out (by kernel_rfl)) (fun _ _ _ h => h) (Or.inl ⟨by rfl, ?_⟩) ?_ ?_
                  rotate_left
                  · intro w'
                    go_simp
                    with_reducible rfl
                  rotate_left
                  · simp only [Act.put, List.setIfInBounds_toArray, List.set_cons_zero, List.set_cons_succ, i64_w, i32_w]
                    rfl
                  refine pure_ (i := 2) (N := some 19) (v := ?_) (a' := ?_) #[true, true, true, false, false, false, false, false, false, false, false, false, false, false, false, false, false, false, false, false, false, false, false, false, false] rfl rfl (any_of HT_.out (by kernel_rfl)) (fun _ _ _ h => h) (Or.inl ⟨by rfl, ?_⟩) ?_ ?_
                  rotate_left
                  · intro w'
                    go_simp
                    with_reducible rfl
                  rotate_left
                  · simp only [Act.put, List.setIfInBounds_toArray, List.set_cons_zero, List.set_cons_succ, i64_w, i32_w]
                    rfl
                  refine pure_ (i := 3) (N := some 20) (v := ?_) (a' := ?_) #[true, true, true, true, false, false, false, false, false, false, false, false, false, false, false, false, false, false, false, false, false, false, false, false, false] rfl rfl (any_of HT_.out (by kernel_rfl)) (fun _ _ _ h => h) (Or.inl ⟨by rfl, ?_⟩) ?_ ?_
                  rotate_left
                  · intro w'
                    go_simp
                    with_reducible rfl
                  rotate_left
                  · simp only [Act.put, List.setIfInBounds_toArray, List.set_cons_zero, List.set_cons_succ, i64_w, i32_w]
                    rfl
                  refine pure_ (i := 5) (N := some 22) (v := ?_) (a' := ?_) #[true, true, true, true, false, true, false, false, false, false, false, false, false, false, false, false, false, false, false, false, false, false, false, false, false] rfl rfl (any_of HT_.out (by kernel_rfl)) (fun _ _ _ h => h) (Or.inl ⟨by rfl, ?_⟩) ?_ ?_
                  rotate_left
                  · intro w'
                    go_simp
                    with_reducible rfl
                  rotate_left
                  · simp only [Act.put, List.setIfInBounds_toArray, List.set_cons_zero, List.set_cons_succ, i64_w, i32_w]
                    rfl
                  refine pure_ (i := 6) (N := some 23) (v := ?_) (a' := ?_) #[true, true, true, true, false, true, true, false, false, false, false, false, false, false, false, false, false, false, false, false, false, false, false, false, false] rfl rfl (any_of HT_.out (by kernel_rfl)) (fun _ _ _ h => h) (Or.inl ⟨by rfl, ?_⟩) ?_ ?_
                  rotate_left
                  · intro w'
                    go_simp
                    with_reducible rfl
                  rotate_left
                  · simp only [Act.put, List.setIfInBounds_toArray, List.set_cons_zero, List.set_cons_succ, i64_w, i32_w]
                    rfl
                  refine pure_ (i := 7) (N := some 24) (v := ?_) (a' := ?_) #[true, true, true, true, false, true, true, true, false, false, false, false, false, false, false, false, false, false, false, false, false, false, false, false, false] rfl rfl (any_of HT_.out (by kernel_rfl)) (fun _ _ _ h => h) (Or.inl ⟨by rfl, ?_⟩) ?_ ?_
                  rotate_left
                  · intro w'
                    go_simp
                    with_reducible rfl
                  rotate_left
                  · simp only [Act.put, List.setIfInBounds_toArray, List.set_cons_zero, List.set_cons_succ, i64_w, i32_w]
                    rfl
                  refine pure_ (i := 8) (N := some 25) (v := ?_) (a' := ?_) #[true, true, true, true, false, true, true, true, true, false, false, false, false, false, false, false, false, false, false, false, false, false, false, false, false] rfl rfl (any_of HT_.out (by kernel_rfl)) (fun _ _ _ h => h) (Or.inl ⟨by rfl, ?_⟩) ?_ ?_
                  rotate_left
                  · intro w'
                    go_simp
                    with_reducible rfl
                  rotate_left
                  · simp only [Act.put, List.setIfInBounds_toArray, List.set_cons_zero, List.set_cons_succ, i64_w, i32_w]
                    rfl
                  refine take_ (i := 4) (N := some 21) (v := ?_) (a' := ?_) #[true, true, true, true, true, true, true, true, true, false, false, false, false, false, false, false, false, false, false, false, false, false, false, false, false] rfl rfl (take_ofW HT_.out HW_.out (by kernel_rfl)) (fun _ _ _ h => h) (Or.inl ⟨by rfl, ?_⟩) hHeld ?_ ?_
                  rotate_left
                  · rintro w' ⟨s0, s1, s2, s3, s4, s5, s6, s7, s8, s9, s10, s11, s12, s13⟩
                    go_simp
                    with_reducible rfl
                  rotate_left
                  · simp only [Act.put, List.setIfInBounds_toArray, List.set_cons_zero, List.set_cons_succ, i64_w, i32_w]
                    rfl
                  refine take_ (i := 9) (N := some 26) (v := ?_) (a' := ?_) #[true, true, true, true, true, true, true, true, true, true, false, false, false, false, false, false, false, false, false, false, false, false, false, false, false] rfl rfl (take_ofW HT_.out HW_.out (by kernel_rfl)) (fun _ _ _ h => h) (Or.inl ⟨by rfl, ?_⟩) hHeld ?_ ?_
                  rotate_left
                  · rintro w' ⟨s0, s1, s2, s3, s4, s5, s6, s7, s8, s9, s10, s11, s12, s13⟩
                    go_simp
                    with_reducible rfl
                  rotate_left
                  · simp only [Act.put, List.setIfInBounds_toArray, List.set_cons_zero, List.set_cons_succ, i64_w, i32_w]
                    rfl
                  refine pure_ (i := 10) (N := some 27) (v := ?_) (a' := ?_) #[true, true, true, true, true, true, true, true, true, true, true, false, false, false, false, false, false, false, false, false, false, false, false, false, false] rfl rfl (any_of HT_.out (by kernel_rfl)) (fun _ _ _ h => h) (Or.inl ⟨by rfl, ?_⟩) ?_ ?_
                  rotate_left
                  · intro w'
                    go_simp
                    with_reducible rfl
                  rotate_left
                  · simp only [Act.put, List.setIfInBounds_toArray, List.set_cons_zero, List.set_cons_succ, i64_w, i32_w]
                    rfl
                  refine pure_ (i := 11) (N := some 28) (v := ?_) (a' := ?_) #[true, true, true, true, true, true, true, true, true, true, true, true, false, false, false, false, false, false, false, false, false, false, false, false, false] rfl rfl (any_of HT_.out (by kernel_rfl)) (fun _ _ _ h => h) (Or.inl ⟨by rfl, ?_⟩) ?_ ?_
                  rotate_left
                  · intro w'
                    go_simp
                    with_reducible rfl
                  rotate_left
                  · simp only [Act.put, List.setIfInBounds_toArray, List.set_cons_zero, List.set_cons_succ, i64_w, i32_w]
                    rfl
                  refine pure_ (i := 12) (N := some 29) (v := undef) (a' := ?_) #[true, true, true, true, true, true, true, true, true, true, true, true, true, false, false, false, false, false, false, false, false, false, false, false, false] rfl rfl (any_of HT_.out (by kernel_rfl)) (fun _ _ _ h => h) (Or.inr ⟨by rfl, rfl⟩) ?_ ?_
                  rotate_left
                  · simp only [Act.put, List.setIfInBounds_toArray, List.set_cons_zero, List.set_cons_succ, i64_w, i32_w]
                    rfl
                  refine pure_ (i := 13) (N := some 30) (v := undef) (a' := ?_) #[true, true, true, true, true, true, true, true, true, true, true, true, true, true, false, false, false, false, false, false, false, false, false, false, false] rfl rfl (any_of HT_.out (by kernel_rfl)) (fun _ _ _ h => h) (Or.inr ⟨by rfl, rfl⟩) ?_ ?_
                  rotate_left
                  · simp only [Act.put, List.setIfInBounds_toArray, List.set_cons_zero, List.set_cons_succ, i64_w, i32_w]
                    rfl
                  refine pure_ (i := 14) (N := some 31) (v := undef) (a' := ?_) #[true, true, true, true, true, true, true, true, true, true, true, true, true, true, true, false, false, false, false, false, false, false, false, false, false] rfl rfl (any_of HT_.out (by kernel_rfl)) (fun _ _ _ h => h) (Or.inr ⟨by rfl, rfl⟩) ?_ ?_
                  rotate_left
                  · simp only [Act.put, List.setIfInBounds_toArray, List.set_cons_zero, List.set_cons_succ, i64_w, i32_w]
                    rfl
                  refine pure_ (i := 15) (N := some 32) (v := undef) (a' := ?_) #[true, true, true, true, true, true, true, true, true, true, true, true, true, true, true, true, false, false, false, false, false, false, false, false, false] rfl rfl (any_of HT_.out (by kernel_rfl)) (fun _ _ _ h => h) (Or.inr ⟨by rfl, rfl⟩) ?_ ?_
                  rotate_left
                  · simp only [Act.put, List.setIfInBounds_toArray, List.set_cons_zero, List.set_cons_succ, i64_w, i32_w]
                    rfl
                  refine pure_ (i := 16) (N := some 33) (v := undef) (a' := ?_) #[true, true, true, true, true, true, true, true, true, true, true, true, true, true, true, true, true, false, false, false, false, false, false, false, false] rfl rfl (any_of HT_.out (by kernel_rfl)) (fun _ _ _ h => h) (Or.inr ⟨by rfl, rfl⟩) ?_ ?_
                  rotate_left
                  · simp only [Act.put, List.setIfInBounds_toArray, List.set_cons_zero, List.set_cons_succ, i64_w, i32_w]
                    rfl
                  refine pure_ (i := 17) (N := some 34) (v := undef) (a' := ?_) #[true, true, true, true, true, true, true, true, true, true, true, true, true, true, true, true, true, true, false, false, false, false, false, false, false] rfl rfl (any_of HT_.out (by kernel_rfl)) (fun _ _ _ h => h) (Or.inr ⟨by rfl, rfl⟩) ?_ ?_
                  rotate_left
                  · simp only [Act.put, List.setIfInBounds_toArray, List.set_cons_zero, List.set_cons_succ, i64_w, i32_w]
                    rfl
                  refine pure_ (i := 18) (N := some 35) (v := undef) (a' := ?_) #[true, true, true, true, true, true, true, true, true, true, true, true, true, true, true, true, true, true, true, false, false, false, false, false, false] rfl rfl (any_of HT_.out (by kernel_rfl)) (fun _ _ _ h => h) (Or.inr ⟨by rfl, rfl⟩) ?_ ?_
                  rotate_left
                  · simp only [Act.put, List.setIfInBounds_toArray, List.set_cons_zero, List.set_cons_succ, i64_w, i32_w]
                    rfl
                  refine pure_ (i := 19) (N := some 36) (v := undef) (a' := ?_) #[true, true, true, true, true, true, true, true, true, true, true, true, true, true, true, true, true, true, true, true, false, false, false, false, false] rfl rfl (any_of HT_.out (by kernel_rfl)) (fun _ _ _ h => h) (Or.inr ⟨by rfl, rfl⟩) ?_ ?_
                  rotate_left
                  · simp only [Act.put, List.setIfInBounds_toArray, List.set_cons_zero, List.set_cons_succ, i64_w, i32_w]
                    rfl
                  refine pure_ (i := 20) (N := some 37) (v := undef) (a' := ?_) #[true, true, true, true, true, true, true, true, true, true, true, true, true, true, true, true, true, true, true, true, true, false, false, false, false] rfl rfl (any_of HT_.out (by kernel_rfl)) (fun _ _ _ h => h) (Or.inr ⟨by rfl, rfl⟩) ?_ ?_
                  rotate_left
                  · simp only [Act.put, List.setIfInBounds_toArray, List.set_cons_zero, List.set_cons_succ, i64_w, i32_w]
                    rfl
                  refine pure_ (i := 21) (N := some 38) (v := undef) (a' := ?_) #[true, true, true, true, true, true, true, true, true, true, true, true, true, true, true, true, true, true, true, true, true, true, false, false, false] rfl rfl (any_of HT_.out (by kernel_rfl)) (fun _ _ _ h => h) (Or.inr ⟨by rfl, rfl⟩) ?_ ?_
                  rotate_left
                  · simp only [Act.put, List.setIfInBounds_toArray, List.set_cons_zero, List.set_cons_succ, i64_w, i32_w]
                    rfl
                  refine pure_ (i := 22) (N := some 39) (v := undef) (a' := ?_) #[true, true, true, true, true, true, true, true, true, true, true, true, true, true, true, true, true, true, true, true, true, true, true, false, false] rfl rfl (any_of HT_.out (by kernel_rfl)) (fun _ _ _ h => h) (Or.inr ⟨by rfl, rfl⟩) ?_ ?_
                  rotate_left
                  · simp only [Act.put, List.setIfInBounds_toArray, List.set_cons_zero, List.set_cons_succ, i64_w, i32_w]
                    rfl
                  refine pure_ (i := 23) (N := some 40) (v := undef) (a' := ?_) #[true, true, true, true, true, true, true, true, true, true, true, true, true, true, true, true, true, true, true, true, true, true, true, true, false] rfl rfl (any_of HT_.out (by kernel_rfl)) (fun _ _ _ h => h) (Or.inr ⟨by rfl, rfl⟩) ?_ ?_
                  rotate_left
                  · simp only [Act.put, List.setIfInBounds_toArray, List.set_cons_zero, List.set_cons_succ, i64_w, i32_w]
                    rfl
                  refine pure_ (i := 24) (N := some 41) (v := ?_) (a' := ?_) #[true, true, true, true, true, true, true, true, true, true, true, true, true, true, true, true, true, true, true, true, true, true, true, true, true] rfl rfl (any_of HT_.out (by kernel_rfl)) (fun _ _ _ h => h) (Or.inl ⟨by rfl, ?_⟩) ?_ ?_
                  rotate_left
                  · intro w'
                    go_simp
                    with_reducible rfl
                  rotate_left
                  · simp only [Act.put, List.setIfInBounds_toArray, List.set_cons_zero, List.set_cons_succ, i64_w, i32_w]
                    rfl
                  refine done_ (done_of HT_.out (by kernel_rfl)) ?_
                  try go_wp2
                  go_ret
                  exact ⟨by first | rfl | (simp [errW_none, errW_some] <;> rfl) | (simp [*, errW_none, errW_some] <;> rfl), by repeat (first | (with_reducible first | exact HB.out | apply below_alloc | apply pw_below_drewN | apply below_drew1) | exact HB.out)⟩)
              · have e0_ : (((rd_T74 l0 x5_1).f0.f0) = ((rd_T74 l1 x5_1).f0.f0)) = True := eq_true (by have := c7; simp at this; exact this.1)
                have e1_ : (((rd_T74 l0 x5_1).f0.f1) = ((rd_T74 l1 x5_1).f0.f1)) = True := eq_true (by have := c7; simp at this; exact this.2)
                rw [if_neg c7] at H
                have c7b0 : (!(((rd_T74 l0 x5_1).f0.f0) == ((rd_T74 l1 x5_1).f0.f0)) || (!(((rd_T74 l0 x5_1).f0.f1) == ((rd_T74 l1 x5_1).f0.f1)))) = false := by simpa using c7
                clear c7
                replace H := Option.bind_eq_some_iff.mp H
                obtain ⟨t263, A90, H⟩ := H
                replace H : (if t263 = true then (stanchionref00_SameMails.l0 k1 l0 l1 (wrap64 (x5_1 + 1))) else (some false)) = some r := H
                have A9 := Aside0.mk A90
                clear A90
                by_cases c10 : t263 = true
                · subst c10
                  have H1 : (stanchionref00_SameMails.l0 k1 l0 l1 (wrap64 (x5_1 + 1))) = some r := by rw [if_pos rfl] at H; exact H
                  clear H
                  have H := H1
                  clear H1
                  have H' := Aside0.mk H
                  clear H
                  try go_wp2
                  have n0_ := Aside0.mk (below_drew1 HB.out)
                  clear HB
                  have HB := n0_
                  clear n0_
                  have p259 : 0 ≤ (x5_1 : Int) := of_decide_eq_true (by first | (with_reducible assumption) | assumption)
                  have q259 : x5_1 < (l0.length : Int) := of_decide_eq_true (by first | (with_reducible assumption) | assumption)
                  obtain ⟨ad259, A259_5, c259_5, A259_6, c259_6, e259, hx259_0, hx259_1, hx259_2, hx259_3, hx259_4, hx259_5, hx259_6, hl259_5, hi259_5, hl259_6, hi259_6⟩ := at_T74 HR0.out x5_1 p259 q259
                  have hw259_6 := hx259_6
                  have hw259_5 := hx259_5
                  have hw259_4 := hx259_4
                  have hw259_3 := hx259_3
                  have hw259_2 := hx259_2
                  have hw259_1 := hx259_1
                  have hw259_0 := hx259_0
                  cases e259
                  replace hx259_0 := (HB.out.cell (World.block_lt_of_cell? w _ hx259_0)).trans hx259_0
                  replace hx259_1 := (HB.out.cell (World.block_lt_of_cell? w _ hx259_1)).trans hx259_1
                  replace hx259_2 := (HB.out.cell (World.block_lt_of_cell? w _ hx259_2)).trans hx259_2
                  replace hx259_3 := (HB.out.cell (World.block_lt_of_cell? w _ hx259_3)).trans hx259_3
                  replace hx259_4 := (HB.out.cell (World.block_lt_of_cell? w _ hx259_4)).trans hx259_4
                  replace hx259_5 := (HB.out.cell (World.block_lt_of_cell? w _ hx259_5)).trans hx259_5
                  replace hx259_6 := (HB.out.cell (World.block_lt_of_cell? w _ hx259_6)).trans hx259_6
                  have HR259_5 := Aside0.mk hi259_5
                  have HC259_5 := Aside0.mk hl259_5
                  clear hi259_5 hl259_5
                  have HR259_6 := Aside0.mk hi259_6
                  have HC259_6 := Aside0.mk hl259_6
                  clear hi259_6 hl259_6
                  replace p259 := eq_true p259
                  replace q259 := eq_true q259
                  have p260 : 0 ≤ (x5_1 : Int) := of_decide_eq_true (by first | (with_reducible assumption) | assumption)
                  have q260 : x5_1 < (l1.length : Int) := of_decide_eq_true (by first | (with_reducible assumption) | assumption)
                  obtain ⟨ad260, A260_5, c260_5, A260_6, c260_6, e260, hx260_0, hx260_1, hx260_2, hx260_3, hx260_4, hx260_5, hx260_6, hl260_5, hi260_5, hl260_6, hi260_6⟩ := at_T74 HR1.out x5_1 p260 q260
                  have hw260_6 := hx260_6
                  have hw260_5 := hx260_5
                  have hw260_4 := hx260_4
                  have hw260_3 := hx260_3
                  have hw260_2 := hx260_2
                  have hw260_1 := hx260_1
                  have hw260_0 := hx260_0
                  cases e260
                  replace hx260_0 := (HB.out.cell (World.block_lt_of_cell? w _ hx260_0)).trans hx260_0
                  replace hx260_1 := (HB.out.cell (World.block_lt_of_cell? w _ hx260_1)).trans hx260_1
                  replace hx260_2 := (HB.out.cell (World.block_lt_of_cell? w _ hx260_2)).trans hx260_2
                  replace hx260_3 := (HB.out.cell (World.block_lt_of_cell? w _ hx260_3)).trans hx260_3
                  replace hx260_4 := (HB.out.cell (World.block_lt_of_cell? w _ hx260_4)).trans hx260_4
                  replace hx260_5 := (HB.out.cell (World.block_lt_of_cell? w _ hx260_5)).trans hx260_5
                  replace hx260_6 := (HB.out.cell (World.block_lt_of_cell? w _ hx260_6)).trans hx260_6
                  have HR260_5 := Aside0.mk hi260_5
                  have HC260_5 := Aside0.mk hl260_5
                  clear hi260_5 hl260_5
                  have HR260_6 := Aside0.mk hi260_6
                  have HC260_6 := Aside0.mk hl260_6
                  clear hi260_6 hl260_6
                  replace p260 := eq_true p260
                  replace q260 := eq_true q260
                  have p261 : 0 ≤ (x5_1 : Int) := of_decide_eq_true (by first | (with_reducible assumption) | assumption)
                  have q261 : x5_1 < (l0.length : Int) := of_decide_eq_true (by first | (with_reducible assumption) | assumption)
                  obtain ⟨ad261, A261_5, c261_5, A261_6, c261_6, e261, hx261_0, hx261_1, hx261_2, hx261_3, hx261_4, hx261_5, hx261_6, hl261_5, hi261_5, hl261_6, hi261_6⟩ := at_T74 HR0.out x5_1 p261 q261
                  have hw261_6 := hx261_6
                  have hw261_5 := hx261_5
                  have hw261_4 := hx261_4
                  have hw261_3 := hx261_3
                  have hw261_2 := hx261_2
                  have hw261_1 := hx261_1
                  have hw261_0 := hx261_0
                  obtain rfl : ad259 = ad261 := (by injection e261)
                  replace hx261_0 := (HB.out.cell (World.block_lt_of_cell? w _ hx261_0)).trans hx261_0
                  replace hx261_1 := (HB.out.cell (World.block_lt_of_cell? w _ hx261_1)).trans hx261_1
                  replace hx261_2 := (HB.out.cell (World.block_lt_of_cell? w _ hx261_2)).trans hx261_2
                  replace hx261_3 := (HB.out.cell (World.block_lt_of_cell? w _ hx261_3)).trans hx261_3
                  replace hx261_4 := (HB.out.cell (World.block_lt_of_cell? w _ hx261_4)).trans hx261_4
                  replace hx261_5 := (HB.out.cell (World.block_lt_of_cell? w _ hx261_5)).trans hx261_5
                  replace hx261_6 := (HB.out.cell (World.block_lt_of_cell? w _ hx261_6)).trans hx261_6
                  have HR261_5 := Aside0.mk hi261_5
                  have HC261_5 := Aside0.mk hl261_5
                  clear hi261_5 hl261_5
                  have HR261_6 := Aside0.mk hi261_6
                  have HC261_6 := Aside0.mk hl261_6
                  clear hi261_6 hl261_6
                  replace p261 := eq_true p261
                  replace q261 := eq_true q261
                  have ea_ := Option.some.inj (hx259_5.symm.trans hx261_5)
                  injection ea_ with ea_ en_ ec_
                  subst ea_
                  subst ec_
                  clear en_
                  have ea_ := Option.some.inj (hx259_6.symm.trans hx261_6)
                  injection ea_ with ea_ en_ ec_
                  subst ea_
                  subst ec_
                  clear en_
                  have p262 : 0 ≤ (x5_1 : Int) := of_decide_eq_true (by first | (with_reducible assumption) | assumption)
                  have q262 : x5_1 < (l1.length : Int) := of_decide_eq_true (by first | (with_reducible assumption) | assumption)
                  obtain ⟨ad262, A262_5, c262_5, A262_6, c262_6, e262, hx262_0, hx262_1, hx262_2, hx262_3, hx262_4, hx262_5, hx262_6, hl262_5, hi262_5, hl262_6, hi262_6⟩ := at_T74 HR1.out x5_1 p262 q262
                  have hw262_6 := hx262_6
                  have hw262_5 := hx262_5
                  have hw262_4 := hx262_4
                  have hw262_3 := hx262_3
                  have hw262_2 := hx262_2
                  have hw262_1 := hx262_1
                  have hw262_0 := hx262_0
                  obtain rfl : ad260 = ad262 := (by injection e262)
                  replace hx262_0 := (HB.out.cell (World.block_lt_of_cell? w _ hx262_0)).trans hx262_0
                  replace hx262_1 := (HB.out.cell (World.block_lt_of_cell? w _ hx262_1)).trans hx262_1
                  replace hx262_2 := (HB.out.cell (World.block_lt_of_cell? w _ hx262_2)).trans hx262_2
                  replace hx262_3 := (HB.out.cell (World.block_lt_of_cell? w _ hx262_3)).trans hx262_3
                  replace hx262_4 := (HB.out.cell (World.block_lt_of_cell? w _ hx262_4)).trans hx262_4
                  replace hx262_5 := (HB.out.cell (World.block_lt_of_cell? w _ hx262_5)).trans hx262_5
                  replace hx262_6 := (HB.out.cell (World.block_lt_of_cell? w _ hx262_6)).trans hx262_6
                  have HR262_5 := Aside0.mk hi262_5
                  have HC262_5 := Aside0.mk hl262_5
                  clear hi262_5 hl262_5
                  have HR262_6 := Aside0.mk hi262_6
                  have HC262_6 := Aside0.mk hl262_6
                  clear hi262_6 hl262_6
                  replace p262 := eq_true p262
                  replace q262 := eq_true q262
                  have ea_ := Option.some.inj (hx260_5.symm.trans hx262_5)
                  injection ea_ with ea_ en_ ec_
                  subst ea_
                  subst ec_
                  clear en_
                  have ea_ := Option.some.inj (hx260_6.symm.trans hx262_6)
                  injection ea_ with ea_ en_ ec_
                  subst ea_
                  subst ec_
                  clear en_
                  refine start_ (n := 25) (S := fun w' => w'.cell? (ad259.add ((x5_1).toNat * 7)) = some (.int .i64 ((rd_T74 l0 x5_1).f0.f0)) ∧ w'.cell? ⟨(ad259.add ((x5_1).toNat * 7)).block, (ad259.add ((x5_1).toNat * 7)).off + 1, none⟩ = some (.int .i64 ((rd_T74 l0 x5_1).f0.f1)) ∧ w'.cell? ⟨(ad259.add ((x5_1).toNat * 7)).block, (ad259.add ((x5_1).toNat * 7)).off + 2, none⟩ = some (.int .i64 ((rd_T74 l0 x5_1).f1.f0.f0)) ∧ w'.cell? ⟨(ad259.add ((x5_1).toNat * 7)).block, (ad259.add ((x5_1).toNat * 7)).off + 3, none⟩ = some (.int .i64 ((rd_T74 l0 x5_1).f1.f0.f1)) ∧ w'.cell? ⟨(ad259.add ((x5_1).toNat * 7)).block, (ad259.add ((x5_1).toNat * 7)).off + 4, none⟩ = some (.int .i64 ((rd_T74 l0 x5_1).f1.f1)) ∧ w'.cell? ⟨(ad259.add ((x5_1).toNat * 7)).block, (ad259.add ((x5_1).toNat * 7)).off + 5, none⟩ = some (.slice A259_5 ((rd_T74 l0 x5_1).f1.f2).length c259_5) ∧ w'.cell? ⟨(ad259.add ((x5_1).toNat * 7)).block, (ad259.add ((x5_1).toNat * 7)).off + 6, none⟩ = some (.slice A259_6 ((rd_T74 l0 x5_1).f1.f3).length c259_6) ∧ w'.cell? (ad260.add ((x5_1).toNat * 7)) = some (.int .i64 ((rd_T74 l1 x5_1).f0.f0)) ∧ w'.cell? ⟨(ad260.add ((x5_1).toNat * 7)).block, (ad260.add ((x5_1).toNat * 7)).off + 1, none⟩ = some (.int .i64 ((rd_T74 l1 x5_1).f0.f1)) ∧ w'.cell? ⟨(ad260.add ((x5_1).toNat * 7)).block, (ad260.add ((x5_1).toNat * 7)).off + 2, none⟩ = some (.int .i64 ((rd_T74 l1 x5_1).f1.f0.f0)) ∧ w'.cell? ⟨(ad260.add ((x5_1).toNat * 7)).block, (ad260.add ((x5_1).toNat * 7)).off + 3, none⟩ = some (.int .i64 ((rd_T74 l1 x5_1).f1.f0.f1)) ∧ w'.cell? ⟨(ad260.add ((x5_1).toNat * 7)).block, (ad260.add ((x5_1).toNat * 7)).off + 4, none⟩ = some (.int .i64 ((rd_T74 l1 x5_1).f1.f1)) ∧ w'.cell? ⟨(ad260.add ((x5_1).toNat * 7)).block, (ad260.add ((x5_1).toNat * 7)).off + 5, none⟩ = some (.slice A260_5 ((rd_T74 l1 x5_1).f1.f2).length c260_5) ∧ w'.cell? ⟨(ad260.add ((x5_1).toNat * 7)).block, (ad260.add ((x5_1).toNat * 7)).off + 6, none⟩ = some (.slice A260_6 ((rd_T74 l1 x5_1).f1.f3).length c260_6) ∧ w'.cell? (ad259.add ((x5_1).toNat * 7)) = some (.int .i64 ((rd_T74 l0 x5_1).f0.f0)) ∧ w'.cell? ⟨(ad259.add ((x5_1).toNat * 7)).block, (ad259.add ((x5_1).toNat * 7)).off + 1, none⟩ = some (.int .i64 ((rd_T74 l0 x5_1).f0.f1)) ∧ w'.cell? ⟨(ad259.add ((x5_1).toNat * 7)).block, (ad259.add ((x5_1).toNat * 7)).off + 2, none⟩ = some (.int .i64 ((rd_T74 l0 x5_1).f1.f0.f0)) ∧ w'.cell? ⟨(ad259.add ((x5_1).toNat * 7)).block, (ad259.add ((x5_1).toNat * 7)).off + 3, none⟩ = some (.int .i64 ((rd_T74 l0 x5_1).f1.f0.f1)) ∧ w'.cell? ⟨(ad259.add ((x5_1).toNat * 7)).block, (ad259.add ((x5_1).toNat * 7)).off + 4, none⟩ = some (.int .i64 ((rd_T74 l0 x5_1).f1.f1)) ∧ w'.cell? ⟨(ad259.add ((x5_1).toNat * 7)).block, (ad259.add ((x5_1).toNat * 7)).off + 5, none⟩ = some (.slice A259_5 ((rd_T74 l0 x5_1).f1.f2).length c259_5) ∧ w'.cell? ⟨(ad259.add ((x5_1).toNat * 7)).block, (ad259.add ((x5_1).toNat * 7)).off + 6, none⟩ = some (.slice A259_6 ((rd_T74 l0 x5_1).f1.f3).length c259_6) ∧ w'.cell? (ad260.add ((x5_1).toNat * 7)) = some (.int .i64 ((rd_T74 l1 x5_1).f0.f0)) ∧ w'.cell? ⟨(ad260.add ((x5_1).toNat * 7)).block, (ad260.add ((x5_1).toNat * 7)).off + 1, none⟩ = some (.int .i64 ((rd_T74 l1 x5_1).f0.f1)) ∧ w'.cell? ⟨(ad260.add ((x5_1).toNat * 7)).block, (ad260.add ((x5_1).toNat * 7)).off + 2, none⟩ = some (.int .i64 ((rd_T74 l1 x5_1).f1.f0.f0)) ∧ w'.cell? ⟨(ad260.add ((x5_1).toNat * 7)).block, (ad260.add ((x5_1).toNat * 7)).off + 3, none⟩ = some (.int .i64 ((rd_T74 l1 x5_1).f1.f0.f1)) ∧ w'.cell? ⟨(ad260.add ((x5_1).toNat * 7)).block, (ad260.add ((x5_1).toNat * 7)).off + 4, none⟩ = some (.int .i64 ((rd_T74 l1 x5_1).f1.f1)) ∧ w'.cell? ⟨(ad260.add ((x5_1).toNat * 7)).block, (ad260.add ((x5_1).toNat * 7)).off + 5, none⟩ = some (.slice A260_5 ((rd_T74 l1 x5_1).f1.f2).length c260_5) ∧ w'.cell? ⟨(ad260.add ((x5_1).toNat * 7)).block, (ad260.add ((x5_1).toNat * 7)).off + 6, none⟩ = some (.slice A260_6 ((rd_T74 l1 x5_1).f1.f3).length c260_6)) (ds := []) #[false, false, false, false, false, false, false, false, false, false, false, false, false, false, false, false, false, false, false, false, false, false, false, false, false] (by kernel_rfl) rfl rfl ⟨((HB.out.cell (World.block_lt_of_cell? w _ hw259_0)).trans hw259_0), ((HB.out.cell (World.block_lt_of_cell? w _ hw259_1)).trans hw259_1), ((HB.out.cell (World.block_lt_of_cell? w _ hw259_2)).trans hw259_2), ((HB.out.cell (World.block_lt_of_cell? w _ hw259_3)).trans hw259_3), ((HB.out.cell (World.block_lt_of_cell? w _ hw259_4)).trans hw259_4), ((HB.out.cell (World.block_lt_of_cell? w _ hw259_5)).trans hw259_5), ((HB.out.cell (World.block_lt_of_cell? w _ hw259_6)).trans hw259_6), ((HB.out.cell (World.block_lt_of_cell? w _ hw260_0)).trans hw260_0), ((HB.out.cell (World.block_lt_of_cell? w _ hw260_1)).trans hw260_1), ((HB.out.cell (World.block_lt_of_cell? w _ hw260_2)).trans hw260_2), ((HB.out.cell (World.block_lt_of_cell? w _ hw260_3)).trans hw260_3), ((HB.out.cell (World.block_lt_of_cell? w _ hw260_4)).trans hw260_4), ((HB.out.cell (World.block_lt_of_cell? w _ hw260_5)).trans hw260_5), ((HB.out.cell (World.block_lt_of_cell? w _ hw260_6)).trans hw260_6), ((HB.out.cell (World.block_lt_of_cell? w _ hw261_0)).trans hw261_0), ((HB.out.cell (World.block_lt_of_cell? w _ hw261_1)).trans hw261_1), ((HB.out.cell (World.block_lt_of_cell? w _ hw261_2)).trans hw261_2), ((HB.out.cell (World.block_lt_of_cell? w _ hw261_3)).trans hw261_3), ((HB.out.cell (World.block_lt_of_cell? w _ hw261_4)).trans hw261_4), ((HB.out.cell (World.block_lt_of_cell? w _ hw261_5)).trans hw261_5), ((HB.out.cell (World.block_lt_of_cell? w _ hw261_6)).trans hw261_6), ((HB.out.cell (World.block_lt_of_cell? w _ hw262_0)).trans hw262_0), ((HB.out.cell (World.block_lt_of_cell? w _ hw262_1)).trans hw262_1), ((HB.out.cell (World.block_lt_of_cell? w _ hw262_2)).trans hw262_2), ((HB.out.cell (World.block_lt_of_cell? w _ hw262_3)).trans hw262_3), ((HB.out.cell (World.block_lt_of_cell? w _ hw262_4)).trans hw262_4), ((HB.out.cell (World.block_lt_of_cell? w _ hw262_5)).trans hw262_5), ((HB.out.cell (World.block_lt_of_cell? w _ hw262_6)).trans hw262_6)⟩ (fun hHeld => ?_); refine with_tabW stanchionref00_SameMails.tab6 stanchionref00_SameMails.bits6 (fun HT_ HW_ => ?_)
                  generalize wr.drew = w11 at HB HR259_5 HR259_6 HR260_5 HR260_6 HR261_5 HR261_6 HR262_5 HR262_6 hx259_0 hx259_1 hx259_2 hx259_3 hx259_4 hx259_5 hx259_6 hx260_0 hx260_1 hx260_2 hx260_3 hx260_4 hx260_5 hx260_6 hx261_0 hx261_1 hx261_2 hx261_3 hx261_4 hx261_5 hx261_6 hx262_0 hx262_1 hx262_2 hx262_3 hx262_4 hx262_5 hx262_6 hHeld ⊢
                  refine pure_ (i := 0) (N := some 17) (v := ?_) (a' := ?_) #[true, false, false, false, false, false, false, false, false, false, false, false, false, false, false, false, false, false, false, false, false, false, false, false, false] rfl rfl (any_of HT_.out (by kernel_rfl)) (fun _ _ _ h => h) (Or.inl ⟨by rfl, ?_⟩) ?_ ?_
                  rotate_left
                  · intro w'
                    go_simp
                    with_reducible rfl
                  rotate_left
                  · simp only [Act.put, List.setIfInBounds_toArray, List.set_cons_zero, List.set_cons_succ, i64_w, i32_w]
                    rfl
                  refine pure_ (i := 1) (N := some 18) (v := ?_) (a' := ?_) #[true, true, false, false, false, false, false, false, false, false, false, false, false, false, false, false, false, false, false, false, false, false, false, false, false] rfl rfl (any_of HT_.out (by kernel_rfl)) (fun _ _ _ h => h) (Or.inl ⟨by rfl, ?_⟩) ?_ ?_
                  rotate_left
                  · intro w'
                    go_simp
                    with_reducible rfl
                  rotate_left
                  · simp only [Act.put, List.setIfInBounds_toArray, List.set_cons_zero, List.set_cons_succ, i64_w, i32_w]
                    rfl
                  refine pure_ (i := 2) (N := some 19) (v := ?_) (a' := ?_) #[true, true, true, false, false, false, false, false, false, false, false, false, false, false, false, false, false, false, false, false, false, false, false, false, false] rfl rfl (any_of HT_.out (by kernel_rfl)) (fun _ _ _ h => h) (Or.inl ⟨by rfl, ?_⟩) ?_ ?_
                  rotate_left
                  · intro w'
                    go_simp
                    with_reducible rfl
                  rotate_left
                  · simp only [Act.put, List.setIfInBounds_toArray, List.set_cons_zero, List.set_cons_succ, i64_w, i32_w]
                    rfl
                  refine pure_ (i := 3) (N := some 20) (v := ?_) (a' := ?_) #[true, true, true, true, false, false, false, false, false, false, false, false, false, false, false, false, false, false, false, false, false, false, false, false, false] rfl rfl (any_of HT_.out (by kernel_rfl)) (fun _ _ _ h => h) (Or.inl ⟨by rfl, ?_⟩) ?_ ?_
                  rotate_left
                  · intro w'
                    go_simp
                    with_reducible rfl
                  rotate_left
                  · simp only [Act.put, List.setIfInBounds_toArray, List.set_cons_zero, List.set_cons_succ, i64_w, i32_w]
                    rfl
                  refine pure_ (i := 5) (N := some 22) (v := ?_) (a' := ?_) #[true, true, true, true, false, true, false, false, false, false, false, false, false, false, false, false, false, false, false, false, false, false, false, false, false] rfl rfl (any_of HT_.out (by kernel_rfl)) (fun _ _ _ h => h) (Or.inl ⟨by rfl, ?_⟩) ?_ ?_
                  rotate_left
                  · intro w'
                    go_simp
                    with_reducible rfl
                  rotate_left
                  · simp only [Act.put, List.setIfInBounds_toArray, List.set_cons_zero, List.set_cons_succ, i64_w, i32_w]
                    rfl
                  refine pure_ (i := 6) (N := some 23) (v := ?_) (a' := ?_) #[true, true, true, true, false, true, true, false, false, false, false, false, false, false, false, false, false, false, false, false, false, false, false, false, false] rfl rfl (any_of HT_.out (by kernel_rfl)) (fun _ _ _ h => h) (Or.inl ⟨by rfl, ?_⟩) ?_ ?_
                  rotate_left
                  · intro w'
                    go_simp
                    with_reducible rfl
                  rotate_left
                  · simp only [Act.put, List.setIfInBounds_toArray, List.set_cons_zero, List.set_cons_succ, i64_w, i32_w]
                    rfl
                  refine pure_ (i := 7) (N := some 24) (v := ?_) (a' := ?_) #[true, true, true, true, false, true, true, true, false, false, false, false, false, false, false, false, false, false, false, false, false, false, false, false, false] rfl rfl (any_of HT_.out (by kernel_rfl)) (fun _ _ _ h => h) (Or.inl ⟨by rfl, ?_⟩) ?_ ?_
                  rotate_left
                  · intro w'
                    go_simp
                    with_reducible rfl
                  rotate_left
                  · simp only [Act.put, List.setIfInBounds_toArray, List.set_cons_zero, List.set_cons_succ, i64_w, i32_w]
                    rfl
                  refine pure_ (i := 8) (N := some 25) (v := ?_) (a' := ?_) #[true, true, true, true, false, true, true, true, true, false, false, false, false, false, false, false, false, false, false, false, false, false, false, false, false] rfl rfl (any_of HT_.out (by kernel_rfl)) (fun _ _ _ h => h) (Or.inl ⟨by rfl, ?_⟩) ?_ ?_
                  rotate_left
                  · intro w'
                    go_simp
                    with_reducible rfl
                  rotate_left
                  · simp only [Act.put, List.setIfInBounds_toArray, List.set_cons_zero, List.set_cons_succ, i64_w, i32_w]
                    rfl
                  refine take_ (i := 4) (N := some 21) (v := ?_) (a' := ?_) #[true, true, true, true, true, true, true, true, true, false, false, false, false, false, false, false, false, false, false, false, false, false, false, false, false] rfl rfl (take_ofW HT_.out HW_.out (by kernel_rfl)) (fun _ _ _ h => h) (Or.inl ⟨by rfl, ?_⟩) hHeld ?_ ?_
                  rotate_left
                  · rintro w' ⟨s0, s1, s2, s3, s4, s5, s6, s7, s8, s9, s10, s11, s12, s13, s14, s15, s16, s17, s18, s19, s20, s21, s22, s23, s24, s25, s26, s27⟩
                    go_simp
                    with_reducible rfl
                  rotate_left
                  · simp only [Act.put, List.setIfInBounds_toArray, List.set_cons_zero, List.set_cons_succ, i64_w, i32_w]
                    rfl
                  refine take_ (i := 9) (N := some 26) (v := ?_) (a' := ?_) #[true, true, true, true, true, true, true, true, true, true, false, false, false, false, false, false, false, false, false, false, false, false, false, false, false] rfl rfl (take_ofW HT_.out HW_.out (by kernel_rfl)) (fun _ _ _ h => h) (Or.inl ⟨by rfl, ?_⟩) hHeld ?_ ?_
                  rotate_left
                  · rintro w' ⟨s0, s1, s2, s3, s4, s5, s6, s7, s8, s9, s10, s11, s12, s13, s14, s15, s16, s17, s18, s19, s20, s21, s22, s23, s24, s25, s26, s27⟩
                    go_simp
                    with_reducible rfl
                  rotate_left
                  · simp only [Act.put, List.setIfInBounds_toArray, List.set_cons_zero, List.set_cons_succ, i64_w, i32_w]
                    rfl
                  refine pure_ (i := 10) (N := some 27) (v := ?_) (a' := ?_) #[true, true, true, true, true, true, true, true, true, true, true, false, false, false, false, false, false, false, false, false, false, false, false, false, false] rfl rfl (any_of HT_.out (by kernel_rfl)) (fun _ _ _ h => h) (Or.inl ⟨by rfl, ?_⟩) ?_ ?_
                  rotate_left
                  · intro w'
                    go_simp
                    with_reducible rfl
                  rotate_left
                  · simp only [Act.put, List.setIfInBounds_toArray, List.set_cons_zero, List.set_cons_succ, i64_w, i32_w]
                    rfl
                  refine pure_ (i := 11) (N := some 28) (v := ?_) (a' := ?_) #[true, true, true, true, true, true, true, true, true, true, true, true, false, false, false, false, false, false, false, false, false, false, false, false, false] rfl rfl (any_of HT_.out (by kernel_rfl)) (fun _ _ _ h => h) (Or.inl ⟨by rfl, ?_⟩) ?_ ?_
                  rotate_left
                  · intro w'
                    go_simp
                    with_reducible rfl
                  rotate_left
                  · simp only [Act.put, List.setIfInBounds_toArray, List.set_cons_zero, List.set_cons_succ, i64_w, i32_w]
                    rfl
                  refine pure_ (i := 12) (N := some 29) (v := ?_) (a' := ?_) #[true, true, true, true, true, true, true, true, true, true, true, true, true, false, false, false, false, false, false, false, false, false, false, false, false] rfl rfl (any_of HT_.out (by kernel_rfl)) (fun _ _ _ h => h) (Or.inl ⟨by rfl, ?_⟩) ?_ ?_
                  rotate_left
                  · intro w'
                    go_simp
                    with_reducible rfl
                  rotate_left
                  · simp only [Act.put, List.setIfInBounds_toArray, List.set_cons_zero, List.set_cons_succ, i64_w, i32_w]
                    rfl
                  refine pure_ (i := 13) (N := some 30) (v := ?_) (a' := ?_) #[true, true, true, true, true, true, true, true, true, true, true, true, true, true, false, false, false, false, false, false, false, false, false, false, false] rfl rfl (any_of HT_.out (by kernel_rfl)) (fun _ _ _ h => h) (Or.inl ⟨by rfl, ?_⟩) ?_ ?_
                  rotate_left
                  · intro w'
                    go_simp
                    with_reducible rfl
                  rotate_left
                  · simp only [Act.put, List.setIfInBounds_toArray, List.set_cons_zero, List.set_cons_succ, i64_w, i32_w]
                    rfl
                  refine pure_ (i := 14) (N := some 31) (v := ?_) (a' := ?_) #[true, true, true, true, true, true, true, true, true, true, true, true, true, true, true, false, false, false, false, false, false, false, false, false, false] rfl rfl (any_of HT_.out (by kernel_rfl)) (fun _ _ _ h => h) (Or.inl ⟨by rfl, ?_⟩) ?_ ?_
                  rotate_left
                  · intro w'
                    go_simp
                    with_reducible rfl
                  rotate_left
                  · simp only [Act.put, List.setIfInBounds_toArray, List.set_cons_zero, List.set_cons_succ, i64_w, i32_w]
                    rfl
                  refine pure_ (i := 15) (N := some 32) (v := ?_) (a' := ?_) #[true, true, true, true, true, true, true, true, true, true, true, true, true, true, true, true, false, false, false, false, false, false, false, false, false] rfl rfl (any_of HT_.out (by kernel_rfl)) (fun _ _ _ h => h) (Or.inl ⟨by rfl, ?_⟩) ?_ ?_
                  rotate_left
                  · intro w'
                    go_simp
                    with_reducible rfl
                  rotate_left
                  · simp only [Act.put, List.setIfInBounds_toArray, List.set_cons_zero, List.set_cons_succ, i64_w, i32_w]
                    rfl
                  refine pure_ (i := 17) (N := some 34) (v := ?_) (a' := ?_) #[true, true, true, true, true, true, true, true, true, true, true, true, true, true, true, true, false, true, false, false, false, false, false, false, false] rfl rfl (any_of HT_.out (by kernel_rfl)) (fun _ _ _ h => h) (Or.inl ⟨by rfl, ?_⟩) ?_ ?_
                  rotate_left
                  · intro w'
                    go_simp
                    with_reducible rfl
                  rotate_left
                  · simp only [Act.put, List.setIfInBounds_toArray, List.set_cons_zero, List.set_cons_succ, i64_w, i32_w]
                    rfl
                  refine pure_ (i := 18) (N := some 35) (v := ?_) (a' := ?_) #[true, true, true, true, true, true, true, true, true, true, true, true, true, true, true, true, false, true, true, false, false, false, false, false, false] rfl rfl (any_of HT_.out (by kernel_rfl)) (fun _ _ _ h => h) (Or.inl ⟨by rfl, ?_⟩) ?_ ?_
                  rotate_left
                  · intro w'
                    go_simp
                    with_reducible rfl
                  rotate_left
                  · simp only [Act.put, List.setIfInBounds_toArray, List.set_cons_zero, List.set_cons_succ, i64_w, i32_w]
                    rfl
                  refine pure_ (i := 19) (N := some 36) (v := ?_) (a' := ?_) #[true, true, true, true, true, true, true, true, true, true, true, true, true, true, true, true, false, true, true, true, false, false, false, false, false] rfl rfl (any_of HT_.out (by kernel_rfl)) (fun _ _ _ h => h) (Or.inl ⟨by rfl, ?_⟩) ?_ ?_
                  rotate_left
                  · intro w'
                    go_simp
                    with_reducible rfl
                  rotate_left
                  · simp only [Act.put, List.setIfInBounds_toArray, List.set_cons_zero, List.set_cons_succ, i64_w, i32_w]
                    rfl
                  refine pure_ (i := 20) (N := some 37) (v := ?_) (a' := ?_) #[true, true, true, true, true, true, true, true, true, true, true, true, true, true, true, true, false, true, true, true, true, false, false, false, false] rfl rfl (any_of HT_.out (by kernel_rfl)) (fun _ _ _ h => h) (Or.inl ⟨by rfl, ?_⟩) ?_ ?_
                  rotate_left
                  · intro w'
                    go_simp
                    with_reducible rfl
                  rotate_left
                  · simp only [Act.put, List.setIfInBounds_toArray, List.set_cons_zero, List.set_cons_succ, i64_w, i32_w]
                    rfl
                  refine take_ (i := 16) (N := some 33) (v := ?_) (a' := ?_) #[true, true, true, true, true, true, true, true, true, true, true, true, true, true, true, true, true, true, true, true, true, false, false, false, false] rfl rfl (take_ofW HT_.out HW_.out (by kernel_rfl)) (fun _ _ _ h => h) (Or.inl ⟨by rfl, ?_⟩) hHeld ?_ ?_
                  rotate_left
                  · rintro w' ⟨s0, s1, s2, s3, s4, s5, s6, s7, s8, s9, s10, s11, s12, s13, s14, s15, s16, s17, s18, s19, s20, s21, s22, s23, s24, s25, s26, s27⟩
                    go_simp
                    with_reducible rfl
                  rotate_left
                  · simp only [Act.put, List.setIfInBounds_toArray, List.set_cons_zero, List.set_cons_succ, i64_w, i32_w]
                    rfl
                  refine take_ (i := 21) (N := some 38) (v := ?_) (a' := ?_) #[true, true, true, true, true, true, true, true, true, true, true, true, true, true, true, true, true, true, true, true, true, true, false, false, false] rfl rfl (take_ofW HT_.out HW_.out (by kernel_rfl)) (fun _ _ _ h => h) (Or.inl ⟨by rfl, ?_⟩) hHeld ?_ ?_
                  rotate_left
                  · rintro w' ⟨s0, s1, s2, s3, s4, s5, s6, s7, s8, s9, s10, s11, s12, s13, s14, s15, s16, s17, s18, s19, s20, s21, s22, s23, s24, s25, s26, s27⟩
                    go_simp
                    with_reducible rfl
                  rotate_left
                  · simp only [Act.put, List.setIfInBounds_toArray, List.set_cons_zero, List.set_cons_succ, i64_w, i32_w]
                    rfl
                  refine one_ (i := 22) (N := some 39) #[true, true, true, true, true, true, true, true, true, true, true, true, true, true, true, true, true, true, true, true, true, true, true, false, false] rfl rfl (one_of HT_.out (by kernel_rfl)) (by decide) (fun K hK => ?_)
                  refine goes_ Try.func81 (by kernel_rfl) rfl #[.agg #[.int .i64 ((rd_T74 l0 x5_1).f1.f0.f0), .int .i64 ((rd_T74 l0 x5_1).f1.f0.f1), .int .i64 ((rd_T74 l0 x5_1).f1.f1), .slice A259_5 ((rd_T74 l0 x5_1).f1.f2).length c259_5, .slice A259_6 ((rd_T74 l0 x5_1).f1.f3).length c259_6], .agg #[.int .i64 ((rd_T74 l1 x5_1).f1.f0.f0), .int .i64 ((rd_T74 l1 x5_1).f1.f0.f1), .int .i64 ((rd_T74 l1 x5_1).f1.f1), .slice A260_5 ((rd_T74 l1 x5_1).f1.f2).length c260_5, .slice A260_6 ((rd_T74 l1 x5_1).f1.f3).length c260_6]] (by rfl) rfl rfl (by (try simp only [List.map_toArray, List.map_cons, List.map_nil]); first | done | rfl | (simp only [List.length_drop, List.length_take]; rfl)) ?_
                  with_reducible refine (stanchionref00_SameLetter.calls k1 ((rd_T74 l0 x5_1).f1.f0.f0) ((rd_T74 l0 x5_1).f1.f0.f1) ((rd_T74 l0 x5_1).f1.f1) _ _ ((rd_T74 l0 x5_1).f1.f2) _ _ ((rd_T74 l0 x5_1).f1.f3) ((rd_T74 l1 x5_1).f1.f0.f0) ((rd_T74 l1 x5_1).f1.f0.f1) ((rd_T74 l1 x5_1).f1.f1) _ _ ((rd_T74 l1 x5_1).f1.f2) _ _ ((rd_T74 l1 x5_1).f1.f3) true _ ?side1 ?side2 ?side3 ?side4 ?side5 ?side6 ?side7 ?side8 A9.out).mono ?_
                  (case side1 => repeat (first | exact (Kd.C_below HR261_5.out HB.out) | (with_reducible refine Kd.C_alloc ?_ _) | (with_reducible refine Kd.C_drewN ?_ _) | (with_reducible refine Kd.C_drew ?_)))
                  (case side2 => exact HC261_5.out)
                  (case side3 => repeat (first | exact (Kd.C_below HR261_6.out HB.out) | (with_reducible refine Kd.C_alloc ?_ _) | (with_reducible refine Kd.C_drewN ?_ _) | (with_reducible refine Kd.C_drew ?_)))
                  (case side4 => exact HC261_6.out)
                  (case side5 => repeat (first | exact (Kd.C_below HR262_5.out HB.out) | (with_reducible refine Kd.C_alloc ?_ _) | (with_reducible refine Kd.C_drewN ?_ _) | (with_reducible refine Kd.C_drew ?_)))
                  (case side6 => exact HC262_5.out)
                  (case side7 => repeat (first | exact (Kd.C_below HR262_6.out HB.out) | (with_reducible refine Kd.C_alloc ?_ _) | (with_reducible refine Kd.C_drewN ?_ _) | (with_reducible refine Kd.C_drew ?_)))
                  (case side8 => exact HC262_6.out)
                  rintro e w12 ⟨rfl, hb⟩
                  refine ⟨_, rfl, ?_⟩
                  have n0_ := Aside0.mk (below_step (by repeat (first | (with_reducible first | exact HB.out | apply below_alloc | apply pw_below_drewN | apply below_drew1) | exact HB.out)) hb)
                  clear HB
                  have HB := n0_
                  clear n0_
                  (try clear hb)
                  (try clear hb2)
                  (try clear hk)
                  (try clear hi)
                  refine hK.out _ _ ⟨((HB.out.cell (World.block_lt_of_cell? w _ hw259_0)).trans hw259_0), ((HB.out.cell (World.block_lt_of_cell? w _ hw259_1)).trans hw259_1), ((HB.out.cell (World.block_lt_of_cell? w _ hw259_2)).trans hw259_2), ((HB.out.cell (World.block_lt_of_cell? w _ hw259_3)).trans hw259_3), ((HB.out.cell (World.block_lt_of_cell? w _ hw259_4)).trans hw259_4), ((HB.out.cell (World.block_lt_of_cell? w _ hw259_5)).trans hw259_5), ((HB.out.cell (World.block_lt_of_cell? w _ hw259_6)).trans hw259_6), ((HB.out.cell (World.block_lt_of_cell? w _ hw260_0)).trans hw260_0), ((HB.out.cell (World.block_lt_of_cell? w _ hw260_1)).trans hw260_1), ((HB.out.cell (World.block_lt_of_cell? w _ hw260_2)).trans hw260_2), ((HB.out.cell (World.block_lt_of_cell? w _ hw260_3)).trans hw260_3), ((HB.out.cell (World.block_lt_of_cell? w _ hw260_4)).trans hw260_4), ((HB.out.cell (World.block_lt_of_cell? w _ hw260_5)).trans hw260_5), ((HB.out.cell (World.block_lt_of_cell? w _ hw260_6)).trans hw260_6), ((HB.out.cell (World.block_lt_of_cell? w _ hw261_0)).trans hw261_0), ((HB.out.cell (World.block_lt_of_cell? w _ hw261_1)).trans hw261_1), ((HB.out.cell (World.block_lt_of_cell? w _ hw261_2)).trans hw261_2), ((HB.out.cell (World.block_lt_of_cell? w _ hw261_3)).trans hw261_3), ((HB.out.cell (World.block_lt_of_cell? w _ hw261_4)).trans hw261_4), ((HB.out.cell (World.block_lt_of_cell? w _ hw261_5)).trans hw261_5), ((HB.out.cell (World.block_lt_of_cell? w _ hw261_6)).trans hw261_6), ((HB.out.cell (World.block_lt_of_cell? w _ hw262_0)).trans hw262_0), ((HB.out.cell (World.block_lt_of_cell? w _ hw262_1)).trans hw262_1), ((HB.out.cell (World.block_lt_of_cell? w _ hw262_2)).trans hw262_2), ((HB.out.cell (World.block_lt_of_cell? w _ hw262_3)).trans hw262_3), ((HB.out.cell (World.block_lt_of_cell? w _ hw262_4)).trans hw262_4), ((HB.out.cell (World.block_lt_of_cell? w _ hw262_5)).trans hw262_5), ((HB.out.cell (World.block_lt_of_cell? w _ hw262_6)).trans hw262_6)⟩ (fun hHeld => ?_)
                  clear hK K
                  refine norm_ (a' := ?_) ?_ ?_
                  rotate_left
                  · show Act.put _ (some 39) _ = _
                    simp only [Act.put, List.setIfInBounds_toArray, List.set_cons_zero, List.set_cons_succ, i64_w, i32_w]
                    rfl
                  refine pure_ (i := 23) (N := some 40) (v := ?_) (a' := ?_) #[true, true, true, true, true, true, true, true, true, true, true, true, true, true, true, true, true, true, true, true, true, true, true, true, false] rfl rfl (any_of HT_.out (by kernel_rfl)) (fun _ _ _ h => h) (Or.inl ⟨by rfl, ?_⟩) ?_ ?_
                  rotate_left
                  · intro w'
                    go_simp
                    with_reducible rfl
                  rotate_left
                  · simp only [Act.put, List.setIfInBounds_toArray, List.set_cons_zero, List.set_cons_succ, i64_w, i32_w]
                    rfl
                  refine pure_ (i := 24) (N := some 41) (v := ?_) (a' := ?_) #[true, true, true, true, true, true, true, true, true, true, true, true, true, true, true, true, true, true, true, true, true, true, true, true, true] rfl rfl (any_of HT_.out (by kernel_rfl)) (fun _ _ _ h => h) (Or.inl ⟨by rfl, ?_⟩) ?_ ?_
                  rotate_left
                  · intro w'
                    go_simp
                    with_reducible rfl
                  rotate_left
                  · simp only [Act.put, List.setIfInBounds_toArray, List.set_cons_zero, List.set_cons_succ, i64_w, i32_w]
                    rfl
                  refine done_ (done_of HT_.out (by kernel_rfl)) ?_
                  try go_wp2
                  go_roundg k1
                  case measure => have := HK1.out; omega
                  case rel => exact ⟨(wrap64 (x5_1 + 1)), (by first | rfl | (simp; done) | (simp [*]; done)), H', ⟨by have := HK1.out; omega⟩, ⟨by repeat (first | (with_reducible first | exact HB.out | apply below_alloc | apply pw_below_drewN | apply below_drew1) | exact HB.out)⟩⟩
                · replace c10 := Bool.eq_false_iff.mpr c10
                  subst c10
                  have H1 : (some false) = some r := by rw [if_neg (show ¬ (false = true) by decide)] at H; exact H
                  clear H
                  have H := H1
                  clear H1
                  obtain rfl := Option.some.inj H
                  try go_wp2
                  have n0_ := Aside0.mk (below_drew1 HB.out)
                  clear HB
                  have HB := n0_
                  clear n0_
                  have p259 : 0 ≤ (x5_1 : Int) := of_decide_eq_true (by first | (with_reducible assumption) | assumption)
                  have q259 : x5_1 < (l0.length : Int) := of_decide_eq_true (by first | (with_reducible assumption) | assumption)
                  obtain ⟨ad259, A259_5, c259_5, A259_6, c259_6, e259, hx259_0, hx259_1, hx259_2, hx259_3, hx259_4, hx259_5, hx259_6, hl259_5, hi259_5, hl259_6, hi259_6⟩ := at_T74 HR0.out x5_1 p259 q259
                  have hw259_6 := hx259_6
                  have hw259_5 := hx259_5
                  have hw259_4 := hx259_4
                  have hw259_3 := hx259_3
                  have hw259_2 := hx259_2
                  have hw259_1 := hx259_1
                  have hw259_0 := hx259_0
                  cases e259
                  replace hx259_0 := (HB.out.cell (World.block_lt_of_cell? w _ hx259_0)).trans hx259_0
                  replace hx259_1 := (HB.out.cell (World.block_lt_of_cell? w _ hx259_1)).trans hx259_1
                  replace hx259_2 := (HB.out.cell (World.block_lt_of_cell? w _ hx259_2)).trans hx259_2
                  replace hx259_3 := (HB.out.cell (World.block_lt_of_cell? w _ hx259_3)).trans hx259_3
                  replace hx259_4 := (HB.out.cell (World.block_lt_of_cell? w _ hx259_4)).trans hx259_4
                  replace hx259_5 := (HB.out.cell (World.block_lt_of_cell? w _ hx259_5)).trans hx259_5
                  replace hx259_6 := (HB.out.cell (World.block_lt_of_cell? w _ hx259_6)).trans hx259_6
                  have HR259_5 := Aside0.mk hi259_5
                  have HC259_5 := Aside0.mk hl259_5
                  clear hi259_5 hl259_5
                  have HR259_6 := Aside0.mk hi259_6
                  have HC259_6 := Aside0.mk hl259_6
                  clear hi259_6 hl259_6
                  replace p259 := eq_true p259
                  replace q259 := eq_true q259
                  have p260 : 0 ≤ (x5_1 : Int) := of_decide_eq_true (by first | (with_reducible assumption) | assumption)
                  have q260 : x5_1 < (l1.length : Int) := of_decide_eq_true (by first | (with_reducible assumption) | assumption)
                  obtain ⟨ad260, A260_5, c260_5, A260_6, c260_6, e260, hx260_0, hx260_1, hx260_2, hx260_3, hx260_4, hx260_5, hx260_6, hl260_5, hi260_5, hl260_6, hi260_6⟩ := at_T74 HR1.out x5_1 p260 q260
                  have hw260_6 := hx260_6
                  have hw260_5 := hx260_5
                  have hw260_4 := hx260_4
                  have hw260_3 := hx260_3
                  have hw260_2 := hx260_2
                  have hw260_1 := hx260_1
                  have hw260_0 := hx260_0
                  cases e260
                  replace hx260_0 := (HB.out.cell (World.block_lt_of_cell? w _ hx260_0)).trans hx260_0
                  replace hx260_1 := (HB.out.cell (World.block_lt_of_cell? w _ hx260_1)).trans hx260_1
                  replace hx260_2 := (HB.out.cell (World.block_lt_of_cell? w _ hx260_2)).trans hx260_2
                  replace hx260_3 := (HB.out.cell (World.block_lt_of_cell? w _ hx260_3)).trans hx260_3
                  replace hx260_4 := (HB.out.cell (World.block_lt_of_cell? w _ hx260_4)).trans hx260_4
                  replace hx260_5 := (HB.out.cell (World.block_lt_of_cell? w _ hx260_5)).trans hx260_5
                  replace hx260_6 := (HB.out.cell (World.block_lt_of_cell? w _ hx260_6)).trans hx260_6
                  have HR260_5 := Aside0.mk hi260_5
                  have HC260_5 := Aside0.mk hl260_5
                  clear hi260_5 hl260_5
                  have HR260_6 := Aside0.mk hi260_6
                  have HC260_6 := Aside0.mk hl260_6
                  clear hi260_6 hl260_6
                  replace p260 := eq_true p260
                  replace q260 := eq_true q260
                  have p261 : 0 ≤ (x5_1 : Int) := of_decide_eq_true (by first | (with_reducible assumption) | assumption)
                  have q261 : x5_1 < (l0.length : Int) := of_decide_eq_true (by first | (with_reducible assumption) | assumption)
                  obtain ⟨ad261, A261_5, c261_5, A261_6, c261_6, e261, hx261_0, hx261_1, hx261_2, hx261_3, hx261_4, hx261_5, hx261_6, hl261_5, hi261_5, hl261_6, hi261_6⟩ := at_T74 HR0.out x5_1 p261 q261
                  have hw261_6 := hx261_6
                  have hw261_5 := hx261_5
                  have hw261_4 := hx261_4
                  have hw261_3 := hx261_3
                  have hw261_2 := hx261_2
                  have hw261_1 := hx261_1
                  have hw261_0 := hx261_0
                  obtain rfl : ad259 = ad261 := (by injection e261)
                  replace hx261_0 := (HB.out.cell (World.block_lt_of_cell? w _ hx261_0)).trans hx261_0
                  replace hx261_1 := (HB.out.cell (World.block_lt_of_cell? w _ hx261_1)).trans hx261_1
                  replace hx261_2 := (HB.out.cell (World.block_lt_of_cell? w _ hx261_2)).trans hx261_2
                  replace hx261_3 := (HB.out.cell (World.block_lt_of_cell? w _ hx261_3)).trans hx261_3
                  replace hx261_4 := (HB.out.cell (World.block_lt_of_cell? w _ hx261_4)).trans hx261_4
                  replace hx261_5 := (HB.out.cell (World.block_lt_of_cell? w _ hx261_5)).trans hx261_5
                  replace hx261_6 := (HB.out.cell (World.block_lt_of_cell? w _ hx261_6)).trans hx261_6
                  have HR261_5 := Aside0.mk hi261_5
                  have HC261_5 := Aside0.mk hl261_5
                  clear hi261_5 hl261_5
                  have HR261_6 := Aside0.mk hi261_6
                  have HC261_6 := Aside0.mk hl261_6
                  clear hi261_6 hl261_6
                  replace p261 := eq_true p261
                  replace q261 := eq_true q261
                  have ea_ := Option.some.inj (hx259_5.symm.trans hx261_5)
                  injection ea_ with ea_ en_ ec_
                  subst ea_
                  subst ec_
                  clear en_
                  have ea_ := Option.some.inj (hx259_6.symm.trans hx261_6)
                  injection ea_ with ea_ en_ ec_
                  subst ea_
                  subst ec_
                  clear en_
                  have p262 : 0 ≤ (x5_1 : Int) := of_decide_eq_true (by first | (with_reducible assumption) | assumption)
                  have q262 : x5_1 < (l1.length : Int) := of_decide_eq_true (by first | (with_reducible assumption) | assumption)
                  obtain ⟨ad262, A262_5, c262_5, A262_6, c262_6, e262, hx262_0, hx262_1, hx262_2, hx262_3, hx262_4, hx262_5, hx262_6, hl262_5, hi262_5, hl262_6, hi262_6⟩ := at_T74 HR1.out x5_1 p262 q262
                  have hw262_6 := hx262_6
                  have hw262_5 := hx262_5
                  have hw262_4 := hx262_4
                  have hw262_3 := hx262_3
                  have hw262_2 := hx262_2
                  have hw262_1 := hx262_1
                  have hw262_0 := hx262_0
                  obtain rfl : ad260 = ad262 := (by injection e262)
                  replace hx262_0 := (HB.out.cell (World.block_lt_of_cell? w _ hx262_0)).trans hx262_0
                  replace hx262_1 := (HB.out.cell (World.block_lt_of_cell? w _ hx262_1)).trans hx262_1
                  replace hx262_2 := (HB.out.cell (World.block_lt_of_cell? w _ hx262_2)).trans hx262_2
                  replace hx262_3 := (HB.out.cell (World.block_lt_of_cell? w _ hx262_3)).trans hx262_3
                  replace hx262_4 := (HB.out.cell (World.block_lt_of_cell? w _ hx262_4)).trans hx262_4
                  replace hx262_5 := (HB.out.cell (World.block_lt_of_cell? w _ hx262_5)).trans hx262_5
                  replace hx262_6 := (HB.out.cell (World.block_lt_of_cell? w _ hx262_6)).trans hx262_6
                  have HR262_5 := Aside0.mk hi262_5
                  have HC262_5 := Aside0.mk hl262_5
                  clear hi262_5 hl262_5
                  have HR262_6 := Aside0.mk hi262_6
                  have HC262_6 := Aside0.mk hl262_6
                  clear hi262_6 hl262_6
                  replace p262 := eq_true p262
                  replace q262 := eq_true q262
                  have ea_ := Option.some.inj (hx260_5.symm.trans hx262_5)
                  injection ea_ with ea_ en_ ec_
                  subst ea_
                  subst ec_
                  clear en_
                  have ea_ := Option.some.inj (hx260_6.symm.trans hx262_6)
                  injection ea_ with ea_ en_ ec_
                  subst ea_
                  subst ec_
                  clear en_
                  refine start_ (n := 25) (S := fun w' => w'.cell? (ad259.add ((x5_1).toNat * 7)) = some (.int .i64 ((rd_T74 l0 x5_1).f0.f0)) ∧ w'.cell? ⟨(ad259.add ((x5_1).toNat * 7)).block, (ad259.add ((x5_1).toNat * 7)).off + 1, none⟩ = some (.int .i64 ((rd_T74 l0 x5_1).f0.f1)) ∧ w'.cell? ⟨(ad259.add ((x5_1).toNat * 7)).block, (ad259.add ((x5_1).toNat * 7)).off + 2, none⟩ = some (.int .i64 ((rd_T74 l0 x5_1).f1.f0.f0)) ∧ w'.cell? ⟨(ad259.add ((x5_1).toNat * 7)).block, (ad259.add ((x5_1).toNat * 7)).off + 3, none⟩ = some (.int .i64 ((rd_T74 l0 x5_1).f1.f0.f1)) ∧ w'.cell? ⟨(ad259.add ((x5_1).toNat * 7)).block, (ad259.add ((x5_1).toNat * 7)).off + 4, none⟩ = some (.int .i64 ((rd_T74 l0 x5_1).f1.f1)) ∧ w'.cell? ⟨(ad259.add ((x5_1).toNat * 7)).block, (ad259.add ((x5_1).toNat * 7)).off + 5, none⟩ = some (.slice A259_5 ((rd_T74 l0 x5_1).f1.f2).length c259_5) ∧ w'.cell? ⟨(ad259.add ((x5_1).toNat * 7)).block, (ad259.add ((x5_1).toNat * 7)).off + 6, none⟩ = some (.slice A259_6 ((rd_T74 l0 x5_1).f1.f3).length c259_6) ∧ w'.cell? (ad260.add ((x5_1).toNat * 7)) = some (.int .i64 ((rd_T74 l1 x5_1).f0.f0)) ∧ w'.cell? ⟨(ad260.add ((x5_1).toNat * 7)).block, (ad260.add ((x5_1).toNat * 7)).off + 1, none⟩ = some (.int .i64 ((rd_T74 l1 x5_1).f0.f1)) ∧ w'.cell? ⟨(ad260.add ((x5_1).toNat * 7)).block, (ad260.add ((x5_1).toNat * 7)).off + 2, none⟩ = some (.int .i64 ((rd_T74 l1 x5_1).f1.f0.f0)) ∧ w'.cell? ⟨(ad260.add ((x5_1).toNat * 7)).block, (ad260.add ((x5_1).toNat * 7)).off + 3, none⟩ = some (.int .i64 ((rd_T74 l1 x5_1).f1.f0.f1)) ∧ w'.cell? ⟨(ad260.add ((x5_1).toNat * 7)).block, (ad260.add ((x5_1).toNat * 7)).off + 4, none⟩ = some (.int .i64 ((rd_T74 l1 x5_1).f1.f1)) ∧ w'.cell? ⟨(ad260.add ((x5_1).toNat * 7)).block, (ad260.add ((x5_1).toNat * 7)).off + 5, none⟩ = some (.slice A260_5 ((rd_T74 l1 x5_1).f1.f2).length c260_5) ∧ w'.cell? ⟨(ad260.add ((x5_1).toNat * 7)).block, (ad260.add ((x5_1).toNat * 7)).off + 6, none⟩ = some (.slice A260_6 ((rd_T74 l1 x5_1).f1.f3).length c260_6) ∧ w'.cell? (ad259.add ((x5_1).toNat * 7)) = some (.int .i64 ((rd_T74 l0 x5_1).f0.f0)) ∧ w'.cell? ⟨(ad259.add ((x5_1).toNat * 7)).block, (ad259.add ((x5_1).toNat * 7)).off + 1, none⟩ = some (.int .i64 ((rd_T74 l0 x5_1).f0.f1)) ∧ w'.cell? ⟨(ad259.add ((x5_1).toNat * 7)).block, (ad259.add ((x5_1).toNat * 7)).off + 2, none⟩ = some (.int .i64 ((rd_T74 l0 x5_1).f1.f0.f0)) ∧ w'.cell? ⟨(ad259.add ((x5_1).toNat * 7)).block, (ad259.add ((x5_1).toNat * 7)).off + 3, none⟩ = some (.int .i64 ((rd_T74 l0 x5_1).f1.f0.f1)) ∧ w'.cell? ⟨(ad259.add ((x5_1).toNat * 7)).block, (ad259.add ((x5_1).toNat * 7)).off + 4, none⟩ = some (.int .i64 ((rd_T74 l0 x5_1).f1.f1)) ∧ w'.cell? ⟨(ad259.add ((x5_1).toNat * 7)).block, (ad259.add ((x5_1).toNat * 7)).off + 5, none⟩ = some (.slice A259_5 ((rd_T74 l0 x5_1).f1.f2).length c259_5) ∧ w'.cell? ⟨(ad259.add ((x5_1).toNat * 7)).block, (ad259.add ((x5_1).toNat * 7)).off + 6, none⟩ = some (.slice A259_6 ((rd_T74 l0 x5_1).f1.f3).length c259_6) ∧ w'.cell? (ad260.add ((x5_1).toNat * 7)) = some (.int .i64 ((rd_T74 l1 x5_1).f0.f0)) ∧ w'.cell? ⟨(ad260.add ((x5_1).toNat * 7)).block, (ad260.add ((x5_1).toNat * 7)).off + 1, none⟩ = some (.int .i64 ((rd_T74 l1 x5_1).f0.f1)) ∧ w'.cell? ⟨(ad260.add ((x5_1).toNat * 7)).block, (ad260.add ((x5_1).toNat * 7)).off + 2, none⟩ = some (.int .i64 ((rd_T74 l1 x5_1).f1.f0.f0)) ∧ w'.cell? ⟨(ad260.add ((x5_1).toNat * 7)).block, (ad260.add ((x5_1).toNat * 7)).off + 3, none⟩ = some (.int .i64 ((rd_T74 l1 x5_1).f1.f0.f1)) ∧ w'.cell? ⟨(ad260.add ((x5_1).toNat * 7)).block, (ad260.add ((x5_1).toNat * 7)).off + 4, none⟩ = some (.int .i64 ((rd_T74 l1 x5_1).f1.f1)) ∧ w'.cell? ⟨(ad260.add ((x5_1).toNat * 7)).block, (ad260.add ((x5_1).toNat * 7)).off + 5, none⟩ = some (.slice A260_5 ((rd_T74 l1 x5_1).f1.f2).length c260_5) ∧ w'.cell? ⟨(ad260.add ((x5_1).toNat * 7)).block, (ad260.add ((x5_1).toNat * 7)).off + 6, none⟩ = some (.slice A260_6 ((rd_T74 l1 x5_1).f1.f3).length c260_6)) (ds := []) #[false, false, false, false, false, false, false, false, false, false, false, false, false, false, false, false, false, false, false, false, false, false, false, false, false] (by kernel_rfl) rfl rfl ⟨((HB.out.cell (World.block_lt_of_cell? w _ hw259_0)).trans hw259_0), ((HB.out.cell (World.block_lt_of_cell? w _ hw259_1)).trans hw259_1), ((HB.out.cell (World.block_lt_of_cell? w _ hw259_2)).trans hw259_2), ((HB.out.cell (World.block_lt_of_cell? w _ hw259_3)).trans hw259_3), ((HB.out.cell (World.block_lt_of_cell? w _ hw259_4)).trans hw259_4), ((HB.out.cell (World.block_lt_of_cell? w _ hw259_5)).trans hw259_5), ((HB.out.cell (World.block_lt_of_cell? w _ hw259_6)).trans hw259_6), ((HB.out.cell (World.block_lt_of_cell? w _ hw260_0)).trans hw260_0), ((HB.out.cell (World.block_lt_of_cell? w _ hw260_1)).trans hw260_1), ((HB.out.cell (World.block_lt_of_cell? w _ hw260_2)).trans hw260_2), ((HB.out.cell (World.block_lt_of_cell? w _ hw260_3)).trans hw260_3), ((HB.out.cell (World.block_lt_of_cell? w _ hw260_4)).trans hw260_4), ((HB.out.cell (World.block_lt_of_cell? w _ hw260_5)).trans hw260_5), ((HB.out.cell (World.block_lt_of_cell? w _ hw260_6)).trans hw260_6), ((HB.out.cell (World.block_lt_of_cell? w _ hw261_0)).trans hw261_0), ((HB.out.cell (World.block_lt_of_cell? w _ hw261_1)).trans hw261_1), ((HB.out.cell (World.block_lt_of_cell? w _ hw261_2)).trans hw261_2), ((HB.out.cell (World.block_lt_of_cell? w _ hw261_3)).trans hw261_3), ((HB.out.cell (World.block_lt_of_cell? w _ hw261_4)).trans hw261_4), ((HB.out.cell (World.block_lt_of_cell? w _ hw261_5)).trans hw261_5), ((HB.out.cell (World.block_lt_of_cell? w _ hw261_6)).trans hw261_6), ((HB.out.cell (World.block_lt_of_cell? w _ hw262_0)).trans hw262_0), ((HB.out.cell (World.block_lt_of_cell? w _ hw262_1)).trans hw262_1), ((HB.out.cell (World.block_lt_of_cell? w _ hw262_2)).trans hw262_2), ((HB.out.cell (World.block_lt_of_cell? w _ hw262_3)).trans hw262_3), ((HB.out.cell (World.block_lt_of_cell? w _ hw262_4)).trans hw262_4), ((HB.out.cell (World.block_lt_of_cell? w _ hw262_5)).trans hw262_5), ((HB.out.cell (World.block_lt_of_cell? w _ hw262_6)).trans hw262_6)⟩ (fun hHeld => ?_); refine with_tabW stanchionref00_SameMails.tab6 stanchionref00_SameMails.bits6 (fun HT_ HW_ => ?_)
                  generalize wr.drew = w13 at HB HR259_5 HR259_6 HR260_5 HR260_6 HR261_5 HR261_6 HR262_5 HR262_6 hx259_0 hx259_1 hx259_2 hx259_3 hx259_4 hx259_5 hx259_6 hx260_0 hx260_1 hx260_2 hx260_3 hx260_4 hx260_5 hx260_6 hx261_0 hx261_1 hx261_2 hx261_3 hx261_4 hx261_5 hx261_6 hx262_0 hx262_1 hx262_2 hx262_3 hx262_4 hx262_5 hx262_6 hHeld ⊢
                  refine pure_ (i := 0) (N := some 17) (v := ?_) (a' := ?_) #[true, false, false, false, false, false, false, false, false, false, false, false, false, false, false, false, false, false, false, false, false, false, false, false, false] rfl rfl (any_of HT_.out (by kernel_rfl)) (fun _ _ _ h => h) (Or.inl ⟨by rfl, ?_⟩) ?_ ?_
                  rotate_left
                  · intro w'
                    go_simp
                    with_reducible rfl
                  rotate_left
                  · simp only [Act.put, List.setIfInBounds_toArray, List.set_cons_zero, List.set_cons_succ, i64_w, i32_w]
                    rfl
                  refine pure_ (i := 1) (N := some 18) (v := ?_) (a' := ?_) #[true, true, false, false, false, false, false, false, false, false, false, false, false, false, false, false, false, false, false, false, false, false, false, false, false] rfl rfl (any_of HT_.out (by kernel_rfl)) (fun _ _ _ h => h) (Or.inl ⟨by rfl, ?_⟩) ?_ ?_
                  rotate_left
                  · intro w'
                    go_simp
                    with_reducible rfl
                  rotate_left
                  · simp only [Act.put, List.setIfInBounds_toArray, List.set_cons_zero, List.set_cons_succ, i64_w, i32_w]
                    rfl
                  refine pure_ (i := 2) (N := some 19) (v := ?_) (a' := ?_) #[true, true, true, false, false, false, false, false, false, false, false, false, false, false, false, false, false, false, false, false, false, false, false, false, false] rfl rfl (any_of HT_.out (by kernel_rfl)) (fun _ _ _ h => h) (Or.inl ⟨by rfl, ?_⟩) ?_ ?_
                  rotate_left
                  · intro w'
                    go_simp
                    with_reducible rfl
                  rotate_left
                  · simp only [Act.put, List.setIfInBounds_toArray, List.set_cons_zero, List.set_cons_succ, i64_w, i32_w]
                    rfl
                  refine pure_ (i := 3) (N := some 20) (v := ?_) (a' := ?_) #[true, true, true, true, false, false, false, false, false, false, false, false, false, false, false, false, false, false, false, false, false, false, false, false, false] rfl rfl (any_of HT_.out (by kernel_rfl)) (fun _ _ _ h => h) (Or.inl ⟨by rfl, ?_⟩) ?_ ?_
                  rotate_left
                  · intro w'
                    go_simp
                    with_reducible rfl
                  rotate_left
                  · simp only [Act.put, List.setIfInBounds_toArray, List.set_cons_zero, List.set_cons_succ, i64_w, i32_w]
                    rfl
                  refine pure_ (i := 5) (N := some 22) (v := ?_) (a' := ?_) #[true, true, true, true, false, true, false, false, false, false, false, false, false, false, false, false, false, false, false, false, false, false, false, false, false] rfl rfl (any_of HT_.out (by kernel_rfl)) (fun _ _ _ h => h) (Or.inl ⟨by rfl, ?_⟩) ?_ ?_
                  rotate_left
                  · intro w'
                    go_simp
                    with_reducible rfl
                  rotate_left
                  · simp only [Act.put, List.setIfInBounds_toArray, List.set_cons_zero, List.set_cons_succ, i64_w, i32_w]
                    rfl
                  refine pure_ (i := 6) (N := some 23) (v := ?_) (a' := ?_) #[true, true, true, true, false, true, true, false, false, false, false, false, false, false, false, false, false, false, false, false, false, false, false, false, false] rfl rfl (any_of HT_.out (by kernel_rfl)) (fun _ _ _ h => h) (Or.inl ⟨by rfl, ?_⟩) ?_ ?_
                  rotate_left
                  · intro w'
                    go_simp
                    with_reducible rfl
                  rotate_left
                  · simp only [Act.put, List.setIfInBounds_toArray, List.set_cons_zero, List.set_cons_succ, i64_w, i32_w]
                    rfl
                  refine pure_ (i := 7) (N := some 24) (v := ?_) (a' := ?_) #[true, true, true, true, false, true, true, true, false, false, false, false, false, false, false, false, false, false, false, false, false, false, false, false, false] rfl rfl (any_of HT_.out (by kernel_rfl)) (fun _ _ _ h => h) (Or.inl ⟨by rfl, ?_⟩) ?_ ?_
                  rotate_left
                  · intro w'
                    go_simp
                    with_reducible rfl
                  rotate_left
                  · simp only [Act.put, List.setIfInBounds_toArray, List.set_cons_zero, List.set_cons_succ, i64_w, i32_w]
                    rfl
                  refine pure_ (i := 8) (N := some 25) (v := ?_) (a' := ?_) #[true, true, true, true, false, true, true, true, true, false, false, false, false, false, false, false, false, false, false, false, false, false, false, false, false] rfl rfl (any_of HT_.out (by kernel_rfl)) (fun _ _ _ h => h) (Or.inl ⟨by rfl, ?_⟩) ?_ ?_
                  rotate_left
                  · intro w'
                    go_simp
                    with_reducible rfl
                  rotate_left
                  · simp only [Act.put, List.setIfInBounds_toArray, List.set_cons_zero, List.set_cons_succ, i64_w, i32_w]
                    rfl
                  refine take_ (i := 4) (N := some 21) (v := ?_) (a' := ?_) #[true, true, true, true, true, true, true, true, true, false, false, false, false, false, false, false, false, false, false, false, false, false, false, false, false] rfl rfl (take_ofW HT_.out HW_.out (by kernel_rfl)) (fun _ _ _ h => h) (Or.inl ⟨by rfl, ?_⟩) hHeld ?_ ?_
                  rotate_left
                  · rintro w' ⟨s0, s1, s2, s3, s4, s5, s6, s7, s8, s9, s10, s11, s12, s13, s14, s15, s16, s17, s18, s19, s20, s21, s22, s23, s24, s25, s26, s27⟩
                    go_simp
                    with_reducible rfl
                  rotate_left
                  · simp only [Act.put, List.setIfInBounds_toArray, List.set_cons_zero, List.set_cons_succ, i64_w, i32_w]
                    rfl
                  refine take_ (i := 9) (N := some 26) (v := ?_) (a' := ?_) #[true, true, true, true, true, true, true, true, true, true, false, false, false, false, false, false, false, false, false, false, false, false, false, false, false] rfl rfl (take_ofW HT_.out HW_.out (by kernel_rfl)) (fun _ _ _ h => h) (Or.inl ⟨by rfl, ?_⟩) hHeld ?_ ?_
                  rotate_left
                  · rintro w' ⟨s0, s1, s2, s3, s4, s5, s6, s7, s8, s9, s10, s11, s12, s13, s14, s15, s16, s17, s18, s19, s20, s21, s22, s23, s24, s25, s26, s27⟩
                    go_simp
                    with_reducible rfl
                  rotate_left
                  · simp only [Act.put, List.setIfInBounds_toArray, List.set_cons_zero, List.set_cons_succ, i64_w, i32_w]
                    rfl
                  refine pure_ (i := 10) (N := some 27) (v := ?_) (a' := ?_) #[true, true, true, true, true, true, true, true, true, true, true, false, false, false, false, false, false, false, false, false, false, false, false, false, false] rfl rfl (any_of HT_.out (by kernel_rfl)) (fun _ _ _ h => h) (Or.inl ⟨by rfl, ?_⟩) ?_ ?_
                  rotate_left
                  · intro w'
                    go_simp
                    with_reducible rfl
                  rotate_left
                  · simp only [Act.put, List.setIfInBounds_toArray, List.set_cons_zero, List.set_cons_succ, i64_w, i32_w]
                    rfl
                  refine pure_ (i := 11) (N := some 28) (v := ?_) (a' := ?_) #[true, true, true, true, true, true, true, true, true, true, true, true, false, false, false, false, false, false, false, false, false, false, false, false, false] rfl rfl (any_of HT_.out (by kernel_rfl)) (fun _ _ _ h => h) (Or.inl ⟨by rfl, ?_⟩) ?_ ?_
                  rotate_left
                  · intro w'
                    go_simp
                    with_reducible rfl
                  rotate_left
                  · simp only [Act.put, List.setIfInBounds_toArray, List.set_cons_zero, List.set_cons_succ, i64_w, i32_w]
                    rfl
                  refine pure_ (i := 12) (N := some 29) (v := ?_) (a' := ?_) #[true, true, true, true, true, true, true, true, true, true, true, true, true, false, false, false, false, false, false, false, false, false, false, false, false] rfl rfl (any_of HT_.out (by kernel_rfl)) (fun _ _ _ h => h) (Or.inl ⟨by rfl, ?_⟩) ?_ ?_
                  rotate_left
                  · intro w'
                    go_simp
                    with_reducible rfl
                  rotate_left
                  · simp only [Act.put, List.setIfInBounds_toArray, List.set_cons_zero, List.set_cons_succ, i64_w, i32_w]
                    rfl
                  refine pure_ (i := 13) (N := some 30) (v := ?_) (a' := ?_) #[true, true, true, true, true, true, true, true, true, true, true, true, true, true, false, false, false, false, false, false, false, false, false, false, false] rfl rfl (any_of HT_.out (by kernel_rfl)) (fun _ _ _ h => h) (Or.inl ⟨by rfl, ?_⟩) ?_ ?_
                  rotate_left
                  · intro w'
                    go_simp
                    with_reducible rfl
                  rotate_left
                  · simp only [Act.put, List.setIfInBounds_toArray, List.set_cons_zero, List.set_cons_succ, i64_w, i32_w]
                    rfl
                  refine pure_ (i := 14) (N := some 31) (v := ?_) (a' := ?_) #[true, true, true, true, true, true, true, true, true, true, true, true, true, true, true, false, false, false, false, false, false, false, false, false, false] rfl rfl (any_of HT_.out (by kernel_rfl)) (fun _ _ _ h => h) (Or.inl ⟨by rfl, ?_⟩) ?_ ?_
                  rotate_left
                  · intro w'
                    go_simp
                    with_reducible rfl
                  rotate_left
                  · simp only [Act.put, List.setIfInBounds_toArray, List.set_cons_zero, List.set_cons_succ, i64_w, i32_w]
                    rfl
                  refine pure_ (i := 15) (N := some 32) (v := ?_) (a' := ?_) #[true, true, true, true, true, true, true, true, true, true, true, true, true, true, true, true, false, false, false, false, false, false, false, false, false] rfl rfl (any_of HT_.out (by kernel_rfl)) (fun _ _ _ h => h) (Or.inl ⟨by rfl, ?_⟩) ?_ ?_
                  rotate_left
                  · intro w'
                    go_simp
                    with_reducible rfl
                  rotate_left
                  · simp only [Act.put, List.setIfInBounds_toArray, List.set_cons_zero, List.set_cons_succ, i64_w, i32_w]
                    rfl
                  refine pure_ (i := 17) (N := some 34) (v := ?_) (a' := ?_) #[true, true, true, true, true, true, true, true, true, true, true, true, true, true, true, true, false, true, false, false, false, false, false, false, false] rfl rfl (any_of HT_.out (by kernel_rfl)) (fun _ _ _ h => h) (Or.inl ⟨by rfl, ?_⟩) ?_ ?_
                  rotate_left
                  · intro w'
                    go_simp
                    with_reducible rfl
                  rotate_left
                  · simp only [Act.put, List.setIfInBounds_toArray, List.set_cons_zero, List.set_cons_succ, i64_w, i32_w]
                    rfl
                  refine pure_ (i := 18) (N := some 35) (v := ?_) (a' := ?_) #[true, true, true, true, true, true, true, true, true, true, true, true, true, true, true, true, false, true, true, false, false, false, false, false, false] rfl rfl (any_of HT_.out (by kernel_rfl)) (fun _ _ _ h => h) (Or.inl ⟨by rfl, ?_⟩) ?_ ?_
                  rotate_left
                  · intro w'
                    go_simp
                    with_reducible rfl
                  rotate_left
                  · simp only [Act.put, List.setIfInBounds_toArray, List.set_cons_zero, List.set_cons_succ, i64_w, i32_w]
                    rfl
                  refine pure_ (i := 19) (N := some 36) (v := ?_) (a' := ?_) #[true, true, true, true, true, true, true, true, true, true, true, true, true, true, true, true, false, true, true, true, false, false, false, false, false] rfl rfl (any_of HT_.out (by kernel_rfl)) (fun _ _ _ h => h) (Or.inl ⟨by rfl, ?_⟩) ?_ ?_
                  rotate_left
                  · intro w'
                    go_simp
                    with_reducible rfl
                  rotate_left
                  · simp only [Act.put, List.setIfInBounds_toArray, List.set_cons_zero, List.set_cons_succ, i64_w, i32_w]
                    rfl
                  refine pure_ (i := 20) (N := some 37) (v := ?_) (a' := ?_) #[true, true, true, true, true, true, true, true, true, true, true, true, true, true, true, true, false, true, true, true, true, false, false, false, false] rfl rfl (any_of HT_.out (by kernel_rfl)) (fun _ _ _ h => h) (Or.inl ⟨by rfl, ?_⟩) ?_ ?_
                  rotate_left
                  · intro w'
                    go_simp
                    with_reducible rfl
                  rotate_left
                  · simp only [Act.put, List.setIfInBounds_toArray, List.set_cons_zero, List.set_cons_succ, i64_w, i32_w]
                    rfl
                  refine take_ (i := 16) (N := some 33) (v := ?_) (a' := ?_) #[true, true, true, true, true, true, true, true, true, true, true, true, true, true, true, true, true, true, true, true, true, false, false, false, false] rfl rfl (take_ofW HT_.out HW_.out (by kernel_rfl)) (fun _ _ _ h => h) (Or.inl ⟨by rfl, ?_⟩) hHeld ?_ ?_
                  rotate_left
                  · rintro w' ⟨s0, s1, s2, s3, s4, s5, s6, s7, s8, s9, s10, s11, s12, s13, s14, s15, s16, s17, s18, s19, s20, s21, s22, s23, s24, s25, s26, s27⟩
                    go_simp
                    with_reducible rfl
                  rotate_left
                  · simp only [Act.put, List.setIfInBounds_toArray, List.set_cons_zero, List.set_cons_succ, i64_w, i32_w]
                    rfl
                  refine take_ (i := 21) (N := some 38) (v := ?_) (a' := ?_) #[true, true, true, true, true, true, true, true, true, true, true, true, true, true, true, true, true, true, true, true, true, true, false, false, false] rfl rfl (take_ofW HT_.out HW_.out (by kernel_rfl)) (fun _ _ _ h => h) (Or.inl ⟨by rfl, ?_⟩) hHeld ?_ ?_
                  rotate_left
                  · rintro w' ⟨s0, s1, s2, s3, s4, s5, s6, s7, s8, s9, s10, s11, s12, s13, s14, s15, s16, s17, s18, s19, s20, s21, s22, s23, s24, s25, s26, s27⟩
                    go_simp
                    with_reducible rfl
                  rotate_left
                  · simp only [Act.put, List.setIfInBounds_toArray, List.set_cons_zero, List.set_cons_succ, i64_w, i32_w]
                    rfl
                  refine one_ (i := 22) (N := some 39) #[true, true, true, true, true, true, true, true, true, true, true, true, true, true, true, true, true, true, true, true, true, true, true, false, false] rfl rfl (one_of HT_.out (by kernel_rfl)) (by decide) (fun K hK => ?_)
                  refine goes_ Try.func81 (by kernel_rfl) rfl #[.agg #[.int .i64 ((rd_T74 l0 x5_1).f1.f0.f0), .int .i64 ((rd_T74 l0 x5_1).f1.f0.f1), .int .i64 ((rd_T74 l0 x5_1).f1.f1), .slice A259_5 ((rd_T74 l0 x5_1).f1.f2).length c259_5, .slice A259_6 ((rd_T74 l0 x5_1).f1.f3).length c259_6], .agg #[.int .i64 ((rd_T74 l1 x5_1).f1.f0.f0), .int .i64 ((rd_T74 l1 x5_1).f1.f0.f1), .int .i64 ((rd_T74 l1 x5_1).f1.f1), .slice A260_5 ((rd_T74 l1 x5_1).f1.f2).length c260_5, .slice A260_6 ((rd_T74 l1 x5_1).f1.f3).length c260_6]] (by rfl) rfl rfl (by (try simp only [List.map_toArray, List.map_cons, List.map_nil]); first | done | rfl | (simp only [List.length_drop, List.length_take]; rfl)) ?_
                  with_reducible refine (stanchionref00_SameLetter.calls k1 ((rd_T74 l0 x5_1).f1.f0.f0) ((rd_T74 l0 x5_1).f1.f0.f1) ((rd_T74 l0 x5_1).f1.f1) _ _ ((rd_T74 l0 x5_1).f1.f2) _ _ ((rd_T74 l0 x5_1).f1.f3) ((rd_T74 l1 x5_1).f1.f0.f0) ((rd_T74 l1 x5_1).f1.f0.f1) ((rd_T74 l1 x5_1).f1.f1) _ _ ((rd_T74 l1 x5_1).f1.f2) _ _ ((rd_T74 l1 x5_1).f1.f3) false _ ?side1 ?side2 ?side3 ?side4 ?side5 ?side6 ?side7 ?side8 A9.out).mono ?_
                  (case side1 => repeat (first | exact (Kd.C_below HR261_5.out HB.out) | (with_reducible refine Kd.C_alloc ?_ _) | (with_reducible refine Kd.C_drewN ?_ _) | (with_reducible refine Kd.C_drew ?_)))
                  (case side2 => exact HC261_5.out)
                  (case side3 => repeat (first | exact (Kd.C_below HR261_6.out HB.out) | (with_reducible refine Kd.C_alloc ?_ _) | (with_reducible refine Kd.C_drewN ?_ _) | (with_reducible refine Kd.C_drew ?_)))
                  (case side4 => exact HC261_6.out)
                  (case side5 => repeat (first | exact (Kd.C_below HR262_5.out HB.out) | (with_reducible refine Kd.C_alloc ?_ _) | (with_reducible refine Kd.C_drewN ?_ _) | (with_reducible refine Kd.C_drew ?_)))
                  (case side6 => exact HC262_5.out)
                  (case side7 => repeat (first | exact (Kd.C_below HR262_6.out HB.out) | (with_reducible refine Kd.C_alloc ?_ _) | (with_reducible refine Kd.C_drewN ?_ _) | (with_reducible refine Kd.C_drew ?_)))
                  (case side8 => exact HC262_6.out)
                  rintro e w14 ⟨rfl, hb⟩
                  refine ⟨_, rfl, ?_⟩
                  have n0_ := Aside0.mk (below_step (by repeat (first | (with_reducible first | exact HB.out | apply below_alloc | apply pw_below_drewN | apply below_drew1) | exact HB.out)) hb)
                  clear HB
                  have HB := n0_
                  clear n0_
                  (try clear hb)
                  (try clear hb2)
                  (try clear hk)
                  (try clear hi)
                  refine hK.out _ _ ⟨((HB.out.cell (World.block_lt_of_cell? w _ hw259_0)).trans hw259_0), ((HB.out.cell (World.block_lt_of_cell? w _ hw259_1)).trans hw259_1), ((HB.out.cell (World.block_lt_of_cell? w _ hw259_2)).trans hw259_2), ((HB.out.cell (World.block_lt_of_cell? w _ hw259_3)).trans hw259_3), ((HB.out.cell (World.block_lt_of_cell? w _ hw259_4)).trans hw259_4), ((HB.out.cell (World.block_lt_of_cell? w _ hw259_5)).trans hw259_5), ((HB.out.cell (World.block_lt_of_cell? w _ hw259_6)).trans hw259_6), ((HB.out.cell (World.block_lt_of_cell? w _ hw260_0)).trans hw260_0), ((HB.out.cell (World.block_lt_of_cell? w _ hw260_1)).trans hw260_1), ((HB.out.cell (World.block_lt_of_cell? w _ hw260_2)).trans hw260_2), ((HB.out.cell (World.block_lt_of_cell? w _ hw260_3)).trans hw260_3), ((HB.out.cell (World.block_lt_of_cell? w _ hw260_4)).trans hw260_4), ((HB.out.cell (World.block_lt_of_cell? w _ hw260_5)).trans hw260_5), ((HB.out.cell (World.block_lt_of_cell? w _ hw260_6)).trans hw260_6), ((HB.out.cell (World.block_lt_of_cell? w _ hw261_0)).trans hw261_0), ((HB.out.cell (World.block_lt_of_cell? w _ hw261_1)).trans hw261_1), ((HB.out.cell (World.block_lt_of_cell? w _ hw261_2)).trans hw261_2), ((HB.out.cell (World.block_lt_of_cell? w _ hw261_3)).trans hw261_3), ((HB.out.cell (World.block_lt_of_cell? w _ hw261_4)).trans hw261_4), ((HB.out.cell (World.block_lt_of_cell? w _ hw261_5)).trans hw261_5), ((HB.out.cell (World.block_lt_of_cell? w _ hw261_6)).trans hw261_6), ((HB.out.cell (World.block_lt_of_cell? w _ hw262_0)).trans hw262_0), ((HB.out.cell (World.block_lt_of_cell? w _ hw262_1)).trans hw262_1), ((HB.out.cell (World.block_lt_of_cell? w _ hw262_2)).trans hw262_2), ((HB.out.cell (World.block_lt_of_cell? w _ hw262_3)).trans hw262_3), ((HB.out.cell (World.block_lt_of_cell? w _ hw262_4)).trans hw262_4), ((HB.out.cell (World.block_lt_of_cell? w _ hw262_5)).trans hw262_5), ((HB.out.cell (World.block_lt_of_cell? w _ hw262_6)).trans hw262_6)⟩ (fun hHeld => ?_)
                  clear hK K
                  refine norm_ (a' := ?_) ?_ ?_
                  rotate_left
                  · show Act.put _ (some 39) _ = _
                    simp only [Act.put, List.setIfInBounds_toArray, List.set_cons_zero, List.set_cons_succ, i64_w, i32_w]
                    rfl
                  refine pure_ (i := 23) (N := some 40) (v := ?_) (a' := ?_) #[true, true, true, true, true, true, true, true, true, true, true, true, true, true, true, true, true, true, true, true, true, true, true, true, false] rfl rfl (any_of HT_.out (by kernel_rfl)) (fun _ _ _ h => h) (Or.inl ⟨by rfl, ?_⟩) ?_ ?_
                  rotate_left
                  · intro w'
                    go_simp
                    with_reducible rfl
                  rotate_left
                  · simp only [Act.put, List.setIfInBounds_toArray, List.set_cons_zero, List.set_cons_succ, i64_w, i32_w]
                    rfl
                  refine pure_ (i := 24) (N := some 41) (v := ?_) (a' := ?_) #[true, true, true, true, true, true, true, true, true, true, true, true, true, true, true, true, true, true, true, true, true, true, true, true, true] rfl rfl (any_of HT_.out (by kernel_rfl)) (fun _ _ _ h => h) (Or.inl ⟨by rfl, ?_⟩) ?_ ?_
                  rotate_left
                  · intro w'
                    go_simp
                    with_reducible rfl
                  rotate_left
                  · simp only [Act.put, List.setIfInBounds_toArray, List.set_cons_zero, List.set_cons_succ, i64_w, i32_w]
                    rfl
                  refine done_ (done_of HT_.out (by kernel_rfl)) ?_
                  try go_wp2
                  go_ret
                  exact ⟨by first | rfl | (simp [errW_none, errW_some] <;> rfl) | (simp [*, errW_none, errW_some] <;> rfl), by repeat (first | (with_reducible first | exact HB.out | apply below_alloc | apply pw_below_drewN | apply below_drew1) | exact HB.out)⟩
            · rw [if_neg c6] at H
              exact absurd H (by simp)
          · rw [if_neg c5] at H
            exact absurd H (by simp)
        · rw [if_neg c4] at H
          have c4b0 : decide (x5_1 < (l0.length : Int)) = false := decide_eq_false c4
          clear c4
          obtain rfl := Option.some.inj H
          go_wp2
          go_ret
          exact ⟨by first | rfl | (simp [errW_none, errW_some] <;> rfl) | (simp [*, errW_none, errW_some] <;> rfl), by repeat (first | (with_reducible first | exact HB.out | apply below_alloc | apply pw_below_drewN | apply below_drew1) | exact HB.out)⟩
  · rw [if_neg c3] at H
    have c3b0 : ((l0.length : Int) == (l1.length : Int)) = false := beq_eq_false_iff_ne.mpr c3
    have c3b1 : ((l0.length : Int) != (l1.length : Int)) = true := bne_iff_ne.mpr c3
    have c3b2 : (l0.length == l1.length) = false := by first | simpa using c3 | (simp at c3 ⊢; omega)
    obtain rfl := Option.some.inj H
    go_enter Try.func55, Try.ntmps55
    go_wp2
    go_ret
    exact ⟨by first | rfl | (simp [errW_none, errW_some] <;> rfl) | (simp [*, errW_none, errW_some] <;> rfl), by repeat (first | (with_reducible first | exact HB.out | apply below_alloc | apply pw_below_drewN | apply below_drew1) | exact HB.out)⟩


end Go.Proofs.Ytijccobeljoikaa.Nt
