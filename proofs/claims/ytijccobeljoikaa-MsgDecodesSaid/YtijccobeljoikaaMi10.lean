/- Put together of my texts: MtQ. -/
import Derived.Test.YtijccobeljoikaaMi7
/- msg: are two entries the same, two letters. -/
namespace Go.Proofs.Ytijccobeljoikaa.Ms
open Go.RowKit Go.Proofs.YtijccobeljoikaaW.PrintWords Go.Proofs.YtijccobeljoikaaW.PrintLast
open Go.Proofs.Ytijccobeljoikaa.Plain Go.Proofs.Ytijccobeljoikaa.Walks
set_option linter.unusedVariables false
set_option linter.unusedSimpArgs false

def sameE (x y : S87) : Bool := x.f0 == y.f0 && x.f1 == y.f1 && x.f2 == y.f2 && decide (x.f3 = y.f3)
def sameL (x y : S72) : Bool := x.f0.f0 == y.f0.f0 && x.f0.f1 == y.f0.f1 && x.f1 == y.f1 && decide (x.f2 = y.f2) && decide (x.f3 = y.f3)
set_option maxHeartbeats 8000000 in
set_option maxRecDepth 100000 in
/-- SameEntry. -/
theorem sameEntry_calls (x y : S87) (A B : Option Addr) (c d : Nat) (w : World) (hA : Kd.C (Kd.int .u8) w A x.f3.length x.f3) (hc : x.f3.length ≤ c) (hB : Kd.C (Kd.int .u8) w B y.f3.length y.f3) (hd : y.f3.length ≤ d) :
    Calls Try.prog 82 #[.agg #[.int .i64 x.f0, .int .i64 x.f1, .int .i64 x.f2, .slice A x.f3.length c], .agg #[.int .i64 y.f0, .int .i64 y.f1, .int .i64 y.f2, .slice B y.f3.length d]] w fun e w' => e = .returned (.bool (sameE x y)) ∧ Below w.heap.size w w' := by
  have hu87 := Try.underlying87
  have HCA := Aside0.mk (Kd.C_alloc (Kd.C_alloc hA (.cells #[.int .i64 x.f0, .int .i64 x.f1, .int .i64 x.f2, .slice A x.f3.length c] 87)) (.cells #[.int .i64 y.f0, .int .i64 y.f1, .int .i64 y.f2, .slice B y.f3.length d] 87))
  have HCB := Aside0.mk (Kd.C_alloc (Kd.C_alloc hB (.cells #[.int .i64 x.f0, .int .i64 x.f1, .int .i64 x.f2, .slice A x.f3.length c] 87)) (.cells #[.int .i64 y.f0, .int .i64 y.f1, .int .i64 y.f2, .slice B y.f3.length d] 87))
  have HB0 := Aside0.mk (below_alloc (below_alloc (Below.refl w.heap.size w) (.cells #[.int .i64 x.f0, .int .i64 x.f1, .int .i64 x.f2, .slice A x.f3.length c] 87)) (.cells #[.int .i64 y.f0, .int .i64 y.f1, .int .i64 y.f2, .slice B y.f3.length d] 87))
  have HX0 := Aside0.mk ((Below.heap_alloc (w.alloc (.cells #[.int .i64 x.f0, .int .i64 x.f1, .int .i64 x.f2, .slice A x.f3.length c] 87)) (.cells #[.int .i64 y.f0, .int .i64 y.f1, .int .i64 y.f2, .slice B y.f3.length d] 87) w.heap.size (by simp)).trans (blk_new w (.cells #[.int .i64 x.f0, .int .i64 x.f1, .int .i64 x.f2, .slice A x.f3.length c] 87)))
  have HY0 := Aside0.mk (blk_new (w.alloc (.cells #[.int .i64 x.f0, .int .i64 x.f1, .int .i64 x.f2, .slice A x.f3.length c] 87)) (.cells #[.int .i64 y.f0, .int .i64 y.f1, .int .i64 y.f2, .slice B y.f3.length d] 87))
  rw [show (w.alloc (.cells #[.int .i64 x.f0, .int .i64 x.f1, .int .i64 x.f2, .slice A x.f3.length c] 87)).heap.size = w.heap.size + 1 by simp] at HY0
  clear hA hB
  go_enter Try.func82, Try.ntmps82
  go_upto_region 1 with (fail)
  generalize (w.alloc (.cells #[.int .i64 x.f0, .int .i64 x.f1, .int .i64 x.f2, .slice A x.f3.length c] 87)).alloc (.cells #[.int .i64 y.f0, .int .i64 y.f1, .int .i64 y.f2, .slice B y.f3.length d] 87) = w0 at HCA HCB HB0 HX0 HY0 ⊢
  have x0 : w0.cell? ⟨w.heap.size, 0, none⟩ = some (.int .i64 x.f0) := (blk_cell HX0.out 0).trans rfl
  have x1 : w0.cell? ⟨w.heap.size, 1, none⟩ = some (.int .i64 x.f1) := (blk_cell HX0.out 1).trans rfl
  have x2 : w0.cell? ⟨w.heap.size, 2, none⟩ = some (.int .i64 x.f2) := (blk_cell HX0.out 2).trans rfl
  have x3 : w0.cell? ⟨w.heap.size, 3, none⟩ = some (.slice A x.f3.length c) := (blk_cell HX0.out 3).trans rfl
  have y0 : w0.cell? ⟨w.heap.size + 1, 0, none⟩ = some (.int .i64 y.f0) := (blk_cell HY0.out 0).trans rfl
  have y1 : w0.cell? ⟨w.heap.size + 1, 1, none⟩ = some (.int .i64 y.f1) := (blk_cell HY0.out 1).trans rfl
  have y2 : w0.cell? ⟨w.heap.size + 1, 2, none⟩ = some (.int .i64 y.f2) := (blk_cell HY0.out 2).trans rfl
  have y3 : w0.cell? ⟨w.heap.size + 1, 3, none⟩ = some (.slice B y.f3.length d) := (blk_cell HY0.out 3).trans rfl
  cases b0 : (x.f0 == y.f0) with
  | false =>
    go_wp2_with (fail)
    go_ret
    exact ⟨by simp [sameE, b0], HB0.out⟩
  | true =>
    cases b1 : (x.f1 == y.f1) with
    | false =>
      go_wp2_with (fail)
      go_ret
      exact ⟨by simp [sameE, b1], HB0.out⟩
    | true =>
      cases b2 : (x.f2 == y.f2) with
      | false =>
        go_wp2_with (fail)
        go_ret
        exact ⟨by simp [sameE, b2], HB0.out⟩
      | true =>
        obtain ⟨q, hq⟩ : ∃ q, decide (x.f3 = y.f3) = q := ⟨_, rfl⟩
        have HQ := Aside0.mk hq
        have HS := Aside0.mk (show sameE x y = q by simp [sameE, b0, b1, b2, hq])
        clear hq
        go_wp2_with (fail)
        refine (sameBytes_is A c x.f3 B d y.f3 q w0 HCA.out hc HCB.out hd HQ.out).mono ?_
        rintro e w1 ⟨rfl, hD⟩
        have HB1 := Aside0.mk (below_then HB0.out HB0.out.size hD.below)
        clear hD
        go_wp2_with (fail)
        go_ret
        exact ⟨by rw [HS.out]; rfl, HB1.out⟩
set_option maxHeartbeats 8000000 in
set_option maxRecDepth 100000 in
/-- SameLetter. -/
theorem sameLetter_calls (x y : S72) (A2 A3 B2 B3 : Option Addr) (c2 c3 d2 d3 : Nat) (w : World) (hA2 : Kd.C (Kd.int .u8) w A2 x.f2.length x.f2) (hc2 : x.f2.length ≤ c2) (hA3 : Kd.C (Kd.slice 5 (Kd.int .u8)) w A3 x.f3.length x.f3)
    (hB2 : Kd.C (Kd.int .u8) w B2 y.f2.length y.f2) (hd2 : y.f2.length ≤ d2) (hB3 : Kd.C (Kd.slice 5 (Kd.int .u8)) w B3 y.f3.length y.f3) :
    Calls Try.prog 81 #[.agg #[.int .i64 x.f0.f0, .int .i64 x.f0.f1, .int .i64 x.f1, .slice A2 x.f2.length c2, .slice A3 x.f3.length c3], .agg #[.int .i64 y.f0.f0, .int .i64 y.f0.f1, .int .i64 y.f1, .slice B2 y.f2.length d2, .slice B3 y.f3.length d3]] w fun e w' => e = .returned (.bool (sameL x y)) ∧ Below w.heap.size w w' := by
  have hu72 := Try.underlying72
  have hu70 := Try.underlying70
  have HCA := Aside0.mk (Kd.C_alloc (Kd.C_alloc hA2 (.cells #[.int .i64 x.f0.f0, .int .i64 x.f0.f1, .int .i64 x.f1, .slice A2 x.f2.length c2, .slice A3 x.f3.length c3] 72)) (.cells #[.int .i64 y.f0.f0, .int .i64 y.f0.f1, .int .i64 y.f1, .slice B2 y.f2.length d2, .slice B3 y.f3.length d3] 72))
  have HCB := Aside0.mk (Kd.C_alloc (Kd.C_alloc hB2 (.cells #[.int .i64 x.f0.f0, .int .i64 x.f0.f1, .int .i64 x.f1, .slice A2 x.f2.length c2, .slice A3 x.f3.length c3] 72)) (.cells #[.int .i64 y.f0.f0, .int .i64 y.f0.f1, .int .i64 y.f1, .slice B2 y.f2.length d2, .slice B3 y.f3.length d3] 72))
  have HDA := Aside0.mk (Kd.C_alloc (Kd.C_alloc hA3 (.cells #[.int .i64 x.f0.f0, .int .i64 x.f0.f1, .int .i64 x.f1, .slice A2 x.f2.length c2, .slice A3 x.f3.length c3] 72)) (.cells #[.int .i64 y.f0.f0, .int .i64 y.f0.f1, .int .i64 y.f1, .slice B2 y.f2.length d2, .slice B3 y.f3.length d3] 72))
  have HDB := Aside0.mk (Kd.C_alloc (Kd.C_alloc hB3 (.cells #[.int .i64 x.f0.f0, .int .i64 x.f0.f1, .int .i64 x.f1, .slice A2 x.f2.length c2, .slice A3 x.f3.length c3] 72)) (.cells #[.int .i64 y.f0.f0, .int .i64 y.f0.f1, .int .i64 y.f1, .slice B2 y.f2.length d2, .slice B3 y.f3.length d3] 72))
  have HB0 := Aside0.mk (below_alloc (below_alloc (Below.refl w.heap.size w) (.cells #[.int .i64 x.f0.f0, .int .i64 x.f0.f1, .int .i64 x.f1, .slice A2 x.f2.length c2, .slice A3 x.f3.length c3] 72)) (.cells #[.int .i64 y.f0.f0, .int .i64 y.f0.f1, .int .i64 y.f1, .slice B2 y.f2.length d2, .slice B3 y.f3.length d3] 72))
  have HX0 := Aside0.mk ((Below.heap_alloc (w.alloc (.cells #[.int .i64 x.f0.f0, .int .i64 x.f0.f1, .int .i64 x.f1, .slice A2 x.f2.length c2, .slice A3 x.f3.length c3] 72)) (.cells #[.int .i64 y.f0.f0, .int .i64 y.f0.f1, .int .i64 y.f1, .slice B2 y.f2.length d2, .slice B3 y.f3.length d3] 72) w.heap.size (by simp)).trans (blk_new w (.cells #[.int .i64 x.f0.f0, .int .i64 x.f0.f1, .int .i64 x.f1, .slice A2 x.f2.length c2, .slice A3 x.f3.length c3] 72)))
  have HY0 := Aside0.mk (blk_new (w.alloc (.cells #[.int .i64 x.f0.f0, .int .i64 x.f0.f1, .int .i64 x.f1, .slice A2 x.f2.length c2, .slice A3 x.f3.length c3] 72)) (.cells #[.int .i64 y.f0.f0, .int .i64 y.f0.f1, .int .i64 y.f1, .slice B2 y.f2.length d2, .slice B3 y.f3.length d3] 72))
  rw [show (w.alloc (.cells #[.int .i64 x.f0.f0, .int .i64 x.f0.f1, .int .i64 x.f1, .slice A2 x.f2.length c2, .slice A3 x.f3.length c3] 72)).heap.size = w.heap.size + 1 by simp] at HY0
  clear hA2 hB2 hA3 hB3
  go_enter Try.func81, Try.ntmps81
  go_upto_region 1 with (fail)
  generalize (w.alloc (.cells #[.int .i64 x.f0.f0, .int .i64 x.f0.f1, .int .i64 x.f1, .slice A2 x.f2.length c2, .slice A3 x.f3.length c3] 72)).alloc (.cells #[.int .i64 y.f0.f0, .int .i64 y.f0.f1, .int .i64 y.f1, .slice B2 y.f2.length d2, .slice B3 y.f3.length d3] 72) = w0 at HCA HCB HDA HDB HB0 HX0 HY0 ⊢
  have x0 : w0.cell? ⟨w.heap.size, 0, none⟩ = some (.int .i64 x.f0.f0) := (blk_cell HX0.out 0).trans rfl
  have x1 : w0.cell? ⟨w.heap.size, 1, none⟩ = some (.int .i64 x.f0.f1) := (blk_cell HX0.out 1).trans rfl
  have x2 : w0.cell? ⟨w.heap.size, 2, none⟩ = some (.int .i64 x.f1) := (blk_cell HX0.out 2).trans rfl
  have x3 : w0.cell? ⟨w.heap.size, 3, none⟩ = some (.slice A2 x.f2.length c2) := (blk_cell HX0.out 3).trans rfl
  have x4 : w0.cell? ⟨w.heap.size, 4, none⟩ = some (.slice A3 x.f3.length c3) := (blk_cell HX0.out 4).trans rfl
  have y0 : w0.cell? ⟨w.heap.size + 1, 0, none⟩ = some (.int .i64 y.f0.f0) := (blk_cell HY0.out 0).trans rfl
  have y1 : w0.cell? ⟨w.heap.size + 1, 1, none⟩ = some (.int .i64 y.f0.f1) := (blk_cell HY0.out 1).trans rfl
  have y2 : w0.cell? ⟨w.heap.size + 1, 2, none⟩ = some (.int .i64 y.f1) := (blk_cell HY0.out 2).trans rfl
  have y3 : w0.cell? ⟨w.heap.size + 1, 3, none⟩ = some (.slice B2 y.f2.length d2) := (blk_cell HY0.out 3).trans rfl
  have y4 : w0.cell? ⟨w.heap.size + 1, 4, none⟩ = some (.slice B3 y.f3.length d3) := (blk_cell HY0.out 4).trans rfl
  rcases Classical.em (x.f0.f0 = y.f0.f0) with e | e
  · have h0 := eq_true e
    have E0 := Aside0.mk e
    clear e
    rcases Classical.em (x.f0.f1 = y.f0.f1) with e | e
    · have h1 := eq_true e
      have E1 := Aside0.mk e
      clear e
      cases b1 : (x.f1 == y.f1) with
      | false =>
        go_wp2_with (fail)
        go_ret
        exact ⟨by simp [sameL, b1], HB0.out⟩
      | true =>
        obtain ⟨q, hq⟩ : ∃ q, decide (x.f2 = y.f2) = q := ⟨_, rfl⟩
        obtain ⟨r, hr⟩ : ∃ r, decide (x.f3 = y.f3) = r := ⟨_, rfl⟩
        have HQ := Aside0.mk hq
        have HR := Aside0.mk hr
        have HS := Aside0.mk (show sameL x y = (q && r) by simp [sameL, E0.out, E1.out, b1, hq, hr])
        clear hq hr
        go_wp2_with (fail)
        refine (sameBytes_is A2 c2 x.f2 B2 d2 y.f2 q w0 HCA.out hc2 HCB.out hd2 HQ.out).mono ?_
        rintro e w1 ⟨rfl, hD⟩
        have HB1 := Aside0.mk (below_then HB0.out HB0.out.size hD.below)
        have HX1 := Aside0.mk ((hD.below.block _ (blk_lt2 HX0.out)).trans HX0.out)
        have HY1 := Aside0.mk ((hD.below.block _ (blk_lt2 HY0.out)).trans HY0.out)
        have HDA1 := Aside0.mk (Kd.C_below HDA.out hD.below)
        have HDB1 := Aside0.mk (Kd.C_below HDB.out hD.below)
        clear hD x0 x1 x2 x3 x4 y0 y1 y2 y3 y4
        have z4 : w1.cell? ⟨w.heap.size, 4, none⟩ = some (.slice A3 x.f3.length c3) := (blk_cell HX1.out 4).trans rfl
        have u4 : w1.cell? ⟨w.heap.size + 1, 4, none⟩ = some (.slice B3 y.f3.length d3) := (blk_cell HY1.out 4).trans rfl
        cases q with
        | false =>
          go_wp2_with (fail)
          go_ret
          exact ⟨by rw [HS.out]; rfl, HB1.out⟩
        | true =>
          go_wp2_with (fail)
          refine (sameRows_calls A3 c3 x.f3 B3 d3 y.f3 w1 HDA1.out HDB1.out).mono ?_
          rw [HR.out]
          rintro e w2 ⟨rfl, hD⟩
          have HB2 := Aside0.mk (below_then HB1.out HB1.out.size hD.below)
          clear hD
          go_wp2_with (fail)
          go_ret
          exact ⟨by rw [HS.out]; rfl, HB2.out⟩
    · have h1 := eq_false e
      have HS := Aside0.mk (show sameL x y = false by simp [sameL, beq_eq_false_iff_ne.2 e])
      clear e
      go_wp2_with (fail)
      go_ret
      exact ⟨by rw [HS.out]; rfl, HB0.out⟩
  · have h0 := eq_false e
    have HS := Aside0.mk (show sameL x y = false by simp [sameL, beq_eq_false_iff_ne.2 e])
    clear e
    go_wp2_with (fail)
    go_ret
    exact ⟨by rw [HS.out]; rfl, HB0.out⟩
end Go.Proofs.Ytijccobeljoikaa.Ms
