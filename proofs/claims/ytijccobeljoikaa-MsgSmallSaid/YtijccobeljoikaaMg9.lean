/- Put together of my texts: MtO, MtP. -/
import Derived.Test.YtijccobeljoikaaMg7
import Derived.Test.YtijccobeljoikaaMg4
import Derived.Lib.SlBytesConst
import Derived.Deep.MidRow
import Derived.Test.YtijccobeljoikaaMg8
/- msg: MsgSmall: a message with a field that its kind has not is none. -/
namespace Go.Proofs.Ytijccobeljoikaa.Ms
open Go.RowKit Go.Proofs.YtijccobeljoikaaW.PrintWords Go.Proofs.YtijccobeljoikaaW.PrintLast Go.Proofs.YtijccobeljoikaaW.PrintMore
open Go.Proofs.Ytijccobeljoikaa.Plain Go.Proofs.Ytijccobeljoikaa.Walks
set_option linter.unusedVariables false
set_option linter.unusedSimpArgs false

/-- A field that the kind has not is nothing. -/
theorem lacks {m : S91} {z : List Int} (h : encP m = (z, 0)) {t : UInt8 × Bool} (ht : t ∈ tabE m) (hp : hasB (partsS m.kind) t.1 = false) : t.2 = true := by
  have := List.all_eq_true.1 (encP_right h).2.1.e t ht
  rw [hp] at this
  simpa using this
theorem parts_off {k : Int} {c : UInt8} (S : List Int) (hS : ∀ j : Fin 15, hasB (partsS (j.val : Int)) c = false ∨ (j.val : Int) ∈ S) (h : k ∉ S) : hasB (partsS k) c = false := by
  by_cases hk : 0 ≤ k ∧ k < 15
  · obtain ⟨n, rfl⟩ := Int.eq_ofNat_of_zero_le hk.1
    rcases hS ⟨n, by omega⟩ with h1 | h1
    · exact h1
    · exact absurd h1 h
  · have : partsS k = ⟨#[]⟩ := by
      unfold partsS
      repeat rw [if_neg (by omega)]
    rw [this]; rfl
theorem encP_some {m : S91} {z : List Int} (h : encP m = (z, 0)) : 0 < z.length := by
  obtain ⟨_, _, s, hj, hs⟩ := encP_right h
  obtain ⟨e1, _, _⟩ := joinP_some hj
  rw [e1, show encL (encI [m.kind] :: s) = encN (encI [m.kind]).length ++ encI [m.kind] ++ encL s from rfl]
  have := encN_pos (encI [m.kind]).length
  simp only [List.length_append]; omega
theorem C_one {α : Type} {d : Kd α} {W : World} {n t : Nat} {fr : Nat × Nat} {cs : List Value} {x : α} (h : W.heap[n]? = some (.cells cs.toArray t fr)) (hK : d.K W x cs) : Kd.C d W (some ⟨n, 0, none⟩) 1 [x] := by
  refine ⟨rfl, by simp, fun _ => ⟨_, rfl, fun j p hj => ?_⟩⟩
  cases j with
  | zero =>
    obtain rfl : x = p := by simpa using hj
    refine ⟨cs, d.K_len hK, hK, fun i u hu => ?_⟩
    have := cell_of_row W n i _ t fr h
    rw [add_plain]
    simp only [Nat.zero_mul, Nat.zero_add] at *
    rw [this]; simpa using hu
  | succ j => simp at hj
theorem mk32 (w : World) : (Instr.makeSlice 22 (.int .i64 32) (.int .i64 32)).run Try.prog w = .ok (.slice (some ⟨w.heap.size, 0, none⟩) 32 32) (w.alloc (.cells (Array.replicate 32 (.int .u8 0)) 5)) := by kernel_rfl
set_option maxHeartbeats 16000000 in
set_option maxRecDepth 100000 in
theorem small_calls (m : S91) (a : Nat → Option Addr) (d : Nat → Nat) (k : Int) (w : World) (hM : Msg w m a d) (hF : Fit91 m) :
    Calls Try.prog 20 #[.agg #[.int .i64 m.kind, .int .i64 m.view, .int .i64 m.seq, .int .i64 m.client, .int .i64 m.stamp, .int .i64 m.entry.f0, .int .i64 m.entry.f1, .int .i64 m.entry.f2, .slice (a 0) m.entry.f3.length (d 0), .slice (a 1) m.digest.length (d 1), .slice (a 2) m.data.length (d 2), .slice (a 3) m.proof.length (d 3), .slice (a 4) m.proven.length (d 4)], .int .i64 k] w fun e w' => e = .returned (.bool true) ∧ Below w.heap.size w w' := by
  have hu91 := Try.underlying91
  have hu87 := Try.underlying87
  have HM := Aside0.mk hM
  have HF := Aside0.mk hF
  have HX0 := Aside0.mk (blk_new w (.cells #[.int .i64 m.kind, .int .i64 m.view, .int .i64 m.seq, .int .i64 m.client, .int .i64 m.stamp, .int .i64 m.entry.f0, .int .i64 m.entry.f1, .int .i64 m.entry.f2, .slice (a 0) m.entry.f3.length (d 0), .slice (a 1) m.digest.length (d 1), .slice (a 2) m.data.length (d 2), .slice (a 3) m.proof.length (d 3), .slice (a 4) m.proven.length (d 4)] 91))
  have HB0 := Aside0.mk (below_alloc (Below.refl w.heap.size w) (.cells #[.int .i64 m.kind, .int .i64 m.view, .int .i64 m.seq, .int .i64 m.client, .int .i64 m.stamp, .int .i64 m.entry.f0, .int .i64 m.entry.f1, .int .i64 m.entry.f2, .slice (a 0) m.entry.f3.length (d 0), .slice (a 1) m.digest.length (d 1), .slice (a 2) m.data.length (d 2), .slice (a 3) m.proof.length (d 3), .slice (a 4) m.proven.length (d 4)] 91))
  clear hM hF
  go_enter Try.func20, Try.ntmps20
  go_wp2_with (fail)
  generalize w.alloc (.cells #[.int .i64 m.kind, .int .i64 m.view, .int .i64 m.seq, .int .i64 m.client, .int .i64 m.stamp, .int .i64 m.entry.f0, .int .i64 m.entry.f1, .int .i64 m.entry.f2, .slice (a 0) m.entry.f3.length (d 0), .slice (a 1) m.digest.length (d 1), .slice (a 2) m.data.length (d 2), .slice (a 3) m.proof.length (d 3), .slice (a 4) m.proven.length (d 4)] 91) = w0 at HX0 HB0 ⊢
  refine (alive_calls w0).mono ?_
  rintro e w1 ⟨rfl, hB⟩
  have HX1 := Aside0.mk ((hB.block _ (blk_lt2 HX0.out)).trans HX0.out)
  have HB1 := Aside0.mk (below_then HB0.out HB0.out.size hB)
  have y0 : w1.cell? ⟨w.heap.size, 0, none⟩ = some (.int .i64 m.kind) := (blk_cell HX1.out 0).trans rfl
  have y1 : w1.cell? ⟨w.heap.size, 1, none⟩ = some (.int .i64 m.view) := (blk_cell HX1.out 1).trans rfl
  have y2 : w1.cell? ⟨w.heap.size, 2, none⟩ = some (.int .i64 m.seq) := (blk_cell HX1.out 2).trans rfl
  have y3 : w1.cell? ⟨w.heap.size, 3, none⟩ = some (.int .i64 m.client) := (blk_cell HX1.out 3).trans rfl
  have y4 : w1.cell? ⟨w.heap.size, 4, none⟩ = some (.int .i64 m.stamp) := (blk_cell HX1.out 4).trans rfl
  have y5 : w1.cell? ⟨w.heap.size, 5, none⟩ = some (.int .i64 m.entry.f0) := (blk_cell HX1.out 5).trans rfl
  have y6 : w1.cell? ⟨w.heap.size, 6, none⟩ = some (.int .i64 m.entry.f1) := (blk_cell HX1.out 6).trans rfl
  have y7 : w1.cell? ⟨w.heap.size, 7, none⟩ = some (.int .i64 m.entry.f2) := (blk_cell HX1.out 7).trans rfl
  have y8 : w1.cell? ⟨w.heap.size, 8, none⟩ = some (.slice (a 0) m.entry.f3.length (d 0)) := (blk_cell HX1.out 8).trans rfl
  have y9 : w1.cell? ⟨w.heap.size, 9, none⟩ = some (.slice (a 1) m.digest.length (d 1)) := (blk_cell HX1.out 9).trans rfl
  have y10 : w1.cell? ⟨w.heap.size, 10, none⟩ = some (.slice (a 2) m.data.length (d 2)) := (blk_cell HX1.out 10).trans rfl
  have y11 : w1.cell? ⟨w.heap.size, 11, none⟩ = some (.slice (a 3) m.proof.length (d 3)) := (blk_cell HX1.out 11).trans rfl
  have y12 : w1.cell? ⟨w.heap.size, 12, none⟩ = some (.slice (a 4) m.proven.length (d 4)) := (blk_cell HX1.out 12).trans rfl
  clear hB HX0 HB0
  go_wp2_with (fail)
  have hE := heavy_calls m a d 20000 w1 (HM.out.below HB1.out)
  with_reducible refine hE.mono ?_
  rintro e w2 ⟨q, rfl, hB⟩
  have HX2 := Aside0.mk ((hB.block _ (blk_lt2 HX1.out)).trans HX1.out)
  have HB2 := Aside0.mk (below_then HB1.out HB1.out.size hB)
  clear hB hE y0 y1 y2 y3 y4 y5 y6 y7 y8 y9 y10 y11 y12 HX1 HB1
  cases q with
  | true =>
    go_wp2_with (fail)
    go_ret
    exact ⟨rfl, HB2.out⟩
  | false =>
    have y0 : w2.cell? ⟨w.heap.size, 0, none⟩ = some (.int .i64 m.kind) := (blk_cell HX2.out 0).trans rfl
    have y1 : w2.cell? ⟨w.heap.size, 1, none⟩ = some (.int .i64 m.view) := (blk_cell HX2.out 1).trans rfl
    have y2 : w2.cell? ⟨w.heap.size, 2, none⟩ = some (.int .i64 m.seq) := (blk_cell HX2.out 2).trans rfl
    have y3 : w2.cell? ⟨w.heap.size, 3, none⟩ = some (.int .i64 m.client) := (blk_cell HX2.out 3).trans rfl
    have y4 : w2.cell? ⟨w.heap.size, 4, none⟩ = some (.int .i64 m.stamp) := (blk_cell HX2.out 4).trans rfl
    have y5 : w2.cell? ⟨w.heap.size, 5, none⟩ = some (.int .i64 m.entry.f0) := (blk_cell HX2.out 5).trans rfl
    have y6 : w2.cell? ⟨w.heap.size, 6, none⟩ = some (.int .i64 m.entry.f1) := (blk_cell HX2.out 6).trans rfl
    have y7 : w2.cell? ⟨w.heap.size, 7, none⟩ = some (.int .i64 m.entry.f2) := (blk_cell HX2.out 7).trans rfl
    have y8 : w2.cell? ⟨w.heap.size, 8, none⟩ = some (.slice (a 0) m.entry.f3.length (d 0)) := (blk_cell HX2.out 8).trans rfl
    have y9 : w2.cell? ⟨w.heap.size, 9, none⟩ = some (.slice (a 1) m.digest.length (d 1)) := (blk_cell HX2.out 9).trans rfl
    have y10 : w2.cell? ⟨w.heap.size, 10, none⟩ = some (.slice (a 2) m.data.length (d 2)) := (blk_cell HX2.out 10).trans rfl
    have y11 : w2.cell? ⟨w.heap.size, 11, none⟩ = some (.slice (a 3) m.proof.length (d 3)) := (blk_cell HX2.out 11).trans rfl
    have y12 : w2.cell? ⟨w.heap.size, 12, none⟩ = some (.slice (a 4) m.proven.length (d 4)) := (blk_cell HX2.out 12).trans rfl
    go_wp2_with (fail)
    have hE := copyMsg_calls m a d w2 (HM.out.below HB2.out) HF.out
    with_reducible refine hE.mono ?_
    rintro e w3 ⟨b, c, rfl, hM3, hB⟩
    have HX3 := Aside0.mk ((hB.block _ (blk_lt2 HX2.out)).trans HX2.out)
    have HB3 := Aside0.mk (below_then HB2.out HB2.out.size hB)
    have HM3 := Aside0.mk hM3
    clear hB hE hM3 y0 y1 y2 y3 y4 y5 y6 y7 y8 y9 y10 y11 y12 HX2 HB2
    go_wp2_with (fail)
    obtain ⟨z, x, hz⟩ : ∃ z x, encP m = (z, x) := ⟨_, _, rfl⟩
    have hE := encode_calls m b c z x w3 HM3.out hz
    with_reducible refine hE.mono ?_
    rintro e w4 ⟨A1, c1, rfl, hc1, hC1, hB⟩
    have HX4 := Aside0.mk ((hB.block _ (blk_lt2 HX3.out)).trans HX3.out)
    have HB4 := Aside0.mk (below_then HB3.out HB3.out.size hB)
    clear hB hE hC1 hc1 HX3 HB3 HM3
    by_cases hx : x = 0
    · subst hx
      have HZ := Aside0.mk hz
      have hz0 := encP_some hz
      clear hz
      have y0 : w4.cell? ⟨w.heap.size, 0, none⟩ = some (.int .i64 m.kind) := (blk_cell HX4.out 0).trans rfl
      have y1 : w4.cell? ⟨w.heap.size, 1, none⟩ = some (.int .i64 m.view) := (blk_cell HX4.out 1).trans rfl
      have y2 : w4.cell? ⟨w.heap.size, 2, none⟩ = some (.int .i64 m.seq) := (blk_cell HX4.out 2).trans rfl
      have y3 : w4.cell? ⟨w.heap.size, 3, none⟩ = some (.int .i64 m.client) := (blk_cell HX4.out 3).trans rfl
      have y4 : w4.cell? ⟨w.heap.size, 4, none⟩ = some (.int .i64 m.stamp) := (blk_cell HX4.out 4).trans rfl
      have y5 : w4.cell? ⟨w.heap.size, 5, none⟩ = some (.int .i64 m.entry.f0) := (blk_cell HX4.out 5).trans rfl
      have y6 : w4.cell? ⟨w.heap.size, 6, none⟩ = some (.int .i64 m.entry.f1) := (blk_cell HX4.out 6).trans rfl
      have y7 : w4.cell? ⟨w.heap.size, 7, none⟩ = some (.int .i64 m.entry.f2) := (blk_cell HX4.out 7).trans rfl
      have y8 : w4.cell? ⟨w.heap.size, 8, none⟩ = some (.slice (a 0) m.entry.f3.length (d 0)) := (blk_cell HX4.out 8).trans rfl
      have y9 : w4.cell? ⟨w.heap.size, 9, none⟩ = some (.slice (a 1) m.digest.length (d 1)) := (blk_cell HX4.out 9).trans rfl
      have y10 : w4.cell? ⟨w.heap.size, 10, none⟩ = some (.slice (a 2) m.data.length (d 2)) := (blk_cell HX4.out 10).trans rfl
      have y11 : w4.cell? ⟨w.heap.size, 11, none⟩ = some (.slice (a 3) m.proof.length (d 3)) := (blk_cell HX4.out 11).trans rfl
      have y12 : w4.cell? ⟨w.heap.size, 12, none⟩ = some (.slice (a 4) m.proven.length (d 4)) := (blk_cell HX4.out 12).trans rfl
      go_wp2_with (fail)
      have hE := copyMsg_calls m a d w4 (HM.out.below HB4.out) HF.out
      with_reducible refine hE.mono ?_
      rintro e w5 ⟨b, c, rfl, hM5, hB⟩
      have HX5 := Aside0.mk ((hB.block _ (blk_lt2 HX4.out)).trans HX4.out)
      have HB5 := Aside0.mk (below_then HB4.out HB4.out.size hB)
      have HM5 := Aside0.mk hM5
      have HB56 := Aside0.mk (below_alloc (Below.refl w5.heap.size w5) (.cells #[.int .i64 m.kind, .int .i64 m.view, .int .i64 m.seq, .int .i64 m.client, .int .i64 m.stamp, .int .i64 m.entry.f0, .int .i64 m.entry.f1, .int .i64 m.entry.f2, .slice (b 0) m.entry.f3.length (c 0), .slice (b 1) m.digest.length (c 1), .slice (b 2) m.data.length (c 2), .slice (b 3) m.proof.length (c 3), .slice (b 4) m.proven.length (c 4)] 91))
      have HX6 := Aside0.mk ((Below.heap_alloc w5 (.cells #[.int .i64 m.kind, .int .i64 m.view, .int .i64 m.seq, .int .i64 m.client, .int .i64 m.stamp, .int .i64 m.entry.f0, .int .i64 m.entry.f1, .int .i64 m.entry.f2, .slice (b 0) m.entry.f3.length (c 0), .slice (b 1) m.digest.length (c 1), .slice (b 2) m.data.length (c 2), .slice (b 3) m.proof.length (c 3), .slice (b 4) m.proven.length (c 4)] 91) w.heap.size (blk_lt2 HX5.out)).trans HX5.out)
      have HB6 := Aside0.mk (below_alloc HB5.out (.cells #[.int .i64 m.kind, .int .i64 m.view, .int .i64 m.seq, .int .i64 m.client, .int .i64 m.stamp, .int .i64 m.entry.f0, .int .i64 m.entry.f1, .int .i64 m.entry.f2, .slice (b 0) m.entry.f3.length (c 0), .slice (b 1) m.digest.length (c 1), .slice (b 2) m.data.length (c 2), .slice (b 3) m.proof.length (c 3), .slice (b 4) m.proven.length (c 4)] 91))
      have HN6 := Aside0.mk (blk_new w5 (.cells #[.int .i64 m.kind, .int .i64 m.view, .int .i64 m.seq, .int .i64 m.client, .int .i64 m.stamp, .int .i64 m.entry.f0, .int .i64 m.entry.f1, .int .i64 m.entry.f2, .slice (b 0) m.entry.f3.length (c 0), .slice (b 1) m.digest.length (c 1), .slice (b 2) m.data.length (c 2), .slice (b 3) m.proof.length (c 3), .slice (b 4) m.proven.length (c 4)] 91))
      clear hB hE hM5 y0 y1 y2 y3 y4 y5 y6 y7 y8 y9 y10 y11 y12 HX4 HB4 HM
      go_upto_region 9 with (fail)
      generalize w5.alloc (.cells #[.int .i64 m.kind, .int .i64 m.view, .int .i64 m.seq, .int .i64 m.client, .int .i64 m.stamp, .int .i64 m.entry.f0, .int .i64 m.entry.f1, .int .i64 m.entry.f2, .slice (b 0) m.entry.f3.length (c 0), .slice (b 1) m.digest.length (c 1), .slice (b 2) m.data.length (c 2), .slice (b 3) m.proof.length (c 3), .slice (b 4) m.proven.length (c 4)] 91) = w6 at HB56 HX6 HB6 HN6 ⊢
      have y0 : w6.cell? ⟨w.heap.size, 0, none⟩ = some (.int .i64 m.kind) := (blk_cell HX6.out 0).trans rfl
      have hks : k = 0 ∨ k = 1 ∨ k = 2 ∨ k = 3 ∨ k = 4 ∨ k = 5 ∨ k = 6 ∨ k = 7 ∨ (k ≠ 0 ∧ k ≠ 1 ∧ k ≠ 2 ∧ k ≠ 3 ∧ k ≠ 4 ∧ k ≠ 5 ∧ k ≠ 6 ∧ k ≠ 7) := by omega
      rcases hks with hk | hk | hk | hk | hk | hk | hk | hk | ⟨k0, k1, k2, k3, k4, k5, k6, k7⟩
      · subst hk
        have hv0 : 0 ≤ m.view := (encP_right HZ.out).2.1.v.1
        have hv1 : m.view < 1099511627776 := (encP_right HZ.out).2.1.v.2
        have z1 : w6.cell? ⟨w5.heap.size, 1, none⟩ = some (.int .i64 m.view) := (blk_cell HN6.out 1).trans rfl
        have f1 : w6.frozen? ⟨w5.heap.size, 1, none⟩ = false := blk_frozen HN6.out 1
        have HNb0 : Aside0 ((w6.setCell ⟨w5.heap.size, 1, none⟩ (.int .i64 (m.view + 1))).heap[w5.heap.size]? = some (.cells #[.int .i64 m.kind, .int .i64 (m.view + 1), .int .i64 m.seq, .int .i64 m.client, .int .i64 m.stamp, .int .i64 m.entry.f0, .int .i64 m.entry.f1, .int .i64 m.entry.f2, .slice (b 0) m.entry.f3.length (c 0), .slice (b 1) m.digest.length (c 1), .slice (b 2) m.data.length (c 2), .slice (b 3) m.proof.length (c 3), .slice (b 4) m.proven.length (c 4)] 91)) := ⟨blk_put HN6.out 1 (.int .i64 (m.view + 1)) rfl⟩
        have HB7 := Aside0.mk (below_set (j := 1) (v := .int .i64 (m.view + 1)) HB6.out HB5.out.size)
        have HB57 := Aside0.mk (below_set (j := 1) (v := .int .i64 (m.view + 1)) HB56.out (Nat.le_refl _))
        have x0 : (w6.setCell ⟨w5.heap.size, 1, none⟩ (.int .i64 (m.view + 1))).cell? ⟨w5.heap.size, 0, none⟩ = some (.int .i64 m.kind) := (blk_cell HNb0.out 0).trans rfl
        have x1 : (w6.setCell ⟨w5.heap.size, 1, none⟩ (.int .i64 (m.view + 1))).cell? ⟨w5.heap.size, 1, none⟩ = some (.int .i64 (m.view + 1)) := (blk_cell HNb0.out 1).trans rfl
        have x2 : (w6.setCell ⟨w5.heap.size, 1, none⟩ (.int .i64 (m.view + 1))).cell? ⟨w5.heap.size, 2, none⟩ = some (.int .i64 m.seq) := (blk_cell HNb0.out 2).trans rfl
        have x3 : (w6.setCell ⟨w5.heap.size, 1, none⟩ (.int .i64 (m.view + 1))).cell? ⟨w5.heap.size, 3, none⟩ = some (.int .i64 m.client) := (blk_cell HNb0.out 3).trans rfl
        have x4 : (w6.setCell ⟨w5.heap.size, 1, none⟩ (.int .i64 (m.view + 1))).cell? ⟨w5.heap.size, 4, none⟩ = some (.int .i64 m.stamp) := (blk_cell HNb0.out 4).trans rfl
        have x5 : (w6.setCell ⟨w5.heap.size, 1, none⟩ (.int .i64 (m.view + 1))).cell? ⟨w5.heap.size, 5, none⟩ = some (.int .i64 m.entry.f0) := (blk_cell HNb0.out 5).trans rfl
        have x6 : (w6.setCell ⟨w5.heap.size, 1, none⟩ (.int .i64 (m.view + 1))).cell? ⟨w5.heap.size, 6, none⟩ = some (.int .i64 m.entry.f1) := (blk_cell HNb0.out 6).trans rfl
        have x7 : (w6.setCell ⟨w5.heap.size, 1, none⟩ (.int .i64 (m.view + 1))).cell? ⟨w5.heap.size, 7, none⟩ = some (.int .i64 m.entry.f2) := (blk_cell HNb0.out 7).trans rfl
        have x8 : (w6.setCell ⟨w5.heap.size, 1, none⟩ (.int .i64 (m.view + 1))).cell? ⟨w5.heap.size, 8, none⟩ = some (.slice (b 0) m.entry.f3.length (c 0)) := (blk_cell HNb0.out 8).trans rfl
        have x9 : (w6.setCell ⟨w5.heap.size, 1, none⟩ (.int .i64 (m.view + 1))).cell? ⟨w5.heap.size, 9, none⟩ = some (.slice (b 1) m.digest.length (c 1)) := (blk_cell HNb0.out 9).trans rfl
        have x10 : (w6.setCell ⟨w5.heap.size, 1, none⟩ (.int .i64 (m.view + 1))).cell? ⟨w5.heap.size, 10, none⟩ = some (.slice (b 2) m.data.length (c 2)) := (blk_cell HNb0.out 10).trans rfl
        have x11 : (w6.setCell ⟨w5.heap.size, 1, none⟩ (.int .i64 (m.view + 1))).cell? ⟨w5.heap.size, 11, none⟩ = some (.slice (b 3) m.proof.length (c 3)) := (blk_cell HNb0.out 11).trans rfl
        have x12 : (w6.setCell ⟨w5.heap.size, 1, none⟩ (.int .i64 (m.view + 1))).cell? ⟨w5.heap.size, 12, none⟩ = some (.slice (b 4) m.proven.length (c 4)) := (blk_cell HNb0.out 12).trans rfl
        go_wp2_with (fail)
        all_goals (try (go_ret; exact ⟨rfl, HB7.out⟩))
        · have hp : hasB (partsS m.kind) 118 = false := parts_off (c := 118) [3, 4, 5, 11, 12] (by decide) (by have hh : (((((m.kind == 3) = false) ∧ (m.kind == 4) = false) ∧ (m.kind == 5) = false) ∧ (m.kind == 11) = false) ∧ (m.kind == 12) = false := (by assumption); simp at hh; simp; omega)
          have hS : encP { m with view := m.view + 1 } = ([], 81) := small (t := (118, decide (m.view + 1 = 0))) HZ.out rfl (by simp [tabE]) (by simp; omega) hp
          have hMn := HM5.out.below HB57.out
          have hE : Calls Try.prog 65 #[.agg #[.int .i64 m.kind, .int .i64 (m.view + 1), .int .i64 m.seq, .int .i64 m.client, .int .i64 m.stamp, .int .i64 m.entry.f0, .int .i64 m.entry.f1, .int .i64 m.entry.f2, .slice (b 0) m.entry.f3.length (c 0), .slice (b 1) m.digest.length (c 1), .slice (b 2) m.data.length (c 2), .slice (b 3) m.proof.length (c 3), .slice (b 4) m.proven.length (c 4)]] (w6.setCell ⟨w5.heap.size, 1, none⟩ (.int .i64 (m.view + 1))) _ := encode_calls { m with view := m.view + 1 } b c [] 81 _ ⟨hMn.r0, hMn.l0, hMn.r1, hMn.l1, hMn.r2, hMn.l2, hMn.r3, hMn.l3, hMn.r4, hMn.l4⟩ hS
          with_reducible refine hE.mono ?_
          rintro e w8 ⟨A8, c8, rfl, hc8, hC8, hB⟩
          have HB8 := Aside0.mk (below_then HB7.out HB7.out.size hB)
          clear hB hE hC8 hc8 hMn hS x0 x1 x2 x3 x4 x5 x6 x7 x8 x9 x10 x11 x12
          go_wp2_with (fail)
          go_ret
          exact ⟨rfl, HB8.out⟩
      · subst hk
        have hv0 : 0 ≤ m.stamp := (encP_right HZ.out).2.1.t.1
        have hv1 : m.stamp < 1099511627776 := (encP_right HZ.out).2.1.t.2
        have z4 : w6.cell? ⟨w5.heap.size, 4, none⟩ = some (.int .i64 m.stamp) := (blk_cell HN6.out 4).trans rfl
        have f4 : w6.frozen? ⟨w5.heap.size, 4, none⟩ = false := blk_frozen HN6.out 4
        have HNb0 : Aside0 ((w6.setCell ⟨w5.heap.size, 4, none⟩ (.int .i64 (m.stamp + 1))).heap[w5.heap.size]? = some (.cells #[.int .i64 m.kind, .int .i64 m.view, .int .i64 m.seq, .int .i64 m.client, .int .i64 (m.stamp + 1), .int .i64 m.entry.f0, .int .i64 m.entry.f1, .int .i64 m.entry.f2, .slice (b 0) m.entry.f3.length (c 0), .slice (b 1) m.digest.length (c 1), .slice (b 2) m.data.length (c 2), .slice (b 3) m.proof.length (c 3), .slice (b 4) m.proven.length (c 4)] 91)) := ⟨blk_put HN6.out 4 (.int .i64 (m.stamp + 1)) rfl⟩
        have HB7 := Aside0.mk (below_set (j := 4) (v := .int .i64 (m.stamp + 1)) HB6.out HB5.out.size)
        have HB57 := Aside0.mk (below_set (j := 4) (v := .int .i64 (m.stamp + 1)) HB56.out (Nat.le_refl _))
        have x0 : (w6.setCell ⟨w5.heap.size, 4, none⟩ (.int .i64 (m.stamp + 1))).cell? ⟨w5.heap.size, 0, none⟩ = some (.int .i64 m.kind) := (blk_cell HNb0.out 0).trans rfl
        have x1 : (w6.setCell ⟨w5.heap.size, 4, none⟩ (.int .i64 (m.stamp + 1))).cell? ⟨w5.heap.size, 1, none⟩ = some (.int .i64 m.view) := (blk_cell HNb0.out 1).trans rfl
        have x2 : (w6.setCell ⟨w5.heap.size, 4, none⟩ (.int .i64 (m.stamp + 1))).cell? ⟨w5.heap.size, 2, none⟩ = some (.int .i64 m.seq) := (blk_cell HNb0.out 2).trans rfl
        have x3 : (w6.setCell ⟨w5.heap.size, 4, none⟩ (.int .i64 (m.stamp + 1))).cell? ⟨w5.heap.size, 3, none⟩ = some (.int .i64 m.client) := (blk_cell HNb0.out 3).trans rfl
        have x4 : (w6.setCell ⟨w5.heap.size, 4, none⟩ (.int .i64 (m.stamp + 1))).cell? ⟨w5.heap.size, 4, none⟩ = some (.int .i64 (m.stamp + 1)) := (blk_cell HNb0.out 4).trans rfl
        have x5 : (w6.setCell ⟨w5.heap.size, 4, none⟩ (.int .i64 (m.stamp + 1))).cell? ⟨w5.heap.size, 5, none⟩ = some (.int .i64 m.entry.f0) := (blk_cell HNb0.out 5).trans rfl
        have x6 : (w6.setCell ⟨w5.heap.size, 4, none⟩ (.int .i64 (m.stamp + 1))).cell? ⟨w5.heap.size, 6, none⟩ = some (.int .i64 m.entry.f1) := (blk_cell HNb0.out 6).trans rfl
        have x7 : (w6.setCell ⟨w5.heap.size, 4, none⟩ (.int .i64 (m.stamp + 1))).cell? ⟨w5.heap.size, 7, none⟩ = some (.int .i64 m.entry.f2) := (blk_cell HNb0.out 7).trans rfl
        have x8 : (w6.setCell ⟨w5.heap.size, 4, none⟩ (.int .i64 (m.stamp + 1))).cell? ⟨w5.heap.size, 8, none⟩ = some (.slice (b 0) m.entry.f3.length (c 0)) := (blk_cell HNb0.out 8).trans rfl
        have x9 : (w6.setCell ⟨w5.heap.size, 4, none⟩ (.int .i64 (m.stamp + 1))).cell? ⟨w5.heap.size, 9, none⟩ = some (.slice (b 1) m.digest.length (c 1)) := (blk_cell HNb0.out 9).trans rfl
        have x10 : (w6.setCell ⟨w5.heap.size, 4, none⟩ (.int .i64 (m.stamp + 1))).cell? ⟨w5.heap.size, 10, none⟩ = some (.slice (b 2) m.data.length (c 2)) := (blk_cell HNb0.out 10).trans rfl
        have x11 : (w6.setCell ⟨w5.heap.size, 4, none⟩ (.int .i64 (m.stamp + 1))).cell? ⟨w5.heap.size, 11, none⟩ = some (.slice (b 3) m.proof.length (c 3)) := (blk_cell HNb0.out 11).trans rfl
        have x12 : (w6.setCell ⟨w5.heap.size, 4, none⟩ (.int .i64 (m.stamp + 1))).cell? ⟨w5.heap.size, 12, none⟩ = some (.slice (b 4) m.proven.length (c 4)) := (blk_cell HNb0.out 12).trans rfl
        go_wp2_with (fail)
        all_goals (try (go_ret; exact ⟨rfl, HB7.out⟩))
        · have hp : hasB (partsS m.kind) 116 = false := parts_off (c := 116) [1, 2, 8, 9] (by decide) (by have hh : ((((m.kind == 1) = false) ∧ (m.kind == 2) = false) ∧ (m.kind == 8) = false) ∧ (m.kind == 9) = false := (by assumption); simp at hh; simp; omega)
          have hS : encP { m with stamp := m.stamp + 1 } = ([], 81) := small (t := (116, decide (m.stamp + 1 = 0))) HZ.out rfl (by simp [tabE]) (by simp; omega) hp
          have hMn := HM5.out.below HB57.out
          have hE : Calls Try.prog 65 #[.agg #[.int .i64 m.kind, .int .i64 m.view, .int .i64 m.seq, .int .i64 m.client, .int .i64 (m.stamp + 1), .int .i64 m.entry.f0, .int .i64 m.entry.f1, .int .i64 m.entry.f2, .slice (b 0) m.entry.f3.length (c 0), .slice (b 1) m.digest.length (c 1), .slice (b 2) m.data.length (c 2), .slice (b 3) m.proof.length (c 3), .slice (b 4) m.proven.length (c 4)]] (w6.setCell ⟨w5.heap.size, 4, none⟩ (.int .i64 (m.stamp + 1))) _ := encode_calls { m with stamp := m.stamp + 1 } b c [] 81 _ ⟨hMn.r0, hMn.l0, hMn.r1, hMn.l1, hMn.r2, hMn.l2, hMn.r3, hMn.l3, hMn.r4, hMn.l4⟩ hS
          with_reducible refine hE.mono ?_
          rintro e w8 ⟨A8, c8, rfl, hc8, hC8, hB⟩
          have HB8 := Aside0.mk (below_then HB7.out HB7.out.size hB)
          clear hB hE hC8 hc8 hMn hS x0 x1 x2 x3 x4 x5 x6 x7 x8 x9 x10 x11 x12
          go_wp2_with (fail)
          go_ret
          exact ⟨rfl, HB8.out⟩
      · subst hk
        have z3 : w6.cell? ⟨w5.heap.size, 3, none⟩ = some (.int .i64 m.client) := (blk_cell HN6.out 3).trans rfl
        have f3 : w6.frozen? ⟨w5.heap.size, 3, none⟩ = false := blk_frozen HN6.out 3
        have HNb0 : Aside0 ((w6.setCell ⟨w5.heap.size, 3, none⟩ (.int .i64 1)).heap[w5.heap.size]? = some (.cells #[.int .i64 m.kind, .int .i64 m.view, .int .i64 m.seq, .int .i64 1, .int .i64 m.stamp, .int .i64 m.entry.f0, .int .i64 m.entry.f1, .int .i64 m.entry.f2, .slice (b 0) m.entry.f3.length (c 0), .slice (b 1) m.digest.length (c 1), .slice (b 2) m.data.length (c 2), .slice (b 3) m.proof.length (c 3), .slice (b 4) m.proven.length (c 4)] 91)) := ⟨blk_put HN6.out 3 (.int .i64 1) rfl⟩
        have HB7 := Aside0.mk (below_set (j := 3) (v := .int .i64 1) HB6.out HB5.out.size)
        have HB57 := Aside0.mk (below_set (j := 3) (v := .int .i64 1) HB56.out (Nat.le_refl _))
        have x0 : (w6.setCell ⟨w5.heap.size, 3, none⟩ (.int .i64 1)).cell? ⟨w5.heap.size, 0, none⟩ = some (.int .i64 m.kind) := (blk_cell HNb0.out 0).trans rfl
        have x1 : (w6.setCell ⟨w5.heap.size, 3, none⟩ (.int .i64 1)).cell? ⟨w5.heap.size, 1, none⟩ = some (.int .i64 m.view) := (blk_cell HNb0.out 1).trans rfl
        have x2 : (w6.setCell ⟨w5.heap.size, 3, none⟩ (.int .i64 1)).cell? ⟨w5.heap.size, 2, none⟩ = some (.int .i64 m.seq) := (blk_cell HNb0.out 2).trans rfl
        have x3 : (w6.setCell ⟨w5.heap.size, 3, none⟩ (.int .i64 1)).cell? ⟨w5.heap.size, 3, none⟩ = some (.int .i64 1) := (blk_cell HNb0.out 3).trans rfl
        have x4 : (w6.setCell ⟨w5.heap.size, 3, none⟩ (.int .i64 1)).cell? ⟨w5.heap.size, 4, none⟩ = some (.int .i64 m.stamp) := (blk_cell HNb0.out 4).trans rfl
        have x5 : (w6.setCell ⟨w5.heap.size, 3, none⟩ (.int .i64 1)).cell? ⟨w5.heap.size, 5, none⟩ = some (.int .i64 m.entry.f0) := (blk_cell HNb0.out 5).trans rfl
        have x6 : (w6.setCell ⟨w5.heap.size, 3, none⟩ (.int .i64 1)).cell? ⟨w5.heap.size, 6, none⟩ = some (.int .i64 m.entry.f1) := (blk_cell HNb0.out 6).trans rfl
        have x7 : (w6.setCell ⟨w5.heap.size, 3, none⟩ (.int .i64 1)).cell? ⟨w5.heap.size, 7, none⟩ = some (.int .i64 m.entry.f2) := (blk_cell HNb0.out 7).trans rfl
        have x8 : (w6.setCell ⟨w5.heap.size, 3, none⟩ (.int .i64 1)).cell? ⟨w5.heap.size, 8, none⟩ = some (.slice (b 0) m.entry.f3.length (c 0)) := (blk_cell HNb0.out 8).trans rfl
        have x9 : (w6.setCell ⟨w5.heap.size, 3, none⟩ (.int .i64 1)).cell? ⟨w5.heap.size, 9, none⟩ = some (.slice (b 1) m.digest.length (c 1)) := (blk_cell HNb0.out 9).trans rfl
        have x10 : (w6.setCell ⟨w5.heap.size, 3, none⟩ (.int .i64 1)).cell? ⟨w5.heap.size, 10, none⟩ = some (.slice (b 2) m.data.length (c 2)) := (blk_cell HNb0.out 10).trans rfl
        have x11 : (w6.setCell ⟨w5.heap.size, 3, none⟩ (.int .i64 1)).cell? ⟨w5.heap.size, 11, none⟩ = some (.slice (b 3) m.proof.length (c 3)) := (blk_cell HNb0.out 11).trans rfl
        have x12 : (w6.setCell ⟨w5.heap.size, 3, none⟩ (.int .i64 1)).cell? ⟨w5.heap.size, 12, none⟩ = some (.slice (b 4) m.proven.length (c 4)) := (blk_cell HNb0.out 12).trans rfl
        go_wp2_with (fail)
        all_goals (try (go_ret; exact ⟨rfl, HB7.out⟩))
        · have hp : hasB (partsS m.kind) 99 = false := parts_off (c := 99) [1, 2, 8, 9] (by decide) (by have hh : ((((m.kind == 1) = false) ∧ (m.kind == 2) = false) ∧ (m.kind == 8) = false) ∧ (m.kind == 9) = false := (by assumption); simp at hh; simp; omega)
          have hS : encP { m with client := 1 } = ([], 81) := small (t := (99, decide ((1 : Int) = 0))) HZ.out rfl (by simp [tabE]) (by decide) hp
          have hMn := HM5.out.below HB57.out
          have hE : Calls Try.prog 65 #[.agg #[.int .i64 m.kind, .int .i64 m.view, .int .i64 m.seq, .int .i64 1, .int .i64 m.stamp, .int .i64 m.entry.f0, .int .i64 m.entry.f1, .int .i64 m.entry.f2, .slice (b 0) m.entry.f3.length (c 0), .slice (b 1) m.digest.length (c 1), .slice (b 2) m.data.length (c 2), .slice (b 3) m.proof.length (c 3), .slice (b 4) m.proven.length (c 4)]] (w6.setCell ⟨w5.heap.size, 3, none⟩ (.int .i64 1)) _ := encode_calls { m with client := 1 } b c [] 81 _ ⟨hMn.r0, hMn.l0, hMn.r1, hMn.l1, hMn.r2, hMn.l2, hMn.r3, hMn.l3, hMn.r4, hMn.l4⟩ hS
          with_reducible refine hE.mono ?_
          rintro e w8 ⟨A8, c8, rfl, hc8, hC8, hB⟩
          have HB8 := Aside0.mk (below_then HB7.out HB7.out.size hB)
          clear hB hE hC8 hc8 hMn hS x0 x1 x2 x3 x4 x5 x6 x7 x8 x9 x10 x11 x12
          go_wp2_with (fail)
          go_ret
          exact ⟨rfl, HB8.out⟩
      · subst hk
        have kc := fun (w : World) (C : Array Value) (n c : Nat) => Lib.run_convert_bytes_const (P := Try.prog) w 22 5 C n c Try.underlying22 Try.underlying5
        have HN7 := Aside0.mk ((Below.heap_alloc w6 (.cells #[.int .u8 120] 5 (1, 2)) w5.heap.size (blk_lt2 HN6.out)).trans HN6.out)
        have HK7 := Aside0.mk (blk_new w6 (.cells #[.int .u8 120] 5 (1, 2)))
        have z10 : (w6.alloc (.cells #[.int .u8 120] 5 (1, 2))).cell? ⟨w5.heap.size, 10, none⟩ = some (.slice (b 2) m.data.length (c 2)) := (blk_cell HN7.out 10).trans rfl
        have f10 : (w6.alloc (.cells #[.int .u8 120] 5 (1, 2))).frozen? ⟨w5.heap.size, 10, none⟩ = false := blk_frozen HN7.out 10
        have HNb0 : Aside0 (((w6.alloc (.cells #[.int .u8 120] 5 (1, 2))).setCell ⟨w5.heap.size, 10, none⟩ (.slice (some ⟨w6.heap.size, 0, none⟩) 1 1)).heap[w5.heap.size]? = some (.cells #[.int .i64 m.kind, .int .i64 m.view, .int .i64 m.seq, .int .i64 m.client, .int .i64 m.stamp, .int .i64 m.entry.f0, .int .i64 m.entry.f1, .int .i64 m.entry.f2, .slice (b 0) m.entry.f3.length (c 0), .slice (b 1) m.digest.length (c 1), .slice (some ⟨w6.heap.size, 0, none⟩) 1 1, .slice (b 3) m.proof.length (c 3), .slice (b 4) m.proven.length (c 4)] 91)) := ⟨blk_put HN7.out 10 (.slice (some ⟨w6.heap.size, 0, none⟩) 1 1) rfl⟩
        have HB7 := Aside0.mk (below_set (j := 10) (v := .slice (some ⟨w6.heap.size, 0, none⟩) 1 1) (below_alloc HB6.out (.cells #[.int .u8 120] 5 (1, 2))) HB5.out.size)
        have HB57 := Aside0.mk (below_set (j := 10) (v := .slice (some ⟨w6.heap.size, 0, none⟩) 1 1) (below_alloc HB56.out (.cells #[.int .u8 120] 5 (1, 2))) (Nat.le_refl _))
        have HK8 := Aside0.mk ((Below.heap_setCell (w6.alloc (.cells #[.int .u8 120] 5 (1, 2))) ⟨w5.heap.size, 10, none⟩ (.slice (some ⟨w6.heap.size, 0, none⟩) 1 1) w6.heap.size (by have := blk_lt2 HN6.out; simp; omega)).trans HK7.out)
        have x0 : ((w6.alloc (.cells #[.int .u8 120] 5 (1, 2))).setCell ⟨w5.heap.size, 10, none⟩ (.slice (some ⟨w6.heap.size, 0, none⟩) 1 1)).cell? ⟨w5.heap.size, 0, none⟩ = some (.int .i64 m.kind) := (blk_cell HNb0.out 0).trans rfl
        have x1 : ((w6.alloc (.cells #[.int .u8 120] 5 (1, 2))).setCell ⟨w5.heap.size, 10, none⟩ (.slice (some ⟨w6.heap.size, 0, none⟩) 1 1)).cell? ⟨w5.heap.size, 1, none⟩ = some (.int .i64 m.view) := (blk_cell HNb0.out 1).trans rfl
        have x2 : ((w6.alloc (.cells #[.int .u8 120] 5 (1, 2))).setCell ⟨w5.heap.size, 10, none⟩ (.slice (some ⟨w6.heap.size, 0, none⟩) 1 1)).cell? ⟨w5.heap.size, 2, none⟩ = some (.int .i64 m.seq) := (blk_cell HNb0.out 2).trans rfl
        have x3 : ((w6.alloc (.cells #[.int .u8 120] 5 (1, 2))).setCell ⟨w5.heap.size, 10, none⟩ (.slice (some ⟨w6.heap.size, 0, none⟩) 1 1)).cell? ⟨w5.heap.size, 3, none⟩ = some (.int .i64 m.client) := (blk_cell HNb0.out 3).trans rfl
        have x4 : ((w6.alloc (.cells #[.int .u8 120] 5 (1, 2))).setCell ⟨w5.heap.size, 10, none⟩ (.slice (some ⟨w6.heap.size, 0, none⟩) 1 1)).cell? ⟨w5.heap.size, 4, none⟩ = some (.int .i64 m.stamp) := (blk_cell HNb0.out 4).trans rfl
        have x5 : ((w6.alloc (.cells #[.int .u8 120] 5 (1, 2))).setCell ⟨w5.heap.size, 10, none⟩ (.slice (some ⟨w6.heap.size, 0, none⟩) 1 1)).cell? ⟨w5.heap.size, 5, none⟩ = some (.int .i64 m.entry.f0) := (blk_cell HNb0.out 5).trans rfl
        have x6 : ((w6.alloc (.cells #[.int .u8 120] 5 (1, 2))).setCell ⟨w5.heap.size, 10, none⟩ (.slice (some ⟨w6.heap.size, 0, none⟩) 1 1)).cell? ⟨w5.heap.size, 6, none⟩ = some (.int .i64 m.entry.f1) := (blk_cell HNb0.out 6).trans rfl
        have x7 : ((w6.alloc (.cells #[.int .u8 120] 5 (1, 2))).setCell ⟨w5.heap.size, 10, none⟩ (.slice (some ⟨w6.heap.size, 0, none⟩) 1 1)).cell? ⟨w5.heap.size, 7, none⟩ = some (.int .i64 m.entry.f2) := (blk_cell HNb0.out 7).trans rfl
        have x8 : ((w6.alloc (.cells #[.int .u8 120] 5 (1, 2))).setCell ⟨w5.heap.size, 10, none⟩ (.slice (some ⟨w6.heap.size, 0, none⟩) 1 1)).cell? ⟨w5.heap.size, 8, none⟩ = some (.slice (b 0) m.entry.f3.length (c 0)) := (blk_cell HNb0.out 8).trans rfl
        have x9 : ((w6.alloc (.cells #[.int .u8 120] 5 (1, 2))).setCell ⟨w5.heap.size, 10, none⟩ (.slice (some ⟨w6.heap.size, 0, none⟩) 1 1)).cell? ⟨w5.heap.size, 9, none⟩ = some (.slice (b 1) m.digest.length (c 1)) := (blk_cell HNb0.out 9).trans rfl
        have x10 : ((w6.alloc (.cells #[.int .u8 120] 5 (1, 2))).setCell ⟨w5.heap.size, 10, none⟩ (.slice (some ⟨w6.heap.size, 0, none⟩) 1 1)).cell? ⟨w5.heap.size, 10, none⟩ = some (.slice (some ⟨w6.heap.size, 0, none⟩) 1 1) := (blk_cell HNb0.out 10).trans rfl
        have x11 : ((w6.alloc (.cells #[.int .u8 120] 5 (1, 2))).setCell ⟨w5.heap.size, 10, none⟩ (.slice (some ⟨w6.heap.size, 0, none⟩) 1 1)).cell? ⟨w5.heap.size, 11, none⟩ = some (.slice (b 3) m.proof.length (c 3)) := (blk_cell HNb0.out 11).trans rfl
        have x12 : ((w6.alloc (.cells #[.int .u8 120] 5 (1, 2))).setCell ⟨w5.heap.size, 10, none⟩ (.slice (some ⟨w6.heap.size, 0, none⟩) 1 1)).cell? ⟨w5.heap.size, 12, none⟩ = some (.slice (b 4) m.proven.length (c 4)) := (blk_cell HNb0.out 12).trans rfl
        go_wp2_with (fail)
        all_goals (try (go_ret; exact ⟨rfl, HB7.out⟩))
        · have hp : hasB (partsS m.kind) 98 = false := parts_off (c := 98) [1, 8, 9, 14] (by decide) (by have hh : ((((m.kind == 1) = false) ∧ (m.kind == 8) = false) ∧ (m.kind == 9) = false) ∧ (m.kind == 14) = false := (by assumption); simp at hh; simp; omega)
          have hS : encP { m with data := [120] } = ([], 81) := small (t := (98, decide (([120] : List Int).length = 0))) HZ.out rfl (by simp [tabE]) (by decide) hp
          have hMn := HM5.out.below HB57.out
          have hE : Calls Try.prog 65 #[.agg #[.int .i64 m.kind, .int .i64 m.view, .int .i64 m.seq, .int .i64 m.client, .int .i64 m.stamp, .int .i64 m.entry.f0, .int .i64 m.entry.f1, .int .i64 m.entry.f2, .slice (b 0) m.entry.f3.length (c 0), .slice (b 1) m.digest.length (c 1), .slice (some ⟨w6.heap.size, 0, none⟩) 1 1, .slice (b 3) m.proof.length (c 3), .slice (b 4) m.proven.length (c 4)]] ((w6.alloc (.cells #[.int .u8 120] 5 (1, 2))).setCell ⟨w5.heap.size, 10, none⟩ (.slice (some ⟨w6.heap.size, 0, none⟩) 1 1)) _ := encode_calls { m with data := [120] } (fun j => match j with | 2 => some ⟨w6.heap.size, 0, none⟩ | _ => b j) (fun j => match j with | 2 => 1 | _ => c j) [] 81 _ ⟨hMn.r0, hMn.l0, hMn.r1, hMn.l1, (C_bytes_block (l := [120]) HK8.out (by simp)), Nat.le_refl _, hMn.r3, hMn.l3, hMn.r4, hMn.l4⟩ hS
          with_reducible refine hE.mono ?_
          rintro e w8 ⟨A8, c8, rfl, hc8, hC8, hB⟩
          have HB8 := Aside0.mk (below_then HB7.out HB7.out.size hB)
          clear hB hE hC8 hc8 hMn hS x0 x1 x2 x3 x4 x5 x6 x7 x8 x9 x10 x11 x12
          go_wp2_with (fail)
          go_ret
          exact ⟨rfl, HB8.out⟩
      · subst hk
        have HN7 := Aside0.mk ((Below.heap_alloc w6 (.cells #[.int .i64 1, .int .i64 0, .int .i64 1, .slice none 0 0, .slice none 0 0] 72) w5.heap.size (blk_lt2 HN6.out)).trans HN6.out)
        have HK7 := Aside0.mk (blk_new w6 (.cells #[.int .i64 1, .int .i64 0, .int .i64 1, .slice none 0 0, .slice none 0 0] 72))
        have z11 : (w6.alloc (.cells #[.int .i64 1, .int .i64 0, .int .i64 1, .slice none 0 0, .slice none 0 0] 72)).cell? ⟨w5.heap.size, 11, none⟩ = some (.slice (b 3) m.proof.length (c 3)) := (blk_cell HN7.out 11).trans rfl
        have f11 : (w6.alloc (.cells #[.int .i64 1, .int .i64 0, .int .i64 1, .slice none 0 0, .slice none 0 0] 72)).frozen? ⟨w5.heap.size, 11, none⟩ = false := blk_frozen HN7.out 11
        have HNb0 : Aside0 (((w6.alloc (.cells #[.int .i64 1, .int .i64 0, .int .i64 1, .slice none 0 0, .slice none 0 0] 72)).setCell ⟨w5.heap.size, 11, none⟩ (.slice (some ⟨w6.heap.size, 0, none⟩) 1 1)).heap[w5.heap.size]? = some (.cells #[.int .i64 m.kind, .int .i64 m.view, .int .i64 m.seq, .int .i64 m.client, .int .i64 m.stamp, .int .i64 m.entry.f0, .int .i64 m.entry.f1, .int .i64 m.entry.f2, .slice (b 0) m.entry.f3.length (c 0), .slice (b 1) m.digest.length (c 1), .slice (b 2) m.data.length (c 2), .slice (some ⟨w6.heap.size, 0, none⟩) 1 1, .slice (b 4) m.proven.length (c 4)] 91)) := ⟨blk_put HN7.out 11 (.slice (some ⟨w6.heap.size, 0, none⟩) 1 1) rfl⟩
        have HB7 := Aside0.mk (below_set (j := 11) (v := .slice (some ⟨w6.heap.size, 0, none⟩) 1 1) (below_alloc HB6.out (.cells #[.int .i64 1, .int .i64 0, .int .i64 1, .slice none 0 0, .slice none 0 0] 72)) HB5.out.size)
        have HB57 := Aside0.mk (below_set (j := 11) (v := .slice (some ⟨w6.heap.size, 0, none⟩) 1 1) (below_alloc HB56.out (.cells #[.int .i64 1, .int .i64 0, .int .i64 1, .slice none 0 0, .slice none 0 0] 72)) (Nat.le_refl _))
        have HK8 := Aside0.mk ((Below.heap_setCell (w6.alloc (.cells #[.int .i64 1, .int .i64 0, .int .i64 1, .slice none 0 0, .slice none 0 0] 72)) ⟨w5.heap.size, 11, none⟩ (.slice (some ⟨w6.heap.size, 0, none⟩) 1 1) w6.heap.size (by have := blk_lt2 HN6.out; simp; omega)).trans HK7.out)
        have x0 : ((w6.alloc (.cells #[.int .i64 1, .int .i64 0, .int .i64 1, .slice none 0 0, .slice none 0 0] 72)).setCell ⟨w5.heap.size, 11, none⟩ (.slice (some ⟨w6.heap.size, 0, none⟩) 1 1)).cell? ⟨w5.heap.size, 0, none⟩ = some (.int .i64 m.kind) := (blk_cell HNb0.out 0).trans rfl
        have x1 : ((w6.alloc (.cells #[.int .i64 1, .int .i64 0, .int .i64 1, .slice none 0 0, .slice none 0 0] 72)).setCell ⟨w5.heap.size, 11, none⟩ (.slice (some ⟨w6.heap.size, 0, none⟩) 1 1)).cell? ⟨w5.heap.size, 1, none⟩ = some (.int .i64 m.view) := (blk_cell HNb0.out 1).trans rfl
        have x2 : ((w6.alloc (.cells #[.int .i64 1, .int .i64 0, .int .i64 1, .slice none 0 0, .slice none 0 0] 72)).setCell ⟨w5.heap.size, 11, none⟩ (.slice (some ⟨w6.heap.size, 0, none⟩) 1 1)).cell? ⟨w5.heap.size, 2, none⟩ = some (.int .i64 m.seq) := (blk_cell HNb0.out 2).trans rfl
        have x3 : ((w6.alloc (.cells #[.int .i64 1, .int .i64 0, .int .i64 1, .slice none 0 0, .slice none 0 0] 72)).setCell ⟨w5.heap.size, 11, none⟩ (.slice (some ⟨w6.heap.size, 0, none⟩) 1 1)).cell? ⟨w5.heap.size, 3, none⟩ = some (.int .i64 m.client) := (blk_cell HNb0.out 3).trans rfl
        have x4 : ((w6.alloc (.cells #[.int .i64 1, .int .i64 0, .int .i64 1, .slice none 0 0, .slice none 0 0] 72)).setCell ⟨w5.heap.size, 11, none⟩ (.slice (some ⟨w6.heap.size, 0, none⟩) 1 1)).cell? ⟨w5.heap.size, 4, none⟩ = some (.int .i64 m.stamp) := (blk_cell HNb0.out 4).trans rfl
        have x5 : ((w6.alloc (.cells #[.int .i64 1, .int .i64 0, .int .i64 1, .slice none 0 0, .slice none 0 0] 72)).setCell ⟨w5.heap.size, 11, none⟩ (.slice (some ⟨w6.heap.size, 0, none⟩) 1 1)).cell? ⟨w5.heap.size, 5, none⟩ = some (.int .i64 m.entry.f0) := (blk_cell HNb0.out 5).trans rfl
        have x6 : ((w6.alloc (.cells #[.int .i64 1, .int .i64 0, .int .i64 1, .slice none 0 0, .slice none 0 0] 72)).setCell ⟨w5.heap.size, 11, none⟩ (.slice (some ⟨w6.heap.size, 0, none⟩) 1 1)).cell? ⟨w5.heap.size, 6, none⟩ = some (.int .i64 m.entry.f1) := (blk_cell HNb0.out 6).trans rfl
        have x7 : ((w6.alloc (.cells #[.int .i64 1, .int .i64 0, .int .i64 1, .slice none 0 0, .slice none 0 0] 72)).setCell ⟨w5.heap.size, 11, none⟩ (.slice (some ⟨w6.heap.size, 0, none⟩) 1 1)).cell? ⟨w5.heap.size, 7, none⟩ = some (.int .i64 m.entry.f2) := (blk_cell HNb0.out 7).trans rfl
        have x8 : ((w6.alloc (.cells #[.int .i64 1, .int .i64 0, .int .i64 1, .slice none 0 0, .slice none 0 0] 72)).setCell ⟨w5.heap.size, 11, none⟩ (.slice (some ⟨w6.heap.size, 0, none⟩) 1 1)).cell? ⟨w5.heap.size, 8, none⟩ = some (.slice (b 0) m.entry.f3.length (c 0)) := (blk_cell HNb0.out 8).trans rfl
        have x9 : ((w6.alloc (.cells #[.int .i64 1, .int .i64 0, .int .i64 1, .slice none 0 0, .slice none 0 0] 72)).setCell ⟨w5.heap.size, 11, none⟩ (.slice (some ⟨w6.heap.size, 0, none⟩) 1 1)).cell? ⟨w5.heap.size, 9, none⟩ = some (.slice (b 1) m.digest.length (c 1)) := (blk_cell HNb0.out 9).trans rfl
        have x10 : ((w6.alloc (.cells #[.int .i64 1, .int .i64 0, .int .i64 1, .slice none 0 0, .slice none 0 0] 72)).setCell ⟨w5.heap.size, 11, none⟩ (.slice (some ⟨w6.heap.size, 0, none⟩) 1 1)).cell? ⟨w5.heap.size, 10, none⟩ = some (.slice (b 2) m.data.length (c 2)) := (blk_cell HNb0.out 10).trans rfl
        have x11 : ((w6.alloc (.cells #[.int .i64 1, .int .i64 0, .int .i64 1, .slice none 0 0, .slice none 0 0] 72)).setCell ⟨w5.heap.size, 11, none⟩ (.slice (some ⟨w6.heap.size, 0, none⟩) 1 1)).cell? ⟨w5.heap.size, 11, none⟩ = some (.slice (some ⟨w6.heap.size, 0, none⟩) 1 1) := (blk_cell HNb0.out 11).trans rfl
        have x12 : ((w6.alloc (.cells #[.int .i64 1, .int .i64 0, .int .i64 1, .slice none 0 0, .slice none 0 0] 72)).setCell ⟨w5.heap.size, 11, none⟩ (.slice (some ⟨w6.heap.size, 0, none⟩) 1 1)).cell? ⟨w5.heap.size, 12, none⟩ = some (.slice (b 4) m.proven.length (c 4)) := (blk_cell HNb0.out 12).trans rfl
        go_wp2_with (fail)
        all_goals (try (go_ret; exact ⟨rfl, HB7.out⟩))
        · have hp : hasB (partsS m.kind) 108 = false := parts_off (c := 108) [11, 12] (by decide) (by have hh : ((m.kind == 11) = false) ∧ (m.kind == 12) = false := (by assumption); simp at hh; simp; omega)
          have hS : encP { m with proof := [⟨⟨1, 0⟩, 1, [], []⟩] } = ([], 81) := small (t := (108, decide (([⟨⟨1, 0⟩, 1, [], []⟩] : List S72).length = 0))) HZ.out rfl (by simp [tabE]) (by decide) hp
          have hMn := HM5.out.below HB57.out
          have hE : Calls Try.prog 65 #[.agg #[.int .i64 m.kind, .int .i64 m.view, .int .i64 m.seq, .int .i64 m.client, .int .i64 m.stamp, .int .i64 m.entry.f0, .int .i64 m.entry.f1, .int .i64 m.entry.f2, .slice (b 0) m.entry.f3.length (c 0), .slice (b 1) m.digest.length (c 1), .slice (b 2) m.data.length (c 2), .slice (some ⟨w6.heap.size, 0, none⟩) 1 1, .slice (b 4) m.proven.length (c 4)]] ((w6.alloc (.cells #[.int .i64 1, .int .i64 0, .int .i64 1, .slice none 0 0, .slice none 0 0] 72)).setCell ⟨w5.heap.size, 11, none⟩ (.slice (some ⟨w6.heap.size, 0, none⟩) 1 1)) _ := encode_calls { m with proof := [⟨⟨1, 0⟩, 1, [], []⟩] } (fun j => match j with | 3 => some ⟨w6.heap.size, 0, none⟩ | _ => b j) (fun j => match j with | 3 => 1 | _ => c j) [] 81 _ ⟨hMn.r0, hMn.l0, hMn.r1, hMn.l1, hMn.r2, hMn.l2, (C_one (cs := [.int .i64 1, .int .i64 0, .int .i64 1, .slice none 0 0, .slice none 0 0]) HK8.out (k72_mk _ _ (Nat.le_refl 0) (Kd.C_nil_ _ _) (Nat.le_refl 0) (Kd.C_nil_ _ _))), Nat.le_refl _, hMn.r4, hMn.l4⟩ hS
          with_reducible refine hE.mono ?_
          rintro e w8 ⟨A8, c8, rfl, hc8, hC8, hB⟩
          have HB8 := Aside0.mk (below_then HB7.out HB7.out.size hB)
          clear hB hE hC8 hc8 hMn hS x0 x1 x2 x3 x4 x5 x6 x7 x8 x9 x10 x11 x12
          go_wp2_with (fail)
          go_ret
          exact ⟨rfl, HB8.out⟩
      · subst hk
        have HN7 := Aside0.mk ((Below.heap_alloc w6 (.cells #[.int .i64 0, .int .i64 0, .int .i64 (-1), .int .i64 0, .int .i64 0, .slice none 0 0, .slice none 0 0] 101) w5.heap.size (blk_lt2 HN6.out)).trans HN6.out)
        have HK7 := Aside0.mk (blk_new w6 (.cells #[.int .i64 0, .int .i64 0, .int .i64 (-1), .int .i64 0, .int .i64 0, .slice none 0 0, .slice none 0 0] 101))
        have z12 : (w6.alloc (.cells #[.int .i64 0, .int .i64 0, .int .i64 (-1), .int .i64 0, .int .i64 0, .slice none 0 0, .slice none 0 0] 101)).cell? ⟨w5.heap.size, 12, none⟩ = some (.slice (b 4) m.proven.length (c 4)) := (blk_cell HN7.out 12).trans rfl
        have f12 : (w6.alloc (.cells #[.int .i64 0, .int .i64 0, .int .i64 (-1), .int .i64 0, .int .i64 0, .slice none 0 0, .slice none 0 0] 101)).frozen? ⟨w5.heap.size, 12, none⟩ = false := blk_frozen HN7.out 12
        have HNb0 : Aside0 (((w6.alloc (.cells #[.int .i64 0, .int .i64 0, .int .i64 (-1), .int .i64 0, .int .i64 0, .slice none 0 0, .slice none 0 0] 101)).setCell ⟨w5.heap.size, 12, none⟩ (.slice (some ⟨w6.heap.size, 0, none⟩) 1 1)).heap[w5.heap.size]? = some (.cells #[.int .i64 m.kind, .int .i64 m.view, .int .i64 m.seq, .int .i64 m.client, .int .i64 m.stamp, .int .i64 m.entry.f0, .int .i64 m.entry.f1, .int .i64 m.entry.f2, .slice (b 0) m.entry.f3.length (c 0), .slice (b 1) m.digest.length (c 1), .slice (b 2) m.data.length (c 2), .slice (b 3) m.proof.length (c 3), .slice (some ⟨w6.heap.size, 0, none⟩) 1 1] 91)) := ⟨blk_put HN7.out 12 (.slice (some ⟨w6.heap.size, 0, none⟩) 1 1) rfl⟩
        have HB7 := Aside0.mk (below_set (j := 12) (v := .slice (some ⟨w6.heap.size, 0, none⟩) 1 1) (below_alloc HB6.out (.cells #[.int .i64 0, .int .i64 0, .int .i64 (-1), .int .i64 0, .int .i64 0, .slice none 0 0, .slice none 0 0] 101)) HB5.out.size)
        have HB57 := Aside0.mk (below_set (j := 12) (v := .slice (some ⟨w6.heap.size, 0, none⟩) 1 1) (below_alloc HB56.out (.cells #[.int .i64 0, .int .i64 0, .int .i64 (-1), .int .i64 0, .int .i64 0, .slice none 0 0, .slice none 0 0] 101)) (Nat.le_refl _))
        have HK8 := Aside0.mk ((Below.heap_setCell (w6.alloc (.cells #[.int .i64 0, .int .i64 0, .int .i64 (-1), .int .i64 0, .int .i64 0, .slice none 0 0, .slice none 0 0] 101)) ⟨w5.heap.size, 12, none⟩ (.slice (some ⟨w6.heap.size, 0, none⟩) 1 1) w6.heap.size (by have := blk_lt2 HN6.out; simp; omega)).trans HK7.out)
        have x0 : ((w6.alloc (.cells #[.int .i64 0, .int .i64 0, .int .i64 (-1), .int .i64 0, .int .i64 0, .slice none 0 0, .slice none 0 0] 101)).setCell ⟨w5.heap.size, 12, none⟩ (.slice (some ⟨w6.heap.size, 0, none⟩) 1 1)).cell? ⟨w5.heap.size, 0, none⟩ = some (.int .i64 m.kind) := (blk_cell HNb0.out 0).trans rfl
        have x1 : ((w6.alloc (.cells #[.int .i64 0, .int .i64 0, .int .i64 (-1), .int .i64 0, .int .i64 0, .slice none 0 0, .slice none 0 0] 101)).setCell ⟨w5.heap.size, 12, none⟩ (.slice (some ⟨w6.heap.size, 0, none⟩) 1 1)).cell? ⟨w5.heap.size, 1, none⟩ = some (.int .i64 m.view) := (blk_cell HNb0.out 1).trans rfl
        have x2 : ((w6.alloc (.cells #[.int .i64 0, .int .i64 0, .int .i64 (-1), .int .i64 0, .int .i64 0, .slice none 0 0, .slice none 0 0] 101)).setCell ⟨w5.heap.size, 12, none⟩ (.slice (some ⟨w6.heap.size, 0, none⟩) 1 1)).cell? ⟨w5.heap.size, 2, none⟩ = some (.int .i64 m.seq) := (blk_cell HNb0.out 2).trans rfl
        have x3 : ((w6.alloc (.cells #[.int .i64 0, .int .i64 0, .int .i64 (-1), .int .i64 0, .int .i64 0, .slice none 0 0, .slice none 0 0] 101)).setCell ⟨w5.heap.size, 12, none⟩ (.slice (some ⟨w6.heap.size, 0, none⟩) 1 1)).cell? ⟨w5.heap.size, 3, none⟩ = some (.int .i64 m.client) := (blk_cell HNb0.out 3).trans rfl
        have x4 : ((w6.alloc (.cells #[.int .i64 0, .int .i64 0, .int .i64 (-1), .int .i64 0, .int .i64 0, .slice none 0 0, .slice none 0 0] 101)).setCell ⟨w5.heap.size, 12, none⟩ (.slice (some ⟨w6.heap.size, 0, none⟩) 1 1)).cell? ⟨w5.heap.size, 4, none⟩ = some (.int .i64 m.stamp) := (blk_cell HNb0.out 4).trans rfl
        have x5 : ((w6.alloc (.cells #[.int .i64 0, .int .i64 0, .int .i64 (-1), .int .i64 0, .int .i64 0, .slice none 0 0, .slice none 0 0] 101)).setCell ⟨w5.heap.size, 12, none⟩ (.slice (some ⟨w6.heap.size, 0, none⟩) 1 1)).cell? ⟨w5.heap.size, 5, none⟩ = some (.int .i64 m.entry.f0) := (blk_cell HNb0.out 5).trans rfl
        have x6 : ((w6.alloc (.cells #[.int .i64 0, .int .i64 0, .int .i64 (-1), .int .i64 0, .int .i64 0, .slice none 0 0, .slice none 0 0] 101)).setCell ⟨w5.heap.size, 12, none⟩ (.slice (some ⟨w6.heap.size, 0, none⟩) 1 1)).cell? ⟨w5.heap.size, 6, none⟩ = some (.int .i64 m.entry.f1) := (blk_cell HNb0.out 6).trans rfl
        have x7 : ((w6.alloc (.cells #[.int .i64 0, .int .i64 0, .int .i64 (-1), .int .i64 0, .int .i64 0, .slice none 0 0, .slice none 0 0] 101)).setCell ⟨w5.heap.size, 12, none⟩ (.slice (some ⟨w6.heap.size, 0, none⟩) 1 1)).cell? ⟨w5.heap.size, 7, none⟩ = some (.int .i64 m.entry.f2) := (blk_cell HNb0.out 7).trans rfl
        have x8 : ((w6.alloc (.cells #[.int .i64 0, .int .i64 0, .int .i64 (-1), .int .i64 0, .int .i64 0, .slice none 0 0, .slice none 0 0] 101)).setCell ⟨w5.heap.size, 12, none⟩ (.slice (some ⟨w6.heap.size, 0, none⟩) 1 1)).cell? ⟨w5.heap.size, 8, none⟩ = some (.slice (b 0) m.entry.f3.length (c 0)) := (blk_cell HNb0.out 8).trans rfl
        have x9 : ((w6.alloc (.cells #[.int .i64 0, .int .i64 0, .int .i64 (-1), .int .i64 0, .int .i64 0, .slice none 0 0, .slice none 0 0] 101)).setCell ⟨w5.heap.size, 12, none⟩ (.slice (some ⟨w6.heap.size, 0, none⟩) 1 1)).cell? ⟨w5.heap.size, 9, none⟩ = some (.slice (b 1) m.digest.length (c 1)) := (blk_cell HNb0.out 9).trans rfl
        have x10 : ((w6.alloc (.cells #[.int .i64 0, .int .i64 0, .int .i64 (-1), .int .i64 0, .int .i64 0, .slice none 0 0, .slice none 0 0] 101)).setCell ⟨w5.heap.size, 12, none⟩ (.slice (some ⟨w6.heap.size, 0, none⟩) 1 1)).cell? ⟨w5.heap.size, 10, none⟩ = some (.slice (b 2) m.data.length (c 2)) := (blk_cell HNb0.out 10).trans rfl
        have x11 : ((w6.alloc (.cells #[.int .i64 0, .int .i64 0, .int .i64 (-1), .int .i64 0, .int .i64 0, .slice none 0 0, .slice none 0 0] 101)).setCell ⟨w5.heap.size, 12, none⟩ (.slice (some ⟨w6.heap.size, 0, none⟩) 1 1)).cell? ⟨w5.heap.size, 11, none⟩ = some (.slice (b 3) m.proof.length (c 3)) := (blk_cell HNb0.out 11).trans rfl
        have x12 : ((w6.alloc (.cells #[.int .i64 0, .int .i64 0, .int .i64 (-1), .int .i64 0, .int .i64 0, .slice none 0 0, .slice none 0 0] 101)).setCell ⟨w5.heap.size, 12, none⟩ (.slice (some ⟨w6.heap.size, 0, none⟩) 1 1)).cell? ⟨w5.heap.size, 12, none⟩ = some (.slice (some ⟨w6.heap.size, 0, none⟩) 1 1) := (blk_cell HNb0.out 12).trans rfl
        go_wp2_with (fail)
        all_goals (try (go_ret; exact ⟨rfl, HB7.out⟩))
        · have hp : hasB (partsS m.kind) 112 = false := parts_off (c := 112) [11] (by decide) (by have hh : (m.kind == 11) = false := (by assumption); simp at hh; simp; omega)
          have hS : encP { m with proven := [⟨0, 0, ⟨-1, 0, 0, []⟩, []⟩] } = ([], 81) := small (t := (112, decide (([⟨0, 0, ⟨-1, 0, 0, []⟩, []⟩] : List S101).length = 0))) HZ.out rfl (by simp [tabE]) (by decide) hp
          have hMn := HM5.out.below HB57.out
          have hE : Calls Try.prog 65 #[.agg #[.int .i64 m.kind, .int .i64 m.view, .int .i64 m.seq, .int .i64 m.client, .int .i64 m.stamp, .int .i64 m.entry.f0, .int .i64 m.entry.f1, .int .i64 m.entry.f2, .slice (b 0) m.entry.f3.length (c 0), .slice (b 1) m.digest.length (c 1), .slice (b 2) m.data.length (c 2), .slice (b 3) m.proof.length (c 3), .slice (some ⟨w6.heap.size, 0, none⟩) 1 1]] ((w6.alloc (.cells #[.int .i64 0, .int .i64 0, .int .i64 (-1), .int .i64 0, .int .i64 0, .slice none 0 0, .slice none 0 0] 101)).setCell ⟨w5.heap.size, 12, none⟩ (.slice (some ⟨w6.heap.size, 0, none⟩) 1 1)) _ := encode_calls { m with proven := [⟨0, 0, ⟨-1, 0, 0, []⟩, []⟩] } (fun j => match j with | 4 => some ⟨w6.heap.size, 0, none⟩ | _ => b j) (fun j => match j with | 4 => 1 | _ => c j) [] 81 _ ⟨hMn.r0, hMn.l0, hMn.r1, hMn.l1, hMn.r2, hMn.l2, hMn.r3, hMn.l3, (C_one (cs := [.int .i64 0, .int .i64 0, .int .i64 (-1), .int .i64 0, .int .i64 0, .slice none 0 0, .slice none 0 0]) HK8.out (k101_mk _ _ (Nat.le_refl 0) (Kd.C_nil_ _ _) (Nat.le_refl 0) (Kd.C_nil_ _ _))), Nat.le_refl _⟩ hS
          with_reducible refine hE.mono ?_
          rintro e w8 ⟨A8, c8, rfl, hc8, hC8, hB⟩
          have HB8 := Aside0.mk (below_then HB7.out HB7.out.size hB)
          clear hB hE hC8 hc8 hMn hS x0 x1 x2 x3 x4 x5 x6 x7 x8 x9 x10 x11 x12
          go_wp2_with (fail)
          go_ret
          exact ⟨rfl, HB8.out⟩
      · subst hk
        have HN7 := Aside0.mk ((Below.heap_alloc w6 (.cells (Array.replicate 32 (.int .u8 0)) 5) w5.heap.size (blk_lt2 HN6.out)).trans HN6.out)
        have HK7 := Aside0.mk (blk_new w6 (.cells (Array.replicate 32 (.int .u8 0)) 5))
        have z9 : (w6.alloc (.cells (Array.replicate 32 (.int .u8 0)) 5)).cell? ⟨w5.heap.size, 9, none⟩ = some (.slice (b 1) m.digest.length (c 1)) := (blk_cell HN7.out 9).trans rfl
        have f9 : (w6.alloc (.cells (Array.replicate 32 (.int .u8 0)) 5)).frozen? ⟨w5.heap.size, 9, none⟩ = false := blk_frozen HN7.out 9
        have HNb0 : Aside0 (((w6.alloc (.cells (Array.replicate 32 (.int .u8 0)) 5)).setCell ⟨w5.heap.size, 9, none⟩ (.slice (some ⟨w6.heap.size, 0, none⟩) 32 32)).heap[w5.heap.size]? = some (.cells #[.int .i64 m.kind, .int .i64 m.view, .int .i64 m.seq, .int .i64 m.client, .int .i64 m.stamp, .int .i64 m.entry.f0, .int .i64 m.entry.f1, .int .i64 m.entry.f2, .slice (b 0) m.entry.f3.length (c 0), .slice (some ⟨w6.heap.size, 0, none⟩) 32 32, .slice (b 2) m.data.length (c 2), .slice (b 3) m.proof.length (c 3), .slice (b 4) m.proven.length (c 4)] 91)) := ⟨blk_put HN7.out 9 (.slice (some ⟨w6.heap.size, 0, none⟩) 32 32) rfl⟩
        have HB7 := Aside0.mk (below_set (j := 9) (v := .slice (some ⟨w6.heap.size, 0, none⟩) 32 32) (below_alloc HB6.out (.cells (Array.replicate 32 (.int .u8 0)) 5)) HB5.out.size)
        have HB57 := Aside0.mk (below_set (j := 9) (v := .slice (some ⟨w6.heap.size, 0, none⟩) 32 32) (below_alloc HB56.out (.cells (Array.replicate 32 (.int .u8 0)) 5)) (Nat.le_refl _))
        have HK8 := Aside0.mk ((Below.heap_setCell (w6.alloc (.cells (Array.replicate 32 (.int .u8 0)) 5)) ⟨w5.heap.size, 9, none⟩ (.slice (some ⟨w6.heap.size, 0, none⟩) 32 32) w6.heap.size (by have := blk_lt2 HN6.out; simp; omega)).trans HK7.out)
        have x0 : ((w6.alloc (.cells (Array.replicate 32 (.int .u8 0)) 5)).setCell ⟨w5.heap.size, 9, none⟩ (.slice (some ⟨w6.heap.size, 0, none⟩) 32 32)).cell? ⟨w5.heap.size, 0, none⟩ = some (.int .i64 m.kind) := (blk_cell HNb0.out 0).trans rfl
        have x1 : ((w6.alloc (.cells (Array.replicate 32 (.int .u8 0)) 5)).setCell ⟨w5.heap.size, 9, none⟩ (.slice (some ⟨w6.heap.size, 0, none⟩) 32 32)).cell? ⟨w5.heap.size, 1, none⟩ = some (.int .i64 m.view) := (blk_cell HNb0.out 1).trans rfl
        have x2 : ((w6.alloc (.cells (Array.replicate 32 (.int .u8 0)) 5)).setCell ⟨w5.heap.size, 9, none⟩ (.slice (some ⟨w6.heap.size, 0, none⟩) 32 32)).cell? ⟨w5.heap.size, 2, none⟩ = some (.int .i64 m.seq) := (blk_cell HNb0.out 2).trans rfl
        have x3 : ((w6.alloc (.cells (Array.replicate 32 (.int .u8 0)) 5)).setCell ⟨w5.heap.size, 9, none⟩ (.slice (some ⟨w6.heap.size, 0, none⟩) 32 32)).cell? ⟨w5.heap.size, 3, none⟩ = some (.int .i64 m.client) := (blk_cell HNb0.out 3).trans rfl
        have x4 : ((w6.alloc (.cells (Array.replicate 32 (.int .u8 0)) 5)).setCell ⟨w5.heap.size, 9, none⟩ (.slice (some ⟨w6.heap.size, 0, none⟩) 32 32)).cell? ⟨w5.heap.size, 4, none⟩ = some (.int .i64 m.stamp) := (blk_cell HNb0.out 4).trans rfl
        have x5 : ((w6.alloc (.cells (Array.replicate 32 (.int .u8 0)) 5)).setCell ⟨w5.heap.size, 9, none⟩ (.slice (some ⟨w6.heap.size, 0, none⟩) 32 32)).cell? ⟨w5.heap.size, 5, none⟩ = some (.int .i64 m.entry.f0) := (blk_cell HNb0.out 5).trans rfl
        have x6 : ((w6.alloc (.cells (Array.replicate 32 (.int .u8 0)) 5)).setCell ⟨w5.heap.size, 9, none⟩ (.slice (some ⟨w6.heap.size, 0, none⟩) 32 32)).cell? ⟨w5.heap.size, 6, none⟩ = some (.int .i64 m.entry.f1) := (blk_cell HNb0.out 6).trans rfl
        have x7 : ((w6.alloc (.cells (Array.replicate 32 (.int .u8 0)) 5)).setCell ⟨w5.heap.size, 9, none⟩ (.slice (some ⟨w6.heap.size, 0, none⟩) 32 32)).cell? ⟨w5.heap.size, 7, none⟩ = some (.int .i64 m.entry.f2) := (blk_cell HNb0.out 7).trans rfl
        have x8 : ((w6.alloc (.cells (Array.replicate 32 (.int .u8 0)) 5)).setCell ⟨w5.heap.size, 9, none⟩ (.slice (some ⟨w6.heap.size, 0, none⟩) 32 32)).cell? ⟨w5.heap.size, 8, none⟩ = some (.slice (b 0) m.entry.f3.length (c 0)) := (blk_cell HNb0.out 8).trans rfl
        have x9 : ((w6.alloc (.cells (Array.replicate 32 (.int .u8 0)) 5)).setCell ⟨w5.heap.size, 9, none⟩ (.slice (some ⟨w6.heap.size, 0, none⟩) 32 32)).cell? ⟨w5.heap.size, 9, none⟩ = some (.slice (some ⟨w6.heap.size, 0, none⟩) 32 32) := (blk_cell HNb0.out 9).trans rfl
        have x10 : ((w6.alloc (.cells (Array.replicate 32 (.int .u8 0)) 5)).setCell ⟨w5.heap.size, 9, none⟩ (.slice (some ⟨w6.heap.size, 0, none⟩) 32 32)).cell? ⟨w5.heap.size, 10, none⟩ = some (.slice (b 2) m.data.length (c 2)) := (blk_cell HNb0.out 10).trans rfl
        have x11 : ((w6.alloc (.cells (Array.replicate 32 (.int .u8 0)) 5)).setCell ⟨w5.heap.size, 9, none⟩ (.slice (some ⟨w6.heap.size, 0, none⟩) 32 32)).cell? ⟨w5.heap.size, 11, none⟩ = some (.slice (b 3) m.proof.length (c 3)) := (blk_cell HNb0.out 11).trans rfl
        have x12 : ((w6.alloc (.cells (Array.replicate 32 (.int .u8 0)) 5)).setCell ⟨w5.heap.size, 9, none⟩ (.slice (some ⟨w6.heap.size, 0, none⟩) 32 32)).cell? ⟨w5.heap.size, 12, none⟩ = some (.slice (b 4) m.proven.length (c 4)) := (blk_cell HNb0.out 12).trans rfl
        go_wp2_with (rw [mk32])
        all_goals (try (go_ret; exact ⟨rfl, HB7.out⟩))
        · have hp : hasB (partsS m.kind) 100 = false := parts_off (c := 100) [2, 7, 10] (by decide) (by have hh : (((m.kind == 2) = false) ∧ (m.kind == 7) = false) ∧ (m.kind == 10) = false := (by assumption); simp at hh; simp; omega)
          have hS : encP { m with digest := List.replicate 32 0 } = ([], 81) := small (t := (100, decide ((List.replicate 32 (0 : Int)).length = 0))) HZ.out rfl (by simp [tabE]) (by decide) hp
          have hMn := HM5.out.below HB57.out
          have hE : Calls Try.prog 65 #[.agg #[.int .i64 m.kind, .int .i64 m.view, .int .i64 m.seq, .int .i64 m.client, .int .i64 m.stamp, .int .i64 m.entry.f0, .int .i64 m.entry.f1, .int .i64 m.entry.f2, .slice (b 0) m.entry.f3.length (c 0), .slice (some ⟨w6.heap.size, 0, none⟩) 32 32, .slice (b 2) m.data.length (c 2), .slice (b 3) m.proof.length (c 3), .slice (b 4) m.proven.length (c 4)]] ((w6.alloc (.cells (Array.replicate 32 (.int .u8 0)) 5)).setCell ⟨w5.heap.size, 9, none⟩ (.slice (some ⟨w6.heap.size, 0, none⟩) 32 32)) _ := encode_calls { m with digest := List.replicate 32 0 } (fun j => match j with | 1 => some ⟨w6.heap.size, 0, none⟩ | _ => b j) (fun j => match j with | 1 => 32 | _ => c j) [] 81 _ ⟨hMn.r0, hMn.l0, (C_bytes_block (l := List.replicate 32 0) HK8.out (by simp)), Nat.le_refl _, hMn.r2, hMn.l2, hMn.r3, hMn.l3, hMn.r4, hMn.l4⟩ hS
          with_reducible refine hE.mono ?_
          rintro e w8 ⟨A8, c8, rfl, hc8, hC8, hB⟩
          have HB8 := Aside0.mk (below_then HB7.out HB7.out.size hB)
          clear hB hE hC8 hc8 hMn hS x0 x1 x2 x3 x4 x5 x6 x7 x8 x9 x10 x11 x12
          go_wp2_with (fail)
          go_ret
          exact ⟨rfl, HB8.out⟩
      · subst hk
        have z5 : w6.cell? ⟨w5.heap.size, 5, none⟩ = some (.int .i64 m.entry.f0) := (blk_cell HN6.out 5).trans rfl
        have f5 : w6.frozen? ⟨w5.heap.size, 5, none⟩ = false := blk_frozen HN6.out 5
        have HNb0 : Aside0 ((w6.setCell ⟨w5.heap.size, 5, none⟩ (.int .i64 (-1))).heap[w5.heap.size]? = some (.cells #[.int .i64 m.kind, .int .i64 m.view, .int .i64 m.seq, .int .i64 m.client, .int .i64 m.stamp, .int .i64 (-1), .int .i64 m.entry.f1, .int .i64 m.entry.f2, .slice (b 0) m.entry.f3.length (c 0), .slice (b 1) m.digest.length (c 1), .slice (b 2) m.data.length (c 2), .slice (b 3) m.proof.length (c 3), .slice (b 4) m.proven.length (c 4)] 91)) := ⟨blk_put HN6.out 5 (.int .i64 (-1)) rfl⟩
        have z6 : (w6.setCell ⟨w5.heap.size, 5, none⟩ (.int .i64 (-1))).cell? ⟨w5.heap.size, 6, none⟩ = some (.int .i64 m.entry.f1) := (blk_cell HNb0.out 6).trans rfl
        have f6 : (w6.setCell ⟨w5.heap.size, 5, none⟩ (.int .i64 (-1))).frozen? ⟨w5.heap.size, 6, none⟩ = false := blk_frozen HNb0.out 6
        have HNb1 : Aside0 (((w6.setCell ⟨w5.heap.size, 5, none⟩ (.int .i64 (-1))).setCell ⟨w5.heap.size, 6, none⟩ (.int .i64 0)).heap[w5.heap.size]? = some (.cells #[.int .i64 m.kind, .int .i64 m.view, .int .i64 m.seq, .int .i64 m.client, .int .i64 m.stamp, .int .i64 (-1), .int .i64 0, .int .i64 m.entry.f2, .slice (b 0) m.entry.f3.length (c 0), .slice (b 1) m.digest.length (c 1), .slice (b 2) m.data.length (c 2), .slice (b 3) m.proof.length (c 3), .slice (b 4) m.proven.length (c 4)] 91)) := ⟨blk_put HNb0.out 6 (.int .i64 0) rfl⟩
        have z7 : ((w6.setCell ⟨w5.heap.size, 5, none⟩ (.int .i64 (-1))).setCell ⟨w5.heap.size, 6, none⟩ (.int .i64 0)).cell? ⟨w5.heap.size, 7, none⟩ = some (.int .i64 m.entry.f2) := (blk_cell HNb1.out 7).trans rfl
        have f7 : ((w6.setCell ⟨w5.heap.size, 5, none⟩ (.int .i64 (-1))).setCell ⟨w5.heap.size, 6, none⟩ (.int .i64 0)).frozen? ⟨w5.heap.size, 7, none⟩ = false := blk_frozen HNb1.out 7
        have HNb2 : Aside0 ((((w6.setCell ⟨w5.heap.size, 5, none⟩ (.int .i64 (-1))).setCell ⟨w5.heap.size, 6, none⟩ (.int .i64 0)).setCell ⟨w5.heap.size, 7, none⟩ (.int .i64 0)).heap[w5.heap.size]? = some (.cells #[.int .i64 m.kind, .int .i64 m.view, .int .i64 m.seq, .int .i64 m.client, .int .i64 m.stamp, .int .i64 (-1), .int .i64 0, .int .i64 0, .slice (b 0) m.entry.f3.length (c 0), .slice (b 1) m.digest.length (c 1), .slice (b 2) m.data.length (c 2), .slice (b 3) m.proof.length (c 3), .slice (b 4) m.proven.length (c 4)] 91)) := ⟨blk_put HNb1.out 7 (.int .i64 0) rfl⟩
        have z8 : (((w6.setCell ⟨w5.heap.size, 5, none⟩ (.int .i64 (-1))).setCell ⟨w5.heap.size, 6, none⟩ (.int .i64 0)).setCell ⟨w5.heap.size, 7, none⟩ (.int .i64 0)).cell? ⟨w5.heap.size, 8, none⟩ = some (.slice (b 0) m.entry.f3.length (c 0)) := (blk_cell HNb2.out 8).trans rfl
        have f8 : (((w6.setCell ⟨w5.heap.size, 5, none⟩ (.int .i64 (-1))).setCell ⟨w5.heap.size, 6, none⟩ (.int .i64 0)).setCell ⟨w5.heap.size, 7, none⟩ (.int .i64 0)).frozen? ⟨w5.heap.size, 8, none⟩ = false := blk_frozen HNb2.out 8
        have HNb3 : Aside0 (((((w6.setCell ⟨w5.heap.size, 5, none⟩ (.int .i64 (-1))).setCell ⟨w5.heap.size, 6, none⟩ (.int .i64 0)).setCell ⟨w5.heap.size, 7, none⟩ (.int .i64 0)).setCell ⟨w5.heap.size, 8, none⟩ (.slice none 0 0)).heap[w5.heap.size]? = some (.cells #[.int .i64 m.kind, .int .i64 m.view, .int .i64 m.seq, .int .i64 m.client, .int .i64 m.stamp, .int .i64 (-1), .int .i64 0, .int .i64 0, .slice none 0 0, .slice (b 1) m.digest.length (c 1), .slice (b 2) m.data.length (c 2), .slice (b 3) m.proof.length (c 3), .slice (b 4) m.proven.length (c 4)] 91)) := ⟨blk_put HNb2.out 8 (.slice none 0 0) rfl⟩
        have HB7 := Aside0.mk (below_set (j := 8) (v := .slice none 0 0) (below_set (j := 7) (v := .int .i64 0) (below_set (j := 6) (v := .int .i64 0) (below_set (j := 5) (v := .int .i64 (-1)) HB6.out HB5.out.size) HB5.out.size) HB5.out.size) HB5.out.size)
        have HB57 := Aside0.mk (below_set (j := 8) (v := .slice none 0 0) (below_set (j := 7) (v := .int .i64 0) (below_set (j := 6) (v := .int .i64 0) (below_set (j := 5) (v := .int .i64 (-1)) HB56.out (Nat.le_refl _)) (Nat.le_refl _)) (Nat.le_refl _)) (Nat.le_refl _))
        clear z5 f5 z6 f6 z7 f7 z8 f8
        have HT := Aside0.mk (show w6.there w5.heap.size 5 4 from fun j hj => by rcases (by omega : j = 0 ∨ j = 1 ∨ j = 2 ∨ j = 3) with rfl | rfl | rfl | rfl <;> exact ⟨by rw [blk_cell HN6.out _]; rfl, blk_frozen HN6.out _⟩)
        go_wp2_with (refine wpList_store_mid rfl 87 (.tmp 186) (.tmp 185) rfl w5.heap.size 5 #[.int .i64 (-1), .int .i64 0, .int .i64 0, .slice none 0 0] rfl rfl HT.out size87 (by simp [Value.oneCell']) ?_; obtain ⟨w7, hw7⟩ : ∃ W, W = w6.setCells w5.heap.size 5 [.int .i64 (-1), .int .i64 0, .int .i64 0, .slice none 0 0] := ⟨_, rfl⟩; rw [show w6.setCells w5.heap.size 5 (#[.int .i64 (-1), .int .i64 0, .int .i64 0, .slice none 0 0] : Array Value).toList = w7 from hw7.symm]; have HN7 : Aside0 (w7.heap[w5.heap.size]? = some (.cells #[.int .i64 m.kind, .int .i64 m.view, .int .i64 m.seq, .int .i64 m.client, .int .i64 m.stamp, .int .i64 (-1), .int .i64 0, .int .i64 0, .slice none 0 0, .slice (b 1) m.digest.length (c 1), .slice (b 2) m.data.length (c 2), .slice (b 3) m.proof.length (c 3), .slice (b 4) m.proven.length (c 4)] 91)) := ⟨by rw [hw7]; exact HNb3.out⟩; have HBw := Aside0.mk (show Below w.heap.size w w7 by rw [hw7]; exact HB7.out); have HB5w := Aside0.mk (show Below w5.heap.size w5 w7 by rw [hw7]; exact HB57.out); clear hw7; have x0 : w7.cell? ⟨w5.heap.size, 0, none⟩ = some (.int .i64 m.kind) := (blk_cell HN7.out 0).trans rfl; have x1 : w7.cell? ⟨w5.heap.size, 1, none⟩ = some (.int .i64 m.view) := (blk_cell HN7.out 1).trans rfl; have x2 : w7.cell? ⟨w5.heap.size, 2, none⟩ = some (.int .i64 m.seq) := (blk_cell HN7.out 2).trans rfl; have x3 : w7.cell? ⟨w5.heap.size, 3, none⟩ = some (.int .i64 m.client) := (blk_cell HN7.out 3).trans rfl; have x4 : w7.cell? ⟨w5.heap.size, 4, none⟩ = some (.int .i64 m.stamp) := (blk_cell HN7.out 4).trans rfl; have x5 : w7.cell? ⟨w5.heap.size, 5, none⟩ = some (.int .i64 (-1)) := (blk_cell HN7.out 5).trans rfl; have x6 : w7.cell? ⟨w5.heap.size, 6, none⟩ = some (.int .i64 0) := (blk_cell HN7.out 6).trans rfl; have x7 : w7.cell? ⟨w5.heap.size, 7, none⟩ = some (.int .i64 0) := (blk_cell HN7.out 7).trans rfl; have x8 : w7.cell? ⟨w5.heap.size, 8, none⟩ = some (.slice none 0 0) := (blk_cell HN7.out 8).trans rfl; have x9 : w7.cell? ⟨w5.heap.size, 9, none⟩ = some (.slice (b 1) m.digest.length (c 1)) := (blk_cell HN7.out 9).trans rfl; have x10 : w7.cell? ⟨w5.heap.size, 10, none⟩ = some (.slice (b 2) m.data.length (c 2)) := (blk_cell HN7.out 10).trans rfl; have x11 : w7.cell? ⟨w5.heap.size, 11, none⟩ = some (.slice (b 3) m.proof.length (c 3)) := (blk_cell HN7.out 11).trans rfl; have x12 : w7.cell? ⟨w5.heap.size, 12, none⟩ = some (.slice (b 4) m.proven.length (c 4)) := (blk_cell HN7.out 12).trans rfl)
        all_goals (try (go_ret; exact ⟨rfl, HBw.out⟩))
        · have hp : hasB (partsS m.kind) 101 = false := parts_off (c := 101) [3, 4, 5, 6] (by decide) (by have hh : ((((m.kind == 3) = false) ∧ (m.kind == 4) = false) ∧ (m.kind == 5) = false) ∧ (m.kind == 6) = false := (by assumption); simp at hh; simp; omega)
          have hS : encP { m with entry := ⟨-1, 0, 0, []⟩ } = ([], 81) := small (t := (101, decide ((-1 : Int) = 0) && decide ((0 : Int) = 0) && decide ((0 : Int) = 0) && decide (([] : List Int).length = 0))) HZ.out rfl (by simp [tabE]) (by decide) hp
          have hMn := HM5.out.below HB5w.out
          have hE : Calls Try.prog 65 #[.agg #[.int .i64 m.kind, .int .i64 m.view, .int .i64 m.seq, .int .i64 m.client, .int .i64 m.stamp, .int .i64 (-1), .int .i64 0, .int .i64 0, .slice none 0 0, .slice (b 1) m.digest.length (c 1), .slice (b 2) m.data.length (c 2), .slice (b 3) m.proof.length (c 3), .slice (b 4) m.proven.length (c 4)]] w7 _ := encode_calls { m with entry := ⟨-1, 0, 0, []⟩ } (fun j => match j with | 0 => none | _ => b j) (fun j => match j with | 0 => 0 | _ => c j) [] 81 _ ⟨(Kd.C_nil_ _ _), Nat.le_refl _, hMn.r1, hMn.l1, hMn.r2, hMn.l2, hMn.r3, hMn.l3, hMn.r4, hMn.l4⟩ hS
          with_reducible refine hE.mono ?_
          rintro e w8 ⟨A8, c8, rfl, hc8, hC8, hB⟩
          have HB8 := Aside0.mk (below_then HBw.out HBw.out.size hB)
          clear hB hE hC8 hc8 hMn hS x0 x1 x2 x3 x4 x5 x6 x7 x8 x9 x10 x11 x12
          go_wp2_with (fail)
          go_ret
          exact ⟨rfl, HB8.out⟩
      · go_wp2_with (fail)
        go_ret
        exact ⟨rfl, HB6.out⟩
    · have b0 : (x != 0) = true := bne_iff_ne.mpr hx
      clear hx hz
      go_wp2_with (fail)
      go_ret
      exact ⟨rfl, HB4.out⟩
end Go.Proofs.Ytijccobeljoikaa.Ms

/- msg: MsgSmall over what comes in. -/
namespace Go.Proofs.Ytijccobeljoikaa.Ms
open Go.RowKit Go.Proofs.YtijccobeljoikaaW.PrintWords
theorem small_opened {m : S91} {cs : Array Value} {W : World} (k : Int) (h : Opens.k91.K W m cs.toList) (hF : Fit91 m) :
    Calls Try.prog 20 #[.agg cs, .int .i64 k] W fun e w' => e = .returned (.bool true) ∧ Below W.heap.size W w' := by
  obtain ⟨a, d, rfl, hM⟩ := Opens.k91_open h
  exact small_calls m a d k W hM hF
end Go.Proofs.Ytijccobeljoikaa.Ms
