/- Put together of my texts: MuF. -/
import Derived.Test.YtijccobeljoikaaMi14
/- msg: the document: has, parts, letters. -/
namespace Go.Proofs.Ytijccobeljoikaa.Ms
open Go.RowKit Go.Proofs.YtijccobeljoikaaW.PrintWords Go.Proofs.YtijccobeljoikaaW.PrintLast
open Go.Proofs.Ytijccobeljoikaa.Plain Go.Proofs.Ytijccobeljoikaa.Walks
set_option linter.unusedVariables false
set_option linter.unusedSimpArgs false
set_option maxHeartbeats 8000000 in
set_option maxRecDepth 100000 in
theorem has140_calls (p : ByteArray) (c : UInt8) (w : World) (hp : p.size ≤ 1000) : Calls Try.prog 140 #[.string p, .int .u8 (c.toNat : Int)] w fun e w' => e = .returned (.bool (hasB p c)) ∧ w' = w := by
  have hu9 := Try.underlying9
  have hsz : p.size = p.data.toList.length := rfl
  have HSZ := Aside0.mk hsz
  clear hsz
  go_enter Try.func140, Try.ntmps140
  go_wp2_with (fail)
  go_loopw [5] (fun u wr => ∃ i : Nat, u = .int .i64 (i : Int) ∧ i ≤ p.size ∧ Aside0 ((p.data.toList.take i).contains c = false) ∧ wr = w) (fun u _ => p.size - (intOf u).toNat)
  case atStart => exact ⟨0, rfl, Nat.zero_le _, ⟨by simp⟩, rfl⟩
  case round =>
    obtain ⟨i, rfl, hi, HT, rfl⟩ := hrel
    by_cases hlt : i < p.size
    · have d0 : decide ((i : Int) < (p.size : Int)) = true := decide_eq_true (by omega)
      have d0' : decide (i < p.size) = true := decide_eq_true hlt
      have p0 : (0 ≤ (i : Int)) = True := eq_true (by omega)
      have p1 : ((i : Int) < (p.size : Int)) = True := eq_true (by omega)
      have hll : i < p.data.toList.length := hlt
      obtain ⟨b, hb⟩ : ∃ b, p[i]'hlt = b := ⟨_, rfl⟩
      have HBI := Aside0.mk (show p.data.toList[i] = b from by rw [← hb]; rw [Array.getElem_toList]; rfl)
      by_cases h : b = c
      · subst h
        have HQ := Aside0.mk (show hasB p b = true by
          rw [hasB, List.contains_iff_mem, ← HBI.out]; exact List.getElem_mem hll)
        go_wp2_with (fail)
        go_ret
        exact ⟨by rw [HQ.out]; rfl, rfl⟩
      · have e0 : ((b.toNat : Int) == (c.toNat : Int)) = false := beq_eq_false_iff_ne.mpr (fun e => h (UInt8.toNat_inj.1 (by omega)))
        have e1 : (b.toNat == c.toNat) = false := beq_eq_false_iff_ne.mpr (fun e => h (UInt8.toNat_inj.1 e))
        have e2 : (b == c) = false := beq_eq_false_iff_ne.mpr h
        have HN := Aside0.mk (show ¬ c = b from fun e => h e.symm)
        clear h
        go_wp2_with (fail)
        exact ⟨⟨i + 1, by simp, by omega, ⟨by rw [← List.take_append_getElem hll, HBI.out, List.contains_append, HT.out]; simp [HN.out]⟩, by first | rfl | trivial⟩, by simp only [intOf]; omega⟩
    · have d0 : decide ((i : Int) < (p.size : Int)) = false := decide_eq_false (by omega)
      have d0' : decide (i < p.size) = false := decide_eq_false hlt
      have HQ := Aside0.mk (show hasB p c = false by have := HT.out; rw [List.take_of_length_le (by have := HSZ.out; omega)] at this; exact this)
      go_wp2_with (fail)
      go_ret
      exact ⟨by rw [HQ.out]; rfl, rfl⟩
set_option maxHeartbeats 8000000 in
set_option maxRecDepth 100000 in
theorem letters143_calls (A : Option Addr) (c : Nat) (l : List S72) (w : World) (hC : Kd.C k72 w A l.length l) (hc : l.length ≤ c) :
    Calls Try.prog 143 #[.slice A l.length c] w fun e w' => e = .returned (.bool (goodLetters l)) ∧ Below w.heap.size w w' := by
  have hu72 := Try.underlying72
  have HC := Aside0.mk hC
  have hm := hC.2.1
  have HB0 := Aside0.mk (Below.refl w.heap.size w)
  clear hC
  go_enter Try.func143, Try.ntmps143
  go_wp2_with (fail)
  go_loopw [3] (fun u wr => ∃ i : Nat, u = .int .i64 (i : Int) ∧ i ≤ l.length ∧ Aside0 (∀ x ∈ l.take i, goodLetter x = true) ∧ Aside0 (Below w.heap.size w wr)) (fun u _ => l.length - (intOf u).toNat)
  case atStart => exact ⟨0, rfl, Nat.zero_le _, ⟨by simp⟩, HB0⟩
  case round =>
    clear HB0
    obtain ⟨i, rfl, hi, HT, HB⟩ := hrel
    by_cases hlt : i < l.length
    · have b0 : decide ((i : Int) < (l.length : Int)) = true := decide_eq_true (by omega)
      have b0' : decide (i < l.length) = true := decide_eq_true hlt
      have b1 : (0 ≤ (i : Int)) = True := eq_true (by omega)
      have b2 : ((i : Int) < (l.length : Int)) = True := eq_true (by omega)
      obtain ⟨ad, B3, d3, B4, d4, e, hx0, hx1, hx2, hx3, hx4, hl3, hi3, hl4, hi4⟩ := at_T72 (Kd.C_below HC.out HB.out) (i : Int) (by omega) (by omega)
      subst e
      obtain ⟨x, hm⟩ : ∃ x, x = rd_T72 l (i : Int) := ⟨_, rfl⟩
      rw [← hm] at hx0 hx1 hx2 hx3 hx4 hl3 hi3 hl4 hi4
      rw [Int.toNat_natCast] at hx0 hx1 hx2 hx3 hx4
      have HMI := Aside0.mk (show x = l[i] by rw [hm]; simp [rd_T72, List.getD_eq_getElem?_getD, hlt])
      have HI := Aside0.mk hi4
      clear hm hl3 hi3 hl4 hi4
      go_wp2_with (fail)
      refine (letter116_calls x B3 d3 B4 d4 wr HI.out).mono ?_
      rintro e w2 ⟨rfl, hB⟩
      have HB2 := Aside0.mk (below_then HB.out HB.out.size hB)
      clear hB hx0 hx1 hx2 hx3 hx4
      obtain ⟨q, hq⟩ : ∃ q, goodLetter x = q := ⟨_, rfl⟩
      rw [hq]
      cases q with
      | false =>
        have HQ := Aside0.mk (show goodLetters l = false by
          rw [goodLetters, show l.any badLetter = true from List.any_eq_true.2 ⟨l[i], List.getElem_mem hlt, by rw [← HMI.out, badLetter, hq]; rfl⟩]; simp)
        clear hq
        go_wp2_with (fail)
        go_ret
        exact ⟨by rw [HQ.out]; rfl, HB2.out⟩
      | true =>
        have HQ := Aside0.mk hq
        clear hq
        go_wp2_with (fail)
        exact ⟨⟨i + 1, by simp, by omega, ⟨fun y hy => by
          rw [← List.take_append_getElem hlt, List.mem_append, List.mem_singleton] at hy
          rcases hy with hy | hy
          · exact HT.out y hy
          · rw [hy, ← HMI.out]; exact HQ.out⟩, HB2⟩, by simp only [intOf]; omega⟩
    · have b0 : decide ((i : Int) < (l.length : Int)) = false := decide_eq_false (by omega)
      have b0' : decide (i < l.length) = false := decide_eq_false hlt
      obtain ⟨q, hq⟩ : ∃ q, decide (l.length ≤ 64) = q := ⟨_, rfl⟩
      have hq' : decide ((l.length : Int) ≤ 64) = q := by rw [← hq]; exact decide_eq_decide.2 (by omega)
      have HQ := Aside0.mk (show goodLetters l = q by
        rw [goodLetters, hq, show l.any badLetter = false from List.any_eq_false.2 (fun y hy => by rw [badLetter, HT.out y (by rw [List.take_of_length_le (by omega)]; exact hy)]; decide)]; simp)
      go_wp2_with (fail)
      go_ret
      exact ⟨by rw [HQ.out]; rfl, HB.out⟩
set_option maxHeartbeats 8000000 in
set_option maxRecDepth 100000 in
theorem parts99_calls (k : Int) (w : World) : Calls Try.prog 99 #[.int .i64 k] w fun e w' => e = .returned (.string (partsS k)) ∧ Below w.heap.size w w' := by
  have hu172 := Try.underlying172
  have HX0 := Aside0.mk (blk_new w (.cells #[.string ⟨#[]⟩, .string ⟨#[99, 116, 98]⟩, .string ⟨#[99, 116, 100]⟩, .string ⟨#[118, 115, 101]⟩, .string ⟨#[118, 115, 101]⟩, .string ⟨#[118, 115, 101]⟩, .string ⟨#[115, 101]⟩, .string ⟨#[100]⟩, .string ⟨#[99, 116, 98]⟩, .string ⟨#[115, 99, 116, 98]⟩, .string ⟨#[115, 100]⟩, .string ⟨#[118, 115, 108, 112]⟩, .string ⟨#[118, 108]⟩, .string ⟨#[115]⟩, .string ⟨#[115, 98]⟩] 172))
  have HB0 := Aside0.mk (below_alloc (Below.refl w.heap.size w) (.cells #[.string ⟨#[]⟩, .string ⟨#[99, 116, 98]⟩, .string ⟨#[99, 116, 100]⟩, .string ⟨#[118, 115, 101]⟩, .string ⟨#[118, 115, 101]⟩, .string ⟨#[118, 115, 101]⟩, .string ⟨#[115, 101]⟩, .string ⟨#[100]⟩, .string ⟨#[99, 116, 98]⟩, .string ⟨#[115, 99, 116, 98]⟩, .string ⟨#[115, 100]⟩, .string ⟨#[118, 115, 108, 112]⟩, .string ⟨#[118, 108]⟩, .string ⟨#[115]⟩, .string ⟨#[115, 98]⟩] 172))
  go_enter Try.func99, Try.ntmps99
  go_upto_region 2 with (fail)
  generalize w.alloc (.cells #[.string ⟨#[]⟩, .string ⟨#[99, 116, 98]⟩, .string ⟨#[99, 116, 100]⟩, .string ⟨#[118, 115, 101]⟩, .string ⟨#[118, 115, 101]⟩, .string ⟨#[118, 115, 101]⟩, .string ⟨#[115, 101]⟩, .string ⟨#[100]⟩, .string ⟨#[99, 116, 98]⟩, .string ⟨#[115, 99, 116, 98]⟩, .string ⟨#[115, 100]⟩, .string ⟨#[118, 115, 108, 112]⟩, .string ⟨#[118, 108]⟩, .string ⟨#[115]⟩, .string ⟨#[115, 98]⟩] 172) = w0 at HX0 HB0 ⊢
  by_cases hk : 1 ≤ k ∧ k ≤ 14
  · skip
    have x0 : w0.cell? ⟨w.heap.size, 0, none⟩ = some (.string ⟨#[]⟩) := (blk_cell HX0.out 0).trans rfl
    have x1 : w0.cell? ⟨w.heap.size, 1, none⟩ = some (.string ⟨#[99, 116, 98]⟩) := (blk_cell HX0.out 1).trans rfl
    have x2 : w0.cell? ⟨w.heap.size, 2, none⟩ = some (.string ⟨#[99, 116, 100]⟩) := (blk_cell HX0.out 2).trans rfl
    have x3 : w0.cell? ⟨w.heap.size, 3, none⟩ = some (.string ⟨#[118, 115, 101]⟩) := (blk_cell HX0.out 3).trans rfl
    have x4 : w0.cell? ⟨w.heap.size, 4, none⟩ = some (.string ⟨#[118, 115, 101]⟩) := (blk_cell HX0.out 4).trans rfl
    have x5 : w0.cell? ⟨w.heap.size, 5, none⟩ = some (.string ⟨#[118, 115, 101]⟩) := (blk_cell HX0.out 5).trans rfl
    have x6 : w0.cell? ⟨w.heap.size, 6, none⟩ = some (.string ⟨#[115, 101]⟩) := (blk_cell HX0.out 6).trans rfl
    have x7 : w0.cell? ⟨w.heap.size, 7, none⟩ = some (.string ⟨#[100]⟩) := (blk_cell HX0.out 7).trans rfl
    have x8 : w0.cell? ⟨w.heap.size, 8, none⟩ = some (.string ⟨#[99, 116, 98]⟩) := (blk_cell HX0.out 8).trans rfl
    have x9 : w0.cell? ⟨w.heap.size, 9, none⟩ = some (.string ⟨#[115, 99, 116, 98]⟩) := (blk_cell HX0.out 9).trans rfl
    have x10 : w0.cell? ⟨w.heap.size, 10, none⟩ = some (.string ⟨#[115, 100]⟩) := (blk_cell HX0.out 10).trans rfl
    have x11 : w0.cell? ⟨w.heap.size, 11, none⟩ = some (.string ⟨#[118, 115, 108, 112]⟩) := (blk_cell HX0.out 11).trans rfl
    have x12 : w0.cell? ⟨w.heap.size, 12, none⟩ = some (.string ⟨#[118, 108]⟩) := (blk_cell HX0.out 12).trans rfl
    have x13 : w0.cell? ⟨w.heap.size, 13, none⟩ = some (.string ⟨#[115]⟩) := (blk_cell HX0.out 13).trans rfl
    have x14 : w0.cell? ⟨w.heap.size, 14, none⟩ = some (.string ⟨#[115, 98]⟩) := (blk_cell HX0.out 14).trans rfl
    have : k = 1 ∨ k = 2 ∨ k = 3 ∨ k = 4 ∨ k = 5 ∨ k = 6 ∨ k = 7 ∨ k = 8 ∨ k = 9 ∨ k = 10 ∨ k = 11 ∨ k = 12 ∨ k = 13 ∨ k = 14 := by omega
    rcases this with rfl | rfl | rfl | rfl | rfl | rfl | rfl | rfl | rfl | rfl | rfl | rfl | rfl | rfl
    all_goals (
      go_wp2_with (fail)
      go_ret
      exact ⟨rfl, HB0.out⟩)
  · have HQ := Aside0.mk (show partsS k = ⟨#[]⟩ by
      unfold partsS
      repeat rw [if_neg (by omega)])
    by_cases h0 : k < 1
    · have b0 : decide (k < 1) = true := decide_eq_true h0
      clear h0 hk
      go_wp2_with (fail)
      go_ret
      exact ⟨by rw [HQ.out]; rfl, HB0.out⟩
    · have b0 : decide (k < 1) = false := decide_eq_false h0
      have b1 : decide (14 < k) = true := decide_eq_true (by omega)
      clear h0 hk
      go_wp2_with (fail)
      go_ret
      exact ⟨by rw [HQ.out]; rfl, HB0.out⟩
end Go.Proofs.Ytijccobeljoikaa.Ms
