/- The walk of pack's (*out).num: it appends a number's bytes to the list behind the pointer. -/
import Derived.Test.YtijccobeljoikaaBase
import Derived.Test.YtijccobeljoikaaPlain
namespace Go.Proofs.Ytijccobeljoikaa.Walks
open Go.RowKit Go.Proofs.YtijccobeljoikaaW.PrintWords Go.Proofs.YtijccobeljoikaaW.PrintLast Go.Proofs.YtijccobeljoikaaW.PrintMore
open Go.Proofs.Ytijccobeljoikaa.Plain
set_option linter.unusedVariables false
set_option linter.unusedSimpArgs false

theorem or128F : ∀ a : Fin 256, Go.bits .or .u8 ((a.val : Nat) : Int) 128 = ((a.val % 128 + 128 : Nat) : Int) := by decide +kernel
theorem or128 (x : Nat) : Go.bits .or .u8 ((x : Int) % 256) 128 = ((x % 128 + 128 : Nat) : Int) := by
  have h := or128F ⟨x % 256, Nat.mod_lt _ (by omega)⟩
  simp only at h
  rw [show ((x : Int) % 256) = ((x % 256 : Nat) : Int) by omega, h]
  congr 2
  omega

/-- Behind the append: the new bytes' row, and the variable that holds it. -/
theorem stored_outs {w wr w2 : World} {base b n : Nat} {v1 v2 : Value} {ys zs : List Int} (hbase : base ≤ b) (hb : wr.heap[b]? = some (.cells #[v1] 115 (0, 0)))
    (hown : w2.ownsRow base 5 1 v2 n (nums .u8 zs)) (hB : Below base w w2) (hg : wr.grownBy w2 v1.ownBlock) (ho : wr.ownsRow base 5 1 v1 ys.length (nums .u8 ys)) :
    w2.heap[b]? = some (.cells #[v1] 115 (0, 0)) ∧ (w2.setCell ⟨b, 0, none⟩ v2).heap[b]? = some (.cells #[v2] 115 (0, 0)) ∧ (w2.setCell ⟨b, 0, none⟩ v2).ownsRow base 5 1 v2 n (nums .u8 zs) ∧ Below base w (w2.setCell ⟨b, 0, none⟩ v2) := by
  have h2 : w2.heap[b]? = some (.cells #[v1] 115 (0, 0)) := blk_grown hb hg (own_ne ho hb (by decide))
  exact ⟨h2, by simpa using blk_set h2 0 v2, own_setCell hown (own_ne hown h2 (by decide)) v2, hB.setCell hbase v2⟩
theorem stored_out {w wr w2 : World} {base b : Nat} {v1 v2 : Value} {ys : List Int} {y : Int} (hbase : base ≤ b) (hb : wr.heap[b]? = some (.cells #[v1] 115 (0, 0)))
    (hown : w2.ownsRow base 5 1 v2 (ys ++ [y]).length (nums .u8 (ys ++ [y]))) (hB : Below base w w2) (hg : wr.grownBy w2 v1.ownBlock) (ho : wr.ownsRow base 5 1 v1 ys.length (nums .u8 ys)) :
    w2.heap[b]? = some (.cells #[v1] 115 (0, 0)) ∧ (w2.setCell ⟨b, 0, none⟩ v2).heap[b]? = some (.cells #[v2] 115 (0, 0)) ∧ (w2.setCell ⟨b, 0, none⟩ v2).ownsRow base 5 1 v2 (ys ++ [y]).length (nums .u8 (ys ++ [y])) ∧ Below base w (w2.setCell ⟨b, 0, none⟩ v2) := by
  have h2 : w2.heap[b]? = some (.cells #[v1] 115 (0, 0)) := blk_grown hb hg (own_ne ho hb (by decide))
  exact ⟨h2, by simpa using blk_set h2 0 v2, own_setCell hown (own_ne hown h2 (by decide)) v2, hB.setCell hbase v2⟩

/-- What num leaves: the variable at block b holds a row of the bytes zs. -/
def OutIs (base b : Nat) (zs : List Int) (w w' : World) : Prop := ∃ v1, w'.heap[b]? = some (.cells #[v1] 115 (0, 0)) ∧ w'.ownsRow base 5 1 v1 zs.length (nums .u8 zs) ∧ Below base w w'

set_option maxHeartbeats 1000000 in
set_option maxRecDepth 100000 in
theorem num_calls (b : Nat) (v : Int) (h0 : 0 ≤ v) (h1 : v < 4611686018427387904) (vv : Value) (xs : List Int) (w : World) (base : Nat)
    (hb : w.heap[b]? = some (.cells #[vv] 115 (0, 0))) (hbase : base ≤ b) (HO : w.ownsRow base 5 1 vv xs.length (nums .u8 xs)) (hl : xs.length + 20 < 140737488355328) :
    Calls Try.prog 83 #[.pointer (some ⟨b, 0, none⟩), .int .i64 v] w fun e w' => e = .returned (.tuple #[]) ∧ OutIs base b (xs ++ encN v.toNat) w w' := by
  have HB := Aside0.mk hb
  have HW := Aside0.mk HO
  have Hlen : Aside0 ((xs ++ encN v.toNat).length ≤ xs.length + 9) := ⟨by have := encN_len9 v.toNat (by omega); simp; omega⟩
  clear hb HO
  go_enter Try.func83, Try.ntmps83
  go_wp2_with fail
  go_loopw [1] (fun u wr => ∃ (x : Int) (ys : List Int) (v1 : Value), u = .int .i64 x ∧ 0 ≤ x ∧ x < 4611686018427387904 ∧ Aside0 (wr.heap[b]? = some (.cells #[v1] 115 (0, 0))) ∧ Aside0 (wr.ownsRow base 5 1 v1 ys.length (nums .u8 ys)) ∧ Aside0 (Below base w wr) ∧ Aside0 (ys ++ encN x.toNat = xs ++ encN v.toNat)) (fun u _ => (intOf u).toNat)
  case atStart => exact ⟨v, xs, vv, rfl, h0, h1, HB, HW, ⟨Below.refl _ _⟩, ⟨rfl⟩⟩
  case round =>
    obtain ⟨x, ys, v1, rfl, hx0, hx1, Hb, Ho, Hbl, He⟩ := hrel
    have hcb : wr.cell? ⟨b, 0, none⟩ = some v1 := (blk_cell Hb.out 0).trans rfl
    have hys : ys.length ≤ xs.length + 9 := by have := Hlen.out; rw [← He.out] at this; simp at this; omega
    have hws : base ≤ wr.heap.size := by have := blk_lt Hb.out; omega
    by_cases c : 128 ≤ x
    · go_wp2_with (at_builtin; refine print_append_num (w0 := w) base rfl (.tmp 11) (.tmp 15) 115 5 .u8 1 rfl Try.underlying115 info5 (by decide) v1 ys _ rfl rfl Ho.out Hbl.out hws (by omega) ?_; intro v2 w2 hown hB hg hat; rw [List.length_append, List.length_singleton] at hown; obtain ⟨A2, c2, e2⟩ := own_slice hown; subst e2; obtain ⟨h2, h3, h4, h5⟩ := stored_out (v2 := .slice A2 (ys.length + 1) c2) (y := bits .or .u8 (x % 256) 128) hbase Hb.out (by rw [List.length_append, List.length_singleton]; exact hown) hB hg Ho.out; have hc2 : w2.cell? ⟨b, 0, none⟩ = some v1 := (blk_cell h2 0).trans rfl; have hf2 : w2.frozen? ⟨b, 0, none⟩ = false := blk_frozen h2 0; replace h3 := Aside0.mk h3; replace h4 := Aside0.mk h4; replace h5 := Aside0.mk h5; clear hown hB hg hat h2)
      go_wp2
      go_roundw
      case measure => simp [intOf]; omega
      case rel =>
        refine ⟨x / 128, _, _, rfl, by omega, by omega, h3, h4, h5, ⟨?_⟩⟩
        rw [← He.out]
        obtain ⟨n, rfl⟩ := Int.eq_ofNat_of_zero_le hx0
        rw [or128, List.append_assoc, Int.toNat_natCast, encN_big (v := n) (by omega), show ((n : Int) / 128).toNat = n / 128 by omega]
        rfl
    · go_wp2_with (at_builtin; refine print_append_num (w0 := w) base rfl (.tmp 21) (.tmp 24) 115 5 .u8 1 rfl Try.underlying115 info5 (by decide) v1 ys _ rfl rfl Ho.out Hbl.out hws (by omega) ?_; intro v2 w2 hown hB hg hat; rw [List.length_append, List.length_singleton] at hown; obtain ⟨A2, c2, e2⟩ := own_slice hown; subst e2; obtain ⟨h2, h3, h4, h5⟩ := stored_out (v2 := .slice A2 (ys.length + 1) c2) (y := x) hbase Hb.out (by rw [List.length_append, List.length_singleton]; exact hown) hB hg Ho.out; have hc2 : w2.cell? ⟨b, 0, none⟩ = some v1 := (blk_cell h2 0).trans rfl; have hf2 : w2.frozen? ⟨b, 0, none⟩ = false := blk_frozen h2 0; replace h3 := Aside0.mk h3; replace h4 := Aside0.mk h4; replace h5 := Aside0.mk h5; clear hown hB hg hat h2)
      go_wp2
      go_end0
      refine ⟨rfl, _, h3.out, ?_, h5.out⟩
      have he : xs ++ encN v.toNat = ys ++ [x] := by
        rw [← He.out]
        obtain ⟨n, rfl⟩ := Int.eq_ofNat_of_zero_le hx0
        rw [Int.toNat_natCast, encN_small (by omega)]
      rw [he]
      exact h4.out
end Go.Proofs.Ytijccobeljoikaa.Walks
