/- The statements' aliveSplit: true. -/
import Derived.Test.YtijccobeljoikaaPkx4
import Derived.Test.YtijccobeljoikaaPkOrC
import Derived.Lib.SlBytesConst
namespace Go.Proofs.Ytijccobeljoikaa.Pk
open Go.RowKit Go.Proofs.YtijccobeljoikaaW.PrintWords Go.Proofs.YtijccobeljoikaaW.PrintLast Go.Proofs.YtijccobeljoikaaW.PrintMore
open Go.Proofs.Ytijccobeljoikaa.Plain Go.Proofs.Ytijccobeljoikaa.Walks
set_option linter.unusedVariables false
set_option linter.unusedSimpArgs false

theorem split_ab : pack_Split.f 9 [2, 97, 98, 0] = some ([[97, 98], []], 0) := by decide +kernel
theorem rows_same_ab : stanchionref00_SameRows.f 9 [[97, 98], []] [[97, 98], []] = some true := by decide +kernel

def stanchionlaw01_aliveSplit.f : Option (Bool) := some true
set_option maxHeartbeats 1000000 in
set_option maxRecDepth 100000 in
theorem stanchionlaw01_aliveSplit.calls (r : Bool) (w : World) (h : stanchionlaw01_aliveSplit.f = some r) :
    Calls Try.prog 38 #[] w fun e w' => e = .returned (.bool r) ∧ Below w.heap.size w w' := by
  obtain rfl : true = r := Option.some.inj h
  clear h
  have kc := fun (w : World) (C : Array Value) (n c : Nat) => Lib.run_convert_bytes_const (P := Try.prog) w 22 5 C n c Try.underlying22 Try.underlying5
  go_enter Try.func38, Try.ntmps38
  go_wp2_with fail
  refine (pack_Split.calls 9 (fun _ => True) _ 4 [2, 97, 98, 0] [[97, 98], []] 0 _ ⟨some ⟨w.heap.size, 0, none⟩, 4, rfl, by simp, fun W' hW => C_bytes_block ((hW w.heap.size trivial (by simp)).trans (blk_new _ _)) (by simp) four_ab⟩ split_ab).mono ?_
  rintro e w1 ⟨v0, rfl, hS, hB⟩
  have HB := Aside0.mk (below_then ((Below.refl w.heap.size w).alloc (Nat.le_refl _) _) (by simp) hB)
  obtain ⟨A, c, rfl, hl, hC⟩ := Kd.R_reads (Kd.S_R hS)
  have HC := Aside0.mk hC
  clear hS hB hC
  go_wp2_with fail
  refine (stanchionref00_SameRows.calls 9 A c [[97, 98], []] _ 2 [[97, 98], []] true _ (Kd.C_alloc (Kd.C_alloc HC.out _) _) hl (rows_ab (w := w1) (n := w1.heap.size) (fr := (2, 3)) (blk_alloc (blk_new _ _) _) (by have h := blk_new (w1.alloc (Obj.cells #[Value.int IntKind.u8 97, Value.int IntKind.u8 98] 5 (2, 3))) (Obj.cells #[Value.slice (some { block := w1.heap.size, off := 0 }) 2 2, Value.slice none 0 0] 22); simpa using h)) (by simp) rows_same_ab).mono ?_
  rintro e w2 ⟨rfl, hd⟩
  have HD := Aside0.mk (below_then (((HB.out.alloc HB.out.size _).alloc (by have := HB.out.size; simp; omega) _)) (by have := HB.out.size; simp; omega) hd.below)
  clear hd
  go_wp2
  go_ret
  exact ⟨rfl, HD.out⟩
end Go.Proofs.Ytijccobeljoikaa.Pk
