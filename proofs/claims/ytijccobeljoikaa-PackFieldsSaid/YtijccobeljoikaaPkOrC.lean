/- The statements' aliveJoin: true. -/
import Derived.Test.YtijccobeljoikaaPkx1
import Derived.Test.YtijccobeljoikaaBaseB
import Derived.Lib.SlBytesConst
namespace Go.Proofs.Ytijccobeljoikaa.Pk
open Go.RowKit Go.Proofs.YtijccobeljoikaaW.PrintWords Go.Proofs.YtijccobeljoikaaW.PrintLast Go.Proofs.YtijccobeljoikaaW.PrintMore
open Go.Proofs.Ytijccobeljoikaa.Plain Go.Proofs.Ytijccobeljoikaa.Walks
set_option linter.unusedVariables false
set_option linter.unusedSimpArgs false

theorem join_ab : pack_Join.f [[97, 98], []] = some ([2, 97, 98, 0], 0) := by
  simp [pack_Join.f, joinF, joinGo, encN_small]
theorem same_ab : stanchionref00_SameBytes.f 9 [2, 97, 98, 0] [2, 97, 98, 0] = some true := by decide +kernel

/-- The two literals of the examples: []byte("ab") at block n, [][]byte{.., nil} behind it. -/
theorem rows_ab {w W : World} {n m : Nat} {fr : Nat × Nat} (h0 : W.heap[n]? = some (.cells #[Value.int IntKind.u8 97, Value.int IntKind.u8 98] 5 fr)) (h1 : W.heap[m]? = some (.cells #[Value.slice (some ⟨n, 0, none⟩) 2 2, Value.slice none 0 0] 22 (0, 0))) :
    Kd.C (Kd.slice 5 (Kd.int .u8)) W (some ⟨m, 0, none⟩) 2 [[97, 98], []] := by
  refine C_rows_block (xs := [[97, 98], []]) h1 (by simp) fun j p hp => ?_
  match j, hp with
  | 0, hp =>
    simp at hp
    subst hp
    refine ⟨some ⟨n, 0, none⟩, 2, rfl, by simp, C_bytes_block (xs := [97, 98]) h0 (by simp) fun j hj => ?_⟩
    match j, hj with
    | 0, _ => rfl
    | 1, _ => rfl
    | n + 2, hj => simp at hj; omega
  | 1, hp =>
    simp at hp
    subst hp
    exact ⟨none, 0, rfl, by simp, C_none _⟩
  | n + 2, hp => simp at hp

theorem four_ab (j : Nat) (hj : j < [2, 97, 98, (0 : Int)].length) : #[Value.int IntKind.u8 2, Value.int IntKind.u8 97, Value.int IntKind.u8 98, Value.int IntKind.u8 0][j]? = some (Value.int IntKind.u8 ([2, 97, 98, 0].getD j 0)) := by
  match j, hj with
  | 0, _ => rfl
  | 1, _ => rfl
  | 2, _ => rfl
  | 3, _ => rfl
  | n + 4, hj => simp at hj; omega

def stanchionlaw01_aliveJoin.f : Option (Bool) := some true
set_option maxHeartbeats 1000000 in
set_option maxRecDepth 100000 in
theorem stanchionlaw01_aliveJoin.calls (r : Bool) (w : World) (h : stanchionlaw01_aliveJoin.f = some r) :
    Calls Try.prog 28 #[] w fun e w' => e = .returned (.bool r) ∧ Below w.heap.size w w' := by
  obtain rfl : true = r := Option.some.inj h
  clear h
  have kc := fun (w : World) (C : Array Value) (n c : Nat) => Lib.run_convert_bytes_const (P := Try.prog) w 22 5 C n c Try.underlying22 Try.underlying5
  go_enter Try.func28, Try.ntmps28
  go_wp2_with fail
  refine (pack_Join.calls _ 2 [[97, 98], []] [2, 97, 98, 0] 0 _ (rows_ab (w := w) (n := w.heap.size) (fr := (2, 3)) (blk_alloc (blk_new _ _) _) (by have h := blk_new (w.alloc (Obj.cells #[Value.int IntKind.u8 97, Value.int IntKind.u8 98] 5 (2, 3))) (Obj.cells #[Value.slice (some { block := w.heap.size, off := 0 }) 2 2, Value.slice none 0 0] 22); simpa using h)) (by simp) join_ab).mono ?_
  rintro e w1 ⟨v0, rfl, hR, hB⟩
  have HB := Aside0.mk (below_then (((Below.refl w.heap.size w).alloc (Nat.le_refl _) _).alloc (by simp) _) (by simp; omega) hB)
  obtain ⟨A, c, rfl, hl, hC⟩ := Kd.R_reads hR
  have HC := Aside0.mk hC
  clear hR hB hC
  go_wp2_with (go_at_call 27; refine (stanchionref00_SameBytes.calls 9 A c [2, 97, 98, 0] _ 4 [2, 97, 98, 0] true _ (Kd.C_alloc HC.out _) hl (C_bytes_block (blk_new _ _) (by simp) four_ab) (by simp) same_ab).mono ?_; rintro e w2 ⟨rfl, hd⟩; have HD := Aside0.mk (HB.out.trans (((Below.refl _ _).alloc HB.out.size _).trans (hd.below.mono (by have := HB.out.size; simp; omega)))); clear hd)
  go_ret
  exact ⟨rfl, HD.out⟩
end Go.Proofs.Ytijccobeljoikaa.Pk
