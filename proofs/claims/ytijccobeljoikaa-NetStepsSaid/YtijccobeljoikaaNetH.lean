/- net.Net: Take. -/
import Derived.Test.YtijccobeljoikaaNetG
namespace Go.Proofs.Ytijccobeljoikaa.Nt
open Go.RowKit Go.Proofs.YtijccobeljoikaaW.PrintWords Go.Proofs.YtijccobeljoikaaW.PrintLast Go.Proofs.YtijccobeljoikaaW.PrintMore
open Go.Proofs.Ytijccobeljoikaa.Walks
set_option linter.unusedVariables false
set_option linter.unusedSimpArgs false

theorem NetIs.below {b : Nat} {w W : World} {g : Nat} {room : Int} {v : Value} {ms : List S74} (h : NetIs b w g room v ms) (hb : Below w.heap.size w W) : NetIs b W g room v ms := ⟨blk_below h.blk hb, Kd.R_below h.row hb, h.ge, h.fits, h.many⟩

set_option maxHeartbeats 4000000 in
set_option maxRecDepth 100000 in
theorem take_bad (b : Nat) (w : World) (g : Nat) (room : Int) (v : Value) (ms : List S74) (k : Int) (hI : NetIs b w g room v ms) (hk : ¬ (0 ≤ k ∧ k < ms.length)) :
    Calls Try.prog 56 #[.pointer (some ⟨g, 0, none⟩), .int .i64 k] w fun e w' => e = .returned (.tuple #[zero74, .bool false]) ∧ Below w.heap.size w w' := by
  have HI := Aside0.mk hI
  have hd : decide (0 ≤ k ∧ k < ms.length) = false := decide_eq_false hk
  have hu74 := Try.underlying74
  clear hI
  go_enter Try.func56, Try.ntmps56
  go_wp2_with (go_at_call 87; refine (there_calls b _ g room v ms (HI.out.below (below_alloc (Below.refl _ _) _)) k).mono ?_; rintro e w1 ⟨rfl, rfl⟩; rw [hd])
  refine bodyPost_ret (results_ct rfl _ _ w.heap.size 74 #[.int .i64 0, .int .i64 0, .int .i64 0, .int .i64 0, .int .i64 0, .slice none 0 0, .slice none 0 0] (0, 0) _ rfl (blk_new _ _) Try.underlying74 rfl (by kernel_rfl)) rfl ?_
  exact ⟨rfl, below_alloc (Below.refl _ _) _⟩
end Go.Proofs.Ytijccobeljoikaa.Nt
