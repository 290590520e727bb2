/- net.New, Len. -/
import Derived.Test.YtijccobeljoikaaNetI
namespace Go.Proofs.Ytijccobeljoikaa.Nt
open Go.RowKit Go.Proofs.YtijccobeljoikaaW.PrintWords Go.Proofs.YtijccobeljoikaaW.PrintLast Go.Proofs.YtijccobeljoikaaW.PrintMore
open Go.Proofs.Ytijccobeljoikaa.Walks
attribute [local go_sem] max2_int min2_int max_two min_two max_three min_three max_four min_four
set_option linter.unusedVariables false
set_option linter.unusedSimpArgs false

/-- The room that New gives. -/
def clamp (room : Int) : Int := if 0 < (if 4096 < room then 4096 else room) then (if 4096 < room then 4096 else room) else 0
set_option maxHeartbeats 4000000 in
set_option maxRecDepth 100000 in
theorem new_calls (b : Nat) (w : World) (room : Int) (hb : b ≤ w.heap.size) :
    Calls Try.prog 50 #[.int .i64 room] w fun e w' => ∃ g v, e = .returned (.pointer (some ⟨g, 0, none⟩)) ∧ NetIs b w' g (clamp room) v [] ∧ w.heap.size ≤ g ∧ v.ownBlock = none ∧ Below w.heap.size w w' := by
  obtain ⟨r1, h1⟩ : ∃ r1, (if 4096 < room then 4096 else room) = r1 := ⟨_, rfl⟩
  obtain ⟨r2, h2⟩ : ∃ r2, (if 0 < r1 then r1 else 0) = r2 := ⟨_, rfl⟩
  have Hc := Aside0.mk (show clamp room = r2 by unfold clamp; rw [h1, h2])
  have hu121 := Try.underlying121
  go_enter Try.func50, Try.ntmps50
  go_wp2
  go_ret
  refine ⟨w.heap.size, .slice none 0 0, rfl, ⟨by rw [Hc.out]; exact blk_new _ _, Kd.R_nil _ _ _ _ _, hb, by simp, by simp⟩, Nat.le_refl _, rfl, below_alloc (Below.refl _ _) _⟩
set_option maxHeartbeats 4000000 in
set_option maxRecDepth 100000 in
theorem len_calls (b : Nat) (w : World) (g : Nat) (room : Int) (v : Value) (ms : List S74) (hI : NetIs b w g room v ms) :
    Calls Try.prog 61 #[.pointer (some ⟨g, 0, none⟩)] w fun e w' => e = .returned (.int .i64 ms.length) ∧ w' = w := by
  obtain ⟨A1, c1, rfl, hl1, hC1⟩ := Kd.R_reads hI.row
  have g1 : w.cell? ⟨g, 1, none⟩ = some (.slice A1 ms.length c1) := by rw [blk_cell hI.blk]; rfl
  have hu121 := Try.underlying121
  clear hI hl1 hC1
  go_enter Try.func61, Try.ntmps61
  go_wp2
  go_ret
  exact ⟨rfl, rfl⟩
end Go.Proofs.Ytijccobeljoikaa.Nt
