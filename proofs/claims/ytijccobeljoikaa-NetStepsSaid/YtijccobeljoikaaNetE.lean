/- net.Net: there, Copy. -/
import Derived.Test.YtijccobeljoikaaNetD
namespace Go.Proofs.Ytijccobeljoikaa.Nt
open Go.RowKit Go.Proofs.YtijccobeljoikaaW.PrintWords Go.Proofs.YtijccobeljoikaaW.PrintLast Go.Proofs.YtijccobeljoikaaW.PrintMore
open Go.Proofs.Ytijccobeljoikaa.Walks
set_option linter.unusedVariables false
set_option linter.unusedSimpArgs false

set_option maxHeartbeats 4000000 in
set_option maxRecDepth 100000 in
theorem there_calls (b : Nat) (w : World) (g : Nat) (room : Int) (v : Value) (ms : List S74) (hI : NetIs b w g room v ms) (k : Int) :
    Calls Try.prog 87 #[.pointer (some ⟨g, 0, none⟩), .int .i64 k] w fun e w' => e = .returned (.bool (decide (0 ≤ k ∧ k < ms.length))) ∧ w' = w := by
  obtain ⟨A1, c1, rfl, hl1, hC1⟩ := Kd.R_reads hI.row
  have g1 : w.cell? ⟨g, 1, none⟩ = some (.slice A1 ms.length c1) := by rw [blk_cell hI.blk]; rfl
  have hu121 := Try.underlying121
  clear hI hl1 hC1
  by_cases h0 : 0 ≤ k
  · have b0 : decide (0 ≤ k) = true := decide_eq_true h0
    go_enter Try.func87, Try.ntmps87
    go_wp2_with (fail)
    go_ret
    exact ⟨by simp [h0], rfl⟩
  · have b0 : decide (0 ≤ k) = false := decide_eq_false h0
    go_enter Try.func87, Try.ntmps87
    go_wp2_with (fail)
    go_ret
    exact ⟨by simp [h0], rfl⟩

section
variable (b : Nat) (w0 w : World) (g : Nat) (room : Int) (v : Value) (ms : List S74) (k : Int)
set_option maxHeartbeats 4000000 in
set_option maxRecDepth 100000 in
theorem copy_bad (hI : NetIs b w g room v ms) (hk : ¬ (0 ≤ k ∧ k < ms.length)) :
    Calls Try.prog 59 #[.pointer (some ⟨g, 0, none⟩), .int .i64 k] w fun e w' => e = .returned (.int .i64 211) ∧ w' = w := by
  have HI := Aside0.mk hI
  have hd : decide (0 ≤ k ∧ k < ms.length) = false := decide_eq_false hk
  clear hI
  go_enter Try.func59, Try.ntmps59
  go_wp2_with (go_at_call 87; refine (there_calls b _ g room v ms HI.out k).mono ?_; rintro e w1 ⟨rfl, rfl⟩; rw [hd])
  go_ret
  exact ⟨rfl, rfl⟩
set_option maxHeartbeats 4000000 in
set_option maxRecDepth 100000 in
theorem copy_full (hI : NetIs b w g room v ms) (hk : 0 ≤ k ∧ k < ms.length) (hf : room ≤ ms.length) :
    Calls Try.prog 59 #[.pointer (some ⟨g, 0, none⟩), .int .i64 k] w fun e w' => e = .returned (.int .i64 210) ∧ w' = w.drew := by
  obtain ⟨A1, c1, rfl, hl1, hC1⟩ := Kd.R_reads hI.row
  have g0 : w.cell? ⟨g, 0, none⟩ = some (.int .i64 room) := by rw [blk_cell hI.blk]; rfl
  have g1 : w.cell? ⟨g, 1, none⟩ = some (.slice A1 ms.length c1) := by rw [blk_cell hI.blk]; rfl
  have hu121 := Try.underlying121
  have HI := Aside0.mk hI
  have hd : decide (0 ≤ k ∧ k < ms.length) = true := decide_eq_true hk
  have hq : decide (room ≤ (ms.length : Int)) = true := decide_eq_true hf
  clear hI hl1 hC1
  go_enter Try.func59, Try.ntmps59
  go_wp2_with (go_at_call 87; refine (there_calls b _ g room (.slice A1 ms.length c1) ms HI.out k).mono ?_; rintro e w1 ⟨rfl, rfl⟩; rw [hd])
  go_region
  go_wp2_with (fail)
  go_ret
  exact ⟨rfl, rfl⟩
end
end Go.Proofs.Ytijccobeljoikaa.Nt
