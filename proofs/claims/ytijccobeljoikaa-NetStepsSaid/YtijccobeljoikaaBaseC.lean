/- More small facts that my own walks share: cuts. -/
import Derived.Test.YtijccobeljoikaaBaseB
namespace Go.Proofs.Ytijccobeljoikaa.Walks
open Go.RowKit Go.Proofs.YtijccobeljoikaaW.PrintWords Go.Proofs.YtijccobeljoikaaW.PrintLast Go.Proofs.YtijccobeljoikaaW.PrintMore
set_option linter.unusedVariables false
set_option linter.unusedSimpArgs false
/-- b[:m] of a list of bytes that is read. -/
theorem take_bytes (A : Option Addr) (c m : Nat) (xs : List Int) (hm : m ≤ xs.length) (hc : xs.length ≤ c) : ∃ (ys : List Int), ys = xs.take m ∧ ys.length ≤ c ∧
    (∀ W : World, (Instr.slice 22 (.slice A xs.length c) none (some (.int .i64 (m : Int))) none).run Try.prog W = .ok (.slice A ys.length c) W) ∧
    ∀ w : World, (Kd.int .u8).C w A xs.length xs → (Kd.int .u8).C w A ys.length ys := by
  obtain ⟨i, hi, h⟩ := Option.map_eq_some_iff.1 info5
  simp only [Prod.mk.injEq] at h
  obtain ⟨h1, h2, h3⟩ := print_take_int (P := Try.prog) (k := .u8) 22 5 Try.underlying22 hi h.2.1 A c xs (m : Int) (by omega) (by omega) hc
  rw [Int.toNat_natCast] at h1 h2 h3
  exact ⟨xs.take m, rfl, h3, h1, fun w hw => Kd.C_of_reads (d := (0 : Int)) (h1 := fun _ => rfl) (h2 w (Kd.reads_of_C (d := (0 : Int)) (h1 := fun _ => rfl) hw))⟩
/-- How many elements a slice value has. -/
def lenOfV : Value → Nat | .slice _ n _ => n | _ => 0
end Go.Proofs.Ytijccobeljoikaa.Walks
