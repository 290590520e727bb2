/- More small facts that my own walks share: blocks that are read as lists. -/
import Derived.Test.YtijccobeljoikaaBase
namespace Go.Proofs.Ytijccobeljoikaa.Walks
open Go.RowKit Go.Proofs.YtijccobeljoikaaW.PrintWords Go.Proofs.YtijccobeljoikaaW.PrintLast Go.Proofs.YtijccobeljoikaaW.PrintMore
set_option linter.unusedVariables false
set_option linter.unusedSimpArgs false
/-- A block that holds the bytes xs is read as them. -/
theorem C_bytes_block {w : World} {g : Nat} {cs : Array Value} {t : TypeId} {fr : Nat × Nat} {xs : List Int} (h : w.heap[g]? = some (.cells cs t fr)) (hn : xs.length ≤ 9223372036854775807)
    (hc : ∀ j : Nat, j < xs.length → cs[j]? = some (Value.int .u8 (xs.getD j 0))) : (Kd.int .u8).C w (some ⟨g, 0, none⟩) xs.length xs :=
  Kd.C_of_reads (d := (0 : Int)) (h1 := fun _ => rfl) ⟨rfl, hn, fun _ => ⟨_, rfl, fun j hj => by rw [add_plain, cell_of_row w g j cs t fr h]; exact hc j hj⟩⟩
/-- A block of slices, each of which is read, is read as the list of these. -/
theorem C_rows_block {w : World} {g : Nat} {cs : Array Value} {t : TypeId} {fr : Nat × Nat} {xs : List (List Int)} (h : w.heap[g]? = some (.cells cs t fr)) (hn : xs.length ≤ 9223372036854775807)
    (hc : ∀ (j : Nat) (p : List Int), xs[j]? = some p → ∃ A c, cs[j]? = some (Value.slice A p.length c) ∧ p.length ≤ c ∧ (Kd.int .u8).C w A p.length p) : Kd.C (Kd.slice 5 (Kd.int .u8)) w (some ⟨g, 0, none⟩) xs.length xs := by
  refine ⟨rfl, hn, fun _ => ⟨_, rfl, fun j p hp => ?_⟩⟩
  obtain ⟨A, c, h1, h2, h3⟩ := hc j p hp
  refine ⟨[Value.slice A p.length c], rfl, ⟨A, c, rfl, h2, h3⟩, fun i u hu => ?_⟩
  have hi : i = 0 := by
    rcases Nat.eq_zero_or_pos i with h0 | h0
    · exact h0
    · rw [List.getElem?_eq_none (by simp; omega)] at hu; cases hu
  subst hi
  simp at hu
  subst hu
  rw [add_plain, show j * (Kd.slice 5 (Kd.int .u8)).sz + 0 = j from by show j * 1 + 0 = j; omega, cell_of_row w g j cs t fr h, h1]
theorem C_none (w : World) : (Kd.int .u8).C w none ([] : List Int).length [] := ⟨rfl, by simp, fun h => absurd h (Nat.lt_irrefl 0)⟩

/-- b[m:] of a list of bytes that is read: the list that is left has a name of its own. -/
theorem cut_bytes (A : Option Addr) (c m : Nat) (xs : List Int) (hm : m ≤ xs.length) (hc : xs.length ≤ c) : ∃ (A' : Option Addr) (ys : List Int), ys = xs.drop m ∧ ys.length ≤ c - m ∧
    (∀ W : World, (Instr.slice 22 (.slice A xs.length c) (some (.int .i64 (m : Int))) none none).run Try.prog W = .ok (.slice A' ys.length (c - m)) W) ∧
    ∀ w : World, (Kd.int .u8).C w A xs.length xs → (Kd.int .u8).C w A' ys.length ys := by
  obtain ⟨i, hi, h⟩ := Option.map_eq_some_iff.1 info5
  simp only [Prod.mk.injEq] at h
  obtain ⟨A', h1, h2⟩ := print_cut (P := Try.prog) 22 5 .i64 Try.underlying22 hi h.2.1 A xs.length c m hm
  have hl : (xs.drop m).length = xs.length - m := List.length_drop
  refine ⟨A', xs.drop m, rfl, by omega, fun W => by rw [hl]; exact h1 W, fun w hw => ?_⟩
  rw [hl]
  exact Kd.C_of_reads (d := (0 : Int)) (h1 := fun _ => rfl) (h2 w .u8 xs hc (Kd.reads_of_C (d := (0 : Int)) (h1 := fun _ => rfl) hw))
end Go.Proofs.Ytijccobeljoikaa.Walks
