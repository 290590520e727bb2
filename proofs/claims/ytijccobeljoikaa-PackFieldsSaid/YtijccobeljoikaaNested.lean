/- A slice of slices of bytes that came in, opened: rows of bytes, each no longer than fits. -/
import Derived.Test.YtijccobeljoikaaPlainB
import Derived.Test.YtijccobeljoikaaWSized
import Derived.Test.YtijccobeljoikaaPkx0
import Derived.Deep.Matrix
namespace Go.Proofs.Ytijccobeljoikaa.Nested
open Go.RowKit Go.ChangeShapes Go.WideShapes Go.Deep
open Go.Proofs.YtijccobeljoikaaW.PrintWords Go.Proofs.Ytijccobeljoikaa.Plain
set_option linter.unusedVariables false
set_option linter.unusedSimpArgs false

theorem weights_mem_all {H : Type} {P : Program} {e : TypeId} {ds : List (DataW H)} {d : DataW H} (hd : d ∈ ds) {n : Nat} (hn : n ∈ d.weights P e) : n ∈ DataW.weightsAll P e ds := by
  induction ds with
  | nil => cases hd
  | cons d0 ds ih =>
    simp only [DataW.weightsAll, List.mem_append]
    rcases List.mem_cons.1 hd with rfl | hd
    · exact .inl hn
    · exact .inr (ih hd)

theorem open_nested {H : Type} {enc : TypeId × Value → H} {W : World} {base : Nat} {held : Bool} {a : Option Addr} {len cap : Nat} {d : DataW H} {ps : List MemPlace} {ts : List TypeId} {ds : List (DataW H)} {j : Nat}
    (hsz : (DataW.weightsEach Try.prog ts ds).all (· ≤ reachBytes) = true) (ht : ts[j]? = some 32) (hd : ds[j]? = some d)
    (h : DataW.Trod enc Try.prog W base (fun _ => true) held 32 (.slice a len cap) d ps) :
    ∃ l : List (List Int), len = l.length ∧ l.length ≤ cap ∧ Kd.C (Kd.slice 5 (Kd.int .u8)) W a l.length l ∧ l.length * 24 ≤ 140737488351232 ∧ ∀ r ∈ l, Byte r ∧ r.length ≤ 140737488351232 := by
  obtain ⟨fuel, hf⟩ := h
  rcases open_int_rows Try.underlying32 Try.underlying22 Try.underlying5 (by kernel_rfl) (by kernel_rfl) hf with ⟨hcs, _⟩ | ⟨x, l, c, A, L, C, Z, hcs, _, hl, hm, hx, hr⟩
  · simp [Value.cells] at hcs
    obtain ⟨rfl, rfl, rfl⟩ := hcs
    exact ⟨[], rfl, Nat.le_refl _, ⟨rfl, by simp, fun h => absurd h (by simp)⟩, by simp, by simp⟩
  · simp [Value.cells] at hcs
    obtain ⟨rfl, rfl, rfl⟩ := hcs
    obtain ⟨hx, _⟩ := Prod.mk.inj hx
    subst hx
    have hw := hd
    have hall := List.all_eq_true.1 hsz
    have z : len * 24 ≤ reachBytes := by
      have := sized_slice hsz ht hd Try.underlying32
      rw [show Try.prog.bytesOf 22 = 24 by kernel_rfl] at this
      simp at this
      omega
    have lenL : ∀ r, r < cap → ((Z r).take (L r)).length = L r := fun r h => by
      have := hr r h
      rw [List.length_take]; omega
    have each : ∀ r, r < len → (Byte ((Z r).take (L r)) ∧ L r ≤ 140737488351232) := by
      intro r h
      obtain ⟨_, h1, h2, h3, h4, h5, _⟩ := hr r (by omega)
      refine ⟨fun q hq => ?_, ?_⟩
      · have := h4 q (List.mem_of_mem_take hq)
        simp [Lit.wf, IntKind.min, IntKind.max, IntKind.signed, IntKind.bits] at this
        omega
      · cases hA : A r with
        | none => have := h5 hA; omega
        | some ad =>
          have hm1 : intRow (H := H) .u8 (A r) (L r) (Z r) ∈ (List.range len).map fun r => intRow (H := H) .u8 (A r) (L r) (Z r) := List.mem_map.2 ⟨r, List.mem_range.2 h, rfl⟩
          have hm2 : C r * 1 ∈ (intRow (H := H) .u8 (A r) (L r) (Z r)).weights Try.prog 22 := by
            rw [hA]
            simp only [intRow, DataW.weights, Try.underlying22, show Try.prog.bytesOf 5 = 1 by kernel_rfl]
            refine List.mem_cons.2 (.inl ?_)
            simp [lits]; omega
          have hm3 := weights_mem_all hm1 hm2
          have hm4 : C r * 1 ∈ (DataW.slice ((List.range len).map fun r => intRow (H := H) .u8 (A r) (L r) (Z r)) ((List.range (cap - len)).map fun j => intRow .u8 (A (len + j)) (L (len + j)) (Z (len + j)))).weights Try.prog 32 := by
            simp only [DataW.weights, Try.underlying32]
            exact List.mem_cons.2 (.inr (List.mem_append.2 (.inl hm3)))
          have := hall _ (DataW.weights_mem_each ht hd _ hm4)
          simp [reachBytes] at this
          omega
    refine ⟨(List.range len).map fun r => (Z r).take (L r), by simp, by simpa using hl, ⟨by simp, ?_, fun _ => ⟨x, rfl, fun j p hj => ?_⟩⟩, by simpa [reachBytes] using z, ?_⟩
    · simp [reachBytes] at z ⊢; omega
    · have hjl : j < len := by
        have := (List.getElem?_eq_some_iff.1 hj).1
        simpa using this
      rw [List.getElem?_map, List.getElem?_range hjl] at hj
      obtain rfl : (Z j).take (L j) = p := by simpa using hj
      obtain ⟨h0, h1, h2, h3, h4, h5, h6⟩ := hr j (by omega)
      refine ⟨[.slice (A j) (L j) (C j)], rfl, ⟨A j, C j, by rw [lenL j (by omega)], by rw [lenL j (by omega)]; exact h1, ?_⟩, ?_⟩
      · refine Kd.C_of_reads (d := (0 : Int)) (h1 := fun _ => rfl) ⟨rfl, by rw [lenL j (by omega)]; have := (each j hjl).2; omega, fun hp => ?_⟩
        rw [lenL j (by omega)] at hp ⊢
        cases hA : A j with
        | none => have := h5 hA; omega
        | some ad =>
          refine ⟨ad, rfl, fun q hq => ?_⟩
          rw [(h6 ad hA).2 q (by omega)]
          simp [List.getD_eq_getElem?_getD, List.getElem?_take, hq]
      · intro i u hu
        cases i with
        | zero =>
          simp at hu
          subst hu
          show W.cell? (x.add (j * 1 + 0)) = _
          simpa using h0
        | succ i => simp at hu
    · intro r hrm
      obtain ⟨j, hj, rfl⟩ := List.mem_map.1 hrm
      have hj := List.mem_range.1 hj
      have := each j hj
      exact ⟨this.1, by rw [lenL j (by omega)]; exact this.2⟩
end Go.Proofs.Ytijccobeljoikaa.Nested
