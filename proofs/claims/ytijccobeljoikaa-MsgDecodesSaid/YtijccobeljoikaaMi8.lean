/- Put together of my texts: Opens, MtN. -/
import Derived.Deep.Matrix
import Derived.SizedLaws
import Derived.OpenShut
import Derived.Test.YtijccobeljoikaaWWords
import Derived.Test.YtijccobeljoikaaWLast
import Derived.Test.YtijccobeljoikaaWTab
import Derived.Test.YtijccobeljoikaaMi7
import Derived.Test.YtijccobeljoikaaMi4
/- What came in, opened whole, type by type: numbers, slices, structs, one within another: it reads as plain Lean values, each slice no longer than fits. -/
namespace Go.Proofs.Ytijccobeljoikaa.Opens
open Go.RowKit Go.ChangeShapes Go.WideShapes Go.Deep
open Go.Proofs.YtijccobeljoikaaW.PrintWords
set_option linter.unusedVariables false
set_option linter.unusedSimpArgs false

/-- Whatever of type t came in reads as a value of kind d that G holds of. -/
def Opens {α : Type} (P : Program) (W : World) (t : TypeId) (d : Kd α) (G : α → Prop) : Prop :=
  ∀ {H : Type} (enc : TypeId × Value → H) (base : Nat) (held : Bool) (fuel : Nat) (cs : List Value) (x : DataW H × List MemPlace),
    DataW.trod enc P W base (fun _ => true) held fuel t cs = some x → (∀ n ∈ x.1.weights P t, n ≤ reachBytes) → ∃ v, d.K W v cs ∧ G v
theorem weights_mem_all {H : Type} {P : Program} {e : TypeId} {ds : List (DataW H)} {d : DataW H} (hd : d ∈ ds) {n : Nat} (hn : n ∈ d.weights P e) : n ∈ DataW.weightsAll P e ds := by
  induction ds with
  | nil => cases hd
  | cons d0 ds ih =>
    simp only [DataW.weightsAll, List.mem_append]
    rcases List.mem_cons.1 hd with rfl | hd
    · exact .inl hn
    · exact .inr (ih hd)

section
variable {P : Program} {W : World} {t e : TypeId} {α β γ : Type}

theorem opens_int {k : IntKind} (hu : P.underlying t = some (.int k)) : Opens P W t (Kd.int k) (fun v => (Lit.int k v).wf = true) := by
  intro H enc base held fuel cs x h hw
  cases fuel with
  | zero => simp [DataW.trod] at h
  | succ m =>
    unfold DataW.trod at h
    rw [hu] at h
    simp only at h
    split at h
    all_goals (try (rename_i heq; cases heq))
    all_goals (try (cases h; done))
    all_goals (try contradiction)
    rename_i k' n
    split at h
    · rename_i hc
      obtain ⟨rfl, hwf⟩ := hc
      exact ⟨n, rfl, hwf⟩
    · cases h

theorem opens_slice {d : Kd α} {G : α → Prop} [Inhabited α] (hu : P.underlying t = some (.slice e)) (hsz : P.cellsOf e = d.sz) {B : Nat} (hB : P.bytesOf e = B) (ho : Opens P W e d G) :
    Opens P W t (Kd.slice e d) (fun l => l.length * B ≤ reachBytes ∧ ∀ r ∈ l, G r) := by
  intro H enc base held fuel cs x h hw
  rcases open_slice hu h with ⟨rfl, rfl⟩ | ⟨a, len, cap, m, n, D, Pl, rfl, hb, hl, hm, hmm, rfl, hx⟩
  · exact ⟨[], ⟨none, 0, rfl, Nat.le_refl _, ⟨rfl, by simp, fun h => absurd h (by simp)⟩⟩, by simp, by simp⟩
  · simp only [if_true] at hmm
    subst hmm
    have hws : ∀ n ∈ ((len + (m - len)) * B) :: (DataW.weightsAll P e ((List.range len).map D) ++ DataW.weightsAll P e ((List.range (m - len)).map fun j => D (len + j))), n ≤ reachBytes := by
      intro n hn
      refine hw n ?_
      simp only [DataW.weights, hu, hB, List.length_map, List.length_range]
      exact hn
    have hlen := hws _ List.mem_cons_self
    have each : ∀ i, i < len → ∃ y : α × List Value, (W.cells? base (a.add (i * P.cellsOf e)) (P.cellsOf e) = some y.2) ∧ d.K W y.1 y.2 ∧ G y.1 := by
      intro i hi
      obtain ⟨cs', h1, h2⟩ := hx i (by omega)
      obtain ⟨v, hv, hg⟩ := ho enc base held n cs' _ h2 (fun q hq => hws q (List.mem_cons_of_mem _ (List.mem_append.2 (.inl (weights_mem_all (List.mem_map.2 ⟨i, List.mem_range.2 hi, rfl⟩) hq)))))
      exact ⟨(v, cs'), h1, hv, hg⟩
    obtain ⟨y, hy⟩ := choose_lt each
    have hll : ((List.range len).map fun i => (y i).1).length = len := by simp
    refine ⟨(List.range len).map fun i => (y i).1, ⟨some a, m, by rw [hll], by rw [hll]; exact hl, ⟨rfl, by rw [hll]; simp [maxLen] at hm; omega, fun _ => ⟨a, rfl, fun j p hj => ?_⟩⟩⟩, ?_, ?_⟩
    · have hjl : j < len := by
        have := (List.getElem?_eq_some_iff.1 hj).1
        simpa using this
      rw [List.getElem?_map, List.getElem?_range hjl] at hj
      obtain rfl : (y j).1 = p := by simpa using hj
      obtain ⟨h1, h2, h3⟩ := hy j hjl
      refine ⟨(y j).2, d.K_len h2, h2, fun i u hu => ?_⟩
      obtain ⟨_, g1, g2⟩ := World.cells?_some h1
      have hi : i < P.cellsOf e := by rw [← g1]; exact (List.getElem?_eq_some_iff.1 hu).1
      have := g2 i hi
      rw [hu, hsz, Go.Deep.add_add] at this
      exact this
    · rw [hll]
      exact Nat.le_trans (Nat.mul_le_mul_right _ (by omega)) hlen
    · intro r hr
      obtain ⟨i, hi, rfl⟩ := List.mem_map.1 hr
      exact (hy i (List.mem_range.1 hi)).2.2

end
end Go.Proofs.Ytijccobeljoikaa.Opens

/- What comes in to the messages' laws, opened: letters, entries, what is proven, messages. -/
namespace Go.Proofs.Ytijccobeljoikaa.Opens
open Go.RowKit Go.ChangeShapes Go.WideShapes Go.Deep
open Go.Proofs.YtijccobeljoikaaW.PrintWords
open Go.Proofs.Ytijccobeljoikaa.Ms Go.Proofs.Ytijccobeljoikaa.Plain
set_option linter.unusedVariables false
set_option linter.unusedSimpArgs false

theorem open_arg {α H : Type} {enc : TypeId × Value → H} {W : World} {base : Nat} {held : Bool} {t : TypeId} {d : Kd α} {G : α → Prop} (ho : Opens Try.prog W t d G) {ts : List TypeId} {ds : List (DataW H)} {j : Nat} {dd : DataW H} {ps : List MemPlace} {v : Value}
    (hsz : (DataW.weightsEach Try.prog ts ds).all (· ≤ reachBytes) = true) (ht : ts[j]? = some t) (hd : ds[j]? = some dd) (h : DataW.Trod enc Try.prog W base (fun _ => true) held t v dd ps) : ∃ x, d.K W x v.cells.toList ∧ G x := by
  obtain ⟨fuel, hf⟩ := h
  exact ho enc base held fuel _ _ hf (fun n hn => by
    have := List.all_eq_true.1 hsz _ (DataW.weights_mem_each ht hd _ hn)
    simpa using this)
/-- An argument that is a slice. -/
theorem open_slice_arg {α H : Type} {enc : TypeId × Value → H} {W : World} {base : Nat} {held : Bool} {t e : TypeId} {d : Kd α} {G : List α → Prop} (ho : Opens Try.prog W t (Kd.slice e d) G) {ts : List TypeId} {ds : List (DataW H)} {j : Nat} {dd : DataW H} {ps : List MemPlace} {a : Option Addr} {len cap : Nat}
    (hsz : (DataW.weightsEach Try.prog ts ds).all (· ≤ reachBytes) = true) (ht : ts[j]? = some t) (hd : ds[j]? = some dd) (h : DataW.Trod enc Try.prog W base (fun _ => true) held t (.slice a len cap) dd ps) :
    ∃ l : List α, len = l.length ∧ l.length ≤ cap ∧ Kd.C d W a l.length l ∧ G l := by
  obtain ⟨l, ⟨A, c, he, hl, hC⟩, hg⟩ := open_arg ho hsz ht hd h
  simp [Value.cells] at he
  obtain ⟨rfl, rfl, rfl⟩ := he
  exact ⟨l, rfl, hl, hC, hg⟩
theorem opens_mono {α : Type} {P : Program} {W : World} {t : TypeId} {d : Kd α} {G G' : α → Prop} (h : Opens P W t d G) (hg : ∀ x, G x → G' x) : Opens P W t d G' := fun enc base held fuel cs x hx hw => by
  obtain ⟨v, h1, h2⟩ := h enc base held fuel cs x hx hw
  exact ⟨v, h1, hg v h2⟩
/-- A slice's bytes are bytes. -/
theorem byte_of_wf {l : List Int} (h : ∀ r ∈ l, (Lit.int .u8 r).wf = true) : Byte l := fun r hr => by
  have := h r hr
  simp [Lit.wf, IntKind.min, IntKind.max, IntKind.signed, IntKind.bits] at this
  exact ⟨this.1, by omega⟩

instance : Inhabited Ms.S72 := ⟨Ms.z72⟩
instance : Inhabited Ms.S101 := ⟨Ms.z101⟩
section
variable {W : World}
theorem o3 : Opens Try.prog W 3 (Kd.int .i64) (fun v => (Lit.int .i64 v).wf = true) := opens_int Try.underlying3
theorem o5 : Opens Try.prog W 5 (Kd.int .u8) (fun v => (Lit.int .u8 v).wf = true) := opens_int Try.underlying5
theorem o22 : Opens Try.prog W 22 (Kd.slice 5 (Kd.int .u8)) (fun l => l.length ≤ 140737488355328 ∧ Byte l) := opens_mono (opens_slice (B := 1) Try.underlying22 (by kernel_rfl) (by kernel_rfl) o5) (fun l h => by
  obtain ⟨h1, h2⟩ := h
  simp only [reachBytes] at h1
  exact ⟨by omega, byte_of_wf h2⟩)
end
end Go.Proofs.Ytijccobeljoikaa.Opens
namespace Go.Proofs.Ytijccobeljoikaa.Ms
open Go.RowKit Go.Proofs.YtijccobeljoikaaW.PrintWords
end Go.Proofs.Ytijccobeljoikaa.Ms
