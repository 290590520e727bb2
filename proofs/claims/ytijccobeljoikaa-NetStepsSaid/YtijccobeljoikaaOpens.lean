/- What came in, opened whole, type by type: numbers, slices, structs, one within another: it reads as plain Lean values, each slice no longer than fits. -/
import Derived.Test.YtijccobeljoikaaWWords
import Derived.Deep.Matrix
import Derived.SizedLaws
import Derived.OpenShut
namespace Go.Proofs.Ytijccobeljoikaa.Opens
open Go.RowKit Go.ChangeShapes Go.WideShapes Go.Deep
open Go.Proofs.YtijccobeljoikaaW.PrintWords
set_option linter.unusedVariables false
set_option linter.unusedSimpArgs false

/-- Whatever of type t came in reads as a value of kind d that G holds of. -/
def Opens {α : Type} (P : Program) (W : World) (t : TypeId) (d : Kd α) (G : α → Prop) : Prop :=
  ∀ {H : Type} (enc : TypeId × Value → H) (base : Nat) (held : Bool) (fuel : Nat) (cs : List Value) (x : DataW H × List MemPlace),
    DataW.trod enc P W base (fun _ => true) held fuel t cs = some x → (∀ n ∈ x.1.weights P t, n ≤ reachBytes) → ∃ v, d.K W v cs ∧ G v
/-- .. the fields fs of a struct, from offset off on. -/
def OpensF {α : Type} (P : Program) (W : World) (fs : List Field) (off : Nat) (d : Kd α) (G : α → Prop) : Prop :=
  ∀ {H : Type} (enc : TypeId × Value → H) (base : Nat) (held : Bool) (fuel : Nat) (cs : List Value) (xs : List (DataW H × List MemPlace)),
    (fs.mapM fun f => DataW.trod enc P W base (fun _ => true) held fuel f.type ((cs.drop f.offset).take (P.cellsOf f.type))) = some xs → cs.length = off + d.sz →
    (∀ n ∈ DataW.weightsEach P (fs.map (·.type)) (xs.map (·.1)), n ≤ reachBytes) → ∃ v, d.K W v (cs.drop off) ∧ G v

theorem weights_mem_all {H : Type} {P : Program} {e : TypeId} {ds : List (DataW H)} {d : DataW H} (hd : d ∈ ds) {n : Nat} (hn : n ∈ d.weights P e) : n ∈ DataW.weightsAll P e ds := by
  induction ds with
  | nil => cases hd
  | cons d0 ds ih =>
    simp only [DataW.weightsAll, List.mem_append]
    rcases List.mem_cons.1 hd with rfl | hd
    · exact .inl hn
    · exact .inr (ih hd)

section
variable {P : Program} {W : World} {t e : TypeId} {α β γ : Type}

theorem opens_int {k : IntKind} (hu : P.underlying t = some (.int k)) : Opens P W t (Kd.int k) (fun v => (Lit.int k v).wf = true) := by
  intro H enc base held fuel cs x h hw
  cases fuel with
  | zero => simp [DataW.trod] at h
  | succ m =>
    unfold DataW.trod at h
    rw [hu] at h
    simp only at h
    split at h
    all_goals (try (rename_i heq; cases heq))
    all_goals (try (cases h; done))
    all_goals (try contradiction)
    rename_i k' n
    split at h
    · rename_i hc
      obtain ⟨rfl, hwf⟩ := hc
      exact ⟨n, rfl, hwf⟩
    · cases h

theorem opens_slice {d : Kd α} {G : α → Prop} [Inhabited α] (hu : P.underlying t = some (.slice e)) (hsz : P.cellsOf e = d.sz) {B : Nat} (hB : P.bytesOf e = B) (ho : Opens P W e d G) :
    Opens P W t (Kd.slice e d) (fun l => l.length * B ≤ reachBytes ∧ ∀ r ∈ l, G r) := by
  intro H enc base held fuel cs x h hw
  rcases open_slice hu h with ⟨rfl, rfl⟩ | ⟨a, len, cap, m, n, D, Pl, rfl, hb, hl, hm, hmm, rfl, hx⟩
  · exact ⟨[], ⟨none, 0, rfl, Nat.le_refl _, ⟨rfl, by simp, fun h => absurd h (by simp)⟩⟩, by simp, by simp⟩
  · simp only [if_true] at hmm
    subst hmm
    have hws : ∀ n ∈ ((len + (m - len)) * B) :: (DataW.weightsAll P e ((List.range len).map D) ++ DataW.weightsAll P e ((List.range (m - len)).map fun j => D (len + j))), n ≤ reachBytes := by
      intro n hn
      refine hw n ?_
      simp only [DataW.weights, hu, hB, List.length_map, List.length_range]
      exact hn
    have hlen := hws _ List.mem_cons_self
    have each : ∀ i, i < len → ∃ y : α × List Value, (W.cells? base (a.add (i * P.cellsOf e)) (P.cellsOf e) = some y.2) ∧ d.K W y.1 y.2 ∧ G y.1 := by
      intro i hi
      obtain ⟨cs', h1, h2⟩ := hx i (by omega)
      obtain ⟨v, hv, hg⟩ := ho enc base held n cs' _ h2 (fun q hq => hws q (List.mem_cons_of_mem _ (List.mem_append.2 (.inl (weights_mem_all (List.mem_map.2 ⟨i, List.mem_range.2 hi, rfl⟩) hq)))))
      exact ⟨(v, cs'), h1, hv, hg⟩
    obtain ⟨y, hy⟩ := choose_lt each
    have hll : ((List.range len).map fun i => (y i).1).length = len := by simp
    refine ⟨(List.range len).map fun i => (y i).1, ⟨some a, m, by rw [hll], by rw [hll]; exact hl, ⟨rfl, by rw [hll]; simp [maxLen] at hm; omega, fun _ => ⟨a, rfl, fun j p hj => ?_⟩⟩⟩, ?_, ?_⟩
    · have hjl : j < len := by
        have := (List.getElem?_eq_some_iff.1 hj).1
        simpa using this
      rw [List.getElem?_map, List.getElem?_range hjl] at hj
      obtain rfl : (y j).1 = p := by simpa using hj
      obtain ⟨h1, h2, h3⟩ := hy j hjl
      refine ⟨(y j).2, d.K_len h2, h2, fun i u hu => ?_⟩
      obtain ⟨_, g1, g2⟩ := World.cells?_some h1
      have hi : i < P.cellsOf e := by rw [← g1]; exact (List.getElem?_eq_some_iff.1 hu).1
      have := g2 i hi
      rw [hu, hsz, Go.Deep.add_add] at this
      exact this
    · rw [hll]
      exact Nat.le_trans (Nat.mul_le_mul_right _ (by omega)) hlen
    · intro r hr
      obtain ⟨i, hi, rfl⟩ := List.mem_map.1 hr
      exact (hy i (List.mem_range.1 hi)).2.2

theorem opensF_one {f : Field} {d : Kd α} {G : α → Prop} {off : Nat} (hoff : f.offset = off) (hsz : P.cellsOf f.type = d.sz) (ho : Opens P W f.type d G) : OpensF P W [f] off d G := by
  intro H enc base held fuel cs xs h hl hw
  simp only [List.mapM_cons, List.mapM_nil, Option.bind_eq_bind, Option.pure_def, Option.bind_some] at h
  obtain ⟨x, hx, h⟩ := Option.bind_eq_some_iff.1 h
  obtain rfl := Option.some.inj h
  rw [hoff, hsz, List.take_of_length_le (by rw [List.length_drop]; omega)] at hx
  exact ho enc base held fuel _ x hx (fun n hn => hw n (by simp [DataW.weightsEach]; exact hn))
theorem opensF_cons {f : Field} {fs : List Field} {d1 : Kd α} {d2 : Kd β} {G1 : α → Prop} {G2 : β → Prop} {off : Nat} (hoff : f.offset = off) (hsz : P.cellsOf f.type = d1.sz) (ho : Opens P W f.type d1 G1) (hr : OpensF P W fs (off + d1.sz) d2 G2) :
    OpensF P W (f :: fs) off (Kd.pair d1 d2) (fun x => G1 x.1 ∧ G2 x.2) := by
  intro H enc base held fuel cs xs h hl hw
  have hl : cs.length = off + (d1.sz + d2.sz) := hl
  simp only [List.mapM_cons, Option.bind_eq_bind, Option.pure_def] at h
  obtain ⟨x, hx, h⟩ := Option.bind_eq_some_iff.1 h
  obtain ⟨ys, hys, h⟩ := Option.bind_eq_some_iff.1 h
  obtain rfl := Option.some.inj h
  rw [hoff, hsz] at hx
  obtain ⟨v, hv, hg⟩ := ho enc base held fuel _ x hx (fun n hn => hw n (by simp [DataW.weightsEach]; exact .inl hn))
  obtain ⟨u, hu, hg2⟩ := hr enc base held fuel cs ys hys (by omega) (fun n hn => hw n (by simp only [List.map_cons, DataW.weightsEach, List.mem_append]; exact .inr hn))
  refine ⟨(v, u), ⟨_, _, ?_, hv, hu⟩, hg, hg2⟩
  rw [← List.drop_drop, List.take_append_drop]
theorem opens_struct {fs : Array Field} {L : List Field} {d : Kd α} {G : α → Prop} (hu : P.underlying t = some (.struct fs)) (hL : fs.toList = L) (hsz : P.cellsOf t = d.sz) (hof : OpensF P W L 0 d G) (g : β → α) (f : α → β) (hgf : ∀ x, g (f x) = x) :
    Opens P W t (Kd.iso d g) (fun y => G (g y)) := by
  intro H enc base held fuel cs x h hw
  cases fuel with
  | zero => simp [DataW.trod] at h
  | succ m =>
    unfold DataW.trod at h
    rw [hu] at h
    simp only [hL] at h
    split at h
    · rename_i hlen
      obtain ⟨xs, hxs, h⟩ := Option.map_eq_some_iff.1 h
      subst h
      obtain ⟨v, hv, hg⟩ := hof enc base held m cs xs hxs (by omega) (fun n hn => hw n (by simp only [DataW.weights, hu, hL]; exact hn))
      exact ⟨f v, by simpa [Kd.iso, hgf] using hv, by show G (g (f v)); rw [hgf]; exact hg⟩
    · cases h
end
end Go.Proofs.Ytijccobeljoikaa.Opens
