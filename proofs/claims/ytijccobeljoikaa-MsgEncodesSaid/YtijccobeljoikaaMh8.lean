/- Put together of my texts: Opens, MtM, MtN. -/
import Derived.Deep.Matrix
import Derived.SizedLaws
import Derived.OpenShut
import Derived.Test.YtijccobeljoikaaWWords
import Derived.Test.YtijccobeljoikaaWLast
import Derived.Test.YtijccobeljoikaaWTab
import Derived.Test.YtijccobeljoikaaMh7
import Derived.Test.YtijccobeljoikaaMh4
/- What came in, opened whole, type by type: numbers, slices, structs, one within another: it reads as plain Lean values, each slice no longer than fits. -/
namespace Go.Proofs.Ytijccobeljoikaa.Opens
open Go.RowKit Go.ChangeShapes Go.WideShapes Go.Deep
open Go.Proofs.YtijccobeljoikaaW.PrintWords
set_option linter.unusedVariables false
set_option linter.unusedSimpArgs false

/-- Whatever of type t came in reads as a value of kind d that G holds of. -/
def Opens {α : Type} (P : Program) (W : World) (t : TypeId) (d : Kd α) (G : α → Prop) : Prop :=
  ∀ {H : Type} (enc : TypeId × Value → H) (base : Nat) (held : Bool) (fuel : Nat) (cs : List Value) (x : DataW H × List MemPlace),
    DataW.trod enc P W base (fun _ => true) held fuel t cs = some x → (∀ n ∈ x.1.weights P t, n ≤ reachBytes) → ∃ v, d.K W v cs ∧ G v
/-- .. the fields fs of a struct, from offset off on. -/
def OpensF {α : Type} (P : Program) (W : World) (fs : List Field) (off : Nat) (d : Kd α) (G : α → Prop) : Prop :=
  ∀ {H : Type} (enc : TypeId × Value → H) (base : Nat) (held : Bool) (fuel : Nat) (cs : List Value) (xs : List (DataW H × List MemPlace)),
    (fs.mapM fun f => DataW.trod enc P W base (fun _ => true) held fuel f.type ((cs.drop f.offset).take (P.cellsOf f.type))) = some xs → cs.length = off + d.sz →
    (∀ n ∈ DataW.weightsEach P (fs.map (·.type)) (xs.map (·.1)), n ≤ reachBytes) → ∃ v, d.K W v (cs.drop off) ∧ G v

theorem weights_mem_all {H : Type} {P : Program} {e : TypeId} {ds : List (DataW H)} {d : DataW H} (hd : d ∈ ds) {n : Nat} (hn : n ∈ d.weights P e) : n ∈ DataW.weightsAll P e ds := by
  induction ds with
  | nil => cases hd
  | cons d0 ds ih =>
    simp only [DataW.weightsAll, List.mem_append]
    rcases List.mem_cons.1 hd with rfl | hd
    · exact .inl hn
    · exact .inr (ih hd)

section
variable {P : Program} {W : World} {t e : TypeId} {α β γ : Type}

theorem opens_int {k : IntKind} (hu : P.underlying t = some (.int k)) : Opens P W t (Kd.int k) (fun v => (Lit.int k v).wf = true) := by
  intro H enc base held fuel cs x h hw
  cases fuel with
  | zero => simp [DataW.trod] at h
  | succ m =>
    unfold DataW.trod at h
    rw [hu] at h
    simp only at h
    split at h
    all_goals (try (rename_i heq; cases heq))
    all_goals (try (cases h; done))
    all_goals (try contradiction)
    rename_i k' n
    split at h
    · rename_i hc
      obtain ⟨rfl, hwf⟩ := hc
      exact ⟨n, rfl, hwf⟩
    · cases h

theorem opens_slice {d : Kd α} {G : α → Prop} [Inhabited α] (hu : P.underlying t = some (.slice e)) (hsz : P.cellsOf e = d.sz) {B : Nat} (hB : P.bytesOf e = B) (ho : Opens P W e d G) :
    Opens P W t (Kd.slice e d) (fun l => l.length * B ≤ reachBytes ∧ ∀ r ∈ l, G r) := by
  intro H enc base held fuel cs x h hw
  rcases open_slice hu h with ⟨rfl, rfl⟩ | ⟨a, len, cap, m, n, D, Pl, rfl, hb, hl, hm, hmm, rfl, hx⟩
  · exact ⟨[], ⟨none, 0, rfl, Nat.le_refl _, ⟨rfl, by simp, fun h => absurd h (by simp)⟩⟩, by simp, by simp⟩
  · simp only [if_true] at hmm
    subst hmm
    have hws : ∀ n ∈ ((len + (m - len)) * B) :: (DataW.weightsAll P e ((List.range len).map D) ++ DataW.weightsAll P e ((List.range (m - len)).map fun j => D (len + j))), n ≤ reachBytes := by
      intro n hn
      refine hw n ?_
      simp only [DataW.weights, hu, hB, List.length_map, List.length_range]
      exact hn
    have hlen := hws _ List.mem_cons_self
    have each : ∀ i, i < len → ∃ y : α × List Value, (W.cells? base (a.add (i * P.cellsOf e)) (P.cellsOf e) = some y.2) ∧ d.K W y.1 y.2 ∧ G y.1 := by
      intro i hi
      obtain ⟨cs', h1, h2⟩ := hx i (by omega)
      obtain ⟨v, hv, hg⟩ := ho enc base held n cs' _ h2 (fun q hq => hws q (List.mem_cons_of_mem _ (List.mem_append.2 (.inl (weights_mem_all (List.mem_map.2 ⟨i, List.mem_range.2 hi, rfl⟩) hq)))))
      exact ⟨(v, cs'), h1, hv, hg⟩
    obtain ⟨y, hy⟩ := choose_lt each
    have hll : ((List.range len).map fun i => (y i).1).length = len := by simp
    refine ⟨(List.range len).map fun i => (y i).1, ⟨some a, m, by rw [hll], by rw [hll]; exact hl, ⟨rfl, by rw [hll]; simp [maxLen] at hm; omega, fun _ => ⟨a, rfl, fun j p hj => ?_⟩⟩⟩, ?_, ?_⟩
    · have hjl : j < len := by
        have := (List.getElem?_eq_some_iff.1 hj).1
        simpa using this
      rw [List.getElem?_map, List.getElem?_range hjl] at hj
      obtain rfl : (y j).1 = p := by simpa using hj
      obtain ⟨h1, h2, h3⟩ := hy j hjl
      refine ⟨(y j).2, d.K_len h2, h2, fun i u hu => ?_⟩
      obtain ⟨_, g1, g2⟩ := World.cells?_some h1
      have hi : i < P.cellsOf e := by rw [← g1]; exact (List.getElem?_eq_some_iff.1 hu).1
      have := g2 i hi
      rw [hu, hsz, Go.Deep.add_add] at this
      exact this
    · rw [hll]
      exact Nat.le_trans (Nat.mul_le_mul_right _ (by omega)) hlen
    · intro r hr
      obtain ⟨i, hi, rfl⟩ := List.mem_map.1 hr
      exact (hy i (List.mem_range.1 hi)).2.2

theorem opensF_one {f : Field} {d : Kd α} {G : α → Prop} {off : Nat} (hoff : f.offset = off) (hsz : P.cellsOf f.type = d.sz) (ho : Opens P W f.type d G) : OpensF P W [f] off d G := by
  intro H enc base held fuel cs xs h hl hw
  simp only [List.mapM_cons, List.mapM_nil, Option.bind_eq_bind, Option.pure_def, Option.bind_some] at h
  obtain ⟨x, hx, h⟩ := Option.bind_eq_some_iff.1 h
  obtain rfl := Option.some.inj h
  rw [hoff, hsz, List.take_of_length_le (by rw [List.length_drop]; omega)] at hx
  exact ho enc base held fuel _ x hx (fun n hn => hw n (by simp [DataW.weightsEach]; exact hn))
theorem opensF_cons {f : Field} {fs : List Field} {d1 : Kd α} {d2 : Kd β} {G1 : α → Prop} {G2 : β → Prop} {off : Nat} (hoff : f.offset = off) (hsz : P.cellsOf f.type = d1.sz) (ho : Opens P W f.type d1 G1) (hr : OpensF P W fs (off + d1.sz) d2 G2) :
    OpensF P W (f :: fs) off (Kd.pair d1 d2) (fun x => G1 x.1 ∧ G2 x.2) := by
  intro H enc base held fuel cs xs h hl hw
  have hl : cs.length = off + (d1.sz + d2.sz) := hl
  simp only [List.mapM_cons, Option.bind_eq_bind, Option.pure_def] at h
  obtain ⟨x, hx, h⟩ := Option.bind_eq_some_iff.1 h
  obtain ⟨ys, hys, h⟩ := Option.bind_eq_some_iff.1 h
  obtain rfl := Option.some.inj h
  rw [hoff, hsz] at hx
  obtain ⟨v, hv, hg⟩ := ho enc base held fuel _ x hx (fun n hn => hw n (by simp [DataW.weightsEach]; exact .inl hn))
  obtain ⟨u, hu, hg2⟩ := hr enc base held fuel cs ys hys (by omega) (fun n hn => hw n (by simp only [List.map_cons, DataW.weightsEach, List.mem_append]; exact .inr hn))
  refine ⟨(v, u), ⟨_, _, ?_, hv, hu⟩, hg, hg2⟩
  rw [← List.drop_drop, List.take_append_drop]
theorem opens_struct {fs : Array Field} {L : List Field} {d : Kd α} {G : α → Prop} (hu : P.underlying t = some (.struct fs)) (hL : fs.toList = L) (hsz : P.cellsOf t = d.sz) (hof : OpensF P W L 0 d G) (g : β → α) (f : α → β) (hgf : ∀ x, g (f x) = x) :
    Opens P W t (Kd.iso d g) (fun y => G (g y)) := by
  intro H enc base held fuel cs x h hw
  cases fuel with
  | zero => simp [DataW.trod] at h
  | succ m =>
    unfold DataW.trod at h
    rw [hu] at h
    simp only [hL] at h
    split at h
    · rename_i hlen
      obtain ⟨xs, hxs, h⟩ := Option.map_eq_some_iff.1 h
      subst h
      obtain ⟨v, hv, hg⟩ := hof enc base held m cs xs hxs (by omega) (fun n hn => hw n (by simp only [DataW.weights, hu, hL]; exact hn))
      exact ⟨f v, by simpa [Kd.iso, hgf] using hv, by show G (g (f v)); rw [hgf]; exact hg⟩
    · cases h
end
end Go.Proofs.Ytijccobeljoikaa.Opens

/- msg: MsgCuts: a message's bytes that are cut off, or have one more, are none. -/
namespace Go.Proofs.Ytijccobeljoikaa.Ms
open Go.RowKit Go.Proofs.YtijccobeljoikaaW.PrintWords Go.Proofs.YtijccobeljoikaaW.PrintLast
open Go.Proofs.Ytijccobeljoikaa.Plain Go.Proofs.Ytijccobeljoikaa.Walks
set_option linter.unusedVariables false
set_option linter.unusedSimpArgs false

structure Bytes72 (x : S72) : Prop where
  b : Byte x.f2
  t : ∀ r ∈ x.f3, Byte r
structure Bytes101 (x : S101) : Prop where
  e : Byte x.f2.f3
  v : ∀ m ∈ x.f3, Bytes72 m
/-- A message whose lists of bytes hold bytes. -/
structure Bytes91 (m : S91) : Prop where
  e : Byte m.entry.f3
  d : Byte m.digest
  b : Byte m.data
  l : ∀ x ∈ m.proof, Bytes72 x
  p : ∀ x ∈ m.proven, Bytes101 x
theorem encI_byte : ∀ l : List Int, Byte (encI l)
  | [] => Byte.nil
  | v :: l => (encN_byte _).append (encI_byte l)
theorem joinP_byte {l : List (List Int)} (h : ∀ r ∈ l, Byte r) : Byte (joinP l).1 := by
  rcases joinP_or l with e | e
  · rw [e]; exact encL_byte h
  · rw [e]; exact Byte.nil
theorem letterZ_byte {x : S72} (h : Bytes72 x) : Byte (letterZ x) := encL_byte fun r hr => by
  simp only [List.mem_cons, List.not_mem_nil, or_false] at hr
  rcases hr with rfl | rfl | rfl
  · exact encI_byte _
  · exact h.b
  · exact encL_byte h.t
theorem entryZ_byte {x : S87} (h : Byte x.f3) : Byte (entryZ x) := encL_byte fun r hr => by
  simp only [List.mem_cons, List.not_mem_nil, or_false] at hr
  rcases hr with rfl | rfl
  · exact encI_byte _
  · exact h
theorem letters_byte {l : List S72} (h : ∀ x ∈ l, Bytes72 x) : ∀ r ∈ l.map letterZ, Byte r := fun r hr => by
  obtain ⟨x, hx, rfl⟩ := List.mem_map.1 hr
  exact letterZ_byte (h x hx)
theorem provenP_byte {x : S101} (h : Bytes101 x) : Byte (provenP x).1 := by
  unfold provenP
  split
  · refine joinP_byte fun r hr => ?_
    simp only [List.mem_cons, List.not_mem_nil, or_false] at hr
    rcases hr with rfl | rfl | rfl
    · exact encI_byte _
    · exact entryZ_byte h.e
    · exact joinP_byte (letters_byte h.v)
  · exact Byte.nil
theorem provGo_byte : ∀ {l : List S101} {rows : List (List Int)}, (∀ x ∈ l, Bytes101 x) → (∀ r ∈ rows, Byte r) → Byte (provGo rows l).1
  | [], rows, _, hr => joinP_byte hr
  | p :: l, rows, h, hr => by
    rw [provGo]
    split
    · exact provGo_byte (fun x hx => h x (List.mem_cons_of_mem _ hx)) (fun r hm => by
        rcases List.mem_append.1 hm with hm | hm
        · exact hr r hm
        · rw [List.mem_singleton.1 hm]; exact provenP_byte (h p List.mem_cons_self))
    · exact Byte.nil
theorem fieldP_byte {m : S91} (h : Bytes91 m) (c : UInt8) : Byte (fieldP m c).1 := by
  unfold fieldP
  split; · exact encI_byte _
  split; · exact encI_byte _
  split; · exact encI_byte _
  split; · exact encI_byte _
  split; · exact entryZ_byte h.e
  split; · exact h.d
  split; · exact h.b
  split; · exact joinP_byte (letters_byte h.l)
  exact provGo_byte h.p (fun r hr => by cases hr)
theorem encGo_byte {m : S91} (h : Bytes91 m) : ∀ {l : List UInt8} {rows : List (List Int)}, (∀ r ∈ rows, Byte r) → Byte (encGo m rows l).1
  | [], rows, hr => joinP_byte hr
  | c :: l, rows, hr => by
    rw [encGo]
    split
    · exact encGo_byte h (fun r hm => by
        rcases List.mem_append.1 hm with hm | hm
        · exact hr r hm
        · rw [List.mem_singleton.1 hm]; exact fieldP_byte h c)
    · exact Byte.nil
theorem encP_byte {m : S91} (h : Bytes91 m) : Byte (encP m).1 := by
  unfold encP
  split; · exact Byte.nil
  split
  · exact encGo_byte h (fun r hr => by rw [List.mem_singleton.1 hr]; exact encI_byte _)
  · exact Byte.nil
theorem encP_len {m : S91} {z : List Int} (h : encP m = (z, 0)) : z.length ≤ 10000000 := by
  obtain ⟨_, _, s, hj, hs⟩ := encP_right h
  obtain ⟨e1, e2, _⟩ := joinP_some hj
  have h1 := encL_len e2
  have h2 := rowsSize_le e2
  have h3 := parts_small m.kind
  rw [List.length_cons] at h2
  rw [e1]
  have h4 : (s.length + 1) * (65536 + 1) ≤ 10 * 65537 := Nat.mul_le_mul (by omega) (by omega)
  omega
set_option maxHeartbeats 8000000 in
set_option maxRecDepth 100000 in
theorem cuts_calls (m : S91) (a : Nat → Option Addr) (d : Nat → Nat) (k : Int) (w : World) (hM : Msg w m a d) (hF : Fit91 m) (hY : Bytes91 m) :
    Calls Try.prog 21 #[.agg #[.int .i64 m.kind, .int .i64 m.view, .int .i64 m.seq, .int .i64 m.client, .int .i64 m.stamp, .int .i64 m.entry.f0, .int .i64 m.entry.f1, .int .i64 m.entry.f2, .slice (a 0) m.entry.f3.length (d 0), .slice (a 1) m.digest.length (d 1), .slice (a 2) m.data.length (d 2), .slice (a 3) m.proof.length (d 3), .slice (a 4) m.proven.length (d 4)], .int .i64 k] w fun e w' => e = .returned (.bool true) ∧ Below w.heap.size w w' := by
  have hu91 := Try.underlying91
  have HM := Aside0.mk hM
  have HF := Aside0.mk hF
  have HY := Aside0.mk hY
  have HX0 := Aside0.mk (blk_new w (.cells #[.int .i64 m.kind, .int .i64 m.view, .int .i64 m.seq, .int .i64 m.client, .int .i64 m.stamp, .int .i64 m.entry.f0, .int .i64 m.entry.f1, .int .i64 m.entry.f2, .slice (a 0) m.entry.f3.length (d 0), .slice (a 1) m.digest.length (d 1), .slice (a 2) m.data.length (d 2), .slice (a 3) m.proof.length (d 3), .slice (a 4) m.proven.length (d 4)] 91))
  have HB0 := Aside0.mk (below_alloc (Below.refl w.heap.size w) (.cells #[.int .i64 m.kind, .int .i64 m.view, .int .i64 m.seq, .int .i64 m.client, .int .i64 m.stamp, .int .i64 m.entry.f0, .int .i64 m.entry.f1, .int .i64 m.entry.f2, .slice (a 0) m.entry.f3.length (d 0), .slice (a 1) m.digest.length (d 1), .slice (a 2) m.data.length (d 2), .slice (a 3) m.proof.length (d 3), .slice (a 4) m.proven.length (d 4)] 91))
  clear hM hF hY
  go_enter Try.func21, Try.ntmps21
  go_wp2_with (fail)
  generalize w.alloc (.cells #[.int .i64 m.kind, .int .i64 m.view, .int .i64 m.seq, .int .i64 m.client, .int .i64 m.stamp, .int .i64 m.entry.f0, .int .i64 m.entry.f1, .int .i64 m.entry.f2, .slice (a 0) m.entry.f3.length (d 0), .slice (a 1) m.digest.length (d 1), .slice (a 2) m.data.length (d 2), .slice (a 3) m.proof.length (d 3), .slice (a 4) m.proven.length (d 4)] 91) = w0 at HX0 HB0 ⊢
  refine (alive_calls w0).mono ?_
  rintro e w1 ⟨rfl, hB⟩
  have HX1 := Aside0.mk ((hB.block _ (blk_lt2 HX0.out)).trans HX0.out)
  have HB1 := Aside0.mk (below_then HB0.out HB0.out.size hB)
  have y0 : w1.cell? ⟨w.heap.size, 0, none⟩ = some (.int .i64 m.kind) := (blk_cell HX1.out 0).trans rfl
  have y1 : w1.cell? ⟨w.heap.size, 1, none⟩ = some (.int .i64 m.view) := (blk_cell HX1.out 1).trans rfl
  have y2 : w1.cell? ⟨w.heap.size, 2, none⟩ = some (.int .i64 m.seq) := (blk_cell HX1.out 2).trans rfl
  have y3 : w1.cell? ⟨w.heap.size, 3, none⟩ = some (.int .i64 m.client) := (blk_cell HX1.out 3).trans rfl
  have y4 : w1.cell? ⟨w.heap.size, 4, none⟩ = some (.int .i64 m.stamp) := (blk_cell HX1.out 4).trans rfl
  have y5 : w1.cell? ⟨w.heap.size, 5, none⟩ = some (.int .i64 m.entry.f0) := (blk_cell HX1.out 5).trans rfl
  have y6 : w1.cell? ⟨w.heap.size, 6, none⟩ = some (.int .i64 m.entry.f1) := (blk_cell HX1.out 6).trans rfl
  have y7 : w1.cell? ⟨w.heap.size, 7, none⟩ = some (.int .i64 m.entry.f2) := (blk_cell HX1.out 7).trans rfl
  have y8 : w1.cell? ⟨w.heap.size, 8, none⟩ = some (.slice (a 0) m.entry.f3.length (d 0)) := (blk_cell HX1.out 8).trans rfl
  have y9 : w1.cell? ⟨w.heap.size, 9, none⟩ = some (.slice (a 1) m.digest.length (d 1)) := (blk_cell HX1.out 9).trans rfl
  have y10 : w1.cell? ⟨w.heap.size, 10, none⟩ = some (.slice (a 2) m.data.length (d 2)) := (blk_cell HX1.out 10).trans rfl
  have y11 : w1.cell? ⟨w.heap.size, 11, none⟩ = some (.slice (a 3) m.proof.length (d 3)) := (blk_cell HX1.out 11).trans rfl
  have y12 : w1.cell? ⟨w.heap.size, 12, none⟩ = some (.slice (a 4) m.proven.length (d 4)) := (blk_cell HX1.out 12).trans rfl
  clear hB HX0 HB0
  go_wp2_with (fail)
  have hE := heavy_calls m a d 20000 w1 (HM.out.below HB1.out)
  with_reducible refine hE.mono ?_
  rintro e w2 ⟨q, rfl, hB⟩
  have HX2 := Aside0.mk ((hB.block _ (blk_lt2 HX1.out)).trans HX1.out)
  have HB2 := Aside0.mk (below_then HB1.out HB1.out.size hB)
  clear hB hE y0 y1 y2 y3 y4 y5 y6 y7 y8 y9 y10 y11 y12 HX1 HB1
  cases q with
  | true =>
    go_wp2_with (fail)
    go_ret
    exact ⟨rfl, HB2.out⟩
  | false =>
    have y0 : w2.cell? ⟨w.heap.size, 0, none⟩ = some (.int .i64 m.kind) := (blk_cell HX2.out 0).trans rfl
    have y1 : w2.cell? ⟨w.heap.size, 1, none⟩ = some (.int .i64 m.view) := (blk_cell HX2.out 1).trans rfl
    have y2 : w2.cell? ⟨w.heap.size, 2, none⟩ = some (.int .i64 m.seq) := (blk_cell HX2.out 2).trans rfl
    have y3 : w2.cell? ⟨w.heap.size, 3, none⟩ = some (.int .i64 m.client) := (blk_cell HX2.out 3).trans rfl
    have y4 : w2.cell? ⟨w.heap.size, 4, none⟩ = some (.int .i64 m.stamp) := (blk_cell HX2.out 4).trans rfl
    have y5 : w2.cell? ⟨w.heap.size, 5, none⟩ = some (.int .i64 m.entry.f0) := (blk_cell HX2.out 5).trans rfl
    have y6 : w2.cell? ⟨w.heap.size, 6, none⟩ = some (.int .i64 m.entry.f1) := (blk_cell HX2.out 6).trans rfl
    have y7 : w2.cell? ⟨w.heap.size, 7, none⟩ = some (.int .i64 m.entry.f2) := (blk_cell HX2.out 7).trans rfl
    have y8 : w2.cell? ⟨w.heap.size, 8, none⟩ = some (.slice (a 0) m.entry.f3.length (d 0)) := (blk_cell HX2.out 8).trans rfl
    have y9 : w2.cell? ⟨w.heap.size, 9, none⟩ = some (.slice (a 1) m.digest.length (d 1)) := (blk_cell HX2.out 9).trans rfl
    have y10 : w2.cell? ⟨w.heap.size, 10, none⟩ = some (.slice (a 2) m.data.length (d 2)) := (blk_cell HX2.out 10).trans rfl
    have y11 : w2.cell? ⟨w.heap.size, 11, none⟩ = some (.slice (a 3) m.proof.length (d 3)) := (blk_cell HX2.out 11).trans rfl
    have y12 : w2.cell? ⟨w.heap.size, 12, none⟩ = some (.slice (a 4) m.proven.length (d 4)) := (blk_cell HX2.out 12).trans rfl
    go_wp2_with (fail)
    have hE := copyMsg_calls m a d w2 (HM.out.below HB2.out) HF.out
    with_reducible refine hE.mono ?_
    rintro e w3 ⟨b, c, rfl, hM3, hB⟩
    have HX3 := Aside0.mk ((hB.block _ (blk_lt2 HX2.out)).trans HX2.out)
    have HB3 := Aside0.mk (below_then HB2.out HB2.out.size hB)
    have HM3 := Aside0.mk hM3
    clear hB hE hM3 y0 y1 y2 y3 y4 y5 y6 y7 y8 y9 y10 y11 y12 HX2 HB2
    go_wp2_with (fail)
    obtain ⟨z, x, hz⟩ : ∃ z x, encP m = (z, x) := ⟨_, _, rfl⟩
    have hE := encode_calls m b c z x w3 HM3.out hz
    with_reducible refine hE.mono ?_
    rintro e w4 ⟨A1, c1, rfl, hc1, hC1, hB⟩
    have HB4 := Aside0.mk (below_then HB3.out HB3.out.size hB)
    have HC1 := Aside0.mk hC1
    clear hB hE hC1 HX3 HB3 HM3
    by_cases hx : x = 0
    · subst hx
      have HZ := Aside0.mk hz
      have HZL := Aside0.mk (encP_len hz)
      have HZB := Aside0.mk (show Byte z by have := encP_byte HY.out; rw [hz] at this; exact this)
      clear hz
      go_wp2_with (fail)
      refine (copyBytes_calls A1 c1 z w4 HC1.out hc1 (by have := HZL.out; omega)).mono ?_
      rintro e w5 ⟨A2, c2, rfl, hG⟩
      have HB5 := Aside0.mk (below_then HB4.out HB4.out.size hG.keep)
      have HR5 := Aside0.mk hG.own
      have HK5 := Aside0.mk hG.keep
      have hs5 := hG.keep.size
      have hzl := HZL.out
      clear hG
      go_wp2_with (at_builtin; refine Kd.R_append (Kd.int .u8) (w0 := w4) w4.heap.size rfl (.tmp 23) (.tmp 24) 22 5 (.int .u8 0) 1 rfl Try.underlying22 info5 rfl (by decide) (by decide) (.slice A2 z.length c2) z 0 [.int .u8 0] (fun k_ => w4.heap.size ≤ k_) (fun k_ => w4.heap.size ≤ k_ ∧ some k_ ≠ (Value.slice A2 z.length c2).ownBlock) rfl rfl rfl (fun _ h => h) (fun k hk => by omega) HR5.out HK5.out hs5 (by omega) ?_; intro v6 w6 hR6 hB6 hg6 hat6; obtain ⟨A6, c6, rfl⟩ := Kd.R_slice hR6; have HR6 := Aside0.mk hR6; have HB6 := Aside0.mk (below_then HB4.out HB4.out.size hB6); have HC6 := Aside0.mk (Kd.C_below HC1.out hB6); clear hR6 hB6 hg6 hat6)
      have hE := decode_calls A6 c6 (z ++ [0]) none w6 (Kd.R_reads' HR6.out).2.2 (Kd.R_reads' HR6.out).2.1 (Byte.append HZB.out (fun r hr => by rw [List.mem_singleton.1 hr]; decide)) (by rw [List.length_append]; have := HZL.out; show z.length + 1 < _; omega) (cut_more HZB.out HZ.out)
      rw [show (z ++ [(0 : Int)]).length = z.length + 1 from by simp] at hE
      refine hE.mono ?_
      rintro e w7 ⟨hB, rfl⟩
      have HB7 := Aside0.mk (below_then HB6.out HB6.out.size hB)
      have HC7 := Aside0.mk (Kd.C_below HC6.out hB)
      clear hB hE HC6 HR6 HB6
      by_cases h0 : k < 0
      · go_wp2_with (fail)
        go_ret
        exact ⟨rfl, HB7.out⟩
      · by_cases h1 : (z.length : Int) ≤ k
        · go_wp2_with (fail)
          go_ret
          exact ⟨rfl, HB7.out⟩
        · obtain ⟨n, rfl⟩ := Int.eq_ofNat_of_zero_le (by omega : 0 ≤ k)
          have hn : n < z.length := by omega
          have HN := Aside0.mk hn
          obtain ⟨ys, hys, hcap, heq, hrd⟩ := take_bytes A1 c1 n z (by omega) hc1
          have HQ := Aside0.mk heq
          have HYS := Aside0.mk hys
          have HCap := Aside0.mk hcap
          have HRD := Aside0.mk hrd
          clear heq hcap hys hrd
          go_wp2_with (rw [HQ.out])
          have hyl : ys.length = n := by rw [HYS.out, List.length_take]; omega
          have hE := decode_calls A1 c1 ys none w7 (HRD.out w7 HC7.out) HCap.out (by rw [HYS.out]; exact Byte.take HZB.out n) (by have := HZL.out; omega) (by rw [HYS.out]; exact cut_less HZB.out HZ.out HN.out)
          rw [hyl] at hE
          refine hE.mono ?_
          rintro e w8 ⟨hB, rfl⟩
          have HB8 := Aside0.mk (below_then HB7.out HB7.out.size hB)
          clear hB hE hyl
          go_wp2_with (fail)
          go_ret
          exact ⟨rfl, below_alloc HB8.out _⟩
    · have b0 : (x != 0) = true := bne_iff_ne.mpr hx
      clear hx hz
      go_wp2_with (fail)
      go_ret
      exact ⟨rfl, HB4.out⟩
end Go.Proofs.Ytijccobeljoikaa.Ms

/- What comes in to the messages' laws, opened: letters, entries, what is proven, messages. -/
namespace Go.Proofs.Ytijccobeljoikaa.Opens
open Go.RowKit Go.ChangeShapes Go.WideShapes Go.Deep
open Go.Proofs.YtijccobeljoikaaW.PrintWords
open Go.Proofs.Ytijccobeljoikaa.Ms Go.Proofs.Ytijccobeljoikaa.Plain
set_option linter.unusedVariables false
set_option linter.unusedSimpArgs false

theorem open_arg {α H : Type} {enc : TypeId × Value → H} {W : World} {base : Nat} {held : Bool} {t : TypeId} {d : Kd α} {G : α → Prop} (ho : Opens Try.prog W t d G) {ts : List TypeId} {ds : List (DataW H)} {j : Nat} {dd : DataW H} {ps : List MemPlace} {v : Value}
    (hsz : (DataW.weightsEach Try.prog ts ds).all (· ≤ reachBytes) = true) (ht : ts[j]? = some t) (hd : ds[j]? = some dd) (h : DataW.Trod enc Try.prog W base (fun _ => true) held t v dd ps) : ∃ x, d.K W x v.cells.toList ∧ G x := by
  obtain ⟨fuel, hf⟩ := h
  exact ho enc base held fuel _ _ hf (fun n hn => by
    have := List.all_eq_true.1 hsz _ (DataW.weights_mem_each ht hd _ hn)
    simpa using this)
/-- An argument that is a slice. -/
theorem open_slice_arg {α H : Type} {enc : TypeId × Value → H} {W : World} {base : Nat} {held : Bool} {t e : TypeId} {d : Kd α} {G : List α → Prop} (ho : Opens Try.prog W t (Kd.slice e d) G) {ts : List TypeId} {ds : List (DataW H)} {j : Nat} {dd : DataW H} {ps : List MemPlace} {a : Option Addr} {len cap : Nat}
    (hsz : (DataW.weightsEach Try.prog ts ds).all (· ≤ reachBytes) = true) (ht : ts[j]? = some t) (hd : ds[j]? = some dd) (h : DataW.Trod enc Try.prog W base (fun _ => true) held t (.slice a len cap) dd ps) :
    ∃ l : List α, len = l.length ∧ l.length ≤ cap ∧ Kd.C d W a l.length l ∧ G l := by
  obtain ⟨l, ⟨A, c, he, hl, hC⟩, hg⟩ := open_arg ho hsz ht hd h
  simp [Value.cells] at he
  obtain ⟨rfl, rfl, rfl⟩ := he
  exact ⟨l, rfl, hl, hC, hg⟩
theorem opens_mono {α : Type} {P : Program} {W : World} {t : TypeId} {d : Kd α} {G G' : α → Prop} (h : Opens P W t d G) (hg : ∀ x, G x → G' x) : Opens P W t d G' := fun enc base held fuel cs x hx hw => by
  obtain ⟨v, h1, h2⟩ := h enc base held fuel cs x hx hw
  exact ⟨v, h1, hg v h2⟩
/-- The kind of a message. -/
def k91 : Kd S91 := Kd.iso (Kd.pair (Kd.int .i64) (Kd.pair (Kd.int .i64) (Kd.pair (Kd.int .i64) (Kd.pair (Kd.int .i64) (Kd.pair (Kd.int .i64) (Kd.pair k87 (Kd.pair (Kd.slice 5 (Kd.int .u8)) (Kd.pair (Kd.slice 5 (Kd.int .u8)) (Kd.pair (Kd.slice 72 k72) (Kd.slice 101 k101)))))))))) (fun m : S91 => (m.kind, m.view, m.seq, m.client, m.stamp, m.entry, m.digest, m.data, m.proof, m.proven))
theorem k91_open {W : World} {m : S91} {cs : Array Value} (h : k91.K W m cs.toList) : ∃ (a : Nat → Option Addr) (d : Nat → Nat), cs = #[.int .i64 m.kind, .int .i64 m.view, .int .i64 m.seq, .int .i64 m.client, .int .i64 m.stamp, .int .i64 m.entry.f0, .int .i64 m.entry.f1, .int .i64 m.entry.f2, .slice (a 0) m.entry.f3.length (d 0), .slice (a 1) m.digest.length (d 1), .slice (a 2) m.data.length (d 2), .slice (a 3) m.proof.length (d 3), .slice (a 4) m.proven.length (d 4)] ∧ Msg W m a d := by
  obtain ⟨_, _, he, rfl, ⟨_, _, rfl, rfl, ⟨_, _, rfl, rfl, ⟨_, _, rfl, rfl, ⟨_, _, rfl, rfl, ⟨_, _, rfl, s5, ⟨_, _, rfl, ⟨A1, c1, rfl, l1, g1⟩, ⟨_, _, rfl, ⟨A2, c2, rfl, l2, g2⟩, ⟨_, _, rfl, ⟨A3, c3, rfl, l3, g3⟩, ⟨A4, c4, rfl, l4, g4⟩⟩⟩⟩⟩⟩⟩⟩⟩⟩ := h
  obtain ⟨A0, c0, rfl, l0, g0⟩ := k87_open s5
  refine ⟨fun j => match j with | 0 => A0 | 1 => A1 | 2 => A2 | 3 => A3 | _ => A4, fun j => match j with | 0 => c0 | 1 => c1 | 2 => c2 | 3 => c3 | _ => c4, ?_, ⟨g0, l0, g1, l1, g2, l2, g3, l3, g4, l4⟩⟩
  exact Array.toList_inj.1 he
/-- A slice's bytes are bytes. -/
theorem byte_of_wf {l : List Int} (h : ∀ r ∈ l, (Lit.int .u8 r).wf = true) : Byte l := fun r hr => by
  have := h r hr
  simp [Lit.wf, IntKind.min, IntKind.max, IntKind.signed, IntKind.bits] at this
  exact ⟨this.1, by omega⟩

instance : Inhabited Ms.S72 := ⟨Ms.z72⟩
instance : Inhabited Ms.S101 := ⟨Ms.z101⟩
section
variable {W : World}
theorem o3 : Opens Try.prog W 3 (Kd.int .i64) (fun v => (Lit.int .i64 v).wf = true) := opens_int Try.underlying3
theorem o5 : Opens Try.prog W 5 (Kd.int .u8) (fun v => (Lit.int .u8 v).wf = true) := opens_int Try.underlying5
theorem o22 : Opens Try.prog W 22 (Kd.slice 5 (Kd.int .u8)) (fun l => l.length ≤ 140737488355328 ∧ Byte l) := opens_mono (opens_slice (B := 1) Try.underlying22 (by kernel_rfl) (by kernel_rfl) o5) (fun l h => by
  obtain ⟨h1, h2⟩ := h
  simp only [reachBytes] at h1
  exact ⟨by omega, byte_of_wf h2⟩)
theorem o32 : Opens Try.prog W 32 (Kd.slice 22 (Kd.slice 5 (Kd.int .u8))) (fun l => l.length * 24 ≤ 140737488355328 ∧ ∀ r ∈ l, r.length ≤ 140737488355328 ∧ Byte r) := opens_mono (opens_slice (B := 24) Try.underlying32 (by kernel_rfl) (by kernel_rfl) o22) (fun l h => by
  obtain ⟨h1, h2⟩ := h
  simp only [reachBytes] at h1
  exact ⟨by omega, h2⟩)
theorem o70 : Opens Try.prog W 70 Ms.k70 (fun y => (Lit.int .i64 y.f0).wf = true ∧ (Lit.int .i64 y.f1).wf = true) :=
  opens_struct Try.underlying70 rfl (by kernel_rfl) (opensF_cons rfl (by kernel_rfl) o3 (opensF_one rfl (by kernel_rfl) o3)) (fun x : Ms.S70 => (x.f0, x.f1)) (fun p => ⟨p.1, p.2⟩) (fun _ => rfl)
theorem o72 : Opens Try.prog W 72 Ms.k72 (fun y => Fit72 y ∧ Bytes72 y) :=
  opens_mono (opens_struct Try.underlying72 rfl (by kernel_rfl) (opensF_cons rfl (by kernel_rfl) o70 (opensF_cons rfl (by kernel_rfl) o3 (opensF_cons rfl (by kernel_rfl) o22 (opensF_one rfl (by kernel_rfl) o32)))) (fun x : Ms.S72 => (x.f0, x.f1, x.f2, x.f3)) (fun p => ⟨p.1, p.2.1, p.2.2.1, p.2.2.2⟩) (fun _ => rfl)) (fun y h => by
    obtain ⟨_, _, ⟨h1, h2⟩, h3, h4⟩ := h
    exact ⟨⟨h1, h3, fun r hr => (h4 r hr).1⟩, ⟨h2, fun r hr => (h4 r hr).2⟩⟩)
theorem o87 : Opens Try.prog W 87 Ms.k87 (fun y => y.f3.length ≤ 140737488355328 ∧ Byte y.f3) :=
  opens_mono (opens_struct Try.underlying87 rfl (by kernel_rfl) (opensF_cons rfl (by kernel_rfl) o3 (opensF_cons rfl (by kernel_rfl) o3 (opensF_cons rfl (by kernel_rfl) o3 (opensF_one rfl (by kernel_rfl) o22)))) (fun x : Ms.S87 => (x.f0, x.f1, x.f2, x.f3)) (fun p => ⟨p.1, p.2.1, p.2.2.1, p.2.2.2⟩) (fun _ => rfl)) (fun y h => h.2.2.2)
theorem o88 : Opens Try.prog W 88 (Kd.slice 72 Ms.k72) (fun l => l.length * 72 ≤ 140737488355328 ∧ ∀ r ∈ l, Fit72 r ∧ Bytes72 r) := opens_mono (opens_slice (B := 72) Try.underlying88 (by kernel_rfl) (by kernel_rfl) o72) (fun l h => by
  obtain ⟨h1, h2⟩ := h
  simp only [reachBytes] at h1
  exact ⟨by omega, h2⟩)
theorem o101 : Opens Try.prog W 101 Ms.k101 (fun y => Fit101 y ∧ Bytes101 y) :=
  opens_mono (opens_struct Try.underlying101 rfl (by kernel_rfl) (opensF_cons rfl (by kernel_rfl) o3 (opensF_cons rfl (by kernel_rfl) o3 (opensF_cons rfl (by kernel_rfl) o87 (opensF_one rfl (by kernel_rfl) o88)))) (fun x : Ms.S101 => (x.f0, x.f1, x.f2, x.f3)) (fun p => ⟨p.1, p.2.1, p.2.2.1, p.2.2.2⟩) (fun _ => rfl)) (fun y h => by
    obtain ⟨_, _, ⟨h1, h2⟩, h3, h4⟩ := h
    exact ⟨⟨h1, h3, fun r hr => (h4 r hr).1⟩, ⟨h2, fun r hr => (h4 r hr).2⟩⟩)
theorem o89 : Opens Try.prog W 89 (Kd.slice 101 Ms.k101) (fun l => l.length * 88 ≤ 140737488355328 ∧ ∀ r ∈ l, Fit101 r ∧ Bytes101 r) := opens_mono (opens_slice (B := 88) Try.underlying89 (by kernel_rfl) (by kernel_rfl) o101) (fun l h => by
  obtain ⟨h1, h2⟩ := h
  simp only [reachBytes] at h1
  exact ⟨by omega, h2⟩)
set_option maxRecDepth 100000 in
theorem o91 : Opens Try.prog W 91 k91 (fun m => Fit91 m ∧ Bytes91 m) :=
  opens_mono (opens_struct Try.underlying91 rfl (by kernel_rfl) (opensF_cons rfl (by kernel_rfl) o3 (opensF_cons rfl (by kernel_rfl) o3 (opensF_cons rfl (by kernel_rfl) o3 (opensF_cons rfl (by kernel_rfl) o3 (opensF_cons rfl (by kernel_rfl) o3 (opensF_cons rfl (by kernel_rfl) o87 (opensF_cons rfl (by kernel_rfl) o22 (opensF_cons rfl (by kernel_rfl) o22 (opensF_cons rfl (by kernel_rfl) o88 (opensF_one rfl (by kernel_rfl) o89)))))))))) (fun m : S91 => (m.kind, m.view, m.seq, m.client, m.stamp, m.entry, m.digest, m.data, m.proof, m.proven)) (fun p => ⟨p.1, p.2.1, p.2.2.1, p.2.2.2.1, p.2.2.2.2.1, p.2.2.2.2.2.1, p.2.2.2.2.2.2.1, p.2.2.2.2.2.2.2.1, p.2.2.2.2.2.2.2.2.1, p.2.2.2.2.2.2.2.2.2⟩) (fun _ => rfl)) (fun y h => by
    obtain ⟨_, _, _, _, _, ⟨h1, h2⟩, ⟨h3, h4⟩, ⟨h5, h6⟩, ⟨h7, h8⟩, h9, h10⟩ := h
    exact ⟨⟨h1, h3, h5, h7, fun r hr => (h8 r hr).1, h9, fun r hr => (h10 r hr).1⟩, ⟨h2, h4, h6, fun r hr => (h8 r hr).2, fun r hr => (h10 r hr).2⟩⟩)
end
end Go.Proofs.Ytijccobeljoikaa.Opens
namespace Go.Proofs.Ytijccobeljoikaa.Ms
open Go.RowKit Go.Proofs.YtijccobeljoikaaW.PrintWords
theorem cuts_opened {m : S91} {cs : Array Value} {W : World} (k : Int) (h : Opens.k91.K W m cs.toList) (hF : Fit91 m) (hY : Bytes91 m) :
    Calls Try.prog 21 #[.agg cs, .int .i64 k] W fun e w' => e = .returned (.bool true) ∧ Below W.heap.size W w' := by
  obtain ⟨a, d, rfl, hM⟩ := Opens.k91_open h
  exact cuts_calls m a d k W hM hF hY
end Go.Proofs.Ytijccobeljoikaa.Ms
