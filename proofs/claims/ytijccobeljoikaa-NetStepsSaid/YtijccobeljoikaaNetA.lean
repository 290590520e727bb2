/- slices.Clone of a slice of slices: a row of one's own whose cells are those of the given one. -/
import Derived.Test.YtijccobeljoikaaBaseC
import Derived.Test.YtijccobeljoikaaOrNums
import Derived.Deep.Slices
namespace Go.Proofs.Ytijccobeljoikaa.Walks
open Go.RowKit Go.Proofs.YtijccobeljoikaaW.PrintWords Go.Proofs.YtijccobeljoikaaW.PrintLast Go.Proofs.YtijccobeljoikaaW.PrintMore
set_option linter.unusedVariables false
set_option linter.unusedSimpArgs false

/-- A value of one cell, as it stands in memory. -/
abbrev Cell := {v : Value // v.oneCell' = true}
instance : Inhabited Cell := ⟨⟨.bool false, rfl⟩⟩
def cellK : Kd Cell := Kd.scalar Subtype.val (fun x => x.2)

/-- A row of elements of one cell each: its cells as they stand. -/
theorem cells_of_C {α : Type} {d : Kd α} (hd : d.sz = 1) {w : World} {A : Option Addr} {n : Nat} {xs : List α} (h : d.C w A n xs) : ∃ src : List Cell, cellK.C w A n src ∧ ∀ (j : Nat) (x : α) (c : Cell), xs[j]? = some x → src[j]? = some c → d.K w x [c.val] := by
  obtain ⟨hl, hm, hc⟩ := h
  rcases Nat.eq_zero_or_pos n with h0 | h0
  · subst h0
    exact ⟨[], ⟨rfl, hm, fun h => absurd h (by omega)⟩, fun j x c hx hc => by simp at hc⟩
  · obtain ⟨ad, rfl, hcc⟩ := hc h0
    have each : ∀ j, j < n → ∃ c : Cell, ∃ x, xs[j]? = some x ∧ d.K w x [c.val] ∧ w.cell? (ad.add (j * 1)) = some c.val := by
      intro j hj
      obtain ⟨c, h1, h2, h3⟩ := hcc j xs[j] (List.getElem?_eq_getElem (by omega))
      rw [hd] at h1 h3
      obtain ⟨u, rfl⟩ := List.length_eq_one_iff.1 h1
      exact ⟨⟨u, d.K_one h2 u List.mem_cons_self⟩, xs[j], List.getElem?_eq_getElem (by omega), h2, h3 0 u rfl⟩
    obtain ⟨y, hy⟩ := Go.Deep.choose_lt each
    have hget : ∀ j c, ((List.range n).map y)[j]? = some c → j < n ∧ y j = c := by
      intro j c hj
      have hjn : j < n := by have := (List.getElem?_eq_some_iff.1 hj).1; simpa using this
      rw [List.getElem?_map, List.getElem?_range hjn] at hj
      exact ⟨hjn, by simpa using hj⟩
    refine ⟨(List.range n).map y, ⟨by simp, hm, fun _ => ⟨ad, rfl, fun j p hj => ?_⟩⟩, fun j x c hx hc => ?_⟩
    · obtain ⟨hjn, rfl⟩ := hget j p hj
      obtain ⟨x, hx, h1, h2⟩ := hy j hjn
      refine ⟨[(y j).val], rfl, rfl, fun i u hu => ?_⟩
      cases i with
      | zero => simp at hu; subst hu; exact h2
      | succ i => simp at hu
    · obtain ⟨hjn, rfl⟩ := hget j c hc
      obtain ⟨x', hx', h2, _⟩ := hy j hjn
      rw [hx] at hx'
      injection hx' with hx'
      rw [hx']; exact h2

theorem cells_lit_nil (w : World) (e : Nat) : cellK.R e (w.alloc (.cells #[] e)) w.heap.size (fun _ => True) (.slice (some ⟨w.heap.size, 0, none⟩) 0 0) [] :=
  ⟨fun k hk => trivial, [], World.ownsRow_lit (base := w.heap.size) (e := e) (size := 1) w #[] 0 (Nat.le_refl _) (by simp [maxLen]) (by simp), Reps.none _ _⟩

set_option maxRecDepth 100000 in
theorem cloneRows_calls (A0 : Option Addr) (n c0 : Nat) (src : List Cell) (w : World) (hr0 : cellK.C w A0 n src) (hc0 : n ≤ c0) (hn : n * 24 ≤ 140737488355328) :
    Calls Try.prog 126 #[.slice A0 n c0] w fun e w' => ∃ v0_ : Value, e = .returned v0_ ∧ cellK.R 22 w' w.heap.size (fun _ => True) v0_ src ∧ Below w.heap.size w w' := by
  rcases A0 with _ | ad
  · have h0 : n = 0 := by
      rcases Nat.eq_zero_or_pos n with h0 | h0
      · exact h0
      · obtain ⟨ad, h, _⟩ := hr0.2.2 h0
        cases h
    subst h0
    have hs : src = [] := List.eq_nil_of_length_eq_zero hr0.1
    subst hs
    have hq := fun w => Lib.run_eql_slice_nil (P := Try.prog) w 32 22 none 0 c0 0 0 Try.underlying32
    clear hr0 hc0 hn
    go_enter Try.func126, Try.ntmps126
    go_wp2
    go_ret
    exact ⟨_, rfl, Kd.R_nil _ _ _ _ _, Below.refl _ _⟩
  · have HR := Aside0.mk hr0
    have hq := fun w => Lib.run_eql_slice_nil (P := Try.prog) w 32 22 (some ad) n c0 0 0 Try.underlying32
    clear hr0 hc0
    go_enter Try.func126, Try.ntmps126
    go_wp2_with (at_builtin; refine Kd.R_append_rows cellK (w0 := w) w.heap.size rfl (.tmp 5) (.tmp 6) 32 22 (.slice none 0 0) 24 rfl Try.underlying32 info22 rfl (by decide) (by omega) (.slice (some ⟨w.heap.size, 0, none⟩) 0 0) [] src (some ad) n c0 (fun _ => True) (fun _ => False) rfl rfl (cells_lit_nil w 22) (Kd.C_alloc HR.out _) (fun _ _ h => h) (fun _ h => h.elim) (fun _ _ => trivial) ((Below.refl _ _).alloc (Nat.le_refl _) _) (by simp) (by simp; omega) ?_; intro v1 w1 hown hB hg hat; rw [List.nil_append] at hown; have Ho := Aside0.mk hown; have HB := Aside0.mk hB; clear hown hB hg hat)
    go_ret
    exact ⟨_, rfl, Ho.out, HB.out⟩
end Go.Proofs.Ytijccobeljoikaa.Walks
