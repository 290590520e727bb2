/- slices.Delete of one mail: in place, and what lies behind is cleared. -/
import Derived.Test.YtijccobeljoikaaNetF
import Derived.Lib.SliceRun
namespace Go.Proofs.Ytijccobeljoikaa.Nt
open Go.RowKit Go.Proofs.YtijccobeljoikaaW.PrintWords Go.Proofs.YtijccobeljoikaaW.PrintLast Go.Proofs.YtijccobeljoikaaW.PrintMore
open Go.Proofs.Ytijccobeljoikaa.Walks
set_option linter.unusedVariables false
set_option linter.unusedSimpArgs false

theorem setCells_grown (g : Nat) : ∀ (vs : List Value) (o : Nat) (w : World), w.grownBy (w.setCells g o vs) (some g)
  | [], o, w => World.grownBy.refl w _
  | v :: r, o, w => by
    have h := setCells_grown g r (o + 1) (w.setCell ⟨g, o, none⟩ v)
    have hs : (w.setCell ⟨g, o, none⟩ v).heap.size = w.heap.size := by simp [World.setCell]
    refine ⟨h.os.trans (by simp [World.setCell]), h.tape.trans (by simp [World.setCell]), h.output.trans (by simp [World.setCell]), by rw [← hs]; exact h.size, fun k hk hne => ?_⟩
    rw [World.setCells, h.block k (by omega) hne]
    exact Below.heap_setCell w _ v k (fun he => hne (by rw [he]))

/-- Cells behind a row's length are written: the row is what it was. -/
theorem R_spare {α : Type} {d : Kd α} {e base g n c : Nat} {ok : Nat → Prop} {w : World} {xs : List α} (h : d.R e w base ok (.slice (some ⟨g, 0, none⟩) n c) xs) (vs : List Value) (o : Nat) (ho : n * d.sz ≤ o) (hc : o + vs.length ≤ c * d.sz) :
    d.R e (w.setCells g o vs) base ok (.slice (some ⟨g, 0, none⟩) n c) xs := by
  obtain ⟨hn, hnc, _⟩ := Kd.R_reads' h
  obtain ⟨h0, inner, hown, hr⟩ := h
  rcases hown.2 with ⟨hv, _⟩ | ⟨g', cap', cur, hv, hb, hh, hnl, hcm, hcs, htake⟩
  · cases hv
  injection hv with ha _ hcc
  injection ha with ha
  injection ha with hg
  subst hg; subst hcc
  obtain ⟨cur', k1, k2, k3⟩ := setCells_row vs o w cur hh (by omega)
  refine ⟨h0, inner, ⟨hown.1, .inr ⟨g, c, cur', by rw [hn], hb, k1, hnl, hcm, by rw [k2, hcs], ?_⟩⟩, hr.imp_ (fun x cs hM => Kd.M_step hM (fun k hk hlt => setCells_far vs o k (fun he => hk.2 (by rw [he]; simp [Value.ownBlock]))))⟩
  rw [k3, ← htake, ← hn]
  have hcl : cur.toList.length = c * d.sz := by rw [Array.length_toList, hcs]
  rw [List.append_assoc, List.take_append_of_le_length (by rw [List.length_take]; omega), List.take_take, Nat.min_eq_left ho]

def zero74 : Value := .agg #[.int .i64 0, .int .i64 0, .int .i64 0, .int .i64 0, .int .i64 0, .slice none 0 0, .slice none 0 0]
theorem run_zero74 (w : World) : (zeroValue 74).run Try.prog w = .ok zero74 w := by
  obtain ⟨i0, hi0, hz, _, _⟩ := info_parts info74
  simp [zeroValue, typeInfo, hi0, hz, zero74]
set_option maxRecDepth 100000 in
theorem run_clear1 (w : World) (ty : TypeId) (b o n c : Nat) (hn : n = 1) (hc : ∀ j, j < 7 → (w.cell? ⟨b, o + j, none⟩).isSome = true) (hf : ∀ j, j < 7 → w.frozen? ⟨b, o + j, none⟩ = false) :
    (Builtin.clear_ #[58] ty #[.slice (some ⟨b, o, none⟩) n c]).run Try.prog w = .ok (.tuple #[]) (w.setCells b o zero74.cells.toList) := by
  subst hn
  have hzc : (Builtin.zeroCells zero74.cells 1).toList = zero74.cells.toList := by kernel_rfl
  have hst := run_storeCells_cells (P := Try.prog) b o zero74.cells.toList 0 w (by simpa [zero74, Value.cells] using hc) (by simpa [zero74, Value.cells] using hf) (by decide)
  simp only [Nat.add_zero] at hst
  simp [Builtin.clear_, run_underlying Try.underlying58, run_zero74]
  show (Result.andThen (Sem.run Try.prog (storeCells ⟨b, o, none⟩ (Builtin.zeroCells zero74.cells 1).toList) w) fun _ w' => Result.ok (Value.tuple #[]) w') = _
  rw [hzc, hst]
  rfl

set_option maxRecDepth 100000 in
theorem spare_clear {b g n c : Nat} {ok : Nat → Prop} {w : World} {ms : List S74} (h : Kd.R k74 74 w b ok (.slice (some ⟨g, 0, none⟩) (n - 1) c) ms) (h1 : 1 ≤ n) (hnc : n ≤ c) :
    ∃ zs : List Value, zs.length = 7 ∧ Sem.run Try.prog (Builtin.clear_ #[58] 0 #[.slice (some ⟨g, (n - 1) * 7, none⟩) (n - (n - 1)) (c - (n - 1))]) w = .ok (.tuple #[]) (w.setCells g ((n - 1) * 7) zs) := by
  obtain ⟨h0, inner, hown, hr⟩ := h
  rcases hown.2 with ⟨hv, _⟩ | ⟨g', cap', cur, hv, hb, hh, hnl, hcm, hcs, htake⟩
  · cases hv
  injection hv with ha _ hcc
  injection ha with ha
  injection ha with hg
  subst hg; subst hcc
  have hcs : cur.size = c * 7 := hcs
  refine ⟨zero74.cells.toList, rfl, ?_⟩
  refine run_clear1 w 0 g ((n - 1) * 7) _ _ (by omega) (fun j hj => ?_) (fun j hj => blk_frozen hh _)
  rw [blk_cell hh, Array.getElem?_eq_getElem (by omega)]
  rfl

set_option maxHeartbeats 4000000 in
set_option maxRecDepth 100000 in
theorem delete_calls (b : Nat) (w0 w : World) (g n i c : Nat) (ok : Nat → Prop) (ms : List S74) (HO : Kd.R k74 74 w b ok (.slice (some ⟨g, 0, none⟩) n c) ms) (hi : i < n) (hb : b ≤ w.heap.size) (hB : Below b w0 w) (hm : ms.length ≤ 4096) :
    Calls Try.prog 88 #[.slice (some ⟨g, 0, none⟩) n c, .int .i64 (i : Int), .int .i64 ((i : Int) + 1)] w fun e w' => e = .returned (.slice (some ⟨g, 0, none⟩) (n - 1) c) ∧ Kd.R k74 74 w' b ok (.slice (some ⟨g, 0, none⟩) (n - 1) c) (ms.eraseIdx i) ∧ Below b w0 w' ∧ w.grownBy w' (some g) := by
  obtain ⟨hn, hnc, _⟩ := Kd.R_reads' HO
  have H := Aside0.mk HO
  have HB := Aside0.mk hB
  have b0 : (0 ≤ (i : Int)) = True := eq_true (by omega)
  have b1 : ((i : Int) ≤ (i : Int) + 1) = True := eq_true (by omega)
  have b2 : ((i : Int) + 1 ≤ (n : Int)) = True := eq_true (by omega)
  have b3 : ((n : Int) ≤ (c : Int)) = True := eq_true (by omega)
  have b4 : ((i : Int) == (i : Int) + 1) = false := by simp; omega
  have Hn := Aside0.mk hn
  have hn4 : n ≤ 4096 := by omega
  obtain ⟨i0, hi0, _, hsz, _⟩ := info_parts info74
  have hc1 := cut_to (P := Try.prog) 58 74 .i64 Try.underlying58 hi0 (some ⟨g, 0, none⟩) n c (i : Int) (by omega) (by omega) hnc
  have hc2 := cut_from (P := Try.prog) 58 74 .i64 Try.underlying58 hi0 7 hsz (some ⟨g, 0, none⟩) n c ((i : Int) + 1) (by omega) (by omega)
  have e1 : ((i : Int) + 1).toNat = i + 1 := by omega
  rw [e1] at hc2
  rw [Int.toNat_natCast] at hc1
  obtain ⟨A2, hA2⟩ : ∃ A2, A2 = if c = i + 1 then some (⟨g, 0, none⟩ : Addr) else (some (⟨g, 0, none⟩ : Addr)).map (·.add ((i + 1) * 7)) := ⟨_, rfl⟩
  rw [← hA2] at hc2
  have HA2 := Aside0.mk hA2
  clear HO hB hn hA2 hi0 hsz e1
  go_enter Try.func88, Try.ntmps88
  go_wp2_with (fail)
  go_region_law (refine Kd.R_delete_step k74 (w0 := w0) b (by simp [Region.wanted]) (.tmp 22) (.tmp 25) 58 74 rfl Try.underlying58 (show (Try.prog.info? 74).map (·.size) = some 7 by kernel_rfl) (n := n) (k := i) rfl rfl HA2.out rfl (Kd.R_drew H.out) hi (below_drewn HB.out) hb ?_; intro w1 hR1 hB1 hg1; obtain ⟨zs, hzl, hclr⟩ := spare_clear hR1 (by omega : 1 ≤ n) hnc; have Hzl := Aside0.mk hzl; clear hzl; have HR1 := Aside0.mk hR1; have HB1 := Aside0.mk hB1; have HG1 := Aside0.mk hg1; clear hR1 hB1 hg1)
  all_goals (try go_wp2)
  all_goals (
    go_ret
    have s1 := HG1.out.size
    have hg := Kd.R_base HR1.out g (by simp [Value.ownBlock])
    have k := setCells_grown g zs ((n - 1) * 7) w1
    exact ⟨rfl, R_spare HR1.out zs _ (Nat.le_refl _) (by have := Hzl.out; show (n - 1) * 7 + zs.length ≤ c * 7; omega), HB1.out.grown k (Nat.le_trans hb s1) (fun q hq => by injection hq with hq; omega),
      ⟨k.os.trans HG1.out.os, k.tape.trans HG1.out.tape, k.output.trans HG1.out.output, Nat.le_trans s1 k.size, fun q hq hne => (k.block q (Nat.lt_of_lt_of_le hq s1) hne).trans (HG1.out.block q hq hne)⟩⟩)
end Go.Proofs.Ytijccobeljoikaa.Nt
