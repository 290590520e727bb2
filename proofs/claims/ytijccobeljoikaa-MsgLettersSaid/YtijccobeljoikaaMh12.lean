/- Put together of my texts: MtT. -/
import Derived.Test.YtijccobeljoikaaMh7
/- msg: ReadLetter, ReadEntry. -/
namespace Go.Proofs.Ytijccobeljoikaa.Ms
open Go.RowKit Go.Proofs.YtijccobeljoikaaW.PrintWords Go.Proofs.YtijccobeljoikaaW.PrintLast
open Go.Proofs.Ytijccobeljoikaa.Plain Go.Proofs.Ytijccobeljoikaa.Walks
set_option linter.unusedVariables false
set_option linter.unusedSimpArgs false

set_option maxHeartbeats 8000000 in
set_option maxRecDepth 100000 in
theorem read123_calls (l : List Int) (A : Option Addr) (c : Nat) (o : Option S87) (bb bm : Nat) (w : World) (hbb : w.heap[bb]? = some (.cells #[.slice A l.length c] 22)) (hbm : w.heap[bm]? = some (.cells #[.int .i64 0, .int .i64 0, .int .i64 0, .slice none 0 0] 87)) (hC : Kd.C (Kd.int .u8) w A l.length l) (hc : l.length ≤ c) (hb : Byte l) (hl : l.length < 17592186044416) (ho : entryO l = o) :
    Calls Try.prog 123 #[.pointer (some ⟨bb, 0, none⟩), .pointer (some ⟨bm, 0, none⟩)] w fun e w' => w.grownBy w' (some bm) ∧ match (generalizing := false) o with
      | some x => ∃ A3 c3, e = .returned (.tuple #[]) ∧ w'.heap[bm]? = some (.cells #[.int .i64 x.f0, .int .i64 x.f1, .int .i64 x.f2, .slice A3 x.f3.length c3] 87) ∧ Kd.R (Kd.int .u8) 5 w' w.heap.size (fun k => w.heap.size ≤ k) (.slice A3 x.f3.length c3) x.f3
      | none => ∃ y, y ≠ 0 ∧ e = .panicked (fault y) ∧ w'.heap[bm]? = some (.cells #[.int .i64 0, .int .i64 0, .int .i64 0, .slice none 0 0] 87) := by
  have hu87 := Try.underlying87
  have HBB := Aside0.mk hbb
  have HBM := Aside0.mk hbm
  have hE := readEntry_calls A c l o w hC hc hb hl ho
  have x0 : w.cell? ⟨bb, 0, none⟩ = some (.slice A l.length c) := (blk_cell hbb 0).trans rfl
  clear hbb hbm hC hc hb hl ho
  go_enter Try.func123, Try.ntmps123
  go_wp2_with (fail)
  with_reducible refine hE.mono ?_
  clear hE
  rintro e w1 ⟨hB, hh⟩
  have HBM1 := Aside0.mk ((hB.block _ (blk_lt2 HBM.out)).trans HBM.out)
  have HG1 := Aside0.mk (grown_of_below hB (some bm))
  clear hB x0
  cases o with
  | some x =>
    obtain ⟨A3, c3, rfl, hM⟩ := hh
    have HR0 := Aside0.mk hM; clear hM
    go_wp2_with (refine wpList_store_row rfl 87 (.tmp 1) (.tmp 3) rfl bm #[.int .i64 x.f0, .int .i64 x.f1, .int .i64 x.f2, .slice A3 x.f3.length c3] rfl rfl 87 _ HBM1.out size87 rfl (by simp [Value.oneCell']) ?_)
    go_end0
    exact ⟨HG1.out.trans (grown_row _ _ _), rfl, A3, c3, setRow_heap _ _ _ #[.int .i64 x.f0, .int .i64 x.f1, .int .i64 x.f2, .slice A3 x.f3.length c3] _ _ HBM1.out, R_row HR0.out HBM1.out (by simp [Kd.int, Kd.scalar]) _⟩
  | none =>
    obtain ⟨y, hy, rfl⟩ := hh
    have HYY := Aside0.mk hy
    clear hy
    go_wp2_with (fail)
    refine ⟨rfl, ?_⟩
    exact ⟨HG1.out, y, HYY.out, rfl, HBM1.out⟩
set_option maxHeartbeats 8000000 in
set_option maxRecDepth 100000 in
theorem told125_ok (x : S87) (A3 : Option Addr) (c3 : Nat) (w : World) :
    Calls Try.prog 125 #[.agg #[.int .i64 x.f0, .int .i64 x.f1, .int .i64 x.f2, .slice A3 x.f3.length c3], .int .i64 0] w fun e w' => e = .returned (.tuple #[.agg #[.int .i64 x.f0, .int .i64 x.f1, .int .i64 x.f2, .slice A3 x.f3.length c3], .int .i64 0]) ∧ Below w.heap.size w w' := by
  have hu87 := Try.underlying87
  have HB0 := Aside0.mk (below_alloc (below_alloc (Below.refl w.heap.size w) (.cells #[.int .i64 x.f0, .int .i64 x.f1, .int .i64 x.f2, .slice A3 x.f3.length c3] 87)) (.cells #[.int .i64 0, .int .i64 0, .int .i64 0, .slice none 0 0] 87))
  have HX0 := Aside0.mk (blk_new (w.alloc (.cells #[.int .i64 x.f0, .int .i64 x.f1, .int .i64 x.f2, .slice A3 x.f3.length c3] 87)) (.cells #[.int .i64 0, .int .i64 0, .int .i64 0, .slice none 0 0] 87))
  rw [show (w.alloc (.cells #[.int .i64 x.f0, .int .i64 x.f1, .int .i64 x.f2, .slice A3 x.f3.length c3] 87)).heap.size = w.heap.size + 1 by simp] at HX0
  go_enter Try.func125, Try.ntmps125
  go_wp2_with (refine wpList_store_row rfl 87 (.tmp 4) (.tmp 10) rfl (w.heap.size + 1) #[.int .i64 x.f0, .int .i64 x.f1, .int .i64 x.f2, .slice A3 x.f3.length c3] rfl rfl 87 _ HX0.out size87 rfl (by simp [Value.oneCell']) ?_; have HX1 := Aside0.mk (setRow_heap _ _ _ #[.int .i64 x.f0, .int .i64 x.f1, .int .i64 x.f2, .slice A3 x.f3.length c3] _ _ HX0.out); have HB1 := Aside0.mk (below_setRow HB0.out (Nat.le_succ _) #[.int .i64 x.f0, .int .i64 x.f1, .int .i64 x.f2, .slice A3 x.f3.length c3]))
  exact bodyPost_ret (v := .tuple #[.agg #[.int .i64 x.f0, .int .i64 x.f1, .int .i64 x.f2, .slice A3 x.f3.length c3], .int .i64 0]) (results_row_tmp (p := 4) (u := 5) (ty := 87) rfl _ _ (w.heap.size + 1) 87 _ _ _ rfl HX1.out hu87 rfl size87) rfl ⟨rfl, HB1.out⟩
set_option maxHeartbeats 8000000 in
set_option maxRecDepth 100000 in
theorem told125_bad (x : Int) (hx : x ≠ 0) (w : World) :
    Calls Try.prog 125 #[.agg #[.int .i64 0, .int .i64 0, .int .i64 0, .slice none 0 0], .int .i64 x] w fun e w' => e = .returned (.tuple #[.agg #[.int .i64 0, .int .i64 0, .int .i64 0, .slice none 0 0], .int .i64 12]) ∧ Below w.heap.size w w' := by
  have hu87 := Try.underlying87
  have b0 : (x != 0) = true := bne_iff_ne.mpr hx
  clear hx
  have HB0 := Aside0.mk (below_alloc (below_alloc (below_alloc (Below.refl w.heap.size w) (.cells #[.int .i64 0, .int .i64 0, .int .i64 0, .slice none 0 0] 87)) (.cells #[.int .i64 0, .int .i64 0, .int .i64 0, .slice none 0 0] 87)) (.cells #[.int .i64 0, .int .i64 0, .int .i64 0, .slice none 0 0] 87))
  have HX0 := Aside0.mk ((Below.heap_alloc ((w.alloc (.cells #[.int .i64 0, .int .i64 0, .int .i64 0, .slice none 0 0] 87)).alloc (.cells #[.int .i64 0, .int .i64 0, .int .i64 0, .slice none 0 0] 87)) (.cells #[.int .i64 0, .int .i64 0, .int .i64 0, .slice none 0 0] 87) _ (by simp)).trans (blk_new (w.alloc (.cells #[.int .i64 0, .int .i64 0, .int .i64 0, .slice none 0 0] 87)) (.cells #[.int .i64 0, .int .i64 0, .int .i64 0, .slice none 0 0] 87)))
  rw [show (w.alloc (.cells #[.int .i64 0, .int .i64 0, .int .i64 0, .slice none 0 0] 87)).heap.size = w.heap.size + 1 by simp] at HX0
  go_enter Try.func125, Try.ntmps125
  go_wp2_with (refine wpList_store_row rfl 87 (.tmp 4) (.tmp 9) rfl (w.heap.size + 1) #[.int .i64 0, .int .i64 0, .int .i64 0, .slice none 0 0] rfl rfl 87 _ HX0.out size87 rfl (by simp [Value.oneCell']) ?_; have HX1 := Aside0.mk (setRow_heap _ _ _ #[.int .i64 0, .int .i64 0, .int .i64 0, .slice none 0 0] _ _ HX0.out); have HB1 := Aside0.mk (below_setRow HB0.out (Nat.le_succ _) #[.int .i64 0, .int .i64 0, .int .i64 0, .slice none 0 0]))
  exact bodyPost_ret (v := .tuple #[.agg #[.int .i64 0, .int .i64 0, .int .i64 0, .slice none 0 0], .int .i64 12]) (results_row_tmp (p := 4) (u := 5) (ty := 87) rfl _ _ (w.heap.size + 1) 87 _ _ _ rfl HX1.out hu87 rfl size87) rfl ⟨rfl, HB1.out⟩
set_option maxHeartbeats 8000000 in
set_option maxRecDepth 100000 in
theorem read79_calls (A : Option Addr) (c : Nat) (l : List Int) (o : Option S87) (w : World) (hC : Kd.C (Kd.int .u8) w A l.length l) (hc : l.length ≤ c) (hb : Byte l) (hl : l.length < 17592186044416) (ho : entryO l = o) :
    Calls Try.prog 79 #[.slice A l.length c] w fun e w' => Below w.heap.size w w' ∧ match (generalizing := false) o with
      | some x => ∃ A3 c3, e = .returned (.tuple #[.agg #[.int .i64 x.f0, .int .i64 x.f1, .int .i64 x.f2, .slice A3 x.f3.length c3], .int .i64 0]) ∧ Kd.C (Kd.int .u8) w' A3 x.f3.length x.f3 ∧ x.f3.length ≤ c3
      | none => e = .returned (.tuple #[.agg #[.int .i64 0, .int .i64 0, .int .i64 0, .slice none 0 0], .int .i64 12]) := by
  have hu87 := Try.underlying87
  have HC := Aside0.mk hC
  have Hc := Aside0.mk hc
  have HBy := Aside0.mk hb
  have HL := Aside0.mk hl
  have HO := Aside0.mk ho
  clear hC hc hb hl ho
  have hmf : ∀ (fn : Fn) (first cap : Array Value) (w : World), (Instr.makeFunc fn first cap).run Try.prog w = .ok (.func fn first cap) w := fun _ _ _ _ => rfl
  have HB0 := Aside0.mk (below_alloc (below_alloc (below_alloc (Below.refl w.heap.size w) (.cells #[.slice A l.length c] 22)) (.cells #[.int .i64 0, .int .i64 0, .int .i64 0, .slice none 0 0] 87)) (.cells #[.int .i64 0, .int .i64 0, .int .i64 0, .slice none 0 0] 87))
  have e1 : (w.alloc (.cells #[.slice A l.length c] 22)).heap.size = w.heap.size + 1 := by simp
  have e2 : ((w.alloc (.cells #[.slice A l.length c] 22)).alloc (.cells #[.int .i64 0, .int .i64 0, .int .i64 0, .slice none 0 0] 87)).heap.size = w.heap.size + 2 := by simp
  have hX0 := blk_new w (.cells #[.slice A l.length c] 22)
  have hX1 := (Below.heap_alloc (w.alloc (.cells #[.slice A l.length c] 22)) (.cells #[.int .i64 0, .int .i64 0, .int .i64 0, .slice none 0 0] 87) _ (blk_lt2 hX0)).trans hX0
  have hX2 := (Below.heap_alloc ((w.alloc (.cells #[.slice A l.length c] 22)).alloc (.cells #[.int .i64 0, .int .i64 0, .int .i64 0, .slice none 0 0] 87)) (.cells #[.int .i64 0, .int .i64 0, .int .i64 0, .slice none 0 0] 87) _ (blk_lt2 hX1)).trans hX1
  have hY1 := blk_new (w.alloc (.cells #[.slice A l.length c] 22)) (.cells #[.int .i64 0, .int .i64 0, .int .i64 0, .slice none 0 0] 87)
  have hY2 := (Below.heap_alloc ((w.alloc (.cells #[.slice A l.length c] 22)).alloc (.cells #[.int .i64 0, .int .i64 0, .int .i64 0, .slice none 0 0] 87)) (.cells #[.int .i64 0, .int .i64 0, .int .i64 0, .slice none 0 0] 87) _ (blk_lt2 hY1)).trans hY1
  have hZ2 := blk_new ((w.alloc (.cells #[.slice A l.length c] 22)).alloc (.cells #[.int .i64 0, .int .i64 0, .int .i64 0, .slice none 0 0] 87)) (.cells #[.int .i64 0, .int .i64 0, .int .i64 0, .slice none 0 0] 87)
  rw [e1] at hY2
  rw [e2] at hZ2
  have HX := Aside0.mk hX2
  have HY := Aside0.mk hY2
  have HZ := Aside0.mk hZ2
  clear hX0 hX1 hX2 hY1 hY2 hZ2 e1 e2
  go_enter Try.func79, Try.ntmps79
  go_wp2_with (fail)
  generalize ((w.alloc (.cells #[.slice A l.length c] 22)).alloc (.cells #[.int .i64 0, .int .i64 0, .int .i64 0, .slice none 0 0] 87)).alloc (.cells #[.int .i64 0, .int .i64 0, .int .i64 0, .slice none 0 0] 87) = w2 at HX HY HZ HB0 ⊢
  refine (caught_calls 123 #[.pointer (some ⟨w.heap.size, 0, none⟩), .pointer (some ⟨w.heap.size + 2, 0, none⟩)] w2 (fun r w3 => w2.grownBy w3 (some (w.heap.size + 2)) ∧ w3.heap[w2.heap.size]? = some (.cells #[.int .i64 0] 23) ∧ match (generalizing := false) o with
      | some x => r = none ∧ ∃ A3 c3, w3.heap[w.heap.size + 2]? = some (.cells #[.int .i64 x.f0, .int .i64 x.f1, .int .i64 x.f2, .slice A3 x.f3.length c3] 87) ∧ Kd.R (Kd.int .u8) 5 w3 w2.heap.size (fun k => w2.heap.size ≤ k) (.slice A3 x.f3.length c3) x.f3
      | none => ∃ y, y ≠ 0 ∧ r = some y ∧ w3.heap[w.heap.size + 2]? = some (.cells #[.int .i64 0, .int .i64 0, .int .i64 0, .slice none 0 0] 87)) (fun _ => by kernel_rfl) ?_).mono ?_
  · intro W hW
    have hg0 := World.grownBy_alloc w2 (.cells #[.int .i64 0] 23) (some (w.heap.size + 2))
    have hbW := below_alloc (Below.refl w2.heap.size w2) (.cells #[.int .i64 0] 23)
    have hnW := blk_new w2 (.cells #[.int .i64 0] 23)
    rw [← hW] at hg0 hbW hnW
    have hne : w2.heap.size ≠ w.heap.size + 2 := fun e => by have := blk_lt2 HZ.out; omega
    refine (read123_calls l A c o w.heap.size (w.heap.size + 2) W ((hbW.block _ (blk_lt2 HX.out)).trans HX.out) ((hbW.block _ (blk_lt2 HZ.out)).trans HZ.out) (Kd.C_below HC.out (below_then HB0.out HB0.out.size hbW)) Hc.out HBy.out HL.out HO.out).mono ?_
    rintro e w3 ⟨hg, hh⟩
    have hbk := (hg.block _ (blk_lt2 hnW) (by intro e; injection e with e; exact hne e)).trans hnW
    cases o with
    | some x =>
      obtain ⟨A3, c3, rfl, hbx, hR0⟩ := hh
      exact ⟨⟨none, ⟨hg0.trans hg, hbk, rfl, A3, c3, hbx, Kd.R_mono (Kd.R_lower hR0 hbW.size) (fun k hk => Nat.le_trans hbW.size hk)⟩, rfl⟩, (blk_cell hbk 0).trans rfl, blk_frozen hbk 0, hbk⟩
    | none =>
      obtain ⟨y, hy, rfl, hbx⟩ := hh
      exact ⟨⟨some y, ⟨hg0.trans hg, hbk, y, hy, rfl, hbx⟩, rfl⟩, (blk_cell hbk 0).trans rfl, blk_frozen hbk 0, hbk⟩
  rintro e w4 ⟨r, w3, ⟨hg, hbk, hh⟩, rfl, rfl⟩
  have hne : w.heap.size + 2 ≠ w2.heap.size := fun e => by have := blk_lt2 HZ.out; omega
  have hne1 : w.heap.size + 1 ≠ w2.heap.size := fun e => by have := blk_lt2 HZ.out; omega
  have HB3 := Aside0.mk (HB0.out.grown hg HB0.out.size (fun k hk => by injection hk with hk; omega))
  have HB4 := Aside0.mk (below_set (j := 0) (v := .int .i64 (r.getD 0)) HB3.out (show w.heap.size ≤ w2.heap.size from HB0.out.size))
  have HY4 := Aside0.mk ((Below.heap_setCell w3 ⟨w2.heap.size, 0, none⟩ (.int .i64 (r.getD 0)) _ hne1).trans ((hg.block _ (blk_lt2 HY.out) (by intro e; injection e with e; omega)).trans HY.out))
  cases o with
  | none =>
    obtain ⟨y, hy, rfl, hbx⟩ := hh
    have HZ4 := Aside0.mk ((Below.heap_setCell w3 ⟨w2.heap.size, 0, none⟩ (.int .i64 ((some y).getD 0)) _ hne).trans hbx)
    have HYY := Aside0.mk hy
    generalize w3.setCell ⟨w2.heap.size, 0, none⟩ (.int .i64 ((some y).getD 0)) = w4 at HB4 HY4 HZ4 ⊢
    clear hg hbk hbx hne hne1 hy HB3 HX HY HZ
    have n0 : w4.cell? ⟨w.heap.size + 2, 0, none⟩ = some (.int .i64 0) := (blk_cell HZ4.out 0).trans rfl
    have n1 : w4.cell? ⟨w.heap.size + 2, 1, none⟩ = some (.int .i64 0) := (blk_cell HZ4.out 1).trans rfl
    have n2 : w4.cell? ⟨w.heap.size + 2, 2, none⟩ = some (.int .i64 0) := (blk_cell HZ4.out 2).trans rfl
    have n3 : w4.cell? ⟨w.heap.size + 2, 3, none⟩ = some (.slice none 0 0) := (blk_cell HZ4.out 3).trans rfl
    go_wp2_with (fail)
    have hE := told125_bad y HYY.out w4
    with_reducible refine hE.mono ?_
    clear hE
    rintro e w5 ⟨rfl, hB⟩
    have HY5 := Aside0.mk ((hB.block _ (blk_lt2 HY4.out)).trans HY4.out)
    have HB5 := Aside0.mk (below_then HB4.out HB4.out.size hB)
    clear hB
    go_wp2_with (refine wpList_store_row rfl 87 (.tmp 2) (.tmp 11) rfl (w.heap.size + 1) #[.int .i64 0, .int .i64 0, .int .i64 0, .slice none 0 0] rfl rfl 87 _ HY5.out size87 rfl (by simp [Value.oneCell']) ?_; have HY6 := Aside0.mk (setRow_heap _ _ _ #[.int .i64 0, .int .i64 0, .int .i64 0, .slice none 0 0] _ _ HY5.out); have HB6 := Aside0.mk (below_setRow HB5.out (Nat.le_succ _) #[.int .i64 0, .int .i64 0, .int .i64 0, .slice none 0 0]))
    exact bodyPost_ret (v := .tuple #[.agg #[.int .i64 0, .int .i64 0, .int .i64 0, .slice none 0 0], .int .i64 12]) (results_row_tmp (p := 2) (u := 3) (ty := 87) rfl _ _ (w.heap.size + 1) 87 _ _ _ rfl HY6.out hu87 rfl size87) rfl ⟨HB6.out, rfl⟩
  | some x =>
    obtain ⟨rfl, A3, c3, hbx, hR0⟩ := hh
    have HZ4 := Aside0.mk ((Below.heap_setCell w3 ⟨w2.heap.size, 0, none⟩ (.int .i64 ((none : Option Int).getD 0)) _ hne).trans hbx)
    have HR04 := Aside0.mk (Kd.R_set hR0 hbk (by simp [Kd.int, Kd.scalar]) 0 (.int .i64 ((none : Option Int).getD 0)))
    generalize w3.setCell ⟨w2.heap.size, 0, none⟩ (.int .i64 ((none : Option Int).getD 0)) = w4 at HB4 HY4 HZ4 HR04 ⊢
    clear hg hbk hbx hne hne1 hR0 HB3 HX HY HZ
    have n0 : w4.cell? ⟨w.heap.size + 2, 0, none⟩ = some (.int .i64 x.f0) := (blk_cell HZ4.out 0).trans rfl
    have n1 : w4.cell? ⟨w.heap.size + 2, 1, none⟩ = some (.int .i64 x.f1) := (blk_cell HZ4.out 1).trans rfl
    have n2 : w4.cell? ⟨w.heap.size + 2, 2, none⟩ = some (.int .i64 x.f2) := (blk_cell HZ4.out 2).trans rfl
    have n3 : w4.cell? ⟨w.heap.size + 2, 3, none⟩ = some (.slice A3 x.f3.length c3) := (blk_cell HZ4.out 3).trans rfl
    go_wp2_with (fail)
    have hE := told125_ok x A3 c3 w4
    with_reducible refine hE.mono ?_
    clear hE
    rintro e w5 ⟨rfl, hB⟩
    have HY5 := Aside0.mk ((hB.block _ (blk_lt2 HY4.out)).trans HY4.out)
    have HB5 := Aside0.mk (below_then HB4.out HB4.out.size hB)
    have HR05 := Aside0.mk (Kd.R_below HR04.out hB)
    clear hB
    go_wp2_with (refine wpList_store_row rfl 87 (.tmp 2) (.tmp 11) rfl (w.heap.size + 1) #[.int .i64 x.f0, .int .i64 x.f1, .int .i64 x.f2, .slice A3 x.f3.length c3] rfl rfl 87 _ HY5.out size87 rfl (by simp [Value.oneCell']) ?_; have HY6 := Aside0.mk (setRow_heap _ _ _ #[.int .i64 x.f0, .int .i64 x.f1, .int .i64 x.f2, .slice A3 x.f3.length c3] _ _ HY5.out); have HB6 := Aside0.mk (below_setRow HB5.out (Nat.le_succ _) #[.int .i64 x.f0, .int .i64 x.f1, .int .i64 x.f2, .slice A3 x.f3.length c3]); have HR06 := Aside0.mk (R_row HR05.out HY5.out (by simp [Kd.int, Kd.scalar]) #[.int .i64 x.f0, .int .i64 x.f1, .int .i64 x.f2, .slice A3 x.f3.length c3]))
    exact bodyPost_ret (v := .tuple #[.agg #[.int .i64 x.f0, .int .i64 x.f1, .int .i64 x.f2, .slice A3 x.f3.length c3], .int .i64 0]) (results_row_tmp (p := 2) (u := 3) (ty := 87) rfl _ _ (w.heap.size + 1) 87 _ _ _ rfl HY6.out hu87 rfl size87) rfl ⟨HB6.out, A3, c3, rfl, (Kd.R_reads' HR06.out).2.2, (Kd.R_reads' HR06.out).2.1⟩
set_option maxHeartbeats 8000000 in
set_option maxRecDepth 100000 in
theorem read120_calls (l : List Int) (A : Option Addr) (c : Nat) (o : Option S72) (bb bm : Nat) (w : World) (hbb : w.heap[bb]? = some (.cells #[.slice A l.length c] 22)) (hbm : w.heap[bm]? = some (.cells #[.int .i64 0, .int .i64 0, .int .i64 0, .slice none 0 0, .slice none 0 0] 72)) (hC : Kd.C (Kd.int .u8) w A l.length l) (hc : l.length ≤ c) (hb : Byte l) (hl : l.length < 17592186044416) (ho : letterO l = o) :
    Calls Try.prog 120 #[.pointer (some ⟨bb, 0, none⟩), .pointer (some ⟨bm, 0, none⟩)] w fun e w' => w.grownBy w' (some bm) ∧ match (generalizing := false) o with
      | some x => ∃ A3 c3 A4 c4, e = .returned (.tuple #[]) ∧ w'.heap[bm]? = some (.cells #[.int .i64 x.f0.f0, .int .i64 x.f0.f1, .int .i64 x.f1, .slice A3 x.f2.length c3, .slice A4 x.f3.length c4] 72) ∧ Kd.R (Kd.int .u8) 5 w' w.heap.size (fun k => w.heap.size ≤ k) (.slice A3 x.f2.length c3) x.f2 ∧ Kd.R (Kd.slice 5 (Kd.int .u8)) 22 w' w.heap.size (fun k => w.heap.size ≤ k) (.slice A4 x.f3.length c4) x.f3
      | none => ∃ y, y ≠ 0 ∧ e = .panicked (fault y) ∧ w'.heap[bm]? = some (.cells #[.int .i64 0, .int .i64 0, .int .i64 0, .slice none 0 0, .slice none 0 0] 72) := by
  have hu72 := Try.underlying72
  have HBB := Aside0.mk hbb
  have HBM := Aside0.mk hbm
  have hE := readLetter_calls A c l o w hC hc hb hl ho
  have x0 : w.cell? ⟨bb, 0, none⟩ = some (.slice A l.length c) := (blk_cell hbb 0).trans rfl
  clear hbb hbm hC hc hb hl ho
  go_enter Try.func120, Try.ntmps120
  go_wp2_with (fail)
  with_reducible refine hE.mono ?_
  clear hE
  rintro e w1 ⟨hB, hh⟩
  have HBM1 := Aside0.mk ((hB.block _ (blk_lt2 HBM.out)).trans HBM.out)
  have HG1 := Aside0.mk (grown_of_below hB (some bm))
  clear hB x0
  cases o with
  | some x =>
    obtain ⟨A3, c3, A4, c4, rfl, hM⟩ := hh
    obtain ⟨v3, v4, he, hr0, hr1⟩ := k72_openM hM; simp only [List.cons.injEq, true_and, and_true] at he; obtain ⟨rfl, rfl⟩ := he; have HR0 := Aside0.mk hr0; have HR1 := Aside0.mk hr1; clear hM hr0 hr1
    go_wp2_with (refine wpList_store_row rfl 72 (.tmp 1) (.tmp 3) rfl bm #[.int .i64 x.f0.f0, .int .i64 x.f0.f1, .int .i64 x.f1, .slice A3 x.f2.length c3, .slice A4 x.f3.length c4] rfl rfl 72 _ HBM1.out size72 rfl (by simp [Value.oneCell']) ?_)
    go_end0
    exact ⟨HG1.out.trans (grown_row _ _ _), rfl, A3, c3, A4, c4, setRow_heap _ _ _ #[.int .i64 x.f0.f0, .int .i64 x.f0.f1, .int .i64 x.f1, .slice A3 x.f2.length c3, .slice A4 x.f3.length c4] _ _ HBM1.out, R_row HR0.out HBM1.out (by simp [Kd.int, Kd.scalar]) _, R_row HR1.out HBM1.out (by simp [Kd.slice, Kd.int, Kd.scalar]) _⟩
  | none =>
    obtain ⟨y, hy, rfl⟩ := hh
    have HYY := Aside0.mk hy
    clear hy
    go_wp2_with (fail)
    refine ⟨rfl, ?_⟩
    exact ⟨HG1.out, y, HYY.out, rfl, HBM1.out⟩
set_option maxHeartbeats 8000000 in
set_option maxRecDepth 100000 in
theorem told122_ok (x : S72) (A3 : Option Addr) (c3 : Nat) (A4 : Option Addr) (c4 : Nat) (w : World) :
    Calls Try.prog 122 #[.agg #[.int .i64 x.f0.f0, .int .i64 x.f0.f1, .int .i64 x.f1, .slice A3 x.f2.length c3, .slice A4 x.f3.length c4], .int .i64 0] w fun e w' => e = .returned (.tuple #[.agg #[.int .i64 x.f0.f0, .int .i64 x.f0.f1, .int .i64 x.f1, .slice A3 x.f2.length c3, .slice A4 x.f3.length c4], .int .i64 0]) ∧ Below w.heap.size w w' := by
  have hu72 := Try.underlying72
  have HB0 := Aside0.mk (below_alloc (below_alloc (Below.refl w.heap.size w) (.cells #[.int .i64 x.f0.f0, .int .i64 x.f0.f1, .int .i64 x.f1, .slice A3 x.f2.length c3, .slice A4 x.f3.length c4] 72)) (.cells #[.int .i64 0, .int .i64 0, .int .i64 0, .slice none 0 0, .slice none 0 0] 72))
  have HX0 := Aside0.mk (blk_new (w.alloc (.cells #[.int .i64 x.f0.f0, .int .i64 x.f0.f1, .int .i64 x.f1, .slice A3 x.f2.length c3, .slice A4 x.f3.length c4] 72)) (.cells #[.int .i64 0, .int .i64 0, .int .i64 0, .slice none 0 0, .slice none 0 0] 72))
  rw [show (w.alloc (.cells #[.int .i64 x.f0.f0, .int .i64 x.f0.f1, .int .i64 x.f1, .slice A3 x.f2.length c3, .slice A4 x.f3.length c4] 72)).heap.size = w.heap.size + 1 by simp] at HX0
  go_enter Try.func122, Try.ntmps122
  go_wp2_with (refine wpList_store_row rfl 72 (.tmp 4) (.tmp 10) rfl (w.heap.size + 1) #[.int .i64 x.f0.f0, .int .i64 x.f0.f1, .int .i64 x.f1, .slice A3 x.f2.length c3, .slice A4 x.f3.length c4] rfl rfl 72 _ HX0.out size72 rfl (by simp [Value.oneCell']) ?_; have HX1 := Aside0.mk (setRow_heap _ _ _ #[.int .i64 x.f0.f0, .int .i64 x.f0.f1, .int .i64 x.f1, .slice A3 x.f2.length c3, .slice A4 x.f3.length c4] _ _ HX0.out); have HB1 := Aside0.mk (below_setRow HB0.out (Nat.le_succ _) #[.int .i64 x.f0.f0, .int .i64 x.f0.f1, .int .i64 x.f1, .slice A3 x.f2.length c3, .slice A4 x.f3.length c4]))
  exact bodyPost_ret (v := .tuple #[.agg #[.int .i64 x.f0.f0, .int .i64 x.f0.f1, .int .i64 x.f1, .slice A3 x.f2.length c3, .slice A4 x.f3.length c4], .int .i64 0]) (results_row_tmp (p := 4) (u := 5) (ty := 72) rfl _ _ (w.heap.size + 1) 72 _ _ _ rfl HX1.out hu72 rfl size72) rfl ⟨rfl, HB1.out⟩
set_option maxHeartbeats 8000000 in
set_option maxRecDepth 100000 in
theorem told122_bad (x : Int) (hx : x ≠ 0) (w : World) :
    Calls Try.prog 122 #[.agg #[.int .i64 0, .int .i64 0, .int .i64 0, .slice none 0 0, .slice none 0 0], .int .i64 x] w fun e w' => e = .returned (.tuple #[.agg #[.int .i64 0, .int .i64 0, .int .i64 0, .slice none 0 0, .slice none 0 0], .int .i64 12]) ∧ Below w.heap.size w w' := by
  have hu72 := Try.underlying72
  have b0 : (x != 0) = true := bne_iff_ne.mpr hx
  clear hx
  have HB0 := Aside0.mk (below_alloc (below_alloc (below_alloc (Below.refl w.heap.size w) (.cells #[.int .i64 0, .int .i64 0, .int .i64 0, .slice none 0 0, .slice none 0 0] 72)) (.cells #[.int .i64 0, .int .i64 0, .int .i64 0, .slice none 0 0, .slice none 0 0] 72)) (.cells #[.int .i64 0, .int .i64 0, .int .i64 0, .slice none 0 0, .slice none 0 0] 72))
  have HX0 := Aside0.mk ((Below.heap_alloc ((w.alloc (.cells #[.int .i64 0, .int .i64 0, .int .i64 0, .slice none 0 0, .slice none 0 0] 72)).alloc (.cells #[.int .i64 0, .int .i64 0, .int .i64 0, .slice none 0 0, .slice none 0 0] 72)) (.cells #[.int .i64 0, .int .i64 0, .int .i64 0, .slice none 0 0, .slice none 0 0] 72) _ (by simp)).trans (blk_new (w.alloc (.cells #[.int .i64 0, .int .i64 0, .int .i64 0, .slice none 0 0, .slice none 0 0] 72)) (.cells #[.int .i64 0, .int .i64 0, .int .i64 0, .slice none 0 0, .slice none 0 0] 72)))
  rw [show (w.alloc (.cells #[.int .i64 0, .int .i64 0, .int .i64 0, .slice none 0 0, .slice none 0 0] 72)).heap.size = w.heap.size + 1 by simp] at HX0
  go_enter Try.func122, Try.ntmps122
  go_wp2_with (refine wpList_store_row rfl 72 (.tmp 4) (.tmp 9) rfl (w.heap.size + 1) #[.int .i64 0, .int .i64 0, .int .i64 0, .slice none 0 0, .slice none 0 0] rfl rfl 72 _ HX0.out size72 rfl (by simp [Value.oneCell']) ?_; have HX1 := Aside0.mk (setRow_heap _ _ _ #[.int .i64 0, .int .i64 0, .int .i64 0, .slice none 0 0, .slice none 0 0] _ _ HX0.out); have HB1 := Aside0.mk (below_setRow HB0.out (Nat.le_succ _) #[.int .i64 0, .int .i64 0, .int .i64 0, .slice none 0 0, .slice none 0 0]))
  exact bodyPost_ret (v := .tuple #[.agg #[.int .i64 0, .int .i64 0, .int .i64 0, .slice none 0 0, .slice none 0 0], .int .i64 12]) (results_row_tmp (p := 4) (u := 5) (ty := 72) rfl _ _ (w.heap.size + 1) 72 _ _ _ rfl HX1.out hu72 rfl size72) rfl ⟨rfl, HB1.out⟩
set_option maxHeartbeats 8000000 in
set_option maxRecDepth 100000 in
theorem read77_calls (A : Option Addr) (c : Nat) (l : List Int) (o : Option S72) (w : World) (hC : Kd.C (Kd.int .u8) w A l.length l) (hc : l.length ≤ c) (hb : Byte l) (hl : l.length < 17592186044416) (ho : letterO l = o) :
    Calls Try.prog 77 #[.slice A l.length c] w fun e w' => Below w.heap.size w w' ∧ match (generalizing := false) o with
      | some x => ∃ A3 c3 A4 c4, e = .returned (.tuple #[.agg #[.int .i64 x.f0.f0, .int .i64 x.f0.f1, .int .i64 x.f1, .slice A3 x.f2.length c3, .slice A4 x.f3.length c4], .int .i64 0]) ∧ Kd.C (Kd.int .u8) w' A3 x.f2.length x.f2 ∧ x.f2.length ≤ c3 ∧ Kd.C (Kd.slice 5 (Kd.int .u8)) w' A4 x.f3.length x.f3 ∧ x.f3.length ≤ c4
      | none => e = .returned (.tuple #[.agg #[.int .i64 0, .int .i64 0, .int .i64 0, .slice none 0 0, .slice none 0 0], .int .i64 12]) := by
  have hu72 := Try.underlying72
  have HC := Aside0.mk hC
  have Hc := Aside0.mk hc
  have HBy := Aside0.mk hb
  have HL := Aside0.mk hl
  have HO := Aside0.mk ho
  clear hC hc hb hl ho
  have hmf : ∀ (fn : Fn) (first cap : Array Value) (w : World), (Instr.makeFunc fn first cap).run Try.prog w = .ok (.func fn first cap) w := fun _ _ _ _ => rfl
  have HB0 := Aside0.mk (below_alloc (below_alloc (below_alloc (Below.refl w.heap.size w) (.cells #[.slice A l.length c] 22)) (.cells #[.int .i64 0, .int .i64 0, .int .i64 0, .slice none 0 0, .slice none 0 0] 72)) (.cells #[.int .i64 0, .int .i64 0, .int .i64 0, .slice none 0 0, .slice none 0 0] 72))
  have e1 : (w.alloc (.cells #[.slice A l.length c] 22)).heap.size = w.heap.size + 1 := by simp
  have e2 : ((w.alloc (.cells #[.slice A l.length c] 22)).alloc (.cells #[.int .i64 0, .int .i64 0, .int .i64 0, .slice none 0 0, .slice none 0 0] 72)).heap.size = w.heap.size + 2 := by simp
  have hX0 := blk_new w (.cells #[.slice A l.length c] 22)
  have hX1 := (Below.heap_alloc (w.alloc (.cells #[.slice A l.length c] 22)) (.cells #[.int .i64 0, .int .i64 0, .int .i64 0, .slice none 0 0, .slice none 0 0] 72) _ (blk_lt2 hX0)).trans hX0
  have hX2 := (Below.heap_alloc ((w.alloc (.cells #[.slice A l.length c] 22)).alloc (.cells #[.int .i64 0, .int .i64 0, .int .i64 0, .slice none 0 0, .slice none 0 0] 72)) (.cells #[.int .i64 0, .int .i64 0, .int .i64 0, .slice none 0 0, .slice none 0 0] 72) _ (blk_lt2 hX1)).trans hX1
  have hY1 := blk_new (w.alloc (.cells #[.slice A l.length c] 22)) (.cells #[.int .i64 0, .int .i64 0, .int .i64 0, .slice none 0 0, .slice none 0 0] 72)
  have hY2 := (Below.heap_alloc ((w.alloc (.cells #[.slice A l.length c] 22)).alloc (.cells #[.int .i64 0, .int .i64 0, .int .i64 0, .slice none 0 0, .slice none 0 0] 72)) (.cells #[.int .i64 0, .int .i64 0, .int .i64 0, .slice none 0 0, .slice none 0 0] 72) _ (blk_lt2 hY1)).trans hY1
  have hZ2 := blk_new ((w.alloc (.cells #[.slice A l.length c] 22)).alloc (.cells #[.int .i64 0, .int .i64 0, .int .i64 0, .slice none 0 0, .slice none 0 0] 72)) (.cells #[.int .i64 0, .int .i64 0, .int .i64 0, .slice none 0 0, .slice none 0 0] 72)
  rw [e1] at hY2
  rw [e2] at hZ2
  have HX := Aside0.mk hX2
  have HY := Aside0.mk hY2
  have HZ := Aside0.mk hZ2
  clear hX0 hX1 hX2 hY1 hY2 hZ2 e1 e2
  go_enter Try.func77, Try.ntmps77
  go_wp2_with (fail)
  generalize ((w.alloc (.cells #[.slice A l.length c] 22)).alloc (.cells #[.int .i64 0, .int .i64 0, .int .i64 0, .slice none 0 0, .slice none 0 0] 72)).alloc (.cells #[.int .i64 0, .int .i64 0, .int .i64 0, .slice none 0 0, .slice none 0 0] 72) = w2 at HX HY HZ HB0 ⊢
  refine (caught_calls 120 #[.pointer (some ⟨w.heap.size, 0, none⟩), .pointer (some ⟨w.heap.size + 2, 0, none⟩)] w2 (fun r w3 => w2.grownBy w3 (some (w.heap.size + 2)) ∧ w3.heap[w2.heap.size]? = some (.cells #[.int .i64 0] 23) ∧ match (generalizing := false) o with
      | some x => r = none ∧ ∃ A3 c3 A4 c4, w3.heap[w.heap.size + 2]? = some (.cells #[.int .i64 x.f0.f0, .int .i64 x.f0.f1, .int .i64 x.f1, .slice A3 x.f2.length c3, .slice A4 x.f3.length c4] 72) ∧ Kd.R (Kd.int .u8) 5 w3 w2.heap.size (fun k => w2.heap.size ≤ k) (.slice A3 x.f2.length c3) x.f2 ∧ Kd.R (Kd.slice 5 (Kd.int .u8)) 22 w3 w2.heap.size (fun k => w2.heap.size ≤ k) (.slice A4 x.f3.length c4) x.f3
      | none => ∃ y, y ≠ 0 ∧ r = some y ∧ w3.heap[w.heap.size + 2]? = some (.cells #[.int .i64 0, .int .i64 0, .int .i64 0, .slice none 0 0, .slice none 0 0] 72)) (fun _ => by kernel_rfl) ?_).mono ?_
  · intro W hW
    have hg0 := World.grownBy_alloc w2 (.cells #[.int .i64 0] 23) (some (w.heap.size + 2))
    have hbW := below_alloc (Below.refl w2.heap.size w2) (.cells #[.int .i64 0] 23)
    have hnW := blk_new w2 (.cells #[.int .i64 0] 23)
    rw [← hW] at hg0 hbW hnW
    have hne : w2.heap.size ≠ w.heap.size + 2 := fun e => by have := blk_lt2 HZ.out; omega
    refine (read120_calls l A c o w.heap.size (w.heap.size + 2) W ((hbW.block _ (blk_lt2 HX.out)).trans HX.out) ((hbW.block _ (blk_lt2 HZ.out)).trans HZ.out) (Kd.C_below HC.out (below_then HB0.out HB0.out.size hbW)) Hc.out HBy.out HL.out HO.out).mono ?_
    rintro e w3 ⟨hg, hh⟩
    have hbk := (hg.block _ (blk_lt2 hnW) (by intro e; injection e with e; exact hne e)).trans hnW
    cases o with
    | some x =>
      obtain ⟨A3, c3, A4, c4, rfl, hbx, hR0, hR1⟩ := hh
      exact ⟨⟨none, ⟨hg0.trans hg, hbk, rfl, A3, c3, A4, c4, hbx, Kd.R_mono (Kd.R_lower hR0 hbW.size) (fun k hk => Nat.le_trans hbW.size hk), Kd.R_mono (Kd.R_lower hR1 hbW.size) (fun k hk => Nat.le_trans hbW.size hk)⟩, rfl⟩, (blk_cell hbk 0).trans rfl, blk_frozen hbk 0, hbk⟩
    | none =>
      obtain ⟨y, hy, rfl, hbx⟩ := hh
      exact ⟨⟨some y, ⟨hg0.trans hg, hbk, y, hy, rfl, hbx⟩, rfl⟩, (blk_cell hbk 0).trans rfl, blk_frozen hbk 0, hbk⟩
  rintro e w4 ⟨r, w3, ⟨hg, hbk, hh⟩, rfl, rfl⟩
  have hne : w.heap.size + 2 ≠ w2.heap.size := fun e => by have := blk_lt2 HZ.out; omega
  have hne1 : w.heap.size + 1 ≠ w2.heap.size := fun e => by have := blk_lt2 HZ.out; omega
  have HB3 := Aside0.mk (HB0.out.grown hg HB0.out.size (fun k hk => by injection hk with hk; omega))
  have HB4 := Aside0.mk (below_set (j := 0) (v := .int .i64 (r.getD 0)) HB3.out (show w.heap.size ≤ w2.heap.size from HB0.out.size))
  have HY4 := Aside0.mk ((Below.heap_setCell w3 ⟨w2.heap.size, 0, none⟩ (.int .i64 (r.getD 0)) _ hne1).trans ((hg.block _ (blk_lt2 HY.out) (by intro e; injection e with e; omega)).trans HY.out))
  cases o with
  | none =>
    obtain ⟨y, hy, rfl, hbx⟩ := hh
    have HZ4 := Aside0.mk ((Below.heap_setCell w3 ⟨w2.heap.size, 0, none⟩ (.int .i64 ((some y).getD 0)) _ hne).trans hbx)
    have HYY := Aside0.mk hy
    generalize w3.setCell ⟨w2.heap.size, 0, none⟩ (.int .i64 ((some y).getD 0)) = w4 at HB4 HY4 HZ4 ⊢
    clear hg hbk hbx hne hne1 hy HB3 HX HY HZ
    have n0 : w4.cell? ⟨w.heap.size + 2, 0, none⟩ = some (.int .i64 0) := (blk_cell HZ4.out 0).trans rfl
    have n1 : w4.cell? ⟨w.heap.size + 2, 1, none⟩ = some (.int .i64 0) := (blk_cell HZ4.out 1).trans rfl
    have n2 : w4.cell? ⟨w.heap.size + 2, 2, none⟩ = some (.int .i64 0) := (blk_cell HZ4.out 2).trans rfl
    have n3 : w4.cell? ⟨w.heap.size + 2, 3, none⟩ = some (.slice none 0 0) := (blk_cell HZ4.out 3).trans rfl
    have n4 : w4.cell? ⟨w.heap.size + 2, 4, none⟩ = some (.slice none 0 0) := (blk_cell HZ4.out 4).trans rfl
    go_wp2_with (fail)
    have hE := told122_bad y HYY.out w4
    with_reducible refine hE.mono ?_
    clear hE
    rintro e w5 ⟨rfl, hB⟩
    have HY5 := Aside0.mk ((hB.block _ (blk_lt2 HY4.out)).trans HY4.out)
    have HB5 := Aside0.mk (below_then HB4.out HB4.out.size hB)
    clear hB
    go_wp2_with (refine wpList_store_row rfl 72 (.tmp 2) (.tmp 11) rfl (w.heap.size + 1) #[.int .i64 0, .int .i64 0, .int .i64 0, .slice none 0 0, .slice none 0 0] rfl rfl 72 _ HY5.out size72 rfl (by simp [Value.oneCell']) ?_; have HY6 := Aside0.mk (setRow_heap _ _ _ #[.int .i64 0, .int .i64 0, .int .i64 0, .slice none 0 0, .slice none 0 0] _ _ HY5.out); have HB6 := Aside0.mk (below_setRow HB5.out (Nat.le_succ _) #[.int .i64 0, .int .i64 0, .int .i64 0, .slice none 0 0, .slice none 0 0]))
    exact bodyPost_ret (v := .tuple #[.agg #[.int .i64 0, .int .i64 0, .int .i64 0, .slice none 0 0, .slice none 0 0], .int .i64 12]) (results_row_tmp (p := 2) (u := 3) (ty := 72) rfl _ _ (w.heap.size + 1) 72 _ _ _ rfl HY6.out hu72 rfl size72) rfl ⟨HB6.out, rfl⟩
  | some x =>
    obtain ⟨rfl, A3, c3, A4, c4, hbx, hR0, hR1⟩ := hh
    have HZ4 := Aside0.mk ((Below.heap_setCell w3 ⟨w2.heap.size, 0, none⟩ (.int .i64 ((none : Option Int).getD 0)) _ hne).trans hbx)
    have HR04 := Aside0.mk (Kd.R_set hR0 hbk (by simp [Kd.int, Kd.scalar]) 0 (.int .i64 ((none : Option Int).getD 0)))
    have HR14 := Aside0.mk (Kd.R_set hR1 hbk (by simp [Kd.slice, Kd.int, Kd.scalar]) 0 (.int .i64 ((none : Option Int).getD 0)))
    generalize w3.setCell ⟨w2.heap.size, 0, none⟩ (.int .i64 ((none : Option Int).getD 0)) = w4 at HB4 HY4 HZ4 HR04 HR14 ⊢
    clear hg hbk hbx hne hne1 hR0 hR1 HB3 HX HY HZ
    have n0 : w4.cell? ⟨w.heap.size + 2, 0, none⟩ = some (.int .i64 x.f0.f0) := (blk_cell HZ4.out 0).trans rfl
    have n1 : w4.cell? ⟨w.heap.size + 2, 1, none⟩ = some (.int .i64 x.f0.f1) := (blk_cell HZ4.out 1).trans rfl
    have n2 : w4.cell? ⟨w.heap.size + 2, 2, none⟩ = some (.int .i64 x.f1) := (blk_cell HZ4.out 2).trans rfl
    have n3 : w4.cell? ⟨w.heap.size + 2, 3, none⟩ = some (.slice A3 x.f2.length c3) := (blk_cell HZ4.out 3).trans rfl
    have n4 : w4.cell? ⟨w.heap.size + 2, 4, none⟩ = some (.slice A4 x.f3.length c4) := (blk_cell HZ4.out 4).trans rfl
    go_wp2_with (fail)
    have hE := told122_ok x A3 c3 A4 c4 w4
    with_reducible refine hE.mono ?_
    clear hE
    rintro e w5 ⟨rfl, hB⟩
    have HY5 := Aside0.mk ((hB.block _ (blk_lt2 HY4.out)).trans HY4.out)
    have HB5 := Aside0.mk (below_then HB4.out HB4.out.size hB)
    have HR05 := Aside0.mk (Kd.R_below HR04.out hB)
    have HR15 := Aside0.mk (Kd.R_below HR14.out hB)
    clear hB
    go_wp2_with (refine wpList_store_row rfl 72 (.tmp 2) (.tmp 11) rfl (w.heap.size + 1) #[.int .i64 x.f0.f0, .int .i64 x.f0.f1, .int .i64 x.f1, .slice A3 x.f2.length c3, .slice A4 x.f3.length c4] rfl rfl 72 _ HY5.out size72 rfl (by simp [Value.oneCell']) ?_; have HY6 := Aside0.mk (setRow_heap _ _ _ #[.int .i64 x.f0.f0, .int .i64 x.f0.f1, .int .i64 x.f1, .slice A3 x.f2.length c3, .slice A4 x.f3.length c4] _ _ HY5.out); have HB6 := Aside0.mk (below_setRow HB5.out (Nat.le_succ _) #[.int .i64 x.f0.f0, .int .i64 x.f0.f1, .int .i64 x.f1, .slice A3 x.f2.length c3, .slice A4 x.f3.length c4]); have HR06 := Aside0.mk (R_row HR05.out HY5.out (by simp [Kd.int, Kd.scalar]) #[.int .i64 x.f0.f0, .int .i64 x.f0.f1, .int .i64 x.f1, .slice A3 x.f2.length c3, .slice A4 x.f3.length c4]); have HR16 := Aside0.mk (R_row HR15.out HY5.out (by simp [Kd.slice, Kd.int, Kd.scalar]) #[.int .i64 x.f0.f0, .int .i64 x.f0.f1, .int .i64 x.f1, .slice A3 x.f2.length c3, .slice A4 x.f3.length c4]))
    exact bodyPost_ret (v := .tuple #[.agg #[.int .i64 x.f0.f0, .int .i64 x.f0.f1, .int .i64 x.f1, .slice A3 x.f2.length c3, .slice A4 x.f3.length c4], .int .i64 0]) (results_row_tmp (p := 2) (u := 3) (ty := 72) rfl _ _ (w.heap.size + 1) 72 _ _ _ rfl HY6.out hu72 rfl size72) rfl ⟨HB6.out, A3, c3, A4, c4, rfl, (Kd.R_reads' HR06.out).2.2, (Kd.R_reads' HR06.out).2.1, (Kd.R_reads' HR16.out).2.2, (Kd.R_reads' HR16.out).2.1⟩
end Go.Proofs.Ytijccobeljoikaa.Ms
