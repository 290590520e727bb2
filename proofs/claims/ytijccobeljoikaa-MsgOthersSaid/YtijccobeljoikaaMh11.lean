/- Put together of my texts: MtT, MtU, MtX. -/
import Derived.Test.YtijccobeljoikaaMh7
import Derived.Test.YtijccobeljoikaaMh10
import Derived.Test.YtijccobeljoikaaMh8
/- msg: ReadLetter, ReadEntry. -/
namespace Go.Proofs.Ytijccobeljoikaa.Ms
open Go.RowKit Go.Proofs.YtijccobeljoikaaW.PrintWords Go.Proofs.YtijccobeljoikaaW.PrintLast
open Go.Proofs.Ytijccobeljoikaa.Plain Go.Proofs.Ytijccobeljoikaa.Walks
set_option linter.unusedVariables false
set_option linter.unusedSimpArgs false

set_option maxHeartbeats 8000000 in
set_option maxRecDepth 100000 in
theorem read123_calls (l : List Int) (A : Option Addr) (c : Nat) (o : Option S87) (bb bm : Nat) (w : World) (hbb : w.heap[bb]? = some (.cells #[.slice A l.length c] 22)) (hbm : w.heap[bm]? = some (.cells #[.int .i64 0, .int .i64 0, .int .i64 0, .slice none 0 0] 87)) (hC : Kd.C (Kd.int .u8) w A l.length l) (hc : l.length ≤ c) (hb : Byte l) (hl : l.length < 17592186044416) (ho : entryO l = o) :
    Calls Try.prog 123 #[.pointer (some ⟨bb, 0, none⟩), .pointer (some ⟨bm, 0, none⟩)] w fun e w' => w.grownBy w' (some bm) ∧ match (generalizing := false) o with
      | some x => ∃ A3 c3, e = .returned (.tuple #[]) ∧ w'.heap[bm]? = some (.cells #[.int .i64 x.f0, .int .i64 x.f1, .int .i64 x.f2, .slice A3 x.f3.length c3] 87) ∧ Kd.R (Kd.int .u8) 5 w' w.heap.size (fun k => w.heap.size ≤ k) (.slice A3 x.f3.length c3) x.f3
      | none => ∃ y, y ≠ 0 ∧ e = .panicked (fault y) ∧ w'.heap[bm]? = some (.cells #[.int .i64 0, .int .i64 0, .int .i64 0, .slice none 0 0] 87) := by
  have hu87 := Try.underlying87
  have HBB := Aside0.mk hbb
  have HBM := Aside0.mk hbm
  have hE := readEntry_calls A c l o w hC hc hb hl ho
  have x0 : w.cell? ⟨bb, 0, none⟩ = some (.slice A l.length c) := (blk_cell hbb 0).trans rfl
  clear hbb hbm hC hc hb hl ho
  go_enter Try.func123, Try.ntmps123
  go_wp2_with (fail)
  with_reducible refine hE.mono ?_
  clear hE
  rintro e w1 ⟨hB, hh⟩
  have HBM1 := Aside0.mk ((hB.block _ (blk_lt2 HBM.out)).trans HBM.out)
  have HG1 := Aside0.mk (grown_of_below hB (some bm))
  clear hB x0
  cases o with
  | some x =>
    obtain ⟨A3, c3, rfl, hM⟩ := hh
    have HR0 := Aside0.mk hM; clear hM
    go_wp2_with (refine wpList_store_row rfl 87 (.tmp 1) (.tmp 3) rfl bm #[.int .i64 x.f0, .int .i64 x.f1, .int .i64 x.f2, .slice A3 x.f3.length c3] rfl rfl 87 _ HBM1.out size87 rfl (by simp [Value.oneCell']) ?_)
    go_end0
    exact ⟨HG1.out.trans (grown_row _ _ _), rfl, A3, c3, setRow_heap _ _ _ #[.int .i64 x.f0, .int .i64 x.f1, .int .i64 x.f2, .slice A3 x.f3.length c3] _ _ HBM1.out, R_row HR0.out HBM1.out (by simp [Kd.int, Kd.scalar]) _⟩
  | none =>
    obtain ⟨y, hy, rfl⟩ := hh
    have HYY := Aside0.mk hy
    clear hy
    go_wp2_with (fail)
    refine ⟨rfl, ?_⟩
    exact ⟨HG1.out, y, HYY.out, rfl, HBM1.out⟩
set_option maxHeartbeats 8000000 in
set_option maxRecDepth 100000 in
theorem told125_ok (x : S87) (A3 : Option Addr) (c3 : Nat) (w : World) :
    Calls Try.prog 125 #[.agg #[.int .i64 x.f0, .int .i64 x.f1, .int .i64 x.f2, .slice A3 x.f3.length c3], .int .i64 0] w fun e w' => e = .returned (.tuple #[.agg #[.int .i64 x.f0, .int .i64 x.f1, .int .i64 x.f2, .slice A3 x.f3.length c3], .int .i64 0]) ∧ Below w.heap.size w w' := by
  have hu87 := Try.underlying87
  have HB0 := Aside0.mk (below_alloc (below_alloc (Below.refl w.heap.size w) (.cells #[.int .i64 x.f0, .int .i64 x.f1, .int .i64 x.f2, .slice A3 x.f3.length c3] 87)) (.cells #[.int .i64 0, .int .i64 0, .int .i64 0, .slice none 0 0] 87))
  have HX0 := Aside0.mk (blk_new (w.alloc (.cells #[.int .i64 x.f0, .int .i64 x.f1, .int .i64 x.f2, .slice A3 x.f3.length c3] 87)) (.cells #[.int .i64 0, .int .i64 0, .int .i64 0, .slice none 0 0] 87))
  rw [show (w.alloc (.cells #[.int .i64 x.f0, .int .i64 x.f1, .int .i64 x.f2, .slice A3 x.f3.length c3] 87)).heap.size = w.heap.size + 1 by simp] at HX0
  go_enter Try.func125, Try.ntmps125
  go_wp2_with (refine wpList_store_row rfl 87 (.tmp 4) (.tmp 10) rfl (w.heap.size + 1) #[.int .i64 x.f0, .int .i64 x.f1, .int .i64 x.f2, .slice A3 x.f3.length c3] rfl rfl 87 _ HX0.out size87 rfl (by simp [Value.oneCell']) ?_; have HX1 := Aside0.mk (setRow_heap _ _ _ #[.int .i64 x.f0, .int .i64 x.f1, .int .i64 x.f2, .slice A3 x.f3.length c3] _ _ HX0.out); have HB1 := Aside0.mk (below_setRow HB0.out (Nat.le_succ _) #[.int .i64 x.f0, .int .i64 x.f1, .int .i64 x.f2, .slice A3 x.f3.length c3]))
  exact bodyPost_ret (v := .tuple #[.agg #[.int .i64 x.f0, .int .i64 x.f1, .int .i64 x.f2, .slice A3 x.f3.length c3], .int .i64 0]) (results_row_tmp (p := 4) (u := 5) (ty := 87) rfl _ _ (w.heap.size + 1) 87 _ _ _ rfl HX1.out hu87 rfl size87) rfl ⟨rfl, HB1.out⟩
set_option maxHeartbeats 8000000 in
set_option maxRecDepth 100000 in
theorem told125_bad (x : Int) (hx : x ≠ 0) (w : World) :
    Calls Try.prog 125 #[.agg #[.int .i64 0, .int .i64 0, .int .i64 0, .slice none 0 0], .int .i64 x] w fun e w' => e = .returned (.tuple #[.agg #[.int .i64 0, .int .i64 0, .int .i64 0, .slice none 0 0], .int .i64 12]) ∧ Below w.heap.size w w' := by
  have hu87 := Try.underlying87
  have b0 : (x != 0) = true := bne_iff_ne.mpr hx
  clear hx
  have HB0 := Aside0.mk (below_alloc (below_alloc (below_alloc (Below.refl w.heap.size w) (.cells #[.int .i64 0, .int .i64 0, .int .i64 0, .slice none 0 0] 87)) (.cells #[.int .i64 0, .int .i64 0, .int .i64 0, .slice none 0 0] 87)) (.cells #[.int .i64 0, .int .i64 0, .int .i64 0, .slice none 0 0] 87))
  have HX0 := Aside0.mk ((Below.heap_alloc ((w.alloc (.cells #[.int .i64 0, .int .i64 0, .int .i64 0, .slice none 0 0] 87)).alloc (.cells #[.int .i64 0, .int .i64 0, .int .i64 0, .slice none 0 0] 87)) (.cells #[.int .i64 0, .int .i64 0, .int .i64 0, .slice none 0 0] 87) _ (by simp)).trans (blk_new (w.alloc (.cells #[.int .i64 0, .int .i64 0, .int .i64 0, .slice none 0 0] 87)) (.cells #[.int .i64 0, .int .i64 0, .int .i64 0, .slice none 0 0] 87)))
  rw [show (w.alloc (.cells #[.int .i64 0, .int .i64 0, .int .i64 0, .slice none 0 0] 87)).heap.size = w.heap.size + 1 by simp] at HX0
  go_enter Try.func125, Try.ntmps125
  go_wp2_with (refine wpList_store_row rfl 87 (.tmp 4) (.tmp 9) rfl (w.heap.size + 1) #[.int .i64 0, .int .i64 0, .int .i64 0, .slice none 0 0] rfl rfl 87 _ HX0.out size87 rfl (by simp [Value.oneCell']) ?_; have HX1 := Aside0.mk (setRow_heap _ _ _ #[.int .i64 0, .int .i64 0, .int .i64 0, .slice none 0 0] _ _ HX0.out); have HB1 := Aside0.mk (below_setRow HB0.out (Nat.le_succ _) #[.int .i64 0, .int .i64 0, .int .i64 0, .slice none 0 0]))
  exact bodyPost_ret (v := .tuple #[.agg #[.int .i64 0, .int .i64 0, .int .i64 0, .slice none 0 0], .int .i64 12]) (results_row_tmp (p := 4) (u := 5) (ty := 87) rfl _ _ (w.heap.size + 1) 87 _ _ _ rfl HX1.out hu87 rfl size87) rfl ⟨rfl, HB1.out⟩
set_option maxHeartbeats 8000000 in
set_option maxRecDepth 100000 in
theorem read79_calls (A : Option Addr) (c : Nat) (l : List Int) (o : Option S87) (w : World) (hC : Kd.C (Kd.int .u8) w A l.length l) (hc : l.length ≤ c) (hb : Byte l) (hl : l.length < 17592186044416) (ho : entryO l = o) :
    Calls Try.prog 79 #[.slice A l.length c] w fun e w' => Below w.heap.size w w' ∧ match (generalizing := false) o with
      | some x => ∃ A3 c3, e = .returned (.tuple #[.agg #[.int .i64 x.f0, .int .i64 x.f1, .int .i64 x.f2, .slice A3 x.f3.length c3], .int .i64 0]) ∧ Kd.C (Kd.int .u8) w' A3 x.f3.length x.f3 ∧ x.f3.length ≤ c3
      | none => e = .returned (.tuple #[.agg #[.int .i64 0, .int .i64 0, .int .i64 0, .slice none 0 0], .int .i64 12]) := by
  have hu87 := Try.underlying87
  have HC := Aside0.mk hC
  have Hc := Aside0.mk hc
  have HBy := Aside0.mk hb
  have HL := Aside0.mk hl
  have HO := Aside0.mk ho
  clear hC hc hb hl ho
  have hmf : ∀ (fn : Fn) (first cap : Array Value) (w : World), (Instr.makeFunc fn first cap).run Try.prog w = .ok (.func fn first cap) w := fun _ _ _ _ => rfl
  have HB0 := Aside0.mk (below_alloc (below_alloc (below_alloc (Below.refl w.heap.size w) (.cells #[.slice A l.length c] 22)) (.cells #[.int .i64 0, .int .i64 0, .int .i64 0, .slice none 0 0] 87)) (.cells #[.int .i64 0, .int .i64 0, .int .i64 0, .slice none 0 0] 87))
  have e1 : (w.alloc (.cells #[.slice A l.length c] 22)).heap.size = w.heap.size + 1 := by simp
  have e2 : ((w.alloc (.cells #[.slice A l.length c] 22)).alloc (.cells #[.int .i64 0, .int .i64 0, .int .i64 0, .slice none 0 0] 87)).heap.size = w.heap.size + 2 := by simp
  have hX0 := blk_new w (.cells #[.slice A l.length c] 22)
  have hX1 := (Below.heap_alloc (w.alloc (.cells #[.slice A l.length c] 22)) (.cells #[.int .i64 0, .int .i64 0, .int .i64 0, .slice none 0 0] 87) _ (blk_lt2 hX0)).trans hX0
  have hX2 := (Below.heap_alloc ((w.alloc (.cells #[.slice A l.length c] 22)).alloc (.cells #[.int .i64 0, .int .i64 0, .int .i64 0, .slice none 0 0] 87)) (.cells #[.int .i64 0, .int .i64 0, .int .i64 0, .slice none 0 0] 87) _ (blk_lt2 hX1)).trans hX1
  have hY1 := blk_new (w.alloc (.cells #[.slice A l.length c] 22)) (.cells #[.int .i64 0, .int .i64 0, .int .i64 0, .slice none 0 0] 87)
  have hY2 := (Below.heap_alloc ((w.alloc (.cells #[.slice A l.length c] 22)).alloc (.cells #[.int .i64 0, .int .i64 0, .int .i64 0, .slice none 0 0] 87)) (.cells #[.int .i64 0, .int .i64 0, .int .i64 0, .slice none 0 0] 87) _ (blk_lt2 hY1)).trans hY1
  have hZ2 := blk_new ((w.alloc (.cells #[.slice A l.length c] 22)).alloc (.cells #[.int .i64 0, .int .i64 0, .int .i64 0, .slice none 0 0] 87)) (.cells #[.int .i64 0, .int .i64 0, .int .i64 0, .slice none 0 0] 87)
  rw [e1] at hY2
  rw [e2] at hZ2
  have HX := Aside0.mk hX2
  have HY := Aside0.mk hY2
  have HZ := Aside0.mk hZ2
  clear hX0 hX1 hX2 hY1 hY2 hZ2 e1 e2
  go_enter Try.func79, Try.ntmps79
  go_wp2_with (fail)
  generalize ((w.alloc (.cells #[.slice A l.length c] 22)).alloc (.cells #[.int .i64 0, .int .i64 0, .int .i64 0, .slice none 0 0] 87)).alloc (.cells #[.int .i64 0, .int .i64 0, .int .i64 0, .slice none 0 0] 87) = w2 at HX HY HZ HB0 ⊢
  refine (caught_calls 123 #[.pointer (some ⟨w.heap.size, 0, none⟩), .pointer (some ⟨w.heap.size + 2, 0, none⟩)] w2 (fun r w3 => w2.grownBy w3 (some (w.heap.size + 2)) ∧ w3.heap[w2.heap.size]? = some (.cells #[.int .i64 0] 23) ∧ match (generalizing := false) o with
      | some x => r = none ∧ ∃ A3 c3, w3.heap[w.heap.size + 2]? = some (.cells #[.int .i64 x.f0, .int .i64 x.f1, .int .i64 x.f2, .slice A3 x.f3.length c3] 87) ∧ Kd.R (Kd.int .u8) 5 w3 w2.heap.size (fun k => w2.heap.size ≤ k) (.slice A3 x.f3.length c3) x.f3
      | none => ∃ y, y ≠ 0 ∧ r = some y ∧ w3.heap[w.heap.size + 2]? = some (.cells #[.int .i64 0, .int .i64 0, .int .i64 0, .slice none 0 0] 87)) (fun _ => by kernel_rfl) ?_).mono ?_
  · intro W hW
    have hg0 := World.grownBy_alloc w2 (.cells #[.int .i64 0] 23) (some (w.heap.size + 2))
    have hbW := below_alloc (Below.refl w2.heap.size w2) (.cells #[.int .i64 0] 23)
    have hnW := blk_new w2 (.cells #[.int .i64 0] 23)
    rw [← hW] at hg0 hbW hnW
    have hne : w2.heap.size ≠ w.heap.size + 2 := fun e => by have := blk_lt2 HZ.out; omega
    refine (read123_calls l A c o w.heap.size (w.heap.size + 2) W ((hbW.block _ (blk_lt2 HX.out)).trans HX.out) ((hbW.block _ (blk_lt2 HZ.out)).trans HZ.out) (Kd.C_below HC.out (below_then HB0.out HB0.out.size hbW)) Hc.out HBy.out HL.out HO.out).mono ?_
    rintro e w3 ⟨hg, hh⟩
    have hbk := (hg.block _ (blk_lt2 hnW) (by intro e; injection e with e; exact hne e)).trans hnW
    cases o with
    | some x =>
      obtain ⟨A3, c3, rfl, hbx, hR0⟩ := hh
      exact ⟨⟨none, ⟨hg0.trans hg, hbk, rfl, A3, c3, hbx, Kd.R_mono (Kd.R_lower hR0 hbW.size) (fun k hk => Nat.le_trans hbW.size hk)⟩, rfl⟩, (blk_cell hbk 0).trans rfl, blk_frozen hbk 0, hbk⟩
    | none =>
      obtain ⟨y, hy, rfl, hbx⟩ := hh
      exact ⟨⟨some y, ⟨hg0.trans hg, hbk, y, hy, rfl, hbx⟩, rfl⟩, (blk_cell hbk 0).trans rfl, blk_frozen hbk 0, hbk⟩
  rintro e w4 ⟨r, w3, ⟨hg, hbk, hh⟩, rfl, rfl⟩
  have hne : w.heap.size + 2 ≠ w2.heap.size := fun e => by have := blk_lt2 HZ.out; omega
  have hne1 : w.heap.size + 1 ≠ w2.heap.size := fun e => by have := blk_lt2 HZ.out; omega
  have HB3 := Aside0.mk (HB0.out.grown hg HB0.out.size (fun k hk => by injection hk with hk; omega))
  have HB4 := Aside0.mk (below_set (j := 0) (v := .int .i64 (r.getD 0)) HB3.out (show w.heap.size ≤ w2.heap.size from HB0.out.size))
  have HY4 := Aside0.mk ((Below.heap_setCell w3 ⟨w2.heap.size, 0, none⟩ (.int .i64 (r.getD 0)) _ hne1).trans ((hg.block _ (blk_lt2 HY.out) (by intro e; injection e with e; omega)).trans HY.out))
  cases o with
  | none =>
    obtain ⟨y, hy, rfl, hbx⟩ := hh
    have HZ4 := Aside0.mk ((Below.heap_setCell w3 ⟨w2.heap.size, 0, none⟩ (.int .i64 ((some y).getD 0)) _ hne).trans hbx)
    have HYY := Aside0.mk hy
    generalize w3.setCell ⟨w2.heap.size, 0, none⟩ (.int .i64 ((some y).getD 0)) = w4 at HB4 HY4 HZ4 ⊢
    clear hg hbk hbx hne hne1 hy HB3 HX HY HZ
    have n0 : w4.cell? ⟨w.heap.size + 2, 0, none⟩ = some (.int .i64 0) := (blk_cell HZ4.out 0).trans rfl
    have n1 : w4.cell? ⟨w.heap.size + 2, 1, none⟩ = some (.int .i64 0) := (blk_cell HZ4.out 1).trans rfl
    have n2 : w4.cell? ⟨w.heap.size + 2, 2, none⟩ = some (.int .i64 0) := (blk_cell HZ4.out 2).trans rfl
    have n3 : w4.cell? ⟨w.heap.size + 2, 3, none⟩ = some (.slice none 0 0) := (blk_cell HZ4.out 3).trans rfl
    go_wp2_with (fail)
    have hE := told125_bad y HYY.out w4
    with_reducible refine hE.mono ?_
    clear hE
    rintro e w5 ⟨rfl, hB⟩
    have HY5 := Aside0.mk ((hB.block _ (blk_lt2 HY4.out)).trans HY4.out)
    have HB5 := Aside0.mk (below_then HB4.out HB4.out.size hB)
    clear hB
    go_wp2_with (refine wpList_store_row rfl 87 (.tmp 2) (.tmp 11) rfl (w.heap.size + 1) #[.int .i64 0, .int .i64 0, .int .i64 0, .slice none 0 0] rfl rfl 87 _ HY5.out size87 rfl (by simp [Value.oneCell']) ?_; have HY6 := Aside0.mk (setRow_heap _ _ _ #[.int .i64 0, .int .i64 0, .int .i64 0, .slice none 0 0] _ _ HY5.out); have HB6 := Aside0.mk (below_setRow HB5.out (Nat.le_succ _) #[.int .i64 0, .int .i64 0, .int .i64 0, .slice none 0 0]))
    exact bodyPost_ret (v := .tuple #[.agg #[.int .i64 0, .int .i64 0, .int .i64 0, .slice none 0 0], .int .i64 12]) (results_row_tmp (p := 2) (u := 3) (ty := 87) rfl _ _ (w.heap.size + 1) 87 _ _ _ rfl HY6.out hu87 rfl size87) rfl ⟨HB6.out, rfl⟩
  | some x =>
    obtain ⟨rfl, A3, c3, hbx, hR0⟩ := hh
    have HZ4 := Aside0.mk ((Below.heap_setCell w3 ⟨w2.heap.size, 0, none⟩ (.int .i64 ((none : Option Int).getD 0)) _ hne).trans hbx)
    have HR04 := Aside0.mk (Kd.R_set hR0 hbk (by simp [Kd.int, Kd.scalar]) 0 (.int .i64 ((none : Option Int).getD 0)))
    generalize w3.setCell ⟨w2.heap.size, 0, none⟩ (.int .i64 ((none : Option Int).getD 0)) = w4 at HB4 HY4 HZ4 HR04 ⊢
    clear hg hbk hbx hne hne1 hR0 HB3 HX HY HZ
    have n0 : w4.cell? ⟨w.heap.size + 2, 0, none⟩ = some (.int .i64 x.f0) := (blk_cell HZ4.out 0).trans rfl
    have n1 : w4.cell? ⟨w.heap.size + 2, 1, none⟩ = some (.int .i64 x.f1) := (blk_cell HZ4.out 1).trans rfl
    have n2 : w4.cell? ⟨w.heap.size + 2, 2, none⟩ = some (.int .i64 x.f2) := (blk_cell HZ4.out 2).trans rfl
    have n3 : w4.cell? ⟨w.heap.size + 2, 3, none⟩ = some (.slice A3 x.f3.length c3) := (blk_cell HZ4.out 3).trans rfl
    go_wp2_with (fail)
    have hE := told125_ok x A3 c3 w4
    with_reducible refine hE.mono ?_
    clear hE
    rintro e w5 ⟨rfl, hB⟩
    have HY5 := Aside0.mk ((hB.block _ (blk_lt2 HY4.out)).trans HY4.out)
    have HB5 := Aside0.mk (below_then HB4.out HB4.out.size hB)
    have HR05 := Aside0.mk (Kd.R_below HR04.out hB)
    clear hB
    go_wp2_with (refine wpList_store_row rfl 87 (.tmp 2) (.tmp 11) rfl (w.heap.size + 1) #[.int .i64 x.f0, .int .i64 x.f1, .int .i64 x.f2, .slice A3 x.f3.length c3] rfl rfl 87 _ HY5.out size87 rfl (by simp [Value.oneCell']) ?_; have HY6 := Aside0.mk (setRow_heap _ _ _ #[.int .i64 x.f0, .int .i64 x.f1, .int .i64 x.f2, .slice A3 x.f3.length c3] _ _ HY5.out); have HB6 := Aside0.mk (below_setRow HB5.out (Nat.le_succ _) #[.int .i64 x.f0, .int .i64 x.f1, .int .i64 x.f2, .slice A3 x.f3.length c3]); have HR06 := Aside0.mk (R_row HR05.out HY5.out (by simp [Kd.int, Kd.scalar]) #[.int .i64 x.f0, .int .i64 x.f1, .int .i64 x.f2, .slice A3 x.f3.length c3]))
    exact bodyPost_ret (v := .tuple #[.agg #[.int .i64 x.f0, .int .i64 x.f1, .int .i64 x.f2, .slice A3 x.f3.length c3], .int .i64 0]) (results_row_tmp (p := 2) (u := 3) (ty := 87) rfl _ _ (w.heap.size + 1) 87 _ _ _ rfl HY6.out hu87 rfl size87) rfl ⟨HB6.out, A3, c3, rfl, (Kd.R_reads' HR06.out).2.2, (Kd.R_reads' HR06.out).2.1⟩
set_option maxHeartbeats 8000000 in
set_option maxRecDepth 100000 in
theorem read120_calls (l : List Int) (A : Option Addr) (c : Nat) (o : Option S72) (bb bm : Nat) (w : World) (hbb : w.heap[bb]? = some (.cells #[.slice A l.length c] 22)) (hbm : w.heap[bm]? = some (.cells #[.int .i64 0, .int .i64 0, .int .i64 0, .slice none 0 0, .slice none 0 0] 72)) (hC : Kd.C (Kd.int .u8) w A l.length l) (hc : l.length ≤ c) (hb : Byte l) (hl : l.length < 17592186044416) (ho : letterO l = o) :
    Calls Try.prog 120 #[.pointer (some ⟨bb, 0, none⟩), .pointer (some ⟨bm, 0, none⟩)] w fun e w' => w.grownBy w' (some bm) ∧ match (generalizing := false) o with
      | some x => ∃ A3 c3 A4 c4, e = .returned (.tuple #[]) ∧ w'.heap[bm]? = some (.cells #[.int .i64 x.f0.f0, .int .i64 x.f0.f1, .int .i64 x.f1, .slice A3 x.f2.length c3, .slice A4 x.f3.length c4] 72) ∧ Kd.R (Kd.int .u8) 5 w' w.heap.size (fun k => w.heap.size ≤ k) (.slice A3 x.f2.length c3) x.f2 ∧ Kd.R (Kd.slice 5 (Kd.int .u8)) 22 w' w.heap.size (fun k => w.heap.size ≤ k) (.slice A4 x.f3.length c4) x.f3
      | none => ∃ y, y ≠ 0 ∧ e = .panicked (fault y) ∧ w'.heap[bm]? = some (.cells #[.int .i64 0, .int .i64 0, .int .i64 0, .slice none 0 0, .slice none 0 0] 72) := by
  have hu72 := Try.underlying72
  have HBB := Aside0.mk hbb
  have HBM := Aside0.mk hbm
  have hE := readLetter_calls A c l o w hC hc hb hl ho
  have x0 : w.cell? ⟨bb, 0, none⟩ = some (.slice A l.length c) := (blk_cell hbb 0).trans rfl
  clear hbb hbm hC hc hb hl ho
  go_enter Try.func120, Try.ntmps120
  go_wp2_with (fail)
  with_reducible refine hE.mono ?_
  clear hE
  rintro e w1 ⟨hB, hh⟩
  have HBM1 := Aside0.mk ((hB.block _ (blk_lt2 HBM.out)).trans HBM.out)
  have HG1 := Aside0.mk (grown_of_below hB (some bm))
  clear hB x0
  cases o with
  | some x =>
    obtain ⟨A3, c3, A4, c4, rfl, hM⟩ := hh
    obtain ⟨v3, v4, he, hr0, hr1⟩ := k72_openM hM; simp only [List.cons.injEq, true_and, and_true] at he; obtain ⟨rfl, rfl⟩ := he; have HR0 := Aside0.mk hr0; have HR1 := Aside0.mk hr1; clear hM hr0 hr1
    go_wp2_with (refine wpList_store_row rfl 72 (.tmp 1) (.tmp 3) rfl bm #[.int .i64 x.f0.f0, .int .i64 x.f0.f1, .int .i64 x.f1, .slice A3 x.f2.length c3, .slice A4 x.f3.length c4] rfl rfl 72 _ HBM1.out size72 rfl (by simp [Value.oneCell']) ?_)
    go_end0
    exact ⟨HG1.out.trans (grown_row _ _ _), rfl, A3, c3, A4, c4, setRow_heap _ _ _ #[.int .i64 x.f0.f0, .int .i64 x.f0.f1, .int .i64 x.f1, .slice A3 x.f2.length c3, .slice A4 x.f3.length c4] _ _ HBM1.out, R_row HR0.out HBM1.out (by simp [Kd.int, Kd.scalar]) _, R_row HR1.out HBM1.out (by simp [Kd.slice, Kd.int, Kd.scalar]) _⟩
  | none =>
    obtain ⟨y, hy, rfl⟩ := hh
    have HYY := Aside0.mk hy
    clear hy
    go_wp2_with (fail)
    refine ⟨rfl, ?_⟩
    exact ⟨HG1.out, y, HYY.out, rfl, HBM1.out⟩
set_option maxHeartbeats 8000000 in
set_option maxRecDepth 100000 in
theorem told122_ok (x : S72) (A3 : Option Addr) (c3 : Nat) (A4 : Option Addr) (c4 : Nat) (w : World) :
    Calls Try.prog 122 #[.agg #[.int .i64 x.f0.f0, .int .i64 x.f0.f1, .int .i64 x.f1, .slice A3 x.f2.length c3, .slice A4 x.f3.length c4], .int .i64 0] w fun e w' => e = .returned (.tuple #[.agg #[.int .i64 x.f0.f0, .int .i64 x.f0.f1, .int .i64 x.f1, .slice A3 x.f2.length c3, .slice A4 x.f3.length c4], .int .i64 0]) ∧ Below w.heap.size w w' := by
  have hu72 := Try.underlying72
  have HB0 := Aside0.mk (below_alloc (below_alloc (Below.refl w.heap.size w) (.cells #[.int .i64 x.f0.f0, .int .i64 x.f0.f1, .int .i64 x.f1, .slice A3 x.f2.length c3, .slice A4 x.f3.length c4] 72)) (.cells #[.int .i64 0, .int .i64 0, .int .i64 0, .slice none 0 0, .slice none 0 0] 72))
  have HX0 := Aside0.mk (blk_new (w.alloc (.cells #[.int .i64 x.f0.f0, .int .i64 x.f0.f1, .int .i64 x.f1, .slice A3 x.f2.length c3, .slice A4 x.f3.length c4] 72)) (.cells #[.int .i64 0, .int .i64 0, .int .i64 0, .slice none 0 0, .slice none 0 0] 72))
  rw [show (w.alloc (.cells #[.int .i64 x.f0.f0, .int .i64 x.f0.f1, .int .i64 x.f1, .slice A3 x.f2.length c3, .slice A4 x.f3.length c4] 72)).heap.size = w.heap.size + 1 by simp] at HX0
  go_enter Try.func122, Try.ntmps122
  go_wp2_with (refine wpList_store_row rfl 72 (.tmp 4) (.tmp 10) rfl (w.heap.size + 1) #[.int .i64 x.f0.f0, .int .i64 x.f0.f1, .int .i64 x.f1, .slice A3 x.f2.length c3, .slice A4 x.f3.length c4] rfl rfl 72 _ HX0.out size72 rfl (by simp [Value.oneCell']) ?_; have HX1 := Aside0.mk (setRow_heap _ _ _ #[.int .i64 x.f0.f0, .int .i64 x.f0.f1, .int .i64 x.f1, .slice A3 x.f2.length c3, .slice A4 x.f3.length c4] _ _ HX0.out); have HB1 := Aside0.mk (below_setRow HB0.out (Nat.le_succ _) #[.int .i64 x.f0.f0, .int .i64 x.f0.f1, .int .i64 x.f1, .slice A3 x.f2.length c3, .slice A4 x.f3.length c4]))
  exact bodyPost_ret (v := .tuple #[.agg #[.int .i64 x.f0.f0, .int .i64 x.f0.f1, .int .i64 x.f1, .slice A3 x.f2.length c3, .slice A4 x.f3.length c4], .int .i64 0]) (results_row_tmp (p := 4) (u := 5) (ty := 72) rfl _ _ (w.heap.size + 1) 72 _ _ _ rfl HX1.out hu72 rfl size72) rfl ⟨rfl, HB1.out⟩
set_option maxHeartbeats 8000000 in
set_option maxRecDepth 100000 in
theorem told122_bad (x : Int) (hx : x ≠ 0) (w : World) :
    Calls Try.prog 122 #[.agg #[.int .i64 0, .int .i64 0, .int .i64 0, .slice none 0 0, .slice none 0 0], .int .i64 x] w fun e w' => e = .returned (.tuple #[.agg #[.int .i64 0, .int .i64 0, .int .i64 0, .slice none 0 0, .slice none 0 0], .int .i64 12]) ∧ Below w.heap.size w w' := by
  have hu72 := Try.underlying72
  have b0 : (x != 0) = true := bne_iff_ne.mpr hx
  clear hx
  have HB0 := Aside0.mk (below_alloc (below_alloc (below_alloc (Below.refl w.heap.size w) (.cells #[.int .i64 0, .int .i64 0, .int .i64 0, .slice none 0 0, .slice none 0 0] 72)) (.cells #[.int .i64 0, .int .i64 0, .int .i64 0, .slice none 0 0, .slice none 0 0] 72)) (.cells #[.int .i64 0, .int .i64 0, .int .i64 0, .slice none 0 0, .slice none 0 0] 72))
  have HX0 := Aside0.mk ((Below.heap_alloc ((w.alloc (.cells #[.int .i64 0, .int .i64 0, .int .i64 0, .slice none 0 0, .slice none 0 0] 72)).alloc (.cells #[.int .i64 0, .int .i64 0, .int .i64 0, .slice none 0 0, .slice none 0 0] 72)) (.cells #[.int .i64 0, .int .i64 0, .int .i64 0, .slice none 0 0, .slice none 0 0] 72) _ (by simp)).trans (blk_new (w.alloc (.cells #[.int .i64 0, .int .i64 0, .int .i64 0, .slice none 0 0, .slice none 0 0] 72)) (.cells #[.int .i64 0, .int .i64 0, .int .i64 0, .slice none 0 0, .slice none 0 0] 72)))
  rw [show (w.alloc (.cells #[.int .i64 0, .int .i64 0, .int .i64 0, .slice none 0 0, .slice none 0 0] 72)).heap.size = w.heap.size + 1 by simp] at HX0
  go_enter Try.func122, Try.ntmps122
  go_wp2_with (refine wpList_store_row rfl 72 (.tmp 4) (.tmp 9) rfl (w.heap.size + 1) #[.int .i64 0, .int .i64 0, .int .i64 0, .slice none 0 0, .slice none 0 0] rfl rfl 72 _ HX0.out size72 rfl (by simp [Value.oneCell']) ?_; have HX1 := Aside0.mk (setRow_heap _ _ _ #[.int .i64 0, .int .i64 0, .int .i64 0, .slice none 0 0, .slice none 0 0] _ _ HX0.out); have HB1 := Aside0.mk (below_setRow HB0.out (Nat.le_succ _) #[.int .i64 0, .int .i64 0, .int .i64 0, .slice none 0 0, .slice none 0 0]))
  exact bodyPost_ret (v := .tuple #[.agg #[.int .i64 0, .int .i64 0, .int .i64 0, .slice none 0 0, .slice none 0 0], .int .i64 12]) (results_row_tmp (p := 4) (u := 5) (ty := 72) rfl _ _ (w.heap.size + 1) 72 _ _ _ rfl HX1.out hu72 rfl size72) rfl ⟨rfl, HB1.out⟩
set_option maxHeartbeats 8000000 in
set_option maxRecDepth 100000 in
theorem read77_calls (A : Option Addr) (c : Nat) (l : List Int) (o : Option S72) (w : World) (hC : Kd.C (Kd.int .u8) w A l.length l) (hc : l.length ≤ c) (hb : Byte l) (hl : l.length < 17592186044416) (ho : letterO l = o) :
    Calls Try.prog 77 #[.slice A l.length c] w fun e w' => Below w.heap.size w w' ∧ match (generalizing := false) o with
      | some x => ∃ A3 c3 A4 c4, e = .returned (.tuple #[.agg #[.int .i64 x.f0.f0, .int .i64 x.f0.f1, .int .i64 x.f1, .slice A3 x.f2.length c3, .slice A4 x.f3.length c4], .int .i64 0]) ∧ Kd.C (Kd.int .u8) w' A3 x.f2.length x.f2 ∧ x.f2.length ≤ c3 ∧ Kd.C (Kd.slice 5 (Kd.int .u8)) w' A4 x.f3.length x.f3 ∧ x.f3.length ≤ c4
      | none => e = .returned (.tuple #[.agg #[.int .i64 0, .int .i64 0, .int .i64 0, .slice none 0 0, .slice none 0 0], .int .i64 12]) := by
  have hu72 := Try.underlying72
  have HC := Aside0.mk hC
  have Hc := Aside0.mk hc
  have HBy := Aside0.mk hb
  have HL := Aside0.mk hl
  have HO := Aside0.mk ho
  clear hC hc hb hl ho
  have hmf : ∀ (fn : Fn) (first cap : Array Value) (w : World), (Instr.makeFunc fn first cap).run Try.prog w = .ok (.func fn first cap) w := fun _ _ _ _ => rfl
  have HB0 := Aside0.mk (below_alloc (below_alloc (below_alloc (Below.refl w.heap.size w) (.cells #[.slice A l.length c] 22)) (.cells #[.int .i64 0, .int .i64 0, .int .i64 0, .slice none 0 0, .slice none 0 0] 72)) (.cells #[.int .i64 0, .int .i64 0, .int .i64 0, .slice none 0 0, .slice none 0 0] 72))
  have e1 : (w.alloc (.cells #[.slice A l.length c] 22)).heap.size = w.heap.size + 1 := by simp
  have e2 : ((w.alloc (.cells #[.slice A l.length c] 22)).alloc (.cells #[.int .i64 0, .int .i64 0, .int .i64 0, .slice none 0 0, .slice none 0 0] 72)).heap.size = w.heap.size + 2 := by simp
  have hX0 := blk_new w (.cells #[.slice A l.length c] 22)
  have hX1 := (Below.heap_alloc (w.alloc (.cells #[.slice A l.length c] 22)) (.cells #[.int .i64 0, .int .i64 0, .int .i64 0, .slice none 0 0, .slice none 0 0] 72) _ (blk_lt2 hX0)).trans hX0
  have hX2 := (Below.heap_alloc ((w.alloc (.cells #[.slice A l.length c] 22)).alloc (.cells #[.int .i64 0, .int .i64 0, .int .i64 0, .slice none 0 0, .slice none 0 0] 72)) (.cells #[.int .i64 0, .int .i64 0, .int .i64 0, .slice none 0 0, .slice none 0 0] 72) _ (blk_lt2 hX1)).trans hX1
  have hY1 := blk_new (w.alloc (.cells #[.slice A l.length c] 22)) (.cells #[.int .i64 0, .int .i64 0, .int .i64 0, .slice none 0 0, .slice none 0 0] 72)
  have hY2 := (Below.heap_alloc ((w.alloc (.cells #[.slice A l.length c] 22)).alloc (.cells #[.int .i64 0, .int .i64 0, .int .i64 0, .slice none 0 0, .slice none 0 0] 72)) (.cells #[.int .i64 0, .int .i64 0, .int .i64 0, .slice none 0 0, .slice none 0 0] 72) _ (blk_lt2 hY1)).trans hY1
  have hZ2 := blk_new ((w.alloc (.cells #[.slice A l.length c] 22)).alloc (.cells #[.int .i64 0, .int .i64 0, .int .i64 0, .slice none 0 0, .slice none 0 0] 72)) (.cells #[.int .i64 0, .int .i64 0, .int .i64 0, .slice none 0 0, .slice none 0 0] 72)
  rw [e1] at hY2
  rw [e2] at hZ2
  have HX := Aside0.mk hX2
  have HY := Aside0.mk hY2
  have HZ := Aside0.mk hZ2
  clear hX0 hX1 hX2 hY1 hY2 hZ2 e1 e2
  go_enter Try.func77, Try.ntmps77
  go_wp2_with (fail)
  generalize ((w.alloc (.cells #[.slice A l.length c] 22)).alloc (.cells #[.int .i64 0, .int .i64 0, .int .i64 0, .slice none 0 0, .slice none 0 0] 72)).alloc (.cells #[.int .i64 0, .int .i64 0, .int .i64 0, .slice none 0 0, .slice none 0 0] 72) = w2 at HX HY HZ HB0 ⊢
  refine (caught_calls 120 #[.pointer (some ⟨w.heap.size, 0, none⟩), .pointer (some ⟨w.heap.size + 2, 0, none⟩)] w2 (fun r w3 => w2.grownBy w3 (some (w.heap.size + 2)) ∧ w3.heap[w2.heap.size]? = some (.cells #[.int .i64 0] 23) ∧ match (generalizing := false) o with
      | some x => r = none ∧ ∃ A3 c3 A4 c4, w3.heap[w.heap.size + 2]? = some (.cells #[.int .i64 x.f0.f0, .int .i64 x.f0.f1, .int .i64 x.f1, .slice A3 x.f2.length c3, .slice A4 x.f3.length c4] 72) ∧ Kd.R (Kd.int .u8) 5 w3 w2.heap.size (fun k => w2.heap.size ≤ k) (.slice A3 x.f2.length c3) x.f2 ∧ Kd.R (Kd.slice 5 (Kd.int .u8)) 22 w3 w2.heap.size (fun k => w2.heap.size ≤ k) (.slice A4 x.f3.length c4) x.f3
      | none => ∃ y, y ≠ 0 ∧ r = some y ∧ w3.heap[w.heap.size + 2]? = some (.cells #[.int .i64 0, .int .i64 0, .int .i64 0, .slice none 0 0, .slice none 0 0] 72)) (fun _ => by kernel_rfl) ?_).mono ?_
  · intro W hW
    have hg0 := World.grownBy_alloc w2 (.cells #[.int .i64 0] 23) (some (w.heap.size + 2))
    have hbW := below_alloc (Below.refl w2.heap.size w2) (.cells #[.int .i64 0] 23)
    have hnW := blk_new w2 (.cells #[.int .i64 0] 23)
    rw [← hW] at hg0 hbW hnW
    have hne : w2.heap.size ≠ w.heap.size + 2 := fun e => by have := blk_lt2 HZ.out; omega
    refine (read120_calls l A c o w.heap.size (w.heap.size + 2) W ((hbW.block _ (blk_lt2 HX.out)).trans HX.out) ((hbW.block _ (blk_lt2 HZ.out)).trans HZ.out) (Kd.C_below HC.out (below_then HB0.out HB0.out.size hbW)) Hc.out HBy.out HL.out HO.out).mono ?_
    rintro e w3 ⟨hg, hh⟩
    have hbk := (hg.block _ (blk_lt2 hnW) (by intro e; injection e with e; exact hne e)).trans hnW
    cases o with
    | some x =>
      obtain ⟨A3, c3, A4, c4, rfl, hbx, hR0, hR1⟩ := hh
      exact ⟨⟨none, ⟨hg0.trans hg, hbk, rfl, A3, c3, A4, c4, hbx, Kd.R_mono (Kd.R_lower hR0 hbW.size) (fun k hk => Nat.le_trans hbW.size hk), Kd.R_mono (Kd.R_lower hR1 hbW.size) (fun k hk => Nat.le_trans hbW.size hk)⟩, rfl⟩, (blk_cell hbk 0).trans rfl, blk_frozen hbk 0, hbk⟩
    | none =>
      obtain ⟨y, hy, rfl, hbx⟩ := hh
      exact ⟨⟨some y, ⟨hg0.trans hg, hbk, y, hy, rfl, hbx⟩, rfl⟩, (blk_cell hbk 0).trans rfl, blk_frozen hbk 0, hbk⟩
  rintro e w4 ⟨r, w3, ⟨hg, hbk, hh⟩, rfl, rfl⟩
  have hne : w.heap.size + 2 ≠ w2.heap.size := fun e => by have := blk_lt2 HZ.out; omega
  have hne1 : w.heap.size + 1 ≠ w2.heap.size := fun e => by have := blk_lt2 HZ.out; omega
  have HB3 := Aside0.mk (HB0.out.grown hg HB0.out.size (fun k hk => by injection hk with hk; omega))
  have HB4 := Aside0.mk (below_set (j := 0) (v := .int .i64 (r.getD 0)) HB3.out (show w.heap.size ≤ w2.heap.size from HB0.out.size))
  have HY4 := Aside0.mk ((Below.heap_setCell w3 ⟨w2.heap.size, 0, none⟩ (.int .i64 (r.getD 0)) _ hne1).trans ((hg.block _ (blk_lt2 HY.out) (by intro e; injection e with e; omega)).trans HY.out))
  cases o with
  | none =>
    obtain ⟨y, hy, rfl, hbx⟩ := hh
    have HZ4 := Aside0.mk ((Below.heap_setCell w3 ⟨w2.heap.size, 0, none⟩ (.int .i64 ((some y).getD 0)) _ hne).trans hbx)
    have HYY := Aside0.mk hy
    generalize w3.setCell ⟨w2.heap.size, 0, none⟩ (.int .i64 ((some y).getD 0)) = w4 at HB4 HY4 HZ4 ⊢
    clear hg hbk hbx hne hne1 hy HB3 HX HY HZ
    have n0 : w4.cell? ⟨w.heap.size + 2, 0, none⟩ = some (.int .i64 0) := (blk_cell HZ4.out 0).trans rfl
    have n1 : w4.cell? ⟨w.heap.size + 2, 1, none⟩ = some (.int .i64 0) := (blk_cell HZ4.out 1).trans rfl
    have n2 : w4.cell? ⟨w.heap.size + 2, 2, none⟩ = some (.int .i64 0) := (blk_cell HZ4.out 2).trans rfl
    have n3 : w4.cell? ⟨w.heap.size + 2, 3, none⟩ = some (.slice none 0 0) := (blk_cell HZ4.out 3).trans rfl
    have n4 : w4.cell? ⟨w.heap.size + 2, 4, none⟩ = some (.slice none 0 0) := (blk_cell HZ4.out 4).trans rfl
    go_wp2_with (fail)
    have hE := told122_bad y HYY.out w4
    with_reducible refine hE.mono ?_
    clear hE
    rintro e w5 ⟨rfl, hB⟩
    have HY5 := Aside0.mk ((hB.block _ (blk_lt2 HY4.out)).trans HY4.out)
    have HB5 := Aside0.mk (below_then HB4.out HB4.out.size hB)
    clear hB
    go_wp2_with (refine wpList_store_row rfl 72 (.tmp 2) (.tmp 11) rfl (w.heap.size + 1) #[.int .i64 0, .int .i64 0, .int .i64 0, .slice none 0 0, .slice none 0 0] rfl rfl 72 _ HY5.out size72 rfl (by simp [Value.oneCell']) ?_; have HY6 := Aside0.mk (setRow_heap _ _ _ #[.int .i64 0, .int .i64 0, .int .i64 0, .slice none 0 0, .slice none 0 0] _ _ HY5.out); have HB6 := Aside0.mk (below_setRow HB5.out (Nat.le_succ _) #[.int .i64 0, .int .i64 0, .int .i64 0, .slice none 0 0, .slice none 0 0]))
    exact bodyPost_ret (v := .tuple #[.agg #[.int .i64 0, .int .i64 0, .int .i64 0, .slice none 0 0, .slice none 0 0], .int .i64 12]) (results_row_tmp (p := 2) (u := 3) (ty := 72) rfl _ _ (w.heap.size + 1) 72 _ _ _ rfl HY6.out hu72 rfl size72) rfl ⟨HB6.out, rfl⟩
  | some x =>
    obtain ⟨rfl, A3, c3, A4, c4, hbx, hR0, hR1⟩ := hh
    have HZ4 := Aside0.mk ((Below.heap_setCell w3 ⟨w2.heap.size, 0, none⟩ (.int .i64 ((none : Option Int).getD 0)) _ hne).trans hbx)
    have HR04 := Aside0.mk (Kd.R_set hR0 hbk (by simp [Kd.int, Kd.scalar]) 0 (.int .i64 ((none : Option Int).getD 0)))
    have HR14 := Aside0.mk (Kd.R_set hR1 hbk (by simp [Kd.slice, Kd.int, Kd.scalar]) 0 (.int .i64 ((none : Option Int).getD 0)))
    generalize w3.setCell ⟨w2.heap.size, 0, none⟩ (.int .i64 ((none : Option Int).getD 0)) = w4 at HB4 HY4 HZ4 HR04 HR14 ⊢
    clear hg hbk hbx hne hne1 hR0 hR1 HB3 HX HY HZ
    have n0 : w4.cell? ⟨w.heap.size + 2, 0, none⟩ = some (.int .i64 x.f0.f0) := (blk_cell HZ4.out 0).trans rfl
    have n1 : w4.cell? ⟨w.heap.size + 2, 1, none⟩ = some (.int .i64 x.f0.f1) := (blk_cell HZ4.out 1).trans rfl
    have n2 : w4.cell? ⟨w.heap.size + 2, 2, none⟩ = some (.int .i64 x.f1) := (blk_cell HZ4.out 2).trans rfl
    have n3 : w4.cell? ⟨w.heap.size + 2, 3, none⟩ = some (.slice A3 x.f2.length c3) := (blk_cell HZ4.out 3).trans rfl
    have n4 : w4.cell? ⟨w.heap.size + 2, 4, none⟩ = some (.slice A4 x.f3.length c4) := (blk_cell HZ4.out 4).trans rfl
    go_wp2_with (fail)
    have hE := told122_ok x A3 c3 A4 c4 w4
    with_reducible refine hE.mono ?_
    clear hE
    rintro e w5 ⟨rfl, hB⟩
    have HY5 := Aside0.mk ((hB.block _ (blk_lt2 HY4.out)).trans HY4.out)
    have HB5 := Aside0.mk (below_then HB4.out HB4.out.size hB)
    have HR05 := Aside0.mk (Kd.R_below HR04.out hB)
    have HR15 := Aside0.mk (Kd.R_below HR14.out hB)
    clear hB
    go_wp2_with (refine wpList_store_row rfl 72 (.tmp 2) (.tmp 11) rfl (w.heap.size + 1) #[.int .i64 x.f0.f0, .int .i64 x.f0.f1, .int .i64 x.f1, .slice A3 x.f2.length c3, .slice A4 x.f3.length c4] rfl rfl 72 _ HY5.out size72 rfl (by simp [Value.oneCell']) ?_; have HY6 := Aside0.mk (setRow_heap _ _ _ #[.int .i64 x.f0.f0, .int .i64 x.f0.f1, .int .i64 x.f1, .slice A3 x.f2.length c3, .slice A4 x.f3.length c4] _ _ HY5.out); have HB6 := Aside0.mk (below_setRow HB5.out (Nat.le_succ _) #[.int .i64 x.f0.f0, .int .i64 x.f0.f1, .int .i64 x.f1, .slice A3 x.f2.length c3, .slice A4 x.f3.length c4]); have HR06 := Aside0.mk (R_row HR05.out HY5.out (by simp [Kd.int, Kd.scalar]) #[.int .i64 x.f0.f0, .int .i64 x.f0.f1, .int .i64 x.f1, .slice A3 x.f2.length c3, .slice A4 x.f3.length c4]); have HR16 := Aside0.mk (R_row HR15.out HY5.out (by simp [Kd.slice, Kd.int, Kd.scalar]) #[.int .i64 x.f0.f0, .int .i64 x.f0.f1, .int .i64 x.f1, .slice A3 x.f2.length c3, .slice A4 x.f3.length c4]))
    exact bodyPost_ret (v := .tuple #[.agg #[.int .i64 x.f0.f0, .int .i64 x.f0.f1, .int .i64 x.f1, .slice A3 x.f2.length c3, .slice A4 x.f3.length c4], .int .i64 0]) (results_row_tmp (p := 2) (u := 3) (ty := 72) rfl _ _ (w.heap.size + 1) 72 _ _ _ rfl HY6.out hu72 rfl size72) rfl ⟨HB6.out, A3, c3, A4, c4, rfl, (Kd.R_reads' HR06.out).2.2, (Kd.R_reads' HR06.out).2.1, (Kd.R_reads' HR16.out).2.2, (Kd.R_reads' HR16.out).2.1⟩
end Go.Proofs.Ytijccobeljoikaa.Ms

/- msg: MsgOthers: letters and entries that are packed are read as they were; two that have the same bytes are the same. -/
namespace Go.Proofs.Ytijccobeljoikaa.Ms
open Go.RowKit Go.Proofs.YtijccobeljoikaaW.PrintWords Go.Proofs.YtijccobeljoikaaW.PrintLast
open Go.Proofs.Ytijccobeljoikaa.Plain Go.Proofs.Ytijccobeljoikaa.Walks
set_option linter.unusedVariables false
set_option linter.unusedSimpArgs false

/-- A letter's lists in memory. -/
structure LetR (w : World) (x : S72) (A2 : Option Addr) (c2 : Nat) (A3 : Option Addr) (c3 : Nat) : Prop where
  r2 : Kd.C (Kd.int .u8) w A2 x.f2.length x.f2
  l2 : x.f2.length ≤ c2
  r3 : Kd.C (Kd.slice 5 (Kd.int .u8)) w A3 x.f3.length x.f3
  l3 : x.f3.length ≤ c3
theorem LetR.below {w w1 : World} {x : S72} {A2 : Option Addr} {c2 : Nat} {A3 : Option Addr} {c3 : Nat} (h : LetR w x A2 c2 A3 c3) (hB : Below w.heap.size w w1) : LetR w1 x A2 c2 A3 c3 :=
  ⟨Kd.C_below h.r2 hB, h.l2, Kd.C_below h.r3 hB, h.l3⟩
theorem LetR.of_M {w : World} {b : Nat} {ok : Nat → Prop} {x : S72} {A2 : Option Addr} {c2 : Nat} {A3 : Option Addr} {c3 : Nat} (h : k72.M w b ok x [.int .i64 x.f0.f0, .int .i64 x.f0.f1, .int .i64 x.f1, .slice A2 x.f2.length c2, .slice A3 x.f3.length c3]) : LetR w x A2 c2 A3 c3 := by
  obtain ⟨v3, v4, he, hr0, hr1⟩ := k72_openM h
  simp only [List.cons.injEq, true_and, and_true] at he
  obtain ⟨rfl, rfl⟩ := he
  exact ⟨(Kd.R_reads' hr0).2.2, (Kd.R_reads' hr0).2.1, (Kd.R_reads' hr1).2.2, (Kd.R_reads' hr1).2.1⟩
/-- Four boxes, and what was there is as it was. -/
structure Bx4 (w w' : World) (b : Nat) (c0 c1 c2 c3 : Array Value) : Prop where
  h0 : w'.heap[b]? = some (.cells c0 72)
  h1 : w'.heap[b + 1]? = some (.cells c1 72)
  h2 : w'.heap[b + 2]? = some (.cells c2 87)
  h3 : w'.heap[b + 3]? = some (.cells c3 87)
  below : Below w.heap.size w w'
theorem Bx4.step {w w' w2 : World} {b : Nat} {c0 c1 c2 c3 : Array Value} (h : Bx4 w w' b c0 c1 c2 c3) (hB : Below w'.heap.size w' w2) : Bx4 w w2 b c0 c1 c2 c3 :=
  ⟨(hB.block _ (blk_lt2 h.h0)).trans h.h0, (hB.block _ (blk_lt2 h.h1)).trans h.h1, (hB.block _ (blk_lt2 h.h2)).trans h.h2, (hB.block _ (blk_lt2 h.h3)).trans h.h3, below_then h.below h.below.size hB⟩
theorem Bx4.new (w : World) (c0 c1 c2 c3 : Array Value) : Bx4 w ((((w.alloc (.cells c0 72)).alloc (.cells c1 72)).alloc (.cells c2 87)).alloc (.cells c3 87)) w.heap.size c0 c1 c2 c3 := by
  have s1 : (w.alloc (.cells c0 72)).heap.size = w.heap.size + 1 := by simp
  have s2 : ((w.alloc (.cells c0 72)).alloc (.cells c1 72)).heap.size = w.heap.size + 2 := by simp
  have s3 : (((w.alloc (.cells c0 72)).alloc (.cells c1 72)).alloc (.cells c2 87)).heap.size = w.heap.size + 3 := by simp
  refine ⟨?_, ?_, ?_, ?_, below_alloc (below_alloc (below_alloc (below_alloc (Below.refl _ _) _) _) _) _⟩
  · exact (Below.heap_alloc _ _ _ (by rw [s3]; omega)).trans ((Below.heap_alloc _ _ _ (by rw [s2]; omega)).trans ((Below.heap_alloc _ _ _ (by rw [s1]; omega)).trans (blk_new w _)))
  · exact (Below.heap_alloc _ _ _ (by rw [s3]; omega)).trans ((Below.heap_alloc _ _ _ (by rw [s2]; omega)).trans (s1 ▸ blk_new (w.alloc (.cells c0 72)) (.cells c1 72)))
  · exact (Below.heap_alloc _ _ _ (by rw [s3]; omega)).trans (s2 ▸ blk_new ((w.alloc (.cells c0 72)).alloc (.cells c1 72)) (.cells c2 87))
  · exact s3 ▸ blk_new (((w.alloc (.cells c0 72)).alloc (.cells c1 72)).alloc (.cells c2 87)) (.cells c3 87)
theorem joined_len {l : List (List Int)} {z : List Int} (h : joinP l = (z, 0)) (hn : l.length ≤ 10) : z.length ≤ 10000000 := by
  obtain ⟨e1, e2, _⟩ := joinP_some h
  have h1 := encL_len e2
  have h2 := rowsSize_le e2
  rw [e1]
  have h4 : l.length * (65536 + 1) ≤ 10 * 65537 := Nat.mul_le_mul hn (by omega)
  omega
theorem letterP_ok {x : S72} {z : List Int} (h : letterP x = (z, 0)) : goodLetter x = true ∧ z = letterZ x := by
  unfold letterP at h
  split at h
  · rename_i hg; exact ⟨hg, ((Prod.mk.inj h).1).symm⟩
  · exact absurd (Prod.mk.inj h).2 (by decide)
theorem entryP_ok {x : S87} {z : List Int} (h : entryP x = (z, 0)) : goodEntry x = true ∧ z = entryZ x := by
  unfold entryP at h
  split at h
  · rename_i hg; exact ⟨hg, ((Prod.mk.inj h).1).symm⟩
  · exact absurd (Prod.mk.inj h).2 (by decide)
/-- What a packed letter is good for. -/
theorem letterP_all {x : S72} {z : List Int} (hb : Bytes72 x) (h : letterP x = (z, 0)) : letterO z = some x ∧ Byte z ∧ z.length < 17592186044416 := by
  obtain ⟨hg, rfl⟩ := letterP_ok h
  exact ⟨letter_again (good72.1 hg), letterZ_byte hb, by have := joined_len (letter_join (good72.1 hg)) (by simp); omega⟩
theorem entryP_all {x : S87} {z : List Int} (hb : Byte x.f3) (h : entryP x = (z, 0)) : entryO z = some x ∧ Byte z ∧ z.length < 17592186044416 := by
  obtain ⟨hg, rfl⟩ := entryP_ok h
  exact ⟨entry_again hg, entryZ_byte hb, by have := joined_len (entry_join (good87 hg)) (by simp); omega⟩
theorem sameL_eq {x y : S72} (h : sameL x y = true) : x = y := by
  obtain ⟨⟨a, b⟩, c, d, e⟩ := x
  obtain ⟨⟨a', b'⟩, c', d', e'⟩ := y
  simp [sameL] at h
  obtain ⟨⟨⟨⟨rfl, rfl⟩, rfl⟩, rfl⟩, rfl⟩ := h
  rfl
theorem sameE_eq {x y : S87} (h : sameE x y = true) : x = y := by
  obtain ⟨a, b, c, d⟩ := x
  obtain ⟨a', b', c', d'⟩ := y
  simp [sameE] at h
  obtain ⟨⟨⟨rfl, rfl⟩, rfl⟩, rfl⟩ := h
  rfl
theorem same_letter {l k : S72} {z z2 : List Int} (hl : Bytes72 l) (hk : Bytes72 k) (h1 : letterP l = (z, 0)) (h2 : letterP k = (z2, 0)) : sameL l k = decide (z = z2) := by
  by_cases e : l = k
  · subst e
    rw [h1] at h2
    obtain ⟨rfl, _⟩ := Prod.mk.inj h2
    simp [sameL]
  · have n1 : sameL l k = false := Bool.eq_false_iff.2 (fun h => e (sameL_eq h))
    have n2 : ¬ z = z2 := fun h => e (by
      subst h
      have := (letterP_all hl h1).1
      rw [(letterP_all hk h2).1] at this
      exact (Option.some.inj this).symm)
    rw [n1, decide_eq_false n2]
theorem same_entry {x y : S87} {z z2 : List Int} (hx : Byte x.f3) (hy : Byte y.f3) (h1 : entryP x = (z, 0)) (h2 : entryP y = (z2, 0)) : sameE x y = decide (z = z2) := by
  by_cases e : x = y
  · subst e
    rw [h1] at h2
    obtain ⟨rfl, _⟩ := Prod.mk.inj h2
    simp [sameE]
  · have n1 : sameE x y = false := Bool.eq_false_iff.2 (fun h => e (sameE_eq h))
    have n2 : ¬ z = z2 := fun h => e (by
      subst h
      have := (entryP_all hx h1).1
      rw [(entryP_all hy h2).1] at this
      exact (Option.some.inj this).symm)
    rw [n1, decide_eq_false n2]
theorem sameLetter_is (x y : S72) (A2 A3 B2 B3 : Option Addr) (c2 c3 d2 d3 : Nat) (q : Bool) (w : World) (hA : LetR w x A2 c2 A3 c3) (hB : LetR w y B2 d2 B3 d3) (h : sameL x y = q) :
    Calls Try.prog 81 #[.agg #[.int .i64 x.f0.f0, .int .i64 x.f0.f1, .int .i64 x.f1, .slice A2 x.f2.length c2, .slice A3 x.f3.length c3], .agg #[.int .i64 y.f0.f0, .int .i64 y.f0.f1, .int .i64 y.f1, .slice B2 y.f2.length d2, .slice B3 y.f3.length d3]] w fun e w' => e = .returned (.bool q) ∧ Below w.heap.size w w' :=
  h ▸ sameLetter_calls x y A2 A3 B2 B3 c2 c3 d2 d3 w hA.r2 hA.l2 hA.r3 hB.r2 hB.l2 hB.r3
theorem sameEntry_is (x y : S87) (A B : Option Addr) (c d : Nat) (q : Bool) (w : World) (hA : Kd.C (Kd.int .u8) w A x.f3.length x.f3) (hc : x.f3.length ≤ c) (hB : Kd.C (Kd.int .u8) w B y.f3.length y.f3) (hd : y.f3.length ≤ d) (h : sameE x y = q) :
    Calls Try.prog 82 #[.agg #[.int .i64 x.f0, .int .i64 x.f1, .int .i64 x.f2, .slice A x.f3.length c], .agg #[.int .i64 y.f0, .int .i64 y.f1, .int .i64 y.f2, .slice B y.f3.length d]] w fun e w' => e = .returned (.bool q) ∧ Below w.heap.size w w' :=
  h ▸ sameEntry_calls x y A B c d w hA hc hB hd
/-- 10 cells of an elder world, and what was there is as it was. -/
def Bt10 (p0 p1 p2 p3 p4 p5 p6 p7 p8 p9 : Addr) (v0 v1 v2 v3 v4 v5 v6 v7 v8 v9 : Value) (w0 w' : World) : Prop := w'.cell? p0 = some v0 ∧ w'.cell? p1 = some v1 ∧ w'.cell? p2 = some v2 ∧ w'.cell? p3 = some v3 ∧ w'.cell? p4 = some v4 ∧ w'.cell? p5 = some v5 ∧ w'.cell? p6 = some v6 ∧ w'.cell? p7 = some v7 ∧ w'.cell? p8 = some v8 ∧ w'.cell? p9 = some v9 ∧ Below w0.heap.size w0 w'
theorem Bt10.of {p0 p1 p2 p3 p4 p5 p6 p7 p8 p9 : Addr} {v0 v1 v2 v3 v4 v5 v6 v7 v8 v9 : Value} {w0 w' : World} (h : Bt10 p0 p1 p2 p3 p4 p5 p6 p7 p8 p9 v0 v1 v2 v3 v4 v5 v6 v7 v8 v9 w0 w0) (hB : Below w0.heap.size w0 w') : Bt10 p0 p1 p2 p3 p4 p5 p6 p7 p8 p9 v0 v1 v2 v3 v4 v5 v6 v7 v8 v9 w0 w' :=
  ⟨cell_step h.1 hB, cell_step h.2.1 hB, cell_step h.2.2.1 hB, cell_step h.2.2.2.1 hB, cell_step h.2.2.2.2.1 hB, cell_step h.2.2.2.2.2.1 hB, cell_step h.2.2.2.2.2.2.1 hB, cell_step h.2.2.2.2.2.2.2.1 hB, cell_step h.2.2.2.2.2.2.2.2.1 hB, cell_step h.2.2.2.2.2.2.2.2.2.1 hB, hB⟩
/-- 8 cells of an elder world, and what was there is as it was. -/
def Bt8 (p0 p1 p2 p3 p4 p5 p6 p7 : Addr) (v0 v1 v2 v3 v4 v5 v6 v7 : Value) (w0 w' : World) : Prop := w'.cell? p0 = some v0 ∧ w'.cell? p1 = some v1 ∧ w'.cell? p2 = some v2 ∧ w'.cell? p3 = some v3 ∧ w'.cell? p4 = some v4 ∧ w'.cell? p5 = some v5 ∧ w'.cell? p6 = some v6 ∧ w'.cell? p7 = some v7 ∧ Below w0.heap.size w0 w'
theorem Bt8.of {p0 p1 p2 p3 p4 p5 p6 p7 : Addr} {v0 v1 v2 v3 v4 v5 v6 v7 : Value} {w0 w' : World} (h : Bt8 p0 p1 p2 p3 p4 p5 p6 p7 v0 v1 v2 v3 v4 v5 v6 v7 w0 w0) (hB : Below w0.heap.size w0 w') : Bt8 p0 p1 p2 p3 p4 p5 p6 p7 v0 v1 v2 v3 v4 v5 v6 v7 w0 w' :=
  ⟨cell_step h.1 hB, cell_step h.2.1 hB, cell_step h.2.2.1 hB, cell_step h.2.2.2.1 hB, cell_step h.2.2.2.2.1 hB, cell_step h.2.2.2.2.2.1 hB, cell_step h.2.2.2.2.2.2.1 hB, cell_step h.2.2.2.2.2.2.2.1 hB, hB⟩
def moL_T11 : Bool × List (List Nat × List Nat) := (true, [([], []), ([0], [0]), ([1], [1]), ([2], [2]), ([3, 2], [2, 3]), ([2, 4], [2, 4]), ([5, 2], [5]), ([6], [6]), ([6], [6]), ([7, 8, 6, 6], [6, 7, 8]), ([6], [6]), ([6], [6]), ([10, 11, 9, 6], [6, 10, 11]), ([9, 12, 6], [6, 9, 12]), ([6, 13], [6, 13])])
def moL_B11 : List Nat := [0, 1, 3, 7, 15, 31, 63, 127, 127, 511, 127, 127, 4095, 8191, 16383]
theorem moL_tab11 : rtab .any (opsOf Try.f23 11) = moL_T11 := by kernel_rfl
theorem moL_bits11 : waitsOk moL_T11.2 moL_B11 = true := by kernel_rfl
def moE_T19 : Bool × List (List Nat × List Nat) := (true, [([], []), ([0], [0]), ([1], [1]), ([2], [2]), ([3, 2], [2, 3]), ([2, 4], [2, 4]), ([5, 2], [5]), ([6], [6]), ([6], [6]), ([7, 8, 6, 6], [6, 7, 8]), ([6], [6]), ([6], [6]), ([10, 11, 9, 6], [6, 10, 11]), ([9, 12, 6], [6, 9, 12]), ([6, 13], [6, 13]), ([14, 12, 0, 1, 2, 3, 4, 5, 6, 7, 8, 9, 10, 11, 12, 13, 14], [14])])
def moE_B19 : List Nat := [0, 1, 3, 7, 15, 31, 63, 127, 127, 511, 127, 127, 4095, 8191, 16383, 32767]
theorem moE_tab19 : rtab .any (opsOf Try.f23 19) = moE_T19 := by kernel_rfl
theorem moE_bits19 : waitsOk moE_T19.2 moE_B19 = true := by kernel_rfl
set_option maxHeartbeats 32000000 in
set_option maxRecDepth 100000 in
theorem others_calls (l k : S72) (x y : S87) (A2 A3 B2 B3 C3 D3 : Option Addr) (a2 a3 b2 b3 c3 d3 : Nat) (w : World) (hL : LetR w l A2 a2 A3 a3) (hK : LetR w k B2 b2 B3 b3)
    (hE : Kd.C (Kd.int .u8) w C3 x.f3.length x.f3 ∧ x.f3.length ≤ c3 ∧ x.f3.length ≤ 140737488355328 ∧ Byte x.f3) (hG : Kd.C (Kd.int .u8) w D3 y.f3.length y.f3 ∧ y.f3.length ≤ d3 ∧ y.f3.length ≤ 140737488355328 ∧ Byte y.f3) (hFl : Fit72 l ∧ Bytes72 l) (hFk : Fit72 k ∧ Bytes72 k) :
    Calls Try.prog 23 #[.agg #[.int .i64 l.f0.f0, .int .i64 l.f0.f1, .int .i64 l.f1, .slice A2 l.f2.length a2, .slice A3 l.f3.length a3], .agg #[.int .i64 k.f0.f0, .int .i64 k.f0.f1, .int .i64 k.f1, .slice B2 k.f2.length b2, .slice B3 k.f3.length b3], .agg #[.int .i64 x.f0, .int .i64 x.f1, .int .i64 x.f2, .slice C3 x.f3.length c3], .agg #[.int .i64 y.f0, .int .i64 y.f1, .int .i64 y.f2, .slice D3 y.f3.length d3]] w fun e w' => e = .returned (.bool true) ∧ Below w.heap.size w w' := by
  have hu72 := Try.underlying72
  have hu87 := Try.underlying87
  have HL := Aside0.mk hL
  have HK := Aside0.mk hK
  have HE := Aside0.mk hE
  have HG := Aside0.mk hG
  have HFl := Aside0.mk hFl
  have HFk := Aside0.mk hFk
  have HX0 := Aside0.mk (Bx4.new w #[.int .i64 l.f0.f0, .int .i64 l.f0.f1, .int .i64 l.f1, .slice A2 l.f2.length a2, .slice A3 l.f3.length a3] #[.int .i64 k.f0.f0, .int .i64 k.f0.f1, .int .i64 k.f1, .slice B2 k.f2.length b2, .slice B3 k.f3.length b3] #[.int .i64 x.f0, .int .i64 x.f1, .int .i64 x.f2, .slice C3 x.f3.length c3] #[.int .i64 y.f0, .int .i64 y.f1, .int .i64 y.f2, .slice D3 y.f3.length d3])
  clear hL hK hE hG hFl hFk
  go_enter Try.func23, Try.ntmps23
  go_wp2_with (fail)
  generalize ((((w.alloc (.cells #[.int .i64 l.f0.f0, .int .i64 l.f0.f1, .int .i64 l.f1, .slice A2 l.f2.length a2, .slice A3 l.f3.length a3] 72)).alloc (.cells #[.int .i64 k.f0.f0, .int .i64 k.f0.f1, .int .i64 k.f1, .slice B2 k.f2.length b2, .slice B3 k.f3.length b3] 72)).alloc (.cells #[.int .i64 x.f0, .int .i64 x.f1, .int .i64 x.f2, .slice C3 x.f3.length c3] 87)).alloc (.cells #[.int .i64 y.f0, .int .i64 y.f1, .int .i64 y.f2, .slice D3 y.f3.length d3] 87)) = v0 at HX0 ⊢
  refine (alive_calls v0).mono ?_
  rintro e v1 ⟨rfl, hB⟩
  have HX1 := Aside0.mk (HX0.out.step hB)
  clear hB
  have l0 : v1.cell? ⟨w.heap.size, 0, none⟩ = some (.int .i64 l.f0.f0) := (blk_cell HX1.out.h0 0).trans rfl
  have l1 : v1.cell? ⟨w.heap.size, 1, none⟩ = some (.int .i64 l.f0.f1) := (blk_cell HX1.out.h0 1).trans rfl
  have l2 : v1.cell? ⟨w.heap.size, 2, none⟩ = some (.int .i64 l.f1) := (blk_cell HX1.out.h0 2).trans rfl
  have l3 : v1.cell? ⟨w.heap.size, 3, none⟩ = some (.slice A2 l.f2.length a2) := (blk_cell HX1.out.h0 3).trans rfl
  have l4 : v1.cell? ⟨w.heap.size, 4, none⟩ = some (.slice A3 l.f3.length a3) := (blk_cell HX1.out.h0 4).trans rfl
  go_wp2_with (fail)
  have hE := weight_calls l A2 a2 A3 a3 v1 (HL.out.below HX1.out.below).r3
  with_reducible refine hE.mono ?_
  clear hE
  rintro e v2 ⟨n, rfl, hB⟩
  have HX2 := Aside0.mk (HX1.out.step hB)
  clear hB l0 l1 l2 l3 l4
  by_cases hn : 50000 < n
  · have b0 : decide (50000 < n) = true := decide_eq_true hn
    go_wp2_with (fail)
    go_ret
    exact ⟨rfl, HX2.out.below⟩
  · have b0 : decide (50000 < n) = false := decide_eq_false hn
    clear hn
    have k0 : v2.cell? ⟨w.heap.size + 1, 0, none⟩ = some (.int .i64 k.f0.f0) := (blk_cell HX2.out.h1 0).trans rfl
    have k1 : v2.cell? ⟨w.heap.size + 1, 1, none⟩ = some (.int .i64 k.f0.f1) := (blk_cell HX2.out.h1 1).trans rfl
    have k2 : v2.cell? ⟨w.heap.size + 1, 2, none⟩ = some (.int .i64 k.f1) := (blk_cell HX2.out.h1 2).trans rfl
    have k3 : v2.cell? ⟨w.heap.size + 1, 3, none⟩ = some (.slice B2 k.f2.length b2) := (blk_cell HX2.out.h1 3).trans rfl
    have k4 : v2.cell? ⟨w.heap.size + 1, 4, none⟩ = some (.slice B3 k.f3.length b3) := (blk_cell HX2.out.h1 4).trans rfl
    go_wp2_with (fail)
    have hE := weight_calls k B2 b2 B3 b3 v2 (HK.out.below HX2.out.below).r3
    with_reducible refine hE.mono ?_
    clear hE
    rintro e v3 ⟨n2, rfl, hB⟩
    have HX3 := Aside0.mk (HX2.out.step hB)
    clear hB k0 k1 k2 k3 k4
    by_cases hn : 50000 < n2
    · have b1 : decide (50000 < n2) = true := decide_eq_true hn
      go_wp2_with (fail)
      go_ret
      exact ⟨rfl, HX3.out.below⟩
    · have b1 : decide (50000 < n2) = false := decide_eq_false hn
      clear hn
      have hx := HE.out.2.2.1
      have hy := HG.out.2.2.1
      have x3 : v3.cell? ⟨w.heap.size + 2, 3, none⟩ = some (.slice C3 x.f3.length c3) := (blk_cell HX3.out.h2 3).trans rfl
      have y3 : v3.cell? ⟨w.heap.size + 3, 3, none⟩ = some (.slice D3 y.f3.length d3) := (blk_cell HX3.out.h3 3).trans rfl
      by_cases hs : (5000 : Int) < (x.f3.length : Int) + (y.f3.length : Int)
      · have b2 : decide ((5000 : Int) < (x.f3.length : Int) + (y.f3.length : Int)) = true := decide_eq_true hs
        go_wp2_with (fail)
        go_ret
        exact ⟨rfl, HX3.out.below⟩
      · have b2 : decide ((5000 : Int) < (x.f3.length : Int) + (y.f3.length : Int)) = false := decide_eq_false hs
        clear hs
        have l0 : v3.cell? ⟨w.heap.size, 0, none⟩ = some (.int .i64 l.f0.f0) := (blk_cell HX3.out.h0 0).trans rfl
        have l1 : v3.cell? ⟨w.heap.size, 1, none⟩ = some (.int .i64 l.f0.f1) := (blk_cell HX3.out.h0 1).trans rfl
        have l2 : v3.cell? ⟨w.heap.size, 2, none⟩ = some (.int .i64 l.f1) := (blk_cell HX3.out.h0 2).trans rfl
        have l3 : v3.cell? ⟨w.heap.size, 3, none⟩ = some (.slice A2 l.f2.length a2) := (blk_cell HX3.out.h0 3).trans rfl
        have l4 : v3.cell? ⟨w.heap.size, 4, none⟩ = some (.slice A3 l.f3.length a3) := (blk_cell HX3.out.h0 4).trans rfl
        go_wp2_with (fail)
        clear b0 b1 b2 x3 y3 hx hy
        have hE := copyLetter_calls l A2 a2 A3 a3 v3 (HL.out.below HX3.out.below).r2 HL.out.l2 (HL.out.below HX3.out.below).r3 HL.out.l3 HFl.out.1
        with_reducible refine hE.mono ?_
        clear hE
        rintro e v4 ⟨hB, E2, e2, E3, e3, rfl, hM⟩
        have HX4 := Aside0.mk (HX3.out.step hB)
        clear l0 l1 l2 l3 l4
        have HM1 := Aside0.mk (LetR.of_M hM)
        clear hM hB
        go_wp2_with (fail)
        obtain ⟨z1, u1, hz1⟩ : ∃ z u, letterP l = (z, u) := ⟨_, _, rfl⟩
        have hE := pack71_calls l E2 e2 E3 e3 z1 u1 v4 HM1.out.r2 HM1.out.l2 HM1.out.r3 HM1.out.l3 hz1
        with_reducible refine hE.mono ?_
        clear hE
        rintro e v5 ⟨P1, p1, rfl, hp, hC, hB⟩
        have HX5 := Aside0.mk (HX4.out.step hB)
        have HZ1 := Aside0.mk hz1
        have HP1 := Aside0.mk hp
        have HC1_5 := Aside0.mk hC
        clear hz1 hp hC hB
        have k0 : v5.cell? ⟨w.heap.size + 1, 0, none⟩ = some (.int .i64 k.f0.f0) := (blk_cell HX5.out.h1 0).trans rfl
        have k1 : v5.cell? ⟨w.heap.size + 1, 1, none⟩ = some (.int .i64 k.f0.f1) := (blk_cell HX5.out.h1 1).trans rfl
        have k2 : v5.cell? ⟨w.heap.size + 1, 2, none⟩ = some (.int .i64 k.f1) := (blk_cell HX5.out.h1 2).trans rfl
        have k3 : v5.cell? ⟨w.heap.size + 1, 3, none⟩ = some (.slice B2 k.f2.length b2) := (blk_cell HX5.out.h1 3).trans rfl
        have k4 : v5.cell? ⟨w.heap.size + 1, 4, none⟩ = some (.slice B3 k.f3.length b3) := (blk_cell HX5.out.h1 4).trans rfl
        go_wp2_with (fail)
        have hE := copyLetter_calls k B2 b2 B3 b3 v5 (HK.out.below HX5.out.below).r2 HK.out.l2 (HK.out.below HX5.out.below).r3 HK.out.l3 HFk.out.1
        with_reducible refine hE.mono ?_
        clear hE
        rintro e v6 ⟨hB, F2, f2, F3, f3, rfl, hM⟩
        have HX6 := Aside0.mk (HX5.out.step hB)
        have HC1_6 := Aside0.mk (Kd.C_below HC1_5.out hB)
        clear k0 k1 k2 k3 k4
        have HM2 := Aside0.mk (LetR.of_M hM)
        clear hM hB
        go_wp2_with (fail)
        obtain ⟨z2, u2, hz2⟩ : ∃ z u, letterP k = (z, u) := ⟨_, _, rfl⟩
        have hE := pack71_calls k F2 f2 F3 f3 z2 u2 v6 HM2.out.r2 HM2.out.l2 HM2.out.r3 HM2.out.l3 hz2
        with_reducible refine hE.mono ?_
        clear hE
        rintro e v7 ⟨P2, p2, rfl, hp, hC, hB⟩
        have HX7 := Aside0.mk (HX6.out.step hB)
        have HC1_7 := Aside0.mk (Kd.C_below HC1_6.out hB)
        have HZ2 := Aside0.mk hz2
        have HP2 := Aside0.mk hp
        have HC2_7 := Aside0.mk hC
        clear hz2 hp hC hB
        by_cases hu1 : u1 = 0
        · subst hu1
          go_wp2_with (fail)
          have hE := read77_calls P1 p1 z1 (some l) v7 HC1_7.out HP1.out (letterP_all HFl.out.2 HZ1.out).2.1 (letterP_all HFl.out.2 HZ1.out).2.2 (letterP_all HFl.out.2 HZ1.out).1
          with_reducible refine hE.mono ?_
          clear hE
          rintro e v8 ⟨hB, R2, r2, R3, r3, rfl, hC2, hl2, hC3, hl3⟩
          have HX8 := Aside0.mk (HX7.out.step hB)
          have HC1_8 := Aside0.mk (Kd.C_below HC1_7.out hB)
          have HC2_8 := Aside0.mk (Kd.C_below HC2_7.out hB)
          have HRC := Aside0.mk (LetR.mk hC2 hl2 hC3 hl3)
          clear hB hC2 hl2 hC3 hl3
          have HN0 := Aside0.mk (blk_new v8 (.cells #[.int .i64 0, .int .i64 0, .int .i64 0, .slice none 0 0, .slice none 0 0] 72))
          have HK0 := Aside0.mk (below_alloc (Below.refl v8.heap.size v8) (.cells #[.int .i64 0, .int .i64 0, .int .i64 0, .slice none 0 0, .slice none 0 0] 72))
          go_upto_region 9 with (refine wpList_store_row rfl 72 (.tmp 13) (.tmp 56) rfl v8.heap.size #[.int .i64 l.f0.f0, .int .i64 l.f0.f1, .int .i64 l.f1, .slice R2 l.f2.length r2, .slice R3 l.f3.length r3] rfl rfl 72 _ HN0.out size72 rfl (by simp [Value.oneCell']) ?_; have HN1 := Aside0.mk (setRow_heap _ _ _ #[.int .i64 l.f0.f0, .int .i64 l.f0.f1, .int .i64 l.f1, .slice R2 l.f2.length r2, .slice R3 l.f3.length r3] _ _ HN0.out); have HK1 := Aside0.mk (below_setRow HK0.out (Nat.le_refl _) #[.int .i64 l.f0.f0, .int .i64 l.f0.f1, .int .i64 l.f1, .slice R2 l.f2.length r2, .slice R3 l.f3.length r3]))
          generalize (v8.alloc (.cells #[.int .i64 0, .int .i64 0, .int .i64 0, .slice none 0 0, .slice none 0 0] 72)).setRow v8.heap.size #[.int .i64 l.f0.f0, .int .i64 l.f0.f1, .int .i64 l.f1, .slice R2 l.f2.length r2, .slice R3 l.f3.length r3] = v9 at HN1 HK1 ⊢
          have HX9 := Aside0.mk (HX8.out.step HK1.out)
          have HC1_9 := Aside0.mk (Kd.C_below HC1_8.out HK1.out)
          have HC2_9 := Aside0.mk (Kd.C_below HC2_8.out HK1.out)
          have s0 : v9.cell? ⟨v8.heap.size, 0, none⟩ = some (.int .i64 l.f0.f0) := (blk_cell HN1.out 0).trans rfl
          have s1 : v9.cell? ⟨v8.heap.size, 1, none⟩ = some (.int .i64 l.f0.f1) := (blk_cell HN1.out 1).trans rfl
          have s2 : v9.cell? ⟨v8.heap.size, 2, none⟩ = some (.int .i64 l.f1) := (blk_cell HN1.out 2).trans rfl
          have s3 : v9.cell? ⟨v8.heap.size, 3, none⟩ = some (.slice R2 l.f2.length r2) := (blk_cell HN1.out 3).trans rfl
          have s4 : v9.cell? ⟨v8.heap.size, 4, none⟩ = some (.slice R3 l.f3.length r3) := (blk_cell HN1.out 4).trans rfl
          have l0 : v9.cell? ⟨w.heap.size, 0, none⟩ = some (.int .i64 l.f0.f0) := (blk_cell HX9.out.h0 0).trans rfl
          have l1 : v9.cell? ⟨w.heap.size, 1, none⟩ = some (.int .i64 l.f0.f1) := (blk_cell HX9.out.h0 1).trans rfl
          have l2 : v9.cell? ⟨w.heap.size, 2, none⟩ = some (.int .i64 l.f1) := (blk_cell HX9.out.h0 2).trans rfl
          have l3 : v9.cell? ⟨w.heap.size, 3, none⟩ = some (.slice A2 l.f2.length a2) := (blk_cell HX9.out.h0 3).trans rfl
          have l4 : v9.cell? ⟨w.heap.size, 4, none⟩ = some (.slice A3 l.f3.length a3) := (blk_cell HX9.out.h0 4).trans rfl
          go_wp2_with (fail)
          have hE := sameLetter_is l l R2 R3 A2 A3 r2 r3 a2 a3 true v9 (HRC.out.below HK1.out) (HL.out.below HX9.out.below) (by simp [sameL])
          with_reducible refine hE.mono ?_
          clear hE
          rintro e v10 ⟨rfl, hB⟩
          have HX10 := Aside0.mk (HX9.out.step hB)
          have HC1_10 := Aside0.mk (Kd.C_below HC1_9.out hB)
          have HC2_10 := Aside0.mk (Kd.C_below HC2_9.out hB)
          clear hB s0 s1 s2 s3 s4 l0 l1 l2 l3 l4
          by_cases hu2 : u2 = 0
          · subst hu2
            obtain ⟨q, hq⟩ : ∃ q, decide (z1 = z2) = q := ⟨_, rfl⟩
            have HQ10 := Aside0.mk hq
            have HS := Aside0.mk ((same_letter HFl.out.2 HFk.out.2 HZ1.out HZ2.out).trans hq)
            clear hq
            go_upto_region 11 with (fail)
            have H10 := Aside0.mk (show Bt10 ⟨w.heap.size, 0, none⟩ ⟨w.heap.size, 1, none⟩ ⟨w.heap.size, 2, none⟩ ⟨w.heap.size, 3, none⟩ ⟨w.heap.size, 4, none⟩ ⟨w.heap.size + 1, 0, none⟩ ⟨w.heap.size + 1, 1, none⟩ ⟨w.heap.size + 1, 2, none⟩ ⟨w.heap.size + 1, 3, none⟩ ⟨w.heap.size + 1, 4, none⟩ (.int .i64 l.f0.f0) (.int .i64 l.f0.f1) (.int .i64 l.f1) (.slice A2 l.f2.length a2) (.slice A3 l.f3.length a3) (.int .i64 k.f0.f0) (.int .i64 k.f0.f1) (.int .i64 k.f1) (.slice B2 k.f2.length b2) (.slice B3 k.f3.length b3) v10 v10 from ⟨(blk_cell HX10.out.h0 0).trans rfl, (blk_cell HX10.out.h0 1).trans rfl, (blk_cell HX10.out.h0 2).trans rfl, (blk_cell HX10.out.h0 3).trans rfl, (blk_cell HX10.out.h0 4).trans rfl, (blk_cell HX10.out.h1 0).trans rfl, (blk_cell HX10.out.h1 1).trans rfl, (blk_cell HX10.out.h1 2).trans rfl, (blk_cell HX10.out.h1 3).trans rfl, (blk_cell HX10.out.h1 4).trans rfl, Below.refl _ _⟩)
            refine start_ (n := 15) (S := Bt10 ⟨w.heap.size, 0, none⟩ ⟨w.heap.size, 1, none⟩ ⟨w.heap.size, 2, none⟩ ⟨w.heap.size, 3, none⟩ ⟨w.heap.size, 4, none⟩ ⟨w.heap.size + 1, 0, none⟩ ⟨w.heap.size + 1, 1, none⟩ ⟨w.heap.size + 1, 2, none⟩ ⟨w.heap.size + 1, 3, none⟩ ⟨w.heap.size + 1, 4, none⟩ (.int .i64 l.f0.f0) (.int .i64 l.f0.f1) (.int .i64 l.f1) (.slice A2 l.f2.length a2) (.slice A3 l.f3.length a3) (.int .i64 k.f0.f0) (.int .i64 k.f0.f1) (.int .i64 k.f1) (.slice B2 k.f2.length b2) (.slice B3 k.f3.length b3) v10) (ds := []) #[false, false, false, false, false, false, false, false, false, false, false, false, false, false, false] (by kernel_rfl) rfl rfl (H10.out.of (below_drew1 (Below.refl _ _))) (fun hHeld => ?_)
            generalize v10.drew = v11 at hHeld ⊢
            refine with_tabW moL_tab11 moL_bits11 (fun HT_ HW_ => ?_)
            refine pure_ (i := 0) (N := some 66) (v := ?_) (a' := ?_) #[true, false, false, false, false, false, false, false, false, false, false, false, false, false, false] rfl rfl (any_of HT_.out (by kernel_rfl)) (fun _ _ _ h => h) (Or.inl ⟨by rfl, ?_⟩) ?_ ?_
            rotate_left
            · intro w'
              go_simp
              with_reducible rfl
            rotate_left
            · simp only [Act.put, List.setIfInBounds_toArray, List.set_cons_zero, List.set_cons_succ, i64_w, i32_w]
              rfl
            refine pure_ (i := 1) (N := some 67) (v := ?_) (a' := ?_) #[true, true, false, false, false, false, false, false, false, false, false, false, false, false, false] rfl rfl (any_of HT_.out (by kernel_rfl)) (fun _ _ _ h => h) (Or.inl ⟨by rfl, ?_⟩) ?_ ?_
            rotate_left
            · intro w'
              go_simp
              with_reducible rfl
            rotate_left
            · simp only [Act.put, List.setIfInBounds_toArray, List.set_cons_zero, List.set_cons_succ, i64_w, i32_w]
              rfl
            refine pure_ (i := 2) (N := some 68) (v := ?_) (a' := ?_) #[true, true, true, false, false, false, false, false, false, false, false, false, false, false, false] rfl rfl (any_of HT_.out (by kernel_rfl)) (fun _ _ _ h => h) (Or.inl ⟨by rfl, ?_⟩) ?_ ?_
            rotate_left
            · intro w'
              go_simp
              with_reducible rfl
            rotate_left
            · simp only [Act.put, List.setIfInBounds_toArray, List.set_cons_zero, List.set_cons_succ, i64_w, i32_w]
              rfl
            refine pure_ (i := 3) (N := some 69) (v := ?_) (a' := ?_) #[true, true, true, true, false, false, false, false, false, false, false, false, false, false, false] rfl rfl (any_of HT_.out (by kernel_rfl)) (fun _ _ _ h => h) (Or.inl ⟨by rfl, ?_⟩) ?_ ?_
            rotate_left
            · intro w'
              go_simp
              with_reducible rfl
            rotate_left
            · simp only [Act.put, List.setIfInBounds_toArray, List.set_cons_zero, List.set_cons_succ, i64_w, i32_w]
              rfl
            refine pure_ (i := 4) (N := some 70) (v := ?_) (a' := ?_) #[true, true, true, true, true, false, false, false, false, false, false, false, false, false, false] rfl rfl (any_of HT_.out (by kernel_rfl)) (fun _ _ _ h => h) (Or.inl ⟨by rfl, ?_⟩) ?_ ?_
            rotate_left
            · intro w'
              go_simp
              with_reducible rfl
            rotate_left
            · simp only [Act.put, List.setIfInBounds_toArray, List.set_cons_zero, List.set_cons_succ, i64_w, i32_w]
              rfl
            refine pure_ (i := 5) (N := some 71) (v := ?_) (a' := ?_) #[true, true, true, true, true, true, false, false, false, false, false, false, false, false, false] rfl rfl (any_of HT_.out (by kernel_rfl)) (fun _ _ _ h => h) (Or.inl ⟨by rfl, ?_⟩) ?_ ?_
            rotate_left
            · intro w'
              go_simp
              with_reducible rfl
            rotate_left
            · simp only [Act.put, List.setIfInBounds_toArray, List.set_cons_zero, List.set_cons_succ, i64_w, i32_w]
              rfl
            refine pure_ (i := 6) (N := some 72) (v := ?_) (a' := ?_) #[true, true, true, true, true, true, true, false, false, false, false, false, false, false, false] rfl rfl (any_of HT_.out (by kernel_rfl)) (fun _ _ _ h => h) (Or.inl ⟨by rfl, ?_⟩) ?_ ?_
            rotate_left
            · intro w'
              go_simp
              with_reducible rfl
            rotate_left
            · simp only [Act.put, List.setIfInBounds_toArray, List.set_cons_zero, List.set_cons_succ, i64_w, i32_w]
              rfl
            refine pure_ (i := 7) (N := some 73) (v := ?_) (a' := ?_) #[true, true, true, true, true, true, true, true, false, false, false, false, false, false, false] rfl rfl (any_of HT_.out (by kernel_rfl)) (fun _ _ _ h => h) (Or.inl ⟨by rfl, ?_⟩) ?_ ?_
            rotate_left
            · intro w'
              go_simp
              with_reducible rfl
            rotate_left
            · simp only [Act.put, List.setIfInBounds_toArray, List.set_cons_zero, List.set_cons_succ, i64_w, i32_w]
              rfl
            refine pure_ (i := 8) (N := some 74) (v := ?_) (a' := ?_) #[true, true, true, true, true, true, true, true, true, false, false, false, false, false, false] rfl rfl (any_of HT_.out (by kernel_rfl)) (fun _ _ _ h => h) (Or.inl ⟨by rfl, ?_⟩) ?_ ?_
            rotate_left
            · intro w'
              go_simp
              with_reducible rfl
            rotate_left
            · simp only [Act.put, List.setIfInBounds_toArray, List.set_cons_zero, List.set_cons_succ, i64_w, i32_w]
              rfl
            refine take_ (i := 10) (N := some 76) (v := ?_) (a' := ?_) #[true, true, true, true, true, true, true, true, true, false, true, false, false, false, false] rfl rfl (take_ofW HT_.out HW_.out (by kernel_rfl)) (fun _ _ _ h => h) (Or.inl ⟨by rfl, ?_⟩) hHeld ?_ ?_
            rotate_left
            · rintro w' ⟨s0, s1, s2, s3, s4, s5, s6, s7, s8, s9, s10⟩
              go_simp
              with_reducible rfl
            rotate_left
            · simp only [Act.put, List.setIfInBounds_toArray, List.set_cons_zero, List.set_cons_succ, i64_w, i32_w]
              rfl
            refine take_ (i := 11) (N := some 77) (v := ?_) (a' := ?_) #[true, true, true, true, true, true, true, true, true, false, true, true, false, false, false] rfl rfl (take_ofW HT_.out HW_.out (by kernel_rfl)) (fun _ _ _ h => h) (Or.inl ⟨by rfl, ?_⟩) hHeld ?_ ?_
            rotate_left
            · rintro w' ⟨s0, s1, s2, s3, s4, s5, s6, s7, s8, s9, s10⟩
              go_simp
              with_reducible rfl
            rotate_left
            · simp only [Act.put, List.setIfInBounds_toArray, List.set_cons_zero, List.set_cons_succ, i64_w, i32_w]
              rfl
            refine one_ (i := 9) (N := some 75) #[true, true, true, true, true, true, true, true, true, true, true, true, false, false, false] rfl rfl (one_of HT_.out (by kernel_rfl)) (by decide) (fun K hK => ?_)
            refine goes_ Try.func27 (by kernel_rfl) rfl #[.slice P1 z1.length p1, .slice P2 z2.length p2] (by rfl) rfl rfl (by (try simp only [List.map_toArray, List.map_cons, List.map_nil]); first | done | rfl) ?_
            refine (sameBytes_is P1 p1 z1 P2 p2 z2 q _ (Kd.C_below HC1_10.out hHeld.2.2.2.2.2.2.2.2.2.2) HP1.out (Kd.C_below HC2_10.out hHeld.2.2.2.2.2.2.2.2.2.2) HP2.out HQ10.out).mono ?_
            rintro e s4 ⟨rfl, hD⟩
            refine ⟨_, rfl, ?_⟩
            have HB4 := Aside0.mk (below_then hHeld.2.2.2.2.2.2.2.2.2.2 hHeld.2.2.2.2.2.2.2.2.2.2.size hD.below)
            refine hK.out _ _ (H10.out.of HB4.out) (fun hHeld => ?_)
            clear hK K hD
            refine norm_ (a' := ?_) ?_ ?_
            rotate_left
            · show Act.put _ (some 75) _ = _
              simp only [Act.put, List.setIfInBounds_toArray, List.set_cons_zero, List.set_cons_succ, i64_w, i32_w]
              rfl
            refine one_ (i := 12) (N := some 78) #[true, true, true, true, true, true, true, true, true, true, true, true, true, false, false] rfl rfl (one_of HT_.out (by kernel_rfl)) (by decide) (fun K hK => ?_)
            refine goes_ Try.func81 (by kernel_rfl) rfl #[.agg #[.int .i64 l.f0.f0, .int .i64 l.f0.f1, .int .i64 l.f1, .slice A2 l.f2.length a2, .slice A3 l.f3.length a3], .agg #[.int .i64 k.f0.f0, .int .i64 k.f0.f1, .int .i64 k.f1, .slice B2 k.f2.length b2, .slice B3 k.f3.length b3]] (by rfl) rfl rfl (by (try simp only [List.map_toArray, List.map_cons, List.map_nil]); first | done | rfl) ?_
            refine (sameLetter_is l k A2 A3 B2 B3 a2 a3 b2 b3 q _ ((HL.out.below HX10.out.below).below hHeld.2.2.2.2.2.2.2.2.2.2) ((HK.out.below HX10.out.below).below hHeld.2.2.2.2.2.2.2.2.2.2) HS.out).mono ?_
            rintro e s5 ⟨rfl, hB⟩
            refine ⟨_, rfl, ?_⟩
            have HB5 := Aside0.mk (below_then hHeld.2.2.2.2.2.2.2.2.2.2 hHeld.2.2.2.2.2.2.2.2.2.2.size hB)
            refine hK.out _ _ (H10.out.of HB5.out) (fun hHeld => ?_)
            clear hK K hB
            refine norm_ (a' := ?_) ?_ ?_
            rotate_left
            · show Act.put _ (some 78) _ = _
              simp only [Act.put, List.setIfInBounds_toArray, List.set_cons_zero, List.set_cons_succ, i64_w, i32_w]
              rfl
            refine pure_ (i := 13) (N := some 79) (v := ?_) (a' := ?_) #[true, true, true, true, true, true, true, true, true, true, true, true, true, true, false] rfl rfl (any_of HT_.out (by kernel_rfl)) (fun _ _ _ h => h) (Or.inl ⟨by rfl, ?_⟩) ?_ ?_
            rotate_left
            · intro w'
              go_simp
              with_reducible rfl
            rotate_left
            · simp only [Act.put, List.setIfInBounds_toArray, List.set_cons_zero, List.set_cons_succ, i64_w, i32_w]
              rfl
            refine pure_ (i := 14) (N := some 80) (v := ?_) (a' := ?_) #[true, true, true, true, true, true, true, true, true, true, true, true, true, true, true] rfl rfl (any_of HT_.out (by kernel_rfl)) (fun _ _ _ h => h) (Or.inl ⟨by rfl, ?_⟩) ?_ ?_
            rotate_left
            · intro w'
              go_simp
              with_reducible rfl
            rotate_left
            · simp only [Act.put, List.setIfInBounds_toArray, List.set_cons_zero, List.set_cons_succ, i64_w, i32_w]
              rfl
            refine done_ (done_of HT_.out (by kernel_rfl)) ?_
            have HX20 := Aside0.mk (HX10.out.step hHeld.2.2.2.2.2.2.2.2.2.2)
            clear hHeld
            clear HS HQ10
            have x0 : s5.cell? ⟨w.heap.size + 2, 0, none⟩ = some (.int .i64 x.f0) := (blk_cell HX20.out.h2 0).trans rfl
            have x1 : s5.cell? ⟨w.heap.size + 2, 1, none⟩ = some (.int .i64 x.f1) := (blk_cell HX20.out.h2 1).trans rfl
            have x2 : s5.cell? ⟨w.heap.size + 2, 2, none⟩ = some (.int .i64 x.f2) := (blk_cell HX20.out.h2 2).trans rfl
            have x3 : s5.cell? ⟨w.heap.size + 2, 3, none⟩ = some (.slice C3 x.f3.length c3) := (blk_cell HX20.out.h2 3).trans rfl
            go_wp2_with (fail)
            have hE := copyEntry_calls x C3 c3 s5 (Kd.C_below HE.out.1 HX20.out.below) HE.out.2.1 HE.out.2.2.1
            with_reducible refine hE.mono ?_
            clear hE
            rintro e v30 ⟨hB, G1, g1, rfl, hR⟩
            have HX30 := Aside0.mk (HX20.out.step hB)
            clear x0 x1 x2 x3
            have HR1 := Aside0.mk hR
            clear hR hB
            go_wp2_with (fail)
            obtain ⟨z3, u3, hz3⟩ : ∃ z u, entryP x = (z, u) := ⟨_, _, rfl⟩
            have hE := pack74_calls x G1 g1 z3 u3 v30 (Kd.R_reads' HR1.out).2.2 (Kd.R_reads' HR1.out).2.1 hz3
            with_reducible refine hE.mono ?_
            clear hE
            rintro e v31 ⟨P3, p3, rfl, hp, hC, hB⟩
            have HX31 := Aside0.mk (HX30.out.step hB)
            have HZ3 := Aside0.mk hz3
            have HP3 := Aside0.mk hp
            have HC3_31 := Aside0.mk hC
            clear hz3 hp hC hB
            have y0 : v31.cell? ⟨w.heap.size + 3, 0, none⟩ = some (.int .i64 y.f0) := (blk_cell HX31.out.h3 0).trans rfl
            have y1 : v31.cell? ⟨w.heap.size + 3, 1, none⟩ = some (.int .i64 y.f1) := (blk_cell HX31.out.h3 1).trans rfl
            have y2 : v31.cell? ⟨w.heap.size + 3, 2, none⟩ = some (.int .i64 y.f2) := (blk_cell HX31.out.h3 2).trans rfl
            have y3 : v31.cell? ⟨w.heap.size + 3, 3, none⟩ = some (.slice D3 y.f3.length d3) := (blk_cell HX31.out.h3 3).trans rfl
            go_wp2_with (fail)
            have hE := copyEntry_calls y D3 d3 v31 (Kd.C_below HG.out.1 HX31.out.below) HG.out.2.1 HG.out.2.2.1
            with_reducible refine hE.mono ?_
            clear hE
            rintro e v32 ⟨hB, G2, g2, rfl, hR⟩
            have HX32 := Aside0.mk (HX31.out.step hB)
            have HC3_32 := Aside0.mk (Kd.C_below HC3_31.out hB)
            clear y0 y1 y2 y3
            have HR2 := Aside0.mk hR
            clear hR hB
            go_wp2_with (fail)
            obtain ⟨z4, u4, hz4⟩ : ∃ z u, entryP y = (z, u) := ⟨_, _, rfl⟩
            have hE := pack74_calls y G2 g2 z4 u4 v32 (Kd.R_reads' HR2.out).2.2 (Kd.R_reads' HR2.out).2.1 hz4
            with_reducible refine hE.mono ?_
            clear hE
            rintro e v33 ⟨P4, p4, rfl, hp, hC, hB⟩
            have HX33 := Aside0.mk (HX32.out.step hB)
            have HC3_33 := Aside0.mk (Kd.C_below HC3_32.out hB)
            have HZ4 := Aside0.mk hz4
            have HP4 := Aside0.mk hp
            have HC4_33 := Aside0.mk hC
            clear hz4 hp hC hB
            by_cases hu3 : u3 = 0
            · subst hu3
              go_wp2_with (fail)
              have hE := read79_calls P3 p3 z3 (some x) v33 HC3_33.out HP3.out (entryP_all HE.out.2.2.2 HZ3.out).2.1 (entryP_all HE.out.2.2.2 HZ3.out).2.2 (entryP_all HE.out.2.2.2 HZ3.out).1
              with_reducible refine hE.mono ?_
              clear hE
              rintro e v34 ⟨hB, R3, r3, rfl, hC, hl⟩
              have HX34 := Aside0.mk (HX33.out.step hB)
              have HC3_34 := Aside0.mk (Kd.C_below HC3_33.out hB)
              have HC4_34 := Aside0.mk (Kd.C_below HC4_33.out hB)
              have HRC := Aside0.mk hC
              have HRl := Aside0.mk hl
              clear hB hC hl
              have HN0 := Aside0.mk (blk_new v34 (.cells #[.int .i64 0, .int .i64 0, .int .i64 0, .slice none 0 0] 87))
              have HK0 := Aside0.mk (below_alloc (Below.refl v34.heap.size v34) (.cells #[.int .i64 0, .int .i64 0, .int .i64 0, .slice none 0 0] 87))
              go_upto_region 17 with (refine wpList_store_row rfl 87 (.tmp 17) (.tmp 98) rfl v34.heap.size #[.int .i64 x.f0, .int .i64 x.f1, .int .i64 x.f2, .slice R3 x.f3.length r3] rfl rfl 87 _ HN0.out size87 rfl (by simp [Value.oneCell']) ?_; have HN1 := Aside0.mk (setRow_heap _ _ _ #[.int .i64 x.f0, .int .i64 x.f1, .int .i64 x.f2, .slice R3 x.f3.length r3] _ _ HN0.out); have HK1 := Aside0.mk (below_setRow HK0.out (Nat.le_refl _) #[.int .i64 x.f0, .int .i64 x.f1, .int .i64 x.f2, .slice R3 x.f3.length r3]))
              generalize (v34.alloc (.cells #[.int .i64 0, .int .i64 0, .int .i64 0, .slice none 0 0] 87)).setRow v34.heap.size #[.int .i64 x.f0, .int .i64 x.f1, .int .i64 x.f2, .slice R3 x.f3.length r3] = v35 at HN1 HK1 ⊢
              have HX35 := Aside0.mk (HX34.out.step HK1.out)
              have HC3_35 := Aside0.mk (Kd.C_below HC3_34.out HK1.out)
              have HC4_35 := Aside0.mk (Kd.C_below HC4_34.out HK1.out)
              have HRC_35 := Aside0.mk (Kd.C_below HRC.out HK1.out)
              have t0 : v35.cell? ⟨v34.heap.size, 0, none⟩ = some (.int .i64 x.f0) := (blk_cell HN1.out 0).trans rfl
              have t1 : v35.cell? ⟨v34.heap.size, 1, none⟩ = some (.int .i64 x.f1) := (blk_cell HN1.out 1).trans rfl
              have t2 : v35.cell? ⟨v34.heap.size, 2, none⟩ = some (.int .i64 x.f2) := (blk_cell HN1.out 2).trans rfl
              have t3 : v35.cell? ⟨v34.heap.size, 3, none⟩ = some (.slice R3 x.f3.length r3) := (blk_cell HN1.out 3).trans rfl
              have x0 : v35.cell? ⟨w.heap.size + 2, 0, none⟩ = some (.int .i64 x.f0) := (blk_cell HX35.out.h2 0).trans rfl
              have x1 : v35.cell? ⟨w.heap.size + 2, 1, none⟩ = some (.int .i64 x.f1) := (blk_cell HX35.out.h2 1).trans rfl
              have x2 : v35.cell? ⟨w.heap.size + 2, 2, none⟩ = some (.int .i64 x.f2) := (blk_cell HX35.out.h2 2).trans rfl
              have x3 : v35.cell? ⟨w.heap.size + 2, 3, none⟩ = some (.slice C3 x.f3.length c3) := (blk_cell HX35.out.h2 3).trans rfl
              go_wp2_with (fail)
              have hE := sameEntry_is x x R3 C3 r3 c3 true v35 HRC_35.out HRl.out (Kd.C_below HE.out.1 HX35.out.below) HE.out.2.1 (by simp [sameE])
              with_reducible refine hE.mono ?_
              clear hE
              rintro e v36 ⟨rfl, hB⟩
              have HX36 := Aside0.mk (HX35.out.step hB)
              have HC3_36 := Aside0.mk (Kd.C_below HC3_35.out hB)
              have HC4_36 := Aside0.mk (Kd.C_below HC4_35.out hB)
              clear hB t0 t1 t2 t3 x0 x1 x2 x3
              by_cases hu4 : u4 = 0
              · subst hu4
                obtain ⟨q, hq⟩ : ∃ q, decide (z3 = z4) = q := ⟨_, rfl⟩
                have HQ8 := Aside0.mk hq
                have HS := Aside0.mk ((same_entry HE.out.2.2.2 HG.out.2.2.2 HZ3.out HZ4.out).trans hq)
                clear hq
                go_upto_region 19 with (fail)
                have H8 := Aside0.mk (show Bt8 ⟨w.heap.size + 2, 0, none⟩ ⟨w.heap.size + 2, 1, none⟩ ⟨w.heap.size + 2, 2, none⟩ ⟨w.heap.size + 2, 3, none⟩ ⟨w.heap.size + 3, 0, none⟩ ⟨w.heap.size + 3, 1, none⟩ ⟨w.heap.size + 3, 2, none⟩ ⟨w.heap.size + 3, 3, none⟩ (.int .i64 x.f0) (.int .i64 x.f1) (.int .i64 x.f2) (.slice C3 x.f3.length c3) (.int .i64 y.f0) (.int .i64 y.f1) (.int .i64 y.f2) (.slice D3 y.f3.length d3) v36 v36 from ⟨(blk_cell HX36.out.h2 0).trans rfl, (blk_cell HX36.out.h2 1).trans rfl, (blk_cell HX36.out.h2 2).trans rfl, (blk_cell HX36.out.h2 3).trans rfl, (blk_cell HX36.out.h3 0).trans rfl, (blk_cell HX36.out.h3 1).trans rfl, (blk_cell HX36.out.h3 2).trans rfl, (blk_cell HX36.out.h3 3).trans rfl, Below.refl _ _⟩)
                refine start_ (n := 16) (S := Bt8 ⟨w.heap.size + 2, 0, none⟩ ⟨w.heap.size + 2, 1, none⟩ ⟨w.heap.size + 2, 2, none⟩ ⟨w.heap.size + 2, 3, none⟩ ⟨w.heap.size + 3, 0, none⟩ ⟨w.heap.size + 3, 1, none⟩ ⟨w.heap.size + 3, 2, none⟩ ⟨w.heap.size + 3, 3, none⟩ (.int .i64 x.f0) (.int .i64 x.f1) (.int .i64 x.f2) (.slice C3 x.f3.length c3) (.int .i64 y.f0) (.int .i64 y.f1) (.int .i64 y.f2) (.slice D3 y.f3.length d3) v36) (ds := []) #[false, false, false, false, false, false, false, false, false, false, false, false, false, false, false, false] (by kernel_rfl) rfl rfl (H8.out.of (below_drew1 (Below.refl _ _))) (fun hHeld => ?_)
                generalize v36.drew = v37 at hHeld ⊢
                refine with_tabW moE_tab19 moE_bits19 (fun HT_ HW_ => ?_)
                refine pure_ (i := 0) (N := some 108) (v := ?_) (a' := ?_) #[true, false, false, false, false, false, false, false, false, false, false, false, false, false, false, false] rfl rfl (any_of HT_.out (by kernel_rfl)) (fun _ _ _ h => h) (Or.inl ⟨by rfl, ?_⟩) ?_ ?_
                rotate_left
                · intro w'
                  go_simp
                  with_reducible rfl
                rotate_left
                · simp only [Act.put, List.setIfInBounds_toArray, List.set_cons_zero, List.set_cons_succ, i64_w, i32_w]
                  rfl
                refine pure_ (i := 1) (N := some 109) (v := ?_) (a' := ?_) #[true, true, false, false, false, false, false, false, false, false, false, false, false, false, false, false] rfl rfl (any_of HT_.out (by kernel_rfl)) (fun _ _ _ h => h) (Or.inl ⟨by rfl, ?_⟩) ?_ ?_
                rotate_left
                · intro w'
                  go_simp
                  with_reducible rfl
                rotate_left
                · simp only [Act.put, List.setIfInBounds_toArray, List.set_cons_zero, List.set_cons_succ, i64_w, i32_w]
                  rfl
                refine pure_ (i := 2) (N := some 110) (v := ?_) (a' := ?_) #[true, true, true, false, false, false, false, false, false, false, false, false, false, false, false, false] rfl rfl (any_of HT_.out (by kernel_rfl)) (fun _ _ _ h => h) (Or.inl ⟨by rfl, ?_⟩) ?_ ?_
                rotate_left
                · intro w'
                  go_simp
                  with_reducible rfl
                rotate_left
                · simp only [Act.put, List.setIfInBounds_toArray, List.set_cons_zero, List.set_cons_succ, i64_w, i32_w]
                  rfl
                refine pure_ (i := 3) (N := some 111) (v := ?_) (a' := ?_) #[true, true, true, true, false, false, false, false, false, false, false, false, false, false, false, false] rfl rfl (any_of HT_.out (by kernel_rfl)) (fun _ _ _ h => h) (Or.inl ⟨by rfl, ?_⟩) ?_ ?_
                rotate_left
                · intro w'
                  go_simp
                  with_reducible rfl
                rotate_left
                · simp only [Act.put, List.setIfInBounds_toArray, List.set_cons_zero, List.set_cons_succ, i64_w, i32_w]
                  rfl
                refine pure_ (i := 4) (N := some 112) (v := ?_) (a' := ?_) #[true, true, true, true, true, false, false, false, false, false, false, false, false, false, false, false] rfl rfl (any_of HT_.out (by kernel_rfl)) (fun _ _ _ h => h) (Or.inl ⟨by rfl, ?_⟩) ?_ ?_
                rotate_left
                · intro w'
                  go_simp
                  with_reducible rfl
                rotate_left
                · simp only [Act.put, List.setIfInBounds_toArray, List.set_cons_zero, List.set_cons_succ, i64_w, i32_w]
                  rfl
                refine pure_ (i := 5) (N := some 113) (v := ?_) (a' := ?_) #[true, true, true, true, true, true, false, false, false, false, false, false, false, false, false, false] rfl rfl (any_of HT_.out (by kernel_rfl)) (fun _ _ _ h => h) (Or.inl ⟨by rfl, ?_⟩) ?_ ?_
                rotate_left
                · intro w'
                  go_simp
                  with_reducible rfl
                rotate_left
                · simp only [Act.put, List.setIfInBounds_toArray, List.set_cons_zero, List.set_cons_succ, i64_w, i32_w]
                  rfl
                refine pure_ (i := 6) (N := some 114) (v := ?_) (a' := ?_) #[true, true, true, true, true, true, true, false, false, false, false, false, false, false, false, false] rfl rfl (any_of HT_.out (by kernel_rfl)) (fun _ _ _ h => h) (Or.inl ⟨by rfl, ?_⟩) ?_ ?_
                rotate_left
                · intro w'
                  go_simp
                  with_reducible rfl
                rotate_left
                · simp only [Act.put, List.setIfInBounds_toArray, List.set_cons_zero, List.set_cons_succ, i64_w, i32_w]
                  rfl
                refine pure_ (i := 7) (N := some 115) (v := ?_) (a' := ?_) #[true, true, true, true, true, true, true, true, false, false, false, false, false, false, false, false] rfl rfl (any_of HT_.out (by kernel_rfl)) (fun _ _ _ h => h) (Or.inl ⟨by rfl, ?_⟩) ?_ ?_
                rotate_left
                · intro w'
                  go_simp
                  with_reducible rfl
                rotate_left
                · simp only [Act.put, List.setIfInBounds_toArray, List.set_cons_zero, List.set_cons_succ, i64_w, i32_w]
                  rfl
                refine pure_ (i := 8) (N := some 116) (v := ?_) (a' := ?_) #[true, true, true, true, true, true, true, true, true, false, false, false, false, false, false, false] rfl rfl (any_of HT_.out (by kernel_rfl)) (fun _ _ _ h => h) (Or.inl ⟨by rfl, ?_⟩) ?_ ?_
                rotate_left
                · intro w'
                  go_simp
                  with_reducible rfl
                rotate_left
                · simp only [Act.put, List.setIfInBounds_toArray, List.set_cons_zero, List.set_cons_succ, i64_w, i32_w]
                  rfl
                refine take_ (i := 10) (N := some 118) (v := ?_) (a' := ?_) #[true, true, true, true, true, true, true, true, true, false, true, false, false, false, false, false] rfl rfl (take_ofW HT_.out HW_.out (by kernel_rfl)) (fun _ _ _ h => h) (Or.inl ⟨by rfl, ?_⟩) hHeld ?_ ?_
                rotate_left
                · rintro w' ⟨s0, s1, s2, s3, s4, s5, s6, s7, s8⟩
                  go_simp
                  with_reducible rfl
                rotate_left
                · simp only [Act.put, List.setIfInBounds_toArray, List.set_cons_zero, List.set_cons_succ, i64_w, i32_w]
                  rfl
                refine take_ (i := 11) (N := some 119) (v := ?_) (a' := ?_) #[true, true, true, true, true, true, true, true, true, false, true, true, false, false, false, false] rfl rfl (take_ofW HT_.out HW_.out (by kernel_rfl)) (fun _ _ _ h => h) (Or.inl ⟨by rfl, ?_⟩) hHeld ?_ ?_
                rotate_left
                · rintro w' ⟨s0, s1, s2, s3, s4, s5, s6, s7, s8⟩
                  go_simp
                  with_reducible rfl
                rotate_left
                · simp only [Act.put, List.setIfInBounds_toArray, List.set_cons_zero, List.set_cons_succ, i64_w, i32_w]
                  rfl
                refine one_ (i := 9) (N := some 117) #[true, true, true, true, true, true, true, true, true, true, true, true, false, false, false, false] rfl rfl (one_of HT_.out (by kernel_rfl)) (by decide) (fun K hK => ?_)
                refine goes_ Try.func27 (by kernel_rfl) rfl #[.slice P3 z3.length p3, .slice P4 z4.length p4] (by rfl) rfl rfl (by (try simp only [List.map_toArray, List.map_cons, List.map_nil]); first | done | rfl) ?_
                refine (sameBytes_is P3 p3 z3 P4 p4 z4 q _ (Kd.C_below HC3_36.out hHeld.2.2.2.2.2.2.2.2) HP3.out (Kd.C_below HC4_36.out hHeld.2.2.2.2.2.2.2.2) HP4.out HQ8.out).mono ?_
                rintro e s4 ⟨rfl, hD⟩
                refine ⟨_, rfl, ?_⟩
                have HB4 := Aside0.mk (below_then hHeld.2.2.2.2.2.2.2.2 hHeld.2.2.2.2.2.2.2.2.size hD.below)
                refine hK.out _ _ (H8.out.of HB4.out) (fun hHeld => ?_)
                clear hK K hD
                refine norm_ (a' := ?_) ?_ ?_
                rotate_left
                · show Act.put _ (some 117) _ = _
                  simp only [Act.put, List.setIfInBounds_toArray, List.set_cons_zero, List.set_cons_succ, i64_w, i32_w]
                  rfl
                refine one_ (i := 12) (N := some 120) #[true, true, true, true, true, true, true, true, true, true, true, true, true, false, false, false] rfl rfl (one_of HT_.out (by kernel_rfl)) (by decide) (fun K hK => ?_)
                refine goes_ Try.func82 (by kernel_rfl) rfl #[.agg #[.int .i64 x.f0, .int .i64 x.f1, .int .i64 x.f2, .slice C3 x.f3.length c3], .agg #[.int .i64 y.f0, .int .i64 y.f1, .int .i64 y.f2, .slice D3 y.f3.length d3]] (by rfl) rfl rfl (by (try simp only [List.map_toArray, List.map_cons, List.map_nil]); first | done | rfl) ?_
                refine (sameEntry_is x y C3 D3 c3 d3 q _ (Kd.C_below (Kd.C_below HE.out.1 HX36.out.below) hHeld.2.2.2.2.2.2.2.2) HE.out.2.1 (Kd.C_below (Kd.C_below HG.out.1 HX36.out.below) hHeld.2.2.2.2.2.2.2.2) HG.out.2.1 HS.out).mono ?_
                rintro e s5 ⟨rfl, hB⟩
                refine ⟨_, rfl, ?_⟩
                have HB5 := Aside0.mk (below_then hHeld.2.2.2.2.2.2.2.2 hHeld.2.2.2.2.2.2.2.2.size hB)
                refine hK.out _ _ (H8.out.of HB5.out) (fun hHeld => ?_)
                clear hK K hB
                refine norm_ (a' := ?_) ?_ ?_
                rotate_left
                · show Act.put _ (some 120) _ = _
                  simp only [Act.put, List.setIfInBounds_toArray, List.set_cons_zero, List.set_cons_succ, i64_w, i32_w]
                  rfl
                refine pure_ (i := 13) (N := some 121) (v := ?_) (a' := ?_) #[true, true, true, true, true, true, true, true, true, true, true, true, true, true, false, false] rfl rfl (any_of HT_.out (by kernel_rfl)) (fun _ _ _ h => h) (Or.inl ⟨by rfl, ?_⟩) ?_ ?_
                rotate_left
                · intro w'
                  go_simp
                  with_reducible rfl
                rotate_left
                · simp only [Act.put, List.setIfInBounds_toArray, List.set_cons_zero, List.set_cons_succ, i64_w, i32_w]
                  rfl
                refine pure_ (i := 14) (N := some 122) (v := ?_) (a' := ?_) #[true, true, true, true, true, true, true, true, true, true, true, true, true, true, true, false] rfl rfl (any_of HT_.out (by kernel_rfl)) (fun _ _ _ h => h) (Or.inl ⟨by rfl, ?_⟩) ?_ ?_
                rotate_left
                · intro w'
                  go_simp
                  with_reducible rfl
                rotate_left
                · simp only [Act.put, List.setIfInBounds_toArray, List.set_cons_zero, List.set_cons_succ, i64_w, i32_w]
                  rfl
                refine pure_ (i := 15) (N := some 8) (v := ?_) (a' := ?_) #[true, true, true, true, true, true, true, true, true, true, true, true, true, true, true, true] rfl rfl (any_of HT_.out (by kernel_rfl)) (fun _ _ _ h => h) (Or.inl ⟨by rfl, ?_⟩) ?_ ?_
                rotate_left
                · intro w'
                  go_simp
                  with_reducible rfl
                rotate_left
                · simp only [Act.put, List.setIfInBounds_toArray, List.set_cons_zero, List.set_cons_succ, i64_w, i32_w]
                  rfl
                refine done_ (done_of HT_.out (by kernel_rfl)) ?_
                have HF := Aside0.mk (HX36.out.step hHeld.2.2.2.2.2.2.2.2)
                clear hHeld
                go_wp2_with (fail)
                go_ret
                exact ⟨rfl, HF.out.below⟩
              · have hb0 : (u4 == 0) = false := beq_eq_false_iff_ne.mpr hu4
                have hb1 : (u4 != 0) = true := bne_iff_ne.mpr hu4
                clear hu4
                go_upto_region 19 with (fail)
                have H8 := Aside0.mk (show Bt8 ⟨w.heap.size + 2, 0, none⟩ ⟨w.heap.size + 2, 1, none⟩ ⟨w.heap.size + 2, 2, none⟩ ⟨w.heap.size + 2, 3, none⟩ ⟨w.heap.size + 3, 0, none⟩ ⟨w.heap.size + 3, 1, none⟩ ⟨w.heap.size + 3, 2, none⟩ ⟨w.heap.size + 3, 3, none⟩ (.int .i64 x.f0) (.int .i64 x.f1) (.int .i64 x.f2) (.slice C3 x.f3.length c3) (.int .i64 y.f0) (.int .i64 y.f1) (.int .i64 y.f2) (.slice D3 y.f3.length d3) v36 v36 from ⟨(blk_cell HX36.out.h2 0).trans rfl, (blk_cell HX36.out.h2 1).trans rfl, (blk_cell HX36.out.h2 2).trans rfl, (blk_cell HX36.out.h2 3).trans rfl, (blk_cell HX36.out.h3 0).trans rfl, (blk_cell HX36.out.h3 1).trans rfl, (blk_cell HX36.out.h3 2).trans rfl, (blk_cell HX36.out.h3 3).trans rfl, Below.refl _ _⟩)
                refine start_ (n := 16) (S := Bt8 ⟨w.heap.size + 2, 0, none⟩ ⟨w.heap.size + 2, 1, none⟩ ⟨w.heap.size + 2, 2, none⟩ ⟨w.heap.size + 2, 3, none⟩ ⟨w.heap.size + 3, 0, none⟩ ⟨w.heap.size + 3, 1, none⟩ ⟨w.heap.size + 3, 2, none⟩ ⟨w.heap.size + 3, 3, none⟩ (.int .i64 x.f0) (.int .i64 x.f1) (.int .i64 x.f2) (.slice C3 x.f3.length c3) (.int .i64 y.f0) (.int .i64 y.f1) (.int .i64 y.f2) (.slice D3 y.f3.length d3) v36) (ds := []) #[false, false, false, false, false, false, false, false, false, false, false, false, false, false, false, false] (by kernel_rfl) rfl rfl (H8.out.of (below_drew1 (Below.refl _ _))) (fun hHeld => ?_)
                generalize v36.drew = v37 at hHeld ⊢
                refine with_tabW moE_tab19 moE_bits19 (fun HT_ HW_ => ?_)
                refine pure_ (i := 0) (N := some 108) (v := ?_) (a' := ?_) #[true, false, false, false, false, false, false, false, false, false, false, false, false, false, false, false] rfl rfl (any_of HT_.out (by kernel_rfl)) (fun _ _ _ h => h) (Or.inl ⟨by rfl, ?_⟩) ?_ ?_
                rotate_left
                · intro w'
                  go_simp
                  with_reducible rfl
                rotate_left
                · simp only [Act.put, List.setIfInBounds_toArray, List.set_cons_zero, List.set_cons_succ, i64_w, i32_w]
                  rfl
                refine pure_ (i := 1) (N := some 109) (v := ?_) (a' := ?_) #[true, true, false, false, false, false, false, false, false, false, false, false, false, false, false, false] rfl rfl (any_of HT_.out (by kernel_rfl)) (fun _ _ _ h => h) (Or.inl ⟨by rfl, ?_⟩) ?_ ?_
                rotate_left
                · intro w'
                  go_simp
                  with_reducible rfl
                rotate_left
                · simp only [Act.put, List.setIfInBounds_toArray, List.set_cons_zero, List.set_cons_succ, i64_w, i32_w]
                  rfl
                refine pure_ (i := 2) (N := some 110) (v := ?_) (a' := ?_) #[true, true, true, false, false, false, false, false, false, false, false, false, false, false, false, false] rfl rfl (any_of HT_.out (by kernel_rfl)) (fun _ _ _ h => h) (Or.inl ⟨by rfl, ?_⟩) ?_ ?_
                rotate_left
                · intro w'
                  go_simp
                  with_reducible rfl
                rotate_left
                · simp only [Act.put, List.setIfInBounds_toArray, List.set_cons_zero, List.set_cons_succ, i64_w, i32_w]
                  rfl
                refine pure_ (i := 3) (N := some 111) (v := ?_) (a' := ?_) #[true, true, true, true, false, false, false, false, false, false, false, false, false, false, false, false] rfl rfl (any_of HT_.out (by kernel_rfl)) (fun _ _ _ h => h) (Or.inl ⟨by rfl, ?_⟩) ?_ ?_
                rotate_left
                · intro w'
                  go_simp
                  with_reducible rfl
                rotate_left
                · simp only [Act.put, List.setIfInBounds_toArray, List.set_cons_zero, List.set_cons_succ, i64_w, i32_w]
                  rfl
                refine pure_ (i := 4) (N := some 112) (v := ?_) (a' := ?_) #[true, true, true, true, true, false, false, false, false, false, false, false, false, false, false, false] rfl rfl (any_of HT_.out (by kernel_rfl)) (fun _ _ _ h => h) (Or.inl ⟨by rfl, ?_⟩) ?_ ?_
                rotate_left
                · intro w'
                  go_simp
                  with_reducible rfl
                rotate_left
                · simp only [Act.put, List.setIfInBounds_toArray, List.set_cons_zero, List.set_cons_succ, i64_w, i32_w]
                  rfl
                refine pure_ (i := 5) (N := some 113) (v := ?_) (a' := ?_) #[true, true, true, true, true, true, false, false, false, false, false, false, false, false, false, false] rfl rfl (any_of HT_.out (by kernel_rfl)) (fun _ _ _ h => h) (Or.inl ⟨by rfl, ?_⟩) ?_ ?_
                rotate_left
                · intro w'
                  go_simp
                  with_reducible rfl
                rotate_left
                · simp only [Act.put, List.setIfInBounds_toArray, List.set_cons_zero, List.set_cons_succ, i64_w, i32_w]
                  rfl
                refine pure_ (i := 6) (N := some 114) (v := ?_) (a' := ?_) #[true, true, true, true, true, true, true, false, false, false, false, false, false, false, false, false] rfl rfl (any_of HT_.out (by kernel_rfl)) (fun _ _ _ h => h) (Or.inl ⟨by rfl, ?_⟩) ?_ ?_
                rotate_left
                · intro w'
                  go_simp
                  with_reducible rfl
                rotate_left
                · simp only [Act.put, List.setIfInBounds_toArray, List.set_cons_zero, List.set_cons_succ, i64_w, i32_w]
                  rfl
                refine pure_ (i := 7) (N := some 115) (v := undef) (a' := ?_) #[true, true, true, true, true, true, true, true, false, false, false, false, false, false, false, false] rfl rfl (any_of HT_.out (by kernel_rfl)) (fun _ _ _ h => h) (Or.inr ⟨by rfl, rfl⟩) ?_ ?_
                rotate_left
                · simp only [Act.put, List.setIfInBounds_toArray, List.set_cons_zero, List.set_cons_succ, i64_w, i32_w]
                  rfl
                refine pure_ (i := 8) (N := some 116) (v := undef) (a' := ?_) #[true, true, true, true, true, true, true, true, true, false, false, false, false, false, false, false] rfl rfl (any_of HT_.out (by kernel_rfl)) (fun _ _ _ h => h) (Or.inr ⟨by rfl, rfl⟩) ?_ ?_
                rotate_left
                · simp only [Act.put, List.setIfInBounds_toArray, List.set_cons_zero, List.set_cons_succ, i64_w, i32_w]
                  rfl
                refine pure_ (i := 9) (N := some 117) (v := undef) (a' := ?_) #[true, true, true, true, true, true, true, true, true, true, false, false, false, false, false, false] rfl rfl (any_of HT_.out (by kernel_rfl)) (fun _ _ _ h => h) (Or.inr ⟨by rfl, rfl⟩) ?_ ?_
                rotate_left
                · simp only [Act.put, List.setIfInBounds_toArray, List.set_cons_zero, List.set_cons_succ, i64_w, i32_w]
                  rfl
                refine pure_ (i := 10) (N := some 118) (v := undef) (a' := ?_) #[true, true, true, true, true, true, true, true, true, true, true, false, false, false, false, false] rfl rfl (any_of HT_.out (by kernel_rfl)) (fun _ _ _ h => h) (Or.inr ⟨by rfl, rfl⟩) ?_ ?_
                rotate_left
                · simp only [Act.put, List.setIfInBounds_toArray, List.set_cons_zero, List.set_cons_succ, i64_w, i32_w]
                  rfl
                refine pure_ (i := 11) (N := some 119) (v := undef) (a' := ?_) #[true, true, true, true, true, true, true, true, true, true, true, true, false, false, false, false] rfl rfl (any_of HT_.out (by kernel_rfl)) (fun _ _ _ h => h) (Or.inr ⟨by rfl, rfl⟩) ?_ ?_
                rotate_left
                · simp only [Act.put, List.setIfInBounds_toArray, List.set_cons_zero, List.set_cons_succ, i64_w, i32_w]
                  rfl
                refine pure_ (i := 12) (N := some 120) (v := undef) (a' := ?_) #[true, true, true, true, true, true, true, true, true, true, true, true, true, false, false, false] rfl rfl (any_of HT_.out (by kernel_rfl)) (fun _ _ _ h => h) (Or.inr ⟨by rfl, rfl⟩) ?_ ?_
                rotate_left
                · simp only [Act.put, List.setIfInBounds_toArray, List.set_cons_zero, List.set_cons_succ, i64_w, i32_w]
                  rfl
                refine pure_ (i := 13) (N := some 121) (v := undef) (a' := ?_) #[true, true, true, true, true, true, true, true, true, true, true, true, true, true, false, false] rfl rfl (any_of HT_.out (by kernel_rfl)) (fun _ _ _ h => h) (Or.inr ⟨by rfl, rfl⟩) ?_ ?_
                rotate_left
                · simp only [Act.put, List.setIfInBounds_toArray, List.set_cons_zero, List.set_cons_succ, i64_w, i32_w]
                  rfl
                refine pure_ (i := 14) (N := some 122) (v := ?_) (a' := ?_) #[true, true, true, true, true, true, true, true, true, true, true, true, true, true, true, false] rfl rfl (any_of HT_.out (by kernel_rfl)) (fun _ _ _ h => h) (Or.inl ⟨by rfl, ?_⟩) ?_ ?_
                rotate_left
                · intro w'
                  go_simp
                  with_reducible rfl
                rotate_left
                · simp only [Act.put, List.setIfInBounds_toArray, List.set_cons_zero, List.set_cons_succ, i64_w, i32_w]
                  rfl
                refine pure_ (i := 15) (N := some 8) (v := ?_) (a' := ?_) #[true, true, true, true, true, true, true, true, true, true, true, true, true, true, true, true] rfl rfl (any_of HT_.out (by kernel_rfl)) (fun _ _ _ h => h) (Or.inl ⟨by rfl, ?_⟩) ?_ ?_
                rotate_left
                · intro w'
                  go_simp
                  with_reducible rfl
                rotate_left
                · simp only [Act.put, List.setIfInBounds_toArray, List.set_cons_zero, List.set_cons_succ, i64_w, i32_w]
                  rfl
                refine done_ (done_of HT_.out (by kernel_rfl)) ?_
                have HF := Aside0.mk (HX36.out.step hHeld.2.2.2.2.2.2.2.2)
                clear hHeld
                go_wp2_with (fail)
                go_ret
                exact ⟨rfl, HF.out.below⟩
            · have ha0 : (u3 == 0) = false := beq_eq_false_iff_ne.mpr hu3
              have ha1 : (u3 != 0) = true := bne_iff_ne.mpr hu3
              clear hu3
              go_upto_region 19 with (fail)
              have H8 := Aside0.mk (show Bt8 ⟨w.heap.size + 2, 0, none⟩ ⟨w.heap.size + 2, 1, none⟩ ⟨w.heap.size + 2, 2, none⟩ ⟨w.heap.size + 2, 3, none⟩ ⟨w.heap.size + 3, 0, none⟩ ⟨w.heap.size + 3, 1, none⟩ ⟨w.heap.size + 3, 2, none⟩ ⟨w.heap.size + 3, 3, none⟩ (.int .i64 x.f0) (.int .i64 x.f1) (.int .i64 x.f2) (.slice C3 x.f3.length c3) (.int .i64 y.f0) (.int .i64 y.f1) (.int .i64 y.f2) (.slice D3 y.f3.length d3) v33 v33 from ⟨(blk_cell HX33.out.h2 0).trans rfl, (blk_cell HX33.out.h2 1).trans rfl, (blk_cell HX33.out.h2 2).trans rfl, (blk_cell HX33.out.h2 3).trans rfl, (blk_cell HX33.out.h3 0).trans rfl, (blk_cell HX33.out.h3 1).trans rfl, (blk_cell HX33.out.h3 2).trans rfl, (blk_cell HX33.out.h3 3).trans rfl, Below.refl _ _⟩)
              refine start_ (n := 16) (S := Bt8 ⟨w.heap.size + 2, 0, none⟩ ⟨w.heap.size + 2, 1, none⟩ ⟨w.heap.size + 2, 2, none⟩ ⟨w.heap.size + 2, 3, none⟩ ⟨w.heap.size + 3, 0, none⟩ ⟨w.heap.size + 3, 1, none⟩ ⟨w.heap.size + 3, 2, none⟩ ⟨w.heap.size + 3, 3, none⟩ (.int .i64 x.f0) (.int .i64 x.f1) (.int .i64 x.f2) (.slice C3 x.f3.length c3) (.int .i64 y.f0) (.int .i64 y.f1) (.int .i64 y.f2) (.slice D3 y.f3.length d3) v33) (ds := []) #[false, false, false, false, false, false, false, false, false, false, false, false, false, false, false, false] (by kernel_rfl) rfl rfl (H8.out.of (below_drew1 (Below.refl _ _))) (fun hHeld => ?_)
              generalize v33.drew = v37 at hHeld ⊢
              refine with_tabW moE_tab19 moE_bits19 (fun HT_ HW_ => ?_)
              refine pure_ (i := 0) (N := some 108) (v := ?_) (a' := ?_) #[true, false, false, false, false, false, false, false, false, false, false, false, false, false, false, false] rfl rfl (any_of HT_.out (by kernel_rfl)) (fun _ _ _ h => h) (Or.inl ⟨by rfl, ?_⟩) ?_ ?_
              rotate_left
              · intro w'
                go_simp
                with_reducible rfl
              rotate_left
              · simp only [Act.put, List.setIfInBounds_toArray, List.set_cons_zero, List.set_cons_succ, i64_w, i32_w]
                rfl
              refine pure_ (i := 1) (N := some 109) (v := ?_) (a' := ?_) #[true, true, false, false, false, false, false, false, false, false, false, false, false, false, false, false] rfl rfl (any_of HT_.out (by kernel_rfl)) (fun _ _ _ h => h) (Or.inl ⟨by rfl, ?_⟩) ?_ ?_
              rotate_left
              · intro w'
                go_simp
                with_reducible rfl
              rotate_left
              · simp only [Act.put, List.setIfInBounds_toArray, List.set_cons_zero, List.set_cons_succ, i64_w, i32_w]
                rfl
              refine pure_ (i := 2) (N := some 110) (v := ?_) (a' := ?_) #[true, true, true, false, false, false, false, false, false, false, false, false, false, false, false, false] rfl rfl (any_of HT_.out (by kernel_rfl)) (fun _ _ _ h => h) (Or.inl ⟨by rfl, ?_⟩) ?_ ?_
              rotate_left
              · intro w'
                go_simp
                with_reducible rfl
              rotate_left
              · simp only [Act.put, List.setIfInBounds_toArray, List.set_cons_zero, List.set_cons_succ, i64_w, i32_w]
                rfl
              refine pure_ (i := 3) (N := some 111) (v := undef) (a' := ?_) #[true, true, true, true, false, false, false, false, false, false, false, false, false, false, false, false] rfl rfl (any_of HT_.out (by kernel_rfl)) (fun _ _ _ h => h) (Or.inr ⟨by rfl, rfl⟩) ?_ ?_
              rotate_left
              · simp only [Act.put, List.setIfInBounds_toArray, List.set_cons_zero, List.set_cons_succ, i64_w, i32_w]
                rfl
              refine pure_ (i := 4) (N := some 112) (v := undef) (a' := ?_) #[true, true, true, true, true, false, false, false, false, false, false, false, false, false, false, false] rfl rfl (any_of HT_.out (by kernel_rfl)) (fun _ _ _ h => h) (Or.inr ⟨by rfl, rfl⟩) ?_ ?_
              rotate_left
              · simp only [Act.put, List.setIfInBounds_toArray, List.set_cons_zero, List.set_cons_succ, i64_w, i32_w]
                rfl
              refine pure_ (i := 5) (N := some 113) (v := ?_) (a' := ?_) #[true, true, true, true, true, true, false, false, false, false, false, false, false, false, false, false] rfl rfl (any_of HT_.out (by kernel_rfl)) (fun _ _ _ h => h) (Or.inl ⟨by rfl, ?_⟩) ?_ ?_
              rotate_left
              · intro w'
                go_simp
                with_reducible rfl
              rotate_left
              · simp only [Act.put, List.setIfInBounds_toArray, List.set_cons_zero, List.set_cons_succ, i64_w, i32_w]
                rfl
              refine pure_ (i := 6) (N := some 114) (v := ?_) (a' := ?_) #[true, true, true, true, true, true, true, false, false, false, false, false, false, false, false, false] rfl rfl (any_of HT_.out (by kernel_rfl)) (fun _ _ _ h => h) (Or.inl ⟨by rfl, ?_⟩) ?_ ?_
              rotate_left
              · intro w'
                go_simp
                with_reducible rfl
              rotate_left
              · simp only [Act.put, List.setIfInBounds_toArray, List.set_cons_zero, List.set_cons_succ, i64_w, i32_w]
                rfl
              refine pure_ (i := 7) (N := some 115) (v := undef) (a' := ?_) #[true, true, true, true, true, true, true, true, false, false, false, false, false, false, false, false] rfl rfl (any_of HT_.out (by kernel_rfl)) (fun _ _ _ h => h) (Or.inr ⟨by rfl, rfl⟩) ?_ ?_
              rotate_left
              · simp only [Act.put, List.setIfInBounds_toArray, List.set_cons_zero, List.set_cons_succ, i64_w, i32_w]
                rfl
              refine pure_ (i := 8) (N := some 116) (v := undef) (a' := ?_) #[true, true, true, true, true, true, true, true, true, false, false, false, false, false, false, false] rfl rfl (any_of HT_.out (by kernel_rfl)) (fun _ _ _ h => h) (Or.inr ⟨by rfl, rfl⟩) ?_ ?_
              rotate_left
              · simp only [Act.put, List.setIfInBounds_toArray, List.set_cons_zero, List.set_cons_succ, i64_w, i32_w]
                rfl
              refine pure_ (i := 9) (N := some 117) (v := undef) (a' := ?_) #[true, true, true, true, true, true, true, true, true, true, false, false, false, false, false, false] rfl rfl (any_of HT_.out (by kernel_rfl)) (fun _ _ _ h => h) (Or.inr ⟨by rfl, rfl⟩) ?_ ?_
              rotate_left
              · simp only [Act.put, List.setIfInBounds_toArray, List.set_cons_zero, List.set_cons_succ, i64_w, i32_w]
                rfl
              refine pure_ (i := 10) (N := some 118) (v := undef) (a' := ?_) #[true, true, true, true, true, true, true, true, true, true, true, false, false, false, false, false] rfl rfl (any_of HT_.out (by kernel_rfl)) (fun _ _ _ h => h) (Or.inr ⟨by rfl, rfl⟩) ?_ ?_
              rotate_left
              · simp only [Act.put, List.setIfInBounds_toArray, List.set_cons_zero, List.set_cons_succ, i64_w, i32_w]
                rfl
              refine pure_ (i := 11) (N := some 119) (v := undef) (a' := ?_) #[true, true, true, true, true, true, true, true, true, true, true, true, false, false, false, false] rfl rfl (any_of HT_.out (by kernel_rfl)) (fun _ _ _ h => h) (Or.inr ⟨by rfl, rfl⟩) ?_ ?_
              rotate_left
              · simp only [Act.put, List.setIfInBounds_toArray, List.set_cons_zero, List.set_cons_succ, i64_w, i32_w]
                rfl
              refine pure_ (i := 12) (N := some 120) (v := undef) (a' := ?_) #[true, true, true, true, true, true, true, true, true, true, true, true, true, false, false, false] rfl rfl (any_of HT_.out (by kernel_rfl)) (fun _ _ _ h => h) (Or.inr ⟨by rfl, rfl⟩) ?_ ?_
              rotate_left
              · simp only [Act.put, List.setIfInBounds_toArray, List.set_cons_zero, List.set_cons_succ, i64_w, i32_w]
                rfl
              refine pure_ (i := 13) (N := some 121) (v := undef) (a' := ?_) #[true, true, true, true, true, true, true, true, true, true, true, true, true, true, false, false] rfl rfl (any_of HT_.out (by kernel_rfl)) (fun _ _ _ h => h) (Or.inr ⟨by rfl, rfl⟩) ?_ ?_
              rotate_left
              · simp only [Act.put, List.setIfInBounds_toArray, List.set_cons_zero, List.set_cons_succ, i64_w, i32_w]
                rfl
              refine pure_ (i := 14) (N := some 122) (v := ?_) (a' := ?_) #[true, true, true, true, true, true, true, true, true, true, true, true, true, true, true, false] rfl rfl (any_of HT_.out (by kernel_rfl)) (fun _ _ _ h => h) (Or.inl ⟨by rfl, ?_⟩) ?_ ?_
              rotate_left
              · intro w'
                go_simp
                with_reducible rfl
              rotate_left
              · simp only [Act.put, List.setIfInBounds_toArray, List.set_cons_zero, List.set_cons_succ, i64_w, i32_w]
                rfl
              refine pure_ (i := 15) (N := some 8) (v := ?_) (a' := ?_) #[true, true, true, true, true, true, true, true, true, true, true, true, true, true, true, true] rfl rfl (any_of HT_.out (by kernel_rfl)) (fun _ _ _ h => h) (Or.inl ⟨by rfl, ?_⟩) ?_ ?_
              rotate_left
              · intro w'
                go_simp
                with_reducible rfl
              rotate_left
              · simp only [Act.put, List.setIfInBounds_toArray, List.set_cons_zero, List.set_cons_succ, i64_w, i32_w]
                rfl
              refine done_ (done_of HT_.out (by kernel_rfl)) ?_
              have HF := Aside0.mk (HX33.out.step hHeld.2.2.2.2.2.2.2.2)
              clear hHeld
              go_wp2_with (fail)
              go_ret
              exact ⟨rfl, HF.out.below⟩
          · have hb0 : (u2 == 0) = false := beq_eq_false_iff_ne.mpr hu2
            clear hu2
            go_upto_region 11 with (fail)
            have H10 := Aside0.mk (show Bt10 ⟨w.heap.size, 0, none⟩ ⟨w.heap.size, 1, none⟩ ⟨w.heap.size, 2, none⟩ ⟨w.heap.size, 3, none⟩ ⟨w.heap.size, 4, none⟩ ⟨w.heap.size + 1, 0, none⟩ ⟨w.heap.size + 1, 1, none⟩ ⟨w.heap.size + 1, 2, none⟩ ⟨w.heap.size + 1, 3, none⟩ ⟨w.heap.size + 1, 4, none⟩ (.int .i64 l.f0.f0) (.int .i64 l.f0.f1) (.int .i64 l.f1) (.slice A2 l.f2.length a2) (.slice A3 l.f3.length a3) (.int .i64 k.f0.f0) (.int .i64 k.f0.f1) (.int .i64 k.f1) (.slice B2 k.f2.length b2) (.slice B3 k.f3.length b3) v10 v10 from ⟨(blk_cell HX10.out.h0 0).trans rfl, (blk_cell HX10.out.h0 1).trans rfl, (blk_cell HX10.out.h0 2).trans rfl, (blk_cell HX10.out.h0 3).trans rfl, (blk_cell HX10.out.h0 4).trans rfl, (blk_cell HX10.out.h1 0).trans rfl, (blk_cell HX10.out.h1 1).trans rfl, (blk_cell HX10.out.h1 2).trans rfl, (blk_cell HX10.out.h1 3).trans rfl, (blk_cell HX10.out.h1 4).trans rfl, Below.refl _ _⟩)
            refine start_ (n := 15) (S := Bt10 ⟨w.heap.size, 0, none⟩ ⟨w.heap.size, 1, none⟩ ⟨w.heap.size, 2, none⟩ ⟨w.heap.size, 3, none⟩ ⟨w.heap.size, 4, none⟩ ⟨w.heap.size + 1, 0, none⟩ ⟨w.heap.size + 1, 1, none⟩ ⟨w.heap.size + 1, 2, none⟩ ⟨w.heap.size + 1, 3, none⟩ ⟨w.heap.size + 1, 4, none⟩ (.int .i64 l.f0.f0) (.int .i64 l.f0.f1) (.int .i64 l.f1) (.slice A2 l.f2.length a2) (.slice A3 l.f3.length a3) (.int .i64 k.f0.f0) (.int .i64 k.f0.f1) (.int .i64 k.f1) (.slice B2 k.f2.length b2) (.slice B3 k.f3.length b3) v10) (ds := []) #[false, false, false, false, false, false, false, false, false, false, false, false, false, false, false] (by kernel_rfl) rfl rfl (H10.out.of (below_drew1 (Below.refl _ _))) (fun hHeld => ?_)
            generalize v10.drew = v11 at hHeld ⊢
            refine with_tabW moL_tab11 moL_bits11 (fun HT_ HW_ => ?_)
            refine pure_ (i := 0) (N := some 66) (v := ?_) (a' := ?_) #[true, false, false, false, false, false, false, false, false, false, false, false, false, false, false] rfl rfl (any_of HT_.out (by kernel_rfl)) (fun _ _ _ h => h) (Or.inl ⟨by rfl, ?_⟩) ?_ ?_
            rotate_left
            · intro w'
              go_simp
              with_reducible rfl
            rotate_left
            · simp only [Act.put, List.setIfInBounds_toArray, List.set_cons_zero, List.set_cons_succ, i64_w, i32_w]
              rfl
            refine pure_ (i := 1) (N := some 67) (v := ?_) (a' := ?_) #[true, true, false, false, false, false, false, false, false, false, false, false, false, false, false] rfl rfl (any_of HT_.out (by kernel_rfl)) (fun _ _ _ h => h) (Or.inl ⟨by rfl, ?_⟩) ?_ ?_
            rotate_left
            · intro w'
              go_simp
              with_reducible rfl
            rotate_left
            · simp only [Act.put, List.setIfInBounds_toArray, List.set_cons_zero, List.set_cons_succ, i64_w, i32_w]
              rfl
            refine pure_ (i := 2) (N := some 68) (v := ?_) (a' := ?_) #[true, true, true, false, false, false, false, false, false, false, false, false, false, false, false] rfl rfl (any_of HT_.out (by kernel_rfl)) (fun _ _ _ h => h) (Or.inl ⟨by rfl, ?_⟩) ?_ ?_
            rotate_left
            · intro w'
              go_simp
              with_reducible rfl
            rotate_left
            · simp only [Act.put, List.setIfInBounds_toArray, List.set_cons_zero, List.set_cons_succ, i64_w, i32_w]
              rfl
            refine pure_ (i := 3) (N := some 69) (v := ?_) (a' := ?_) #[true, true, true, true, false, false, false, false, false, false, false, false, false, false, false] rfl rfl (any_of HT_.out (by kernel_rfl)) (fun _ _ _ h => h) (Or.inl ⟨by rfl, ?_⟩) ?_ ?_
            rotate_left
            · intro w'
              go_simp
              with_reducible rfl
            rotate_left
            · simp only [Act.put, List.setIfInBounds_toArray, List.set_cons_zero, List.set_cons_succ, i64_w, i32_w]
              rfl
            refine pure_ (i := 4) (N := some 70) (v := ?_) (a' := ?_) #[true, true, true, true, true, false, false, false, false, false, false, false, false, false, false] rfl rfl (any_of HT_.out (by kernel_rfl)) (fun _ _ _ h => h) (Or.inl ⟨by rfl, ?_⟩) ?_ ?_
            rotate_left
            · intro w'
              go_simp
              with_reducible rfl
            rotate_left
            · simp only [Act.put, List.setIfInBounds_toArray, List.set_cons_zero, List.set_cons_succ, i64_w, i32_w]
              rfl
            refine pure_ (i := 5) (N := some 71) (v := ?_) (a' := ?_) #[true, true, true, true, true, true, false, false, false, false, false, false, false, false, false] rfl rfl (any_of HT_.out (by kernel_rfl)) (fun _ _ _ h => h) (Or.inl ⟨by rfl, ?_⟩) ?_ ?_
            rotate_left
            · intro w'
              go_simp
              with_reducible rfl
            rotate_left
            · simp only [Act.put, List.setIfInBounds_toArray, List.set_cons_zero, List.set_cons_succ, i64_w, i32_w]
              rfl
            refine pure_ (i := 6) (N := some 72) (v := ?_) (a' := ?_) #[true, true, true, true, true, true, true, false, false, false, false, false, false, false, false] rfl rfl (any_of HT_.out (by kernel_rfl)) (fun _ _ _ h => h) (Or.inl ⟨by rfl, ?_⟩) ?_ ?_
            rotate_left
            · intro w'
              go_simp
              with_reducible rfl
            rotate_left
            · simp only [Act.put, List.setIfInBounds_toArray, List.set_cons_zero, List.set_cons_succ, i64_w, i32_w]
              rfl
            refine pure_ (i := 7) (N := some 73) (v := undef) (a' := ?_) #[true, true, true, true, true, true, true, true, false, false, false, false, false, false, false] rfl rfl (any_of HT_.out (by kernel_rfl)) (fun _ _ _ h => h) (Or.inr ⟨by rfl, rfl⟩) ?_ ?_
            rotate_left
            · simp only [Act.put, List.setIfInBounds_toArray, List.set_cons_zero, List.set_cons_succ, i64_w, i32_w]
              rfl
            refine pure_ (i := 8) (N := some 74) (v := undef) (a' := ?_) #[true, true, true, true, true, true, true, true, true, false, false, false, false, false, false] rfl rfl (any_of HT_.out (by kernel_rfl)) (fun _ _ _ h => h) (Or.inr ⟨by rfl, rfl⟩) ?_ ?_
            rotate_left
            · simp only [Act.put, List.setIfInBounds_toArray, List.set_cons_zero, List.set_cons_succ, i64_w, i32_w]
              rfl
            refine pure_ (i := 9) (N := some 75) (v := undef) (a' := ?_) #[true, true, true, true, true, true, true, true, true, true, false, false, false, false, false] rfl rfl (any_of HT_.out (by kernel_rfl)) (fun _ _ _ h => h) (Or.inr ⟨by rfl, rfl⟩) ?_ ?_
            rotate_left
            · simp only [Act.put, List.setIfInBounds_toArray, List.set_cons_zero, List.set_cons_succ, i64_w, i32_w]
              rfl
            refine pure_ (i := 10) (N := some 76) (v := undef) (a' := ?_) #[true, true, true, true, true, true, true, true, true, true, true, false, false, false, false] rfl rfl (any_of HT_.out (by kernel_rfl)) (fun _ _ _ h => h) (Or.inr ⟨by rfl, rfl⟩) ?_ ?_
            rotate_left
            · simp only [Act.put, List.setIfInBounds_toArray, List.set_cons_zero, List.set_cons_succ, i64_w, i32_w]
              rfl
            refine pure_ (i := 11) (N := some 77) (v := undef) (a' := ?_) #[true, true, true, true, true, true, true, true, true, true, true, true, false, false, false] rfl rfl (any_of HT_.out (by kernel_rfl)) (fun _ _ _ h => h) (Or.inr ⟨by rfl, rfl⟩) ?_ ?_
            rotate_left
            · simp only [Act.put, List.setIfInBounds_toArray, List.set_cons_zero, List.set_cons_succ, i64_w, i32_w]
              rfl
            refine pure_ (i := 12) (N := some 78) (v := undef) (a' := ?_) #[true, true, true, true, true, true, true, true, true, true, true, true, true, false, false] rfl rfl (any_of HT_.out (by kernel_rfl)) (fun _ _ _ h => h) (Or.inr ⟨by rfl, rfl⟩) ?_ ?_
            rotate_left
            · simp only [Act.put, List.setIfInBounds_toArray, List.set_cons_zero, List.set_cons_succ, i64_w, i32_w]
              rfl
            refine pure_ (i := 13) (N := some 79) (v := undef) (a' := ?_) #[true, true, true, true, true, true, true, true, true, true, true, true, true, true, false] rfl rfl (any_of HT_.out (by kernel_rfl)) (fun _ _ _ h => h) (Or.inr ⟨by rfl, rfl⟩) ?_ ?_
            rotate_left
            · simp only [Act.put, List.setIfInBounds_toArray, List.set_cons_zero, List.set_cons_succ, i64_w, i32_w]
              rfl
            refine pure_ (i := 14) (N := some 80) (v := ?_) (a' := ?_) #[true, true, true, true, true, true, true, true, true, true, true, true, true, true, true] rfl rfl (any_of HT_.out (by kernel_rfl)) (fun _ _ _ h => h) (Or.inl ⟨by rfl, ?_⟩) ?_ ?_
            rotate_left
            · intro w'
              go_simp
              with_reducible rfl
            rotate_left
            · simp only [Act.put, List.setIfInBounds_toArray, List.set_cons_zero, List.set_cons_succ, i64_w, i32_w]
              rfl
            refine done_ (done_of HT_.out (by kernel_rfl)) ?_
            have HX20 := Aside0.mk (HX10.out.step hHeld.2.2.2.2.2.2.2.2.2.2)
            clear hHeld
            clear hb0
            have x0 : v11.cell? ⟨w.heap.size + 2, 0, none⟩ = some (.int .i64 x.f0) := (blk_cell HX20.out.h2 0).trans rfl
            have x1 : v11.cell? ⟨w.heap.size + 2, 1, none⟩ = some (.int .i64 x.f1) := (blk_cell HX20.out.h2 1).trans rfl
            have x2 : v11.cell? ⟨w.heap.size + 2, 2, none⟩ = some (.int .i64 x.f2) := (blk_cell HX20.out.h2 2).trans rfl
            have x3 : v11.cell? ⟨w.heap.size + 2, 3, none⟩ = some (.slice C3 x.f3.length c3) := (blk_cell HX20.out.h2 3).trans rfl
            go_wp2_with (fail)
            have hE := copyEntry_calls x C3 c3 v11 (Kd.C_below HE.out.1 HX20.out.below) HE.out.2.1 HE.out.2.2.1
            with_reducible refine hE.mono ?_
            clear hE
            rintro e v30 ⟨hB, G1, g1, rfl, hR⟩
            have HX30 := Aside0.mk (HX20.out.step hB)
            clear x0 x1 x2 x3
            have HR1 := Aside0.mk hR
            clear hR hB
            go_wp2_with (fail)
            obtain ⟨z3, u3, hz3⟩ : ∃ z u, entryP x = (z, u) := ⟨_, _, rfl⟩
            have hE := pack74_calls x G1 g1 z3 u3 v30 (Kd.R_reads' HR1.out).2.2 (Kd.R_reads' HR1.out).2.1 hz3
            with_reducible refine hE.mono ?_
            clear hE
            rintro e v31 ⟨P3, p3, rfl, hp, hC, hB⟩
            have HX31 := Aside0.mk (HX30.out.step hB)
            have HZ3 := Aside0.mk hz3
            have HP3 := Aside0.mk hp
            have HC3_31 := Aside0.mk hC
            clear hz3 hp hC hB
            have y0 : v31.cell? ⟨w.heap.size + 3, 0, none⟩ = some (.int .i64 y.f0) := (blk_cell HX31.out.h3 0).trans rfl
            have y1 : v31.cell? ⟨w.heap.size + 3, 1, none⟩ = some (.int .i64 y.f1) := (blk_cell HX31.out.h3 1).trans rfl
            have y2 : v31.cell? ⟨w.heap.size + 3, 2, none⟩ = some (.int .i64 y.f2) := (blk_cell HX31.out.h3 2).trans rfl
            have y3 : v31.cell? ⟨w.heap.size + 3, 3, none⟩ = some (.slice D3 y.f3.length d3) := (blk_cell HX31.out.h3 3).trans rfl
            go_wp2_with (fail)
            have hE := copyEntry_calls y D3 d3 v31 (Kd.C_below HG.out.1 HX31.out.below) HG.out.2.1 HG.out.2.2.1
            with_reducible refine hE.mono ?_
            clear hE
            rintro e v32 ⟨hB, G2, g2, rfl, hR⟩
            have HX32 := Aside0.mk (HX31.out.step hB)
            have HC3_32 := Aside0.mk (Kd.C_below HC3_31.out hB)
            clear y0 y1 y2 y3
            have HR2 := Aside0.mk hR
            clear hR hB
            go_wp2_with (fail)
            obtain ⟨z4, u4, hz4⟩ : ∃ z u, entryP y = (z, u) := ⟨_, _, rfl⟩
            have hE := pack74_calls y G2 g2 z4 u4 v32 (Kd.R_reads' HR2.out).2.2 (Kd.R_reads' HR2.out).2.1 hz4
            with_reducible refine hE.mono ?_
            clear hE
            rintro e v33 ⟨P4, p4, rfl, hp, hC, hB⟩
            have HX33 := Aside0.mk (HX32.out.step hB)
            have HC3_33 := Aside0.mk (Kd.C_below HC3_32.out hB)
            have HZ4 := Aside0.mk hz4
            have HP4 := Aside0.mk hp
            have HC4_33 := Aside0.mk hC
            clear hz4 hp hC hB
            by_cases hu3 : u3 = 0
            · subst hu3
              go_wp2_with (fail)
              have hE := read79_calls P3 p3 z3 (some x) v33 HC3_33.out HP3.out (entryP_all HE.out.2.2.2 HZ3.out).2.1 (entryP_all HE.out.2.2.2 HZ3.out).2.2 (entryP_all HE.out.2.2.2 HZ3.out).1
              with_reducible refine hE.mono ?_
              clear hE
              rintro e v34 ⟨hB, R3, r3, rfl, hC, hl⟩
              have HX34 := Aside0.mk (HX33.out.step hB)
              have HC3_34 := Aside0.mk (Kd.C_below HC3_33.out hB)
              have HC4_34 := Aside0.mk (Kd.C_below HC4_33.out hB)
              have HRC := Aside0.mk hC
              have HRl := Aside0.mk hl
              clear hB hC hl
              have HN0 := Aside0.mk (blk_new v34 (.cells #[.int .i64 0, .int .i64 0, .int .i64 0, .slice none 0 0] 87))
              have HK0 := Aside0.mk (below_alloc (Below.refl v34.heap.size v34) (.cells #[.int .i64 0, .int .i64 0, .int .i64 0, .slice none 0 0] 87))
              go_upto_region 17 with (refine wpList_store_row rfl 87 (.tmp 17) (.tmp 98) rfl v34.heap.size #[.int .i64 x.f0, .int .i64 x.f1, .int .i64 x.f2, .slice R3 x.f3.length r3] rfl rfl 87 _ HN0.out size87 rfl (by simp [Value.oneCell']) ?_; have HN1 := Aside0.mk (setRow_heap _ _ _ #[.int .i64 x.f0, .int .i64 x.f1, .int .i64 x.f2, .slice R3 x.f3.length r3] _ _ HN0.out); have HK1 := Aside0.mk (below_setRow HK0.out (Nat.le_refl _) #[.int .i64 x.f0, .int .i64 x.f1, .int .i64 x.f2, .slice R3 x.f3.length r3]))
              generalize (v34.alloc (.cells #[.int .i64 0, .int .i64 0, .int .i64 0, .slice none 0 0] 87)).setRow v34.heap.size #[.int .i64 x.f0, .int .i64 x.f1, .int .i64 x.f2, .slice R3 x.f3.length r3] = v35 at HN1 HK1 ⊢
              have HX35 := Aside0.mk (HX34.out.step HK1.out)
              have HC3_35 := Aside0.mk (Kd.C_below HC3_34.out HK1.out)
              have HC4_35 := Aside0.mk (Kd.C_below HC4_34.out HK1.out)
              have HRC_35 := Aside0.mk (Kd.C_below HRC.out HK1.out)
              have t0 : v35.cell? ⟨v34.heap.size, 0, none⟩ = some (.int .i64 x.f0) := (blk_cell HN1.out 0).trans rfl
              have t1 : v35.cell? ⟨v34.heap.size, 1, none⟩ = some (.int .i64 x.f1) := (blk_cell HN1.out 1).trans rfl
              have t2 : v35.cell? ⟨v34.heap.size, 2, none⟩ = some (.int .i64 x.f2) := (blk_cell HN1.out 2).trans rfl
              have t3 : v35.cell? ⟨v34.heap.size, 3, none⟩ = some (.slice R3 x.f3.length r3) := (blk_cell HN1.out 3).trans rfl
              have x0 : v35.cell? ⟨w.heap.size + 2, 0, none⟩ = some (.int .i64 x.f0) := (blk_cell HX35.out.h2 0).trans rfl
              have x1 : v35.cell? ⟨w.heap.size + 2, 1, none⟩ = some (.int .i64 x.f1) := (blk_cell HX35.out.h2 1).trans rfl
              have x2 : v35.cell? ⟨w.heap.size + 2, 2, none⟩ = some (.int .i64 x.f2) := (blk_cell HX35.out.h2 2).trans rfl
              have x3 : v35.cell? ⟨w.heap.size + 2, 3, none⟩ = some (.slice C3 x.f3.length c3) := (blk_cell HX35.out.h2 3).trans rfl
              go_wp2_with (fail)
              have hE := sameEntry_is x x R3 C3 r3 c3 true v35 HRC_35.out HRl.out (Kd.C_below HE.out.1 HX35.out.below) HE.out.2.1 (by simp [sameE])
              with_reducible refine hE.mono ?_
              clear hE
              rintro e v36 ⟨rfl, hB⟩
              have HX36 := Aside0.mk (HX35.out.step hB)
              have HC3_36 := Aside0.mk (Kd.C_below HC3_35.out hB)
              have HC4_36 := Aside0.mk (Kd.C_below HC4_35.out hB)
              clear hB t0 t1 t2 t3 x0 x1 x2 x3
              by_cases hu4 : u4 = 0
              · subst hu4
                obtain ⟨q, hq⟩ : ∃ q, decide (z3 = z4) = q := ⟨_, rfl⟩
                have HQ8 := Aside0.mk hq
                have HS := Aside0.mk ((same_entry HE.out.2.2.2 HG.out.2.2.2 HZ3.out HZ4.out).trans hq)
                clear hq
                go_upto_region 19 with (fail)
                have H8 := Aside0.mk (show Bt8 ⟨w.heap.size + 2, 0, none⟩ ⟨w.heap.size + 2, 1, none⟩ ⟨w.heap.size + 2, 2, none⟩ ⟨w.heap.size + 2, 3, none⟩ ⟨w.heap.size + 3, 0, none⟩ ⟨w.heap.size + 3, 1, none⟩ ⟨w.heap.size + 3, 2, none⟩ ⟨w.heap.size + 3, 3, none⟩ (.int .i64 x.f0) (.int .i64 x.f1) (.int .i64 x.f2) (.slice C3 x.f3.length c3) (.int .i64 y.f0) (.int .i64 y.f1) (.int .i64 y.f2) (.slice D3 y.f3.length d3) v36 v36 from ⟨(blk_cell HX36.out.h2 0).trans rfl, (blk_cell HX36.out.h2 1).trans rfl, (blk_cell HX36.out.h2 2).trans rfl, (blk_cell HX36.out.h2 3).trans rfl, (blk_cell HX36.out.h3 0).trans rfl, (blk_cell HX36.out.h3 1).trans rfl, (blk_cell HX36.out.h3 2).trans rfl, (blk_cell HX36.out.h3 3).trans rfl, Below.refl _ _⟩)
                refine start_ (n := 16) (S := Bt8 ⟨w.heap.size + 2, 0, none⟩ ⟨w.heap.size + 2, 1, none⟩ ⟨w.heap.size + 2, 2, none⟩ ⟨w.heap.size + 2, 3, none⟩ ⟨w.heap.size + 3, 0, none⟩ ⟨w.heap.size + 3, 1, none⟩ ⟨w.heap.size + 3, 2, none⟩ ⟨w.heap.size + 3, 3, none⟩ (.int .i64 x.f0) (.int .i64 x.f1) (.int .i64 x.f2) (.slice C3 x.f3.length c3) (.int .i64 y.f0) (.int .i64 y.f1) (.int .i64 y.f2) (.slice D3 y.f3.length d3) v36) (ds := []) #[false, false, false, false, false, false, false, false, false, false, false, false, false, false, false, false] (by kernel_rfl) rfl rfl (H8.out.of (below_drew1 (Below.refl _ _))) (fun hHeld => ?_)
                generalize v36.drew = v37 at hHeld ⊢
                refine with_tabW moE_tab19 moE_bits19 (fun HT_ HW_ => ?_)
                refine pure_ (i := 0) (N := some 108) (v := ?_) (a' := ?_) #[true, false, false, false, false, false, false, false, false, false, false, false, false, false, false, false] rfl rfl (any_of HT_.out (by kernel_rfl)) (fun _ _ _ h => h) (Or.inl ⟨by rfl, ?_⟩) ?_ ?_
                rotate_left
                · intro w'
                  go_simp
                  with_reducible rfl
                rotate_left
                · simp only [Act.put, List.setIfInBounds_toArray, List.set_cons_zero, List.set_cons_succ, i64_w, i32_w]
                  rfl
                refine pure_ (i := 1) (N := some 109) (v := ?_) (a' := ?_) #[true, true, false, false, false, false, false, false, false, false, false, false, false, false, false, false] rfl rfl (any_of HT_.out (by kernel_rfl)) (fun _ _ _ h => h) (Or.inl ⟨by rfl, ?_⟩) ?_ ?_
                rotate_left
                · intro w'
                  go_simp
                  with_reducible rfl
                rotate_left
                · simp only [Act.put, List.setIfInBounds_toArray, List.set_cons_zero, List.set_cons_succ, i64_w, i32_w]
                  rfl
                refine pure_ (i := 2) (N := some 110) (v := ?_) (a' := ?_) #[true, true, true, false, false, false, false, false, false, false, false, false, false, false, false, false] rfl rfl (any_of HT_.out (by kernel_rfl)) (fun _ _ _ h => h) (Or.inl ⟨by rfl, ?_⟩) ?_ ?_
                rotate_left
                · intro w'
                  go_simp
                  with_reducible rfl
                rotate_left
                · simp only [Act.put, List.setIfInBounds_toArray, List.set_cons_zero, List.set_cons_succ, i64_w, i32_w]
                  rfl
                refine pure_ (i := 3) (N := some 111) (v := ?_) (a' := ?_) #[true, true, true, true, false, false, false, false, false, false, false, false, false, false, false, false] rfl rfl (any_of HT_.out (by kernel_rfl)) (fun _ _ _ h => h) (Or.inl ⟨by rfl, ?_⟩) ?_ ?_
                rotate_left
                · intro w'
                  go_simp
                  with_reducible rfl
                rotate_left
                · simp only [Act.put, List.setIfInBounds_toArray, List.set_cons_zero, List.set_cons_succ, i64_w, i32_w]
                  rfl
                refine pure_ (i := 4) (N := some 112) (v := ?_) (a' := ?_) #[true, true, true, true, true, false, false, false, false, false, false, false, false, false, false, false] rfl rfl (any_of HT_.out (by kernel_rfl)) (fun _ _ _ h => h) (Or.inl ⟨by rfl, ?_⟩) ?_ ?_
                rotate_left
                · intro w'
                  go_simp
                  with_reducible rfl
                rotate_left
                · simp only [Act.put, List.setIfInBounds_toArray, List.set_cons_zero, List.set_cons_succ, i64_w, i32_w]
                  rfl
                refine pure_ (i := 5) (N := some 113) (v := ?_) (a' := ?_) #[true, true, true, true, true, true, false, false, false, false, false, false, false, false, false, false] rfl rfl (any_of HT_.out (by kernel_rfl)) (fun _ _ _ h => h) (Or.inl ⟨by rfl, ?_⟩) ?_ ?_
                rotate_left
                · intro w'
                  go_simp
                  with_reducible rfl
                rotate_left
                · simp only [Act.put, List.setIfInBounds_toArray, List.set_cons_zero, List.set_cons_succ, i64_w, i32_w]
                  rfl
                refine pure_ (i := 6) (N := some 114) (v := ?_) (a' := ?_) #[true, true, true, true, true, true, true, false, false, false, false, false, false, false, false, false] rfl rfl (any_of HT_.out (by kernel_rfl)) (fun _ _ _ h => h) (Or.inl ⟨by rfl, ?_⟩) ?_ ?_
                rotate_left
                · intro w'
                  go_simp
                  with_reducible rfl
                rotate_left
                · simp only [Act.put, List.setIfInBounds_toArray, List.set_cons_zero, List.set_cons_succ, i64_w, i32_w]
                  rfl
                refine pure_ (i := 7) (N := some 115) (v := ?_) (a' := ?_) #[true, true, true, true, true, true, true, true, false, false, false, false, false, false, false, false] rfl rfl (any_of HT_.out (by kernel_rfl)) (fun _ _ _ h => h) (Or.inl ⟨by rfl, ?_⟩) ?_ ?_
                rotate_left
                · intro w'
                  go_simp
                  with_reducible rfl
                rotate_left
                · simp only [Act.put, List.setIfInBounds_toArray, List.set_cons_zero, List.set_cons_succ, i64_w, i32_w]
                  rfl
                refine pure_ (i := 8) (N := some 116) (v := ?_) (a' := ?_) #[true, true, true, true, true, true, true, true, true, false, false, false, false, false, false, false] rfl rfl (any_of HT_.out (by kernel_rfl)) (fun _ _ _ h => h) (Or.inl ⟨by rfl, ?_⟩) ?_ ?_
                rotate_left
                · intro w'
                  go_simp
                  with_reducible rfl
                rotate_left
                · simp only [Act.put, List.setIfInBounds_toArray, List.set_cons_zero, List.set_cons_succ, i64_w, i32_w]
                  rfl
                refine take_ (i := 10) (N := some 118) (v := ?_) (a' := ?_) #[true, true, true, true, true, true, true, true, true, false, true, false, false, false, false, false] rfl rfl (take_ofW HT_.out HW_.out (by kernel_rfl)) (fun _ _ _ h => h) (Or.inl ⟨by rfl, ?_⟩) hHeld ?_ ?_
                rotate_left
                · rintro w' ⟨s0, s1, s2, s3, s4, s5, s6, s7, s8⟩
                  go_simp
                  with_reducible rfl
                rotate_left
                · simp only [Act.put, List.setIfInBounds_toArray, List.set_cons_zero, List.set_cons_succ, i64_w, i32_w]
                  rfl
                refine take_ (i := 11) (N := some 119) (v := ?_) (a' := ?_) #[true, true, true, true, true, true, true, true, true, false, true, true, false, false, false, false] rfl rfl (take_ofW HT_.out HW_.out (by kernel_rfl)) (fun _ _ _ h => h) (Or.inl ⟨by rfl, ?_⟩) hHeld ?_ ?_
                rotate_left
                · rintro w' ⟨s0, s1, s2, s3, s4, s5, s6, s7, s8⟩
                  go_simp
                  with_reducible rfl
                rotate_left
                · simp only [Act.put, List.setIfInBounds_toArray, List.set_cons_zero, List.set_cons_succ, i64_w, i32_w]
                  rfl
                refine one_ (i := 9) (N := some 117) #[true, true, true, true, true, true, true, true, true, true, true, true, false, false, false, false] rfl rfl (one_of HT_.out (by kernel_rfl)) (by decide) (fun K hK => ?_)
                refine goes_ Try.func27 (by kernel_rfl) rfl #[.slice P3 z3.length p3, .slice P4 z4.length p4] (by rfl) rfl rfl (by (try simp only [List.map_toArray, List.map_cons, List.map_nil]); first | done | rfl) ?_
                refine (sameBytes_is P3 p3 z3 P4 p4 z4 q _ (Kd.C_below HC3_36.out hHeld.2.2.2.2.2.2.2.2) HP3.out (Kd.C_below HC4_36.out hHeld.2.2.2.2.2.2.2.2) HP4.out HQ8.out).mono ?_
                rintro e s4 ⟨rfl, hD⟩
                refine ⟨_, rfl, ?_⟩
                have HB4 := Aside0.mk (below_then hHeld.2.2.2.2.2.2.2.2 hHeld.2.2.2.2.2.2.2.2.size hD.below)
                refine hK.out _ _ (H8.out.of HB4.out) (fun hHeld => ?_)
                clear hK K hD
                refine norm_ (a' := ?_) ?_ ?_
                rotate_left
                · show Act.put _ (some 117) _ = _
                  simp only [Act.put, List.setIfInBounds_toArray, List.set_cons_zero, List.set_cons_succ, i64_w, i32_w]
                  rfl
                refine one_ (i := 12) (N := some 120) #[true, true, true, true, true, true, true, true, true, true, true, true, true, false, false, false] rfl rfl (one_of HT_.out (by kernel_rfl)) (by decide) (fun K hK => ?_)
                refine goes_ Try.func82 (by kernel_rfl) rfl #[.agg #[.int .i64 x.f0, .int .i64 x.f1, .int .i64 x.f2, .slice C3 x.f3.length c3], .agg #[.int .i64 y.f0, .int .i64 y.f1, .int .i64 y.f2, .slice D3 y.f3.length d3]] (by rfl) rfl rfl (by (try simp only [List.map_toArray, List.map_cons, List.map_nil]); first | done | rfl) ?_
                refine (sameEntry_is x y C3 D3 c3 d3 q _ (Kd.C_below (Kd.C_below HE.out.1 HX36.out.below) hHeld.2.2.2.2.2.2.2.2) HE.out.2.1 (Kd.C_below (Kd.C_below HG.out.1 HX36.out.below) hHeld.2.2.2.2.2.2.2.2) HG.out.2.1 HS.out).mono ?_
                rintro e s5 ⟨rfl, hB⟩
                refine ⟨_, rfl, ?_⟩
                have HB5 := Aside0.mk (below_then hHeld.2.2.2.2.2.2.2.2 hHeld.2.2.2.2.2.2.2.2.size hB)
                refine hK.out _ _ (H8.out.of HB5.out) (fun hHeld => ?_)
                clear hK K hB
                refine norm_ (a' := ?_) ?_ ?_
                rotate_left
                · show Act.put _ (some 120) _ = _
                  simp only [Act.put, List.setIfInBounds_toArray, List.set_cons_zero, List.set_cons_succ, i64_w, i32_w]
                  rfl
                refine pure_ (i := 13) (N := some 121) (v := ?_) (a' := ?_) #[true, true, true, true, true, true, true, true, true, true, true, true, true, true, false, false] rfl rfl (any_of HT_.out (by kernel_rfl)) (fun _ _ _ h => h) (Or.inl ⟨by rfl, ?_⟩) ?_ ?_
                rotate_left
                · intro w'
                  go_simp
                  with_reducible rfl
                rotate_left
                · simp only [Act.put, List.setIfInBounds_toArray, List.set_cons_zero, List.set_cons_succ, i64_w, i32_w]
                  rfl
                refine pure_ (i := 14) (N := some 122) (v := ?_) (a' := ?_) #[true, true, true, true, true, true, true, true, true, true, true, true, true, true, true, false] rfl rfl (any_of HT_.out (by kernel_rfl)) (fun _ _ _ h => h) (Or.inl ⟨by rfl, ?_⟩) ?_ ?_
                rotate_left
                · intro w'
                  go_simp
                  with_reducible rfl
                rotate_left
                · simp only [Act.put, List.setIfInBounds_toArray, List.set_cons_zero, List.set_cons_succ, i64_w, i32_w]
                  rfl
                refine pure_ (i := 15) (N := some 8) (v := ?_) (a' := ?_) #[true, true, true, true, true, true, true, true, true, true, true, true, true, true, true, true] rfl rfl (any_of HT_.out (by kernel_rfl)) (fun _ _ _ h => h) (Or.inl ⟨by rfl, ?_⟩) ?_ ?_
                rotate_left
                · intro w'
                  go_simp
                  with_reducible rfl
                rotate_left
                · simp only [Act.put, List.setIfInBounds_toArray, List.set_cons_zero, List.set_cons_succ, i64_w, i32_w]
                  rfl
                refine done_ (done_of HT_.out (by kernel_rfl)) ?_
                have HF := Aside0.mk (HX36.out.step hHeld.2.2.2.2.2.2.2.2)
                clear hHeld
                go_wp2_with (fail)
                go_ret
                exact ⟨rfl, HF.out.below⟩
              · have hb0 : (u4 == 0) = false := beq_eq_false_iff_ne.mpr hu4
                have hb1 : (u4 != 0) = true := bne_iff_ne.mpr hu4
                clear hu4
                go_upto_region 19 with (fail)
                have H8 := Aside0.mk (show Bt8 ⟨w.heap.size + 2, 0, none⟩ ⟨w.heap.size + 2, 1, none⟩ ⟨w.heap.size + 2, 2, none⟩ ⟨w.heap.size + 2, 3, none⟩ ⟨w.heap.size + 3, 0, none⟩ ⟨w.heap.size + 3, 1, none⟩ ⟨w.heap.size + 3, 2, none⟩ ⟨w.heap.size + 3, 3, none⟩ (.int .i64 x.f0) (.int .i64 x.f1) (.int .i64 x.f2) (.slice C3 x.f3.length c3) (.int .i64 y.f0) (.int .i64 y.f1) (.int .i64 y.f2) (.slice D3 y.f3.length d3) v36 v36 from ⟨(blk_cell HX36.out.h2 0).trans rfl, (blk_cell HX36.out.h2 1).trans rfl, (blk_cell HX36.out.h2 2).trans rfl, (blk_cell HX36.out.h2 3).trans rfl, (blk_cell HX36.out.h3 0).trans rfl, (blk_cell HX36.out.h3 1).trans rfl, (blk_cell HX36.out.h3 2).trans rfl, (blk_cell HX36.out.h3 3).trans rfl, Below.refl _ _⟩)
                refine start_ (n := 16) (S := Bt8 ⟨w.heap.size + 2, 0, none⟩ ⟨w.heap.size + 2, 1, none⟩ ⟨w.heap.size + 2, 2, none⟩ ⟨w.heap.size + 2, 3, none⟩ ⟨w.heap.size + 3, 0, none⟩ ⟨w.heap.size + 3, 1, none⟩ ⟨w.heap.size + 3, 2, none⟩ ⟨w.heap.size + 3, 3, none⟩ (.int .i64 x.f0) (.int .i64 x.f1) (.int .i64 x.f2) (.slice C3 x.f3.length c3) (.int .i64 y.f0) (.int .i64 y.f1) (.int .i64 y.f2) (.slice D3 y.f3.length d3) v36) (ds := []) #[false, false, false, false, false, false, false, false, false, false, false, false, false, false, false, false] (by kernel_rfl) rfl rfl (H8.out.of (below_drew1 (Below.refl _ _))) (fun hHeld => ?_)
                generalize v36.drew = v37 at hHeld ⊢
                refine with_tabW moE_tab19 moE_bits19 (fun HT_ HW_ => ?_)
                refine pure_ (i := 0) (N := some 108) (v := ?_) (a' := ?_) #[true, false, false, false, false, false, false, false, false, false, false, false, false, false, false, false] rfl rfl (any_of HT_.out (by kernel_rfl)) (fun _ _ _ h => h) (Or.inl ⟨by rfl, ?_⟩) ?_ ?_
                rotate_left
                · intro w'
                  go_simp
                  with_reducible rfl
                rotate_left
                · simp only [Act.put, List.setIfInBounds_toArray, List.set_cons_zero, List.set_cons_succ, i64_w, i32_w]
                  rfl
                refine pure_ (i := 1) (N := some 109) (v := ?_) (a' := ?_) #[true, true, false, false, false, false, false, false, false, false, false, false, false, false, false, false] rfl rfl (any_of HT_.out (by kernel_rfl)) (fun _ _ _ h => h) (Or.inl ⟨by rfl, ?_⟩) ?_ ?_
                rotate_left
                · intro w'
                  go_simp
                  with_reducible rfl
                rotate_left
                · simp only [Act.put, List.setIfInBounds_toArray, List.set_cons_zero, List.set_cons_succ, i64_w, i32_w]
                  rfl
                refine pure_ (i := 2) (N := some 110) (v := ?_) (a' := ?_) #[true, true, true, false, false, false, false, false, false, false, false, false, false, false, false, false] rfl rfl (any_of HT_.out (by kernel_rfl)) (fun _ _ _ h => h) (Or.inl ⟨by rfl, ?_⟩) ?_ ?_
                rotate_left
                · intro w'
                  go_simp
                  with_reducible rfl
                rotate_left
                · simp only [Act.put, List.setIfInBounds_toArray, List.set_cons_zero, List.set_cons_succ, i64_w, i32_w]
                  rfl
                refine pure_ (i := 3) (N := some 111) (v := ?_) (a' := ?_) #[true, true, true, true, false, false, false, false, false, false, false, false, false, false, false, false] rfl rfl (any_of HT_.out (by kernel_rfl)) (fun _ _ _ h => h) (Or.inl ⟨by rfl, ?_⟩) ?_ ?_
                rotate_left
                · intro w'
                  go_simp
                  with_reducible rfl
                rotate_left
                · simp only [Act.put, List.setIfInBounds_toArray, List.set_cons_zero, List.set_cons_succ, i64_w, i32_w]
                  rfl
                refine pure_ (i := 4) (N := some 112) (v := ?_) (a' := ?_) #[true, true, true, true, true, false, false, false, false, false, false, false, false, false, false, false] rfl rfl (any_of HT_.out (by kernel_rfl)) (fun _ _ _ h => h) (Or.inl ⟨by rfl, ?_⟩) ?_ ?_
                rotate_left
                · intro w'
                  go_simp
                  with_reducible rfl
                rotate_left
                · simp only [Act.put, List.setIfInBounds_toArray, List.set_cons_zero, List.set_cons_succ, i64_w, i32_w]
                  rfl
                refine pure_ (i := 5) (N := some 113) (v := ?_) (a' := ?_) #[true, true, true, true, true, true, false, false, false, false, false, false, false, false, false, false] rfl rfl (any_of HT_.out (by kernel_rfl)) (fun _ _ _ h => h) (Or.inl ⟨by rfl, ?_⟩) ?_ ?_
                rotate_left
                · intro w'
                  go_simp
                  with_reducible rfl
                rotate_left
                · simp only [Act.put, List.setIfInBounds_toArray, List.set_cons_zero, List.set_cons_succ, i64_w, i32_w]
                  rfl
                refine pure_ (i := 6) (N := some 114) (v := ?_) (a' := ?_) #[true, true, true, true, true, true, true, false, false, false, false, false, false, false, false, false] rfl rfl (any_of HT_.out (by kernel_rfl)) (fun _ _ _ h => h) (Or.inl ⟨by rfl, ?_⟩) ?_ ?_
                rotate_left
                · intro w'
                  go_simp
                  with_reducible rfl
                rotate_left
                · simp only [Act.put, List.setIfInBounds_toArray, List.set_cons_zero, List.set_cons_succ, i64_w, i32_w]
                  rfl
                refine pure_ (i := 7) (N := some 115) (v := undef) (a' := ?_) #[true, true, true, true, true, true, true, true, false, false, false, false, false, false, false, false] rfl rfl (any_of HT_.out (by kernel_rfl)) (fun _ _ _ h => h) (Or.inr ⟨by rfl, rfl⟩) ?_ ?_
                rotate_left
                · simp only [Act.put, List.setIfInBounds_toArray, List.set_cons_zero, List.set_cons_succ, i64_w, i32_w]
                  rfl
                refine pure_ (i := 8) (N := some 116) (v := undef) (a' := ?_) #[true, true, true, true, true, true, true, true, true, false, false, false, false, false, false, false] rfl rfl (any_of HT_.out (by kernel_rfl)) (fun _ _ _ h => h) (Or.inr ⟨by rfl, rfl⟩) ?_ ?_
                rotate_left
                · simp only [Act.put, List.setIfInBounds_toArray, List.set_cons_zero, List.set_cons_succ, i64_w, i32_w]
                  rfl
                refine pure_ (i := 9) (N := some 117) (v := undef) (a' := ?_) #[true, true, true, true, true, true, true, true, true, true, false, false, false, false, false, false] rfl rfl (any_of HT_.out (by kernel_rfl)) (fun _ _ _ h => h) (Or.inr ⟨by rfl, rfl⟩) ?_ ?_
                rotate_left
                · simp only [Act.put, List.setIfInBounds_toArray, List.set_cons_zero, List.set_cons_succ, i64_w, i32_w]
                  rfl
                refine pure_ (i := 10) (N := some 118) (v := undef) (a' := ?_) #[true, true, true, true, true, true, true, true, true, true, true, false, false, false, false, false] rfl rfl (any_of HT_.out (by kernel_rfl)) (fun _ _ _ h => h) (Or.inr ⟨by rfl, rfl⟩) ?_ ?_
                rotate_left
                · simp only [Act.put, List.setIfInBounds_toArray, List.set_cons_zero, List.set_cons_succ, i64_w, i32_w]
                  rfl
                refine pure_ (i := 11) (N := some 119) (v := undef) (a' := ?_) #[true, true, true, true, true, true, true, true, true, true, true, true, false, false, false, false] rfl rfl (any_of HT_.out (by kernel_rfl)) (fun _ _ _ h => h) (Or.inr ⟨by rfl, rfl⟩) ?_ ?_
                rotate_left
                · simp only [Act.put, List.setIfInBounds_toArray, List.set_cons_zero, List.set_cons_succ, i64_w, i32_w]
                  rfl
                refine pure_ (i := 12) (N := some 120) (v := undef) (a' := ?_) #[true, true, true, true, true, true, true, true, true, true, true, true, true, false, false, false] rfl rfl (any_of HT_.out (by kernel_rfl)) (fun _ _ _ h => h) (Or.inr ⟨by rfl, rfl⟩) ?_ ?_
                rotate_left
                · simp only [Act.put, List.setIfInBounds_toArray, List.set_cons_zero, List.set_cons_succ, i64_w, i32_w]
                  rfl
                refine pure_ (i := 13) (N := some 121) (v := undef) (a' := ?_) #[true, true, true, true, true, true, true, true, true, true, true, true, true, true, false, false] rfl rfl (any_of HT_.out (by kernel_rfl)) (fun _ _ _ h => h) (Or.inr ⟨by rfl, rfl⟩) ?_ ?_
                rotate_left
                · simp only [Act.put, List.setIfInBounds_toArray, List.set_cons_zero, List.set_cons_succ, i64_w, i32_w]
                  rfl
                refine pure_ (i := 14) (N := some 122) (v := ?_) (a' := ?_) #[true, true, true, true, true, true, true, true, true, true, true, true, true, true, true, false] rfl rfl (any_of HT_.out (by kernel_rfl)) (fun _ _ _ h => h) (Or.inl ⟨by rfl, ?_⟩) ?_ ?_
                rotate_left
                · intro w'
                  go_simp
                  with_reducible rfl
                rotate_left
                · simp only [Act.put, List.setIfInBounds_toArray, List.set_cons_zero, List.set_cons_succ, i64_w, i32_w]
                  rfl
                refine pure_ (i := 15) (N := some 8) (v := ?_) (a' := ?_) #[true, true, true, true, true, true, true, true, true, true, true, true, true, true, true, true] rfl rfl (any_of HT_.out (by kernel_rfl)) (fun _ _ _ h => h) (Or.inl ⟨by rfl, ?_⟩) ?_ ?_
                rotate_left
                · intro w'
                  go_simp
                  with_reducible rfl
                rotate_left
                · simp only [Act.put, List.setIfInBounds_toArray, List.set_cons_zero, List.set_cons_succ, i64_w, i32_w]
                  rfl
                refine done_ (done_of HT_.out (by kernel_rfl)) ?_
                have HF := Aside0.mk (HX36.out.step hHeld.2.2.2.2.2.2.2.2)
                clear hHeld
                go_wp2_with (fail)
                go_ret
                exact ⟨rfl, HF.out.below⟩
            · have ha0 : (u3 == 0) = false := beq_eq_false_iff_ne.mpr hu3
              have ha1 : (u3 != 0) = true := bne_iff_ne.mpr hu3
              clear hu3
              go_upto_region 19 with (fail)
              have H8 := Aside0.mk (show Bt8 ⟨w.heap.size + 2, 0, none⟩ ⟨w.heap.size + 2, 1, none⟩ ⟨w.heap.size + 2, 2, none⟩ ⟨w.heap.size + 2, 3, none⟩ ⟨w.heap.size + 3, 0, none⟩ ⟨w.heap.size + 3, 1, none⟩ ⟨w.heap.size + 3, 2, none⟩ ⟨w.heap.size + 3, 3, none⟩ (.int .i64 x.f0) (.int .i64 x.f1) (.int .i64 x.f2) (.slice C3 x.f3.length c3) (.int .i64 y.f0) (.int .i64 y.f1) (.int .i64 y.f2) (.slice D3 y.f3.length d3) v33 v33 from ⟨(blk_cell HX33.out.h2 0).trans rfl, (blk_cell HX33.out.h2 1).trans rfl, (blk_cell HX33.out.h2 2).trans rfl, (blk_cell HX33.out.h2 3).trans rfl, (blk_cell HX33.out.h3 0).trans rfl, (blk_cell HX33.out.h3 1).trans rfl, (blk_cell HX33.out.h3 2).trans rfl, (blk_cell HX33.out.h3 3).trans rfl, Below.refl _ _⟩)
              refine start_ (n := 16) (S := Bt8 ⟨w.heap.size + 2, 0, none⟩ ⟨w.heap.size + 2, 1, none⟩ ⟨w.heap.size + 2, 2, none⟩ ⟨w.heap.size + 2, 3, none⟩ ⟨w.heap.size + 3, 0, none⟩ ⟨w.heap.size + 3, 1, none⟩ ⟨w.heap.size + 3, 2, none⟩ ⟨w.heap.size + 3, 3, none⟩ (.int .i64 x.f0) (.int .i64 x.f1) (.int .i64 x.f2) (.slice C3 x.f3.length c3) (.int .i64 y.f0) (.int .i64 y.f1) (.int .i64 y.f2) (.slice D3 y.f3.length d3) v33) (ds := []) #[false, false, false, false, false, false, false, false, false, false, false, false, false, false, false, false] (by kernel_rfl) rfl rfl (H8.out.of (below_drew1 (Below.refl _ _))) (fun hHeld => ?_)
              generalize v33.drew = v37 at hHeld ⊢
              refine with_tabW moE_tab19 moE_bits19 (fun HT_ HW_ => ?_)
              refine pure_ (i := 0) (N := some 108) (v := ?_) (a' := ?_) #[true, false, false, false, false, false, false, false, false, false, false, false, false, false, false, false] rfl rfl (any_of HT_.out (by kernel_rfl)) (fun _ _ _ h => h) (Or.inl ⟨by rfl, ?_⟩) ?_ ?_
              rotate_left
              · intro w'
                go_simp
                with_reducible rfl
              rotate_left
              · simp only [Act.put, List.setIfInBounds_toArray, List.set_cons_zero, List.set_cons_succ, i64_w, i32_w]
                rfl
              refine pure_ (i := 1) (N := some 109) (v := ?_) (a' := ?_) #[true, true, false, false, false, false, false, false, false, false, false, false, false, false, false, false] rfl rfl (any_of HT_.out (by kernel_rfl)) (fun _ _ _ h => h) (Or.inl ⟨by rfl, ?_⟩) ?_ ?_
              rotate_left
              · intro w'
                go_simp
                with_reducible rfl
              rotate_left
              · simp only [Act.put, List.setIfInBounds_toArray, List.set_cons_zero, List.set_cons_succ, i64_w, i32_w]
                rfl
              refine pure_ (i := 2) (N := some 110) (v := ?_) (a' := ?_) #[true, true, true, false, false, false, false, false, false, false, false, false, false, false, false, false] rfl rfl (any_of HT_.out (by kernel_rfl)) (fun _ _ _ h => h) (Or.inl ⟨by rfl, ?_⟩) ?_ ?_
              rotate_left
              · intro w'
                go_simp
                with_reducible rfl
              rotate_left
              · simp only [Act.put, List.setIfInBounds_toArray, List.set_cons_zero, List.set_cons_succ, i64_w, i32_w]
                rfl
              refine pure_ (i := 3) (N := some 111) (v := undef) (a' := ?_) #[true, true, true, true, false, false, false, false, false, false, false, false, false, false, false, false] rfl rfl (any_of HT_.out (by kernel_rfl)) (fun _ _ _ h => h) (Or.inr ⟨by rfl, rfl⟩) ?_ ?_
              rotate_left
              · simp only [Act.put, List.setIfInBounds_toArray, List.set_cons_zero, List.set_cons_succ, i64_w, i32_w]
                rfl
              refine pure_ (i := 4) (N := some 112) (v := undef) (a' := ?_) #[true, true, true, true, true, false, false, false, false, false, false, false, false, false, false, false] rfl rfl (any_of HT_.out (by kernel_rfl)) (fun _ _ _ h => h) (Or.inr ⟨by rfl, rfl⟩) ?_ ?_
              rotate_left
              · simp only [Act.put, List.setIfInBounds_toArray, List.set_cons_zero, List.set_cons_succ, i64_w, i32_w]
                rfl
              refine pure_ (i := 5) (N := some 113) (v := ?_) (a' := ?_) #[true, true, true, true, true, true, false, false, false, false, false, false, false, false, false, false] rfl rfl (any_of HT_.out (by kernel_rfl)) (fun _ _ _ h => h) (Or.inl ⟨by rfl, ?_⟩) ?_ ?_
              rotate_left
              · intro w'
                go_simp
                with_reducible rfl
              rotate_left
              · simp only [Act.put, List.setIfInBounds_toArray, List.set_cons_zero, List.set_cons_succ, i64_w, i32_w]
                rfl
              refine pure_ (i := 6) (N := some 114) (v := ?_) (a' := ?_) #[true, true, true, true, true, true, true, false, false, false, false, false, false, false, false, false] rfl rfl (any_of HT_.out (by kernel_rfl)) (fun _ _ _ h => h) (Or.inl ⟨by rfl, ?_⟩) ?_ ?_
              rotate_left
              · intro w'
                go_simp
                with_reducible rfl
              rotate_left
              · simp only [Act.put, List.setIfInBounds_toArray, List.set_cons_zero, List.set_cons_succ, i64_w, i32_w]
                rfl
              refine pure_ (i := 7) (N := some 115) (v := undef) (a' := ?_) #[true, true, true, true, true, true, true, true, false, false, false, false, false, false, false, false] rfl rfl (any_of HT_.out (by kernel_rfl)) (fun _ _ _ h => h) (Or.inr ⟨by rfl, rfl⟩) ?_ ?_
              rotate_left
              · simp only [Act.put, List.setIfInBounds_toArray, List.set_cons_zero, List.set_cons_succ, i64_w, i32_w]
                rfl
              refine pure_ (i := 8) (N := some 116) (v := undef) (a' := ?_) #[true, true, true, true, true, true, true, true, true, false, false, false, false, false, false, false] rfl rfl (any_of HT_.out (by kernel_rfl)) (fun _ _ _ h => h) (Or.inr ⟨by rfl, rfl⟩) ?_ ?_
              rotate_left
              · simp only [Act.put, List.setIfInBounds_toArray, List.set_cons_zero, List.set_cons_succ, i64_w, i32_w]
                rfl
              refine pure_ (i := 9) (N := some 117) (v := undef) (a' := ?_) #[true, true, true, true, true, true, true, true, true, true, false, false, false, false, false, false] rfl rfl (any_of HT_.out (by kernel_rfl)) (fun _ _ _ h => h) (Or.inr ⟨by rfl, rfl⟩) ?_ ?_
              rotate_left
              · simp only [Act.put, List.setIfInBounds_toArray, List.set_cons_zero, List.set_cons_succ, i64_w, i32_w]
                rfl
              refine pure_ (i := 10) (N := some 118) (v := undef) (a' := ?_) #[true, true, true, true, true, true, true, true, true, true, true, false, false, false, false, false] rfl rfl (any_of HT_.out (by kernel_rfl)) (fun _ _ _ h => h) (Or.inr ⟨by rfl, rfl⟩) ?_ ?_
              rotate_left
              · simp only [Act.put, List.setIfInBounds_toArray, List.set_cons_zero, List.set_cons_succ, i64_w, i32_w]
                rfl
              refine pure_ (i := 11) (N := some 119) (v := undef) (a' := ?_) #[true, true, true, true, true, true, true, true, true, true, true, true, false, false, false, false] rfl rfl (any_of HT_.out (by kernel_rfl)) (fun _ _ _ h => h) (Or.inr ⟨by rfl, rfl⟩) ?_ ?_
              rotate_left
              · simp only [Act.put, List.setIfInBounds_toArray, List.set_cons_zero, List.set_cons_succ, i64_w, i32_w]
                rfl
              refine pure_ (i := 12) (N := some 120) (v := undef) (a' := ?_) #[true, true, true, true, true, true, true, true, true, true, true, true, true, false, false, false] rfl rfl (any_of HT_.out (by kernel_rfl)) (fun _ _ _ h => h) (Or.inr ⟨by rfl, rfl⟩) ?_ ?_
              rotate_left
              · simp only [Act.put, List.setIfInBounds_toArray, List.set_cons_zero, List.set_cons_succ, i64_w, i32_w]
                rfl
              refine pure_ (i := 13) (N := some 121) (v := undef) (a' := ?_) #[true, true, true, true, true, true, true, true, true, true, true, true, true, true, false, false] rfl rfl (any_of HT_.out (by kernel_rfl)) (fun _ _ _ h => h) (Or.inr ⟨by rfl, rfl⟩) ?_ ?_
              rotate_left
              · simp only [Act.put, List.setIfInBounds_toArray, List.set_cons_zero, List.set_cons_succ, i64_w, i32_w]
                rfl
              refine pure_ (i := 14) (N := some 122) (v := ?_) (a' := ?_) #[true, true, true, true, true, true, true, true, true, true, true, true, true, true, true, false] rfl rfl (any_of HT_.out (by kernel_rfl)) (fun _ _ _ h => h) (Or.inl ⟨by rfl, ?_⟩) ?_ ?_
              rotate_left
              · intro w'
                go_simp
                with_reducible rfl
              rotate_left
              · simp only [Act.put, List.setIfInBounds_toArray, List.set_cons_zero, List.set_cons_succ, i64_w, i32_w]
                rfl
              refine pure_ (i := 15) (N := some 8) (v := ?_) (a' := ?_) #[true, true, true, true, true, true, true, true, true, true, true, true, true, true, true, true] rfl rfl (any_of HT_.out (by kernel_rfl)) (fun _ _ _ h => h) (Or.inl ⟨by rfl, ?_⟩) ?_ ?_
              rotate_left
              · intro w'
                go_simp
                with_reducible rfl
              rotate_left
              · simp only [Act.put, List.setIfInBounds_toArray, List.set_cons_zero, List.set_cons_succ, i64_w, i32_w]
                rfl
              refine done_ (done_of HT_.out (by kernel_rfl)) ?_
              have HF := Aside0.mk (HX33.out.step hHeld.2.2.2.2.2.2.2.2)
              clear hHeld
              go_wp2_with (fail)
              go_ret
              exact ⟨rfl, HF.out.below⟩
        · have ha0 : (u1 == 0) = false := beq_eq_false_iff_ne.mpr hu1
          clear hu1
          go_upto_region 11 with (fail)
          have H10 := Aside0.mk (show Bt10 ⟨w.heap.size, 0, none⟩ ⟨w.heap.size, 1, none⟩ ⟨w.heap.size, 2, none⟩ ⟨w.heap.size, 3, none⟩ ⟨w.heap.size, 4, none⟩ ⟨w.heap.size + 1, 0, none⟩ ⟨w.heap.size + 1, 1, none⟩ ⟨w.heap.size + 1, 2, none⟩ ⟨w.heap.size + 1, 3, none⟩ ⟨w.heap.size + 1, 4, none⟩ (.int .i64 l.f0.f0) (.int .i64 l.f0.f1) (.int .i64 l.f1) (.slice A2 l.f2.length a2) (.slice A3 l.f3.length a3) (.int .i64 k.f0.f0) (.int .i64 k.f0.f1) (.int .i64 k.f1) (.slice B2 k.f2.length b2) (.slice B3 k.f3.length b3) v7 v7 from ⟨(blk_cell HX7.out.h0 0).trans rfl, (blk_cell HX7.out.h0 1).trans rfl, (blk_cell HX7.out.h0 2).trans rfl, (blk_cell HX7.out.h0 3).trans rfl, (blk_cell HX7.out.h0 4).trans rfl, (blk_cell HX7.out.h1 0).trans rfl, (blk_cell HX7.out.h1 1).trans rfl, (blk_cell HX7.out.h1 2).trans rfl, (blk_cell HX7.out.h1 3).trans rfl, (blk_cell HX7.out.h1 4).trans rfl, Below.refl _ _⟩)
          refine start_ (n := 15) (S := Bt10 ⟨w.heap.size, 0, none⟩ ⟨w.heap.size, 1, none⟩ ⟨w.heap.size, 2, none⟩ ⟨w.heap.size, 3, none⟩ ⟨w.heap.size, 4, none⟩ ⟨w.heap.size + 1, 0, none⟩ ⟨w.heap.size + 1, 1, none⟩ ⟨w.heap.size + 1, 2, none⟩ ⟨w.heap.size + 1, 3, none⟩ ⟨w.heap.size + 1, 4, none⟩ (.int .i64 l.f0.f0) (.int .i64 l.f0.f1) (.int .i64 l.f1) (.slice A2 l.f2.length a2) (.slice A3 l.f3.length a3) (.int .i64 k.f0.f0) (.int .i64 k.f0.f1) (.int .i64 k.f1) (.slice B2 k.f2.length b2) (.slice B3 k.f3.length b3) v7) (ds := []) #[false, false, false, false, false, false, false, false, false, false, false, false, false, false, false] (by kernel_rfl) rfl rfl (H10.out.of (below_drew1 (Below.refl _ _))) (fun hHeld => ?_)
          generalize v7.drew = v11 at hHeld ⊢
          refine with_tabW moL_tab11 moL_bits11 (fun HT_ HW_ => ?_)
          refine pure_ (i := 0) (N := some 66) (v := ?_) (a' := ?_) #[true, false, false, false, false, false, false, false, false, false, false, false, false, false, false] rfl rfl (any_of HT_.out (by kernel_rfl)) (fun _ _ _ h => h) (Or.inl ⟨by rfl, ?_⟩) ?_ ?_
          rotate_left
          · intro w'
            go_simp
            with_reducible rfl
          rotate_left
          · simp only [Act.put, List.setIfInBounds_toArray, List.set_cons_zero, List.set_cons_succ, i64_w, i32_w]
            rfl
          refine pure_ (i := 1) (N := some 67) (v := ?_) (a' := ?_) #[true, true, false, false, false, false, false, false, false, false, false, false, false, false, false] rfl rfl (any_of HT_.out (by kernel_rfl)) (fun _ _ _ h => h) (Or.inl ⟨by rfl, ?_⟩) ?_ ?_
          rotate_left
          · intro w'
            go_simp
            with_reducible rfl
          rotate_left
          · simp only [Act.put, List.setIfInBounds_toArray, List.set_cons_zero, List.set_cons_succ, i64_w, i32_w]
            rfl
          refine pure_ (i := 2) (N := some 68) (v := ?_) (a' := ?_) #[true, true, true, false, false, false, false, false, false, false, false, false, false, false, false] rfl rfl (any_of HT_.out (by kernel_rfl)) (fun _ _ _ h => h) (Or.inl ⟨by rfl, ?_⟩) ?_ ?_
          rotate_left
          · intro w'
            go_simp
            with_reducible rfl
          rotate_left
          · simp only [Act.put, List.setIfInBounds_toArray, List.set_cons_zero, List.set_cons_succ, i64_w, i32_w]
            rfl
          refine pure_ (i := 3) (N := some 69) (v := undef) (a' := ?_) #[true, true, true, true, false, false, false, false, false, false, false, false, false, false, false] rfl rfl (any_of HT_.out (by kernel_rfl)) (fun _ _ _ h => h) (Or.inr ⟨by rfl, rfl⟩) ?_ ?_
          rotate_left
          · simp only [Act.put, List.setIfInBounds_toArray, List.set_cons_zero, List.set_cons_succ, i64_w, i32_w]
            rfl
          refine pure_ (i := 4) (N := some 70) (v := undef) (a' := ?_) #[true, true, true, true, true, false, false, false, false, false, false, false, false, false, false] rfl rfl (any_of HT_.out (by kernel_rfl)) (fun _ _ _ h => h) (Or.inr ⟨by rfl, rfl⟩) ?_ ?_
          rotate_left
          · simp only [Act.put, List.setIfInBounds_toArray, List.set_cons_zero, List.set_cons_succ, i64_w, i32_w]
            rfl
          refine pure_ (i := 5) (N := some 71) (v := ?_) (a' := ?_) #[true, true, true, true, true, true, false, false, false, false, false, false, false, false, false] rfl rfl (any_of HT_.out (by kernel_rfl)) (fun _ _ _ h => h) (Or.inl ⟨by rfl, ?_⟩) ?_ ?_
          rotate_left
          · intro w'
            go_simp
            with_reducible rfl
          rotate_left
          · simp only [Act.put, List.setIfInBounds_toArray, List.set_cons_zero, List.set_cons_succ, i64_w, i32_w]
            rfl
          refine pure_ (i := 6) (N := some 72) (v := ?_) (a' := ?_) #[true, true, true, true, true, true, true, false, false, false, false, false, false, false, false] rfl rfl (any_of HT_.out (by kernel_rfl)) (fun _ _ _ h => h) (Or.inl ⟨by rfl, ?_⟩) ?_ ?_
          rotate_left
          · intro w'
            go_simp
            with_reducible rfl
          rotate_left
          · simp only [Act.put, List.setIfInBounds_toArray, List.set_cons_zero, List.set_cons_succ, i64_w, i32_w]
            rfl
          refine pure_ (i := 7) (N := some 73) (v := undef) (a' := ?_) #[true, true, true, true, true, true, true, true, false, false, false, false, false, false, false] rfl rfl (any_of HT_.out (by kernel_rfl)) (fun _ _ _ h => h) (Or.inr ⟨by rfl, rfl⟩) ?_ ?_
          rotate_left
          · simp only [Act.put, List.setIfInBounds_toArray, List.set_cons_zero, List.set_cons_succ, i64_w, i32_w]
            rfl
          refine pure_ (i := 8) (N := some 74) (v := undef) (a' := ?_) #[true, true, true, true, true, true, true, true, true, false, false, false, false, false, false] rfl rfl (any_of HT_.out (by kernel_rfl)) (fun _ _ _ h => h) (Or.inr ⟨by rfl, rfl⟩) ?_ ?_
          rotate_left
          · simp only [Act.put, List.setIfInBounds_toArray, List.set_cons_zero, List.set_cons_succ, i64_w, i32_w]
            rfl
          refine pure_ (i := 9) (N := some 75) (v := undef) (a' := ?_) #[true, true, true, true, true, true, true, true, true, true, false, false, false, false, false] rfl rfl (any_of HT_.out (by kernel_rfl)) (fun _ _ _ h => h) (Or.inr ⟨by rfl, rfl⟩) ?_ ?_
          rotate_left
          · simp only [Act.put, List.setIfInBounds_toArray, List.set_cons_zero, List.set_cons_succ, i64_w, i32_w]
            rfl
          refine pure_ (i := 10) (N := some 76) (v := undef) (a' := ?_) #[true, true, true, true, true, true, true, true, true, true, true, false, false, false, false] rfl rfl (any_of HT_.out (by kernel_rfl)) (fun _ _ _ h => h) (Or.inr ⟨by rfl, rfl⟩) ?_ ?_
          rotate_left
          · simp only [Act.put, List.setIfInBounds_toArray, List.set_cons_zero, List.set_cons_succ, i64_w, i32_w]
            rfl
          refine pure_ (i := 11) (N := some 77) (v := undef) (a' := ?_) #[true, true, true, true, true, true, true, true, true, true, true, true, false, false, false] rfl rfl (any_of HT_.out (by kernel_rfl)) (fun _ _ _ h => h) (Or.inr ⟨by rfl, rfl⟩) ?_ ?_
          rotate_left
          · simp only [Act.put, List.setIfInBounds_toArray, List.set_cons_zero, List.set_cons_succ, i64_w, i32_w]
            rfl
          refine pure_ (i := 12) (N := some 78) (v := undef) (a' := ?_) #[true, true, true, true, true, true, true, true, true, true, true, true, true, false, false] rfl rfl (any_of HT_.out (by kernel_rfl)) (fun _ _ _ h => h) (Or.inr ⟨by rfl, rfl⟩) ?_ ?_
          rotate_left
          · simp only [Act.put, List.setIfInBounds_toArray, List.set_cons_zero, List.set_cons_succ, i64_w, i32_w]
            rfl
          refine pure_ (i := 13) (N := some 79) (v := undef) (a' := ?_) #[true, true, true, true, true, true, true, true, true, true, true, true, true, true, false] rfl rfl (any_of HT_.out (by kernel_rfl)) (fun _ _ _ h => h) (Or.inr ⟨by rfl, rfl⟩) ?_ ?_
          rotate_left
          · simp only [Act.put, List.setIfInBounds_toArray, List.set_cons_zero, List.set_cons_succ, i64_w, i32_w]
            rfl
          refine pure_ (i := 14) (N := some 80) (v := ?_) (a' := ?_) #[true, true, true, true, true, true, true, true, true, true, true, true, true, true, true] rfl rfl (any_of HT_.out (by kernel_rfl)) (fun _ _ _ h => h) (Or.inl ⟨by rfl, ?_⟩) ?_ ?_
          rotate_left
          · intro w'
            go_simp
            with_reducible rfl
          rotate_left
          · simp only [Act.put, List.setIfInBounds_toArray, List.set_cons_zero, List.set_cons_succ, i64_w, i32_w]
            rfl
          refine done_ (done_of HT_.out (by kernel_rfl)) ?_
          have HX20 := Aside0.mk (HX7.out.step hHeld.2.2.2.2.2.2.2.2.2.2)
          clear hHeld
          clear ha0
          have x0 : v11.cell? ⟨w.heap.size + 2, 0, none⟩ = some (.int .i64 x.f0) := (blk_cell HX20.out.h2 0).trans rfl
          have x1 : v11.cell? ⟨w.heap.size + 2, 1, none⟩ = some (.int .i64 x.f1) := (blk_cell HX20.out.h2 1).trans rfl
          have x2 : v11.cell? ⟨w.heap.size + 2, 2, none⟩ = some (.int .i64 x.f2) := (blk_cell HX20.out.h2 2).trans rfl
          have x3 : v11.cell? ⟨w.heap.size + 2, 3, none⟩ = some (.slice C3 x.f3.length c3) := (blk_cell HX20.out.h2 3).trans rfl
          go_wp2_with (fail)
          have hE := copyEntry_calls x C3 c3 v11 (Kd.C_below HE.out.1 HX20.out.below) HE.out.2.1 HE.out.2.2.1
          with_reducible refine hE.mono ?_
          clear hE
          rintro e v30 ⟨hB, G1, g1, rfl, hR⟩
          have HX30 := Aside0.mk (HX20.out.step hB)
          clear x0 x1 x2 x3
          have HR1 := Aside0.mk hR
          clear hR hB
          go_wp2_with (fail)
          obtain ⟨z3, u3, hz3⟩ : ∃ z u, entryP x = (z, u) := ⟨_, _, rfl⟩
          have hE := pack74_calls x G1 g1 z3 u3 v30 (Kd.R_reads' HR1.out).2.2 (Kd.R_reads' HR1.out).2.1 hz3
          with_reducible refine hE.mono ?_
          clear hE
          rintro e v31 ⟨P3, p3, rfl, hp, hC, hB⟩
          have HX31 := Aside0.mk (HX30.out.step hB)
          have HZ3 := Aside0.mk hz3
          have HP3 := Aside0.mk hp
          have HC3_31 := Aside0.mk hC
          clear hz3 hp hC hB
          have y0 : v31.cell? ⟨w.heap.size + 3, 0, none⟩ = some (.int .i64 y.f0) := (blk_cell HX31.out.h3 0).trans rfl
          have y1 : v31.cell? ⟨w.heap.size + 3, 1, none⟩ = some (.int .i64 y.f1) := (blk_cell HX31.out.h3 1).trans rfl
          have y2 : v31.cell? ⟨w.heap.size + 3, 2, none⟩ = some (.int .i64 y.f2) := (blk_cell HX31.out.h3 2).trans rfl
          have y3 : v31.cell? ⟨w.heap.size + 3, 3, none⟩ = some (.slice D3 y.f3.length d3) := (blk_cell HX31.out.h3 3).trans rfl
          go_wp2_with (fail)
          have hE := copyEntry_calls y D3 d3 v31 (Kd.C_below HG.out.1 HX31.out.below) HG.out.2.1 HG.out.2.2.1
          with_reducible refine hE.mono ?_
          clear hE
          rintro e v32 ⟨hB, G2, g2, rfl, hR⟩
          have HX32 := Aside0.mk (HX31.out.step hB)
          have HC3_32 := Aside0.mk (Kd.C_below HC3_31.out hB)
          clear y0 y1 y2 y3
          have HR2 := Aside0.mk hR
          clear hR hB
          go_wp2_with (fail)
          obtain ⟨z4, u4, hz4⟩ : ∃ z u, entryP y = (z, u) := ⟨_, _, rfl⟩
          have hE := pack74_calls y G2 g2 z4 u4 v32 (Kd.R_reads' HR2.out).2.2 (Kd.R_reads' HR2.out).2.1 hz4
          with_reducible refine hE.mono ?_
          clear hE
          rintro e v33 ⟨P4, p4, rfl, hp, hC, hB⟩
          have HX33 := Aside0.mk (HX32.out.step hB)
          have HC3_33 := Aside0.mk (Kd.C_below HC3_32.out hB)
          have HZ4 := Aside0.mk hz4
          have HP4 := Aside0.mk hp
          have HC4_33 := Aside0.mk hC
          clear hz4 hp hC hB
          by_cases hu3 : u3 = 0
          · subst hu3
            go_wp2_with (fail)
            have hE := read79_calls P3 p3 z3 (some x) v33 HC3_33.out HP3.out (entryP_all HE.out.2.2.2 HZ3.out).2.1 (entryP_all HE.out.2.2.2 HZ3.out).2.2 (entryP_all HE.out.2.2.2 HZ3.out).1
            with_reducible refine hE.mono ?_
            clear hE
            rintro e v34 ⟨hB, R3, r3, rfl, hC, hl⟩
            have HX34 := Aside0.mk (HX33.out.step hB)
            have HC3_34 := Aside0.mk (Kd.C_below HC3_33.out hB)
            have HC4_34 := Aside0.mk (Kd.C_below HC4_33.out hB)
            have HRC := Aside0.mk hC
            have HRl := Aside0.mk hl
            clear hB hC hl
            have HN0 := Aside0.mk (blk_new v34 (.cells #[.int .i64 0, .int .i64 0, .int .i64 0, .slice none 0 0] 87))
            have HK0 := Aside0.mk (below_alloc (Below.refl v34.heap.size v34) (.cells #[.int .i64 0, .int .i64 0, .int .i64 0, .slice none 0 0] 87))
            go_upto_region 17 with (refine wpList_store_row rfl 87 (.tmp 17) (.tmp 98) rfl v34.heap.size #[.int .i64 x.f0, .int .i64 x.f1, .int .i64 x.f2, .slice R3 x.f3.length r3] rfl rfl 87 _ HN0.out size87 rfl (by simp [Value.oneCell']) ?_; have HN1 := Aside0.mk (setRow_heap _ _ _ #[.int .i64 x.f0, .int .i64 x.f1, .int .i64 x.f2, .slice R3 x.f3.length r3] _ _ HN0.out); have HK1 := Aside0.mk (below_setRow HK0.out (Nat.le_refl _) #[.int .i64 x.f0, .int .i64 x.f1, .int .i64 x.f2, .slice R3 x.f3.length r3]))
            generalize (v34.alloc (.cells #[.int .i64 0, .int .i64 0, .int .i64 0, .slice none 0 0] 87)).setRow v34.heap.size #[.int .i64 x.f0, .int .i64 x.f1, .int .i64 x.f2, .slice R3 x.f3.length r3] = v35 at HN1 HK1 ⊢
            have HX35 := Aside0.mk (HX34.out.step HK1.out)
            have HC3_35 := Aside0.mk (Kd.C_below HC3_34.out HK1.out)
            have HC4_35 := Aside0.mk (Kd.C_below HC4_34.out HK1.out)
            have HRC_35 := Aside0.mk (Kd.C_below HRC.out HK1.out)
            have t0 : v35.cell? ⟨v34.heap.size, 0, none⟩ = some (.int .i64 x.f0) := (blk_cell HN1.out 0).trans rfl
            have t1 : v35.cell? ⟨v34.heap.size, 1, none⟩ = some (.int .i64 x.f1) := (blk_cell HN1.out 1).trans rfl
            have t2 : v35.cell? ⟨v34.heap.size, 2, none⟩ = some (.int .i64 x.f2) := (blk_cell HN1.out 2).trans rfl
            have t3 : v35.cell? ⟨v34.heap.size, 3, none⟩ = some (.slice R3 x.f3.length r3) := (blk_cell HN1.out 3).trans rfl
            have x0 : v35.cell? ⟨w.heap.size + 2, 0, none⟩ = some (.int .i64 x.f0) := (blk_cell HX35.out.h2 0).trans rfl
            have x1 : v35.cell? ⟨w.heap.size + 2, 1, none⟩ = some (.int .i64 x.f1) := (blk_cell HX35.out.h2 1).trans rfl
            have x2 : v35.cell? ⟨w.heap.size + 2, 2, none⟩ = some (.int .i64 x.f2) := (blk_cell HX35.out.h2 2).trans rfl
            have x3 : v35.cell? ⟨w.heap.size + 2, 3, none⟩ = some (.slice C3 x.f3.length c3) := (blk_cell HX35.out.h2 3).trans rfl
            go_wp2_with (fail)
            have hE := sameEntry_is x x R3 C3 r3 c3 true v35 HRC_35.out HRl.out (Kd.C_below HE.out.1 HX35.out.below) HE.out.2.1 (by simp [sameE])
            with_reducible refine hE.mono ?_
            clear hE
            rintro e v36 ⟨rfl, hB⟩
            have HX36 := Aside0.mk (HX35.out.step hB)
            have HC3_36 := Aside0.mk (Kd.C_below HC3_35.out hB)
            have HC4_36 := Aside0.mk (Kd.C_below HC4_35.out hB)
            clear hB t0 t1 t2 t3 x0 x1 x2 x3
            by_cases hu4 : u4 = 0
            · subst hu4
              obtain ⟨q, hq⟩ : ∃ q, decide (z3 = z4) = q := ⟨_, rfl⟩
              have HQ8 := Aside0.mk hq
              have HS := Aside0.mk ((same_entry HE.out.2.2.2 HG.out.2.2.2 HZ3.out HZ4.out).trans hq)
              clear hq
              go_upto_region 19 with (fail)
              have H8 := Aside0.mk (show Bt8 ⟨w.heap.size + 2, 0, none⟩ ⟨w.heap.size + 2, 1, none⟩ ⟨w.heap.size + 2, 2, none⟩ ⟨w.heap.size + 2, 3, none⟩ ⟨w.heap.size + 3, 0, none⟩ ⟨w.heap.size + 3, 1, none⟩ ⟨w.heap.size + 3, 2, none⟩ ⟨w.heap.size + 3, 3, none⟩ (.int .i64 x.f0) (.int .i64 x.f1) (.int .i64 x.f2) (.slice C3 x.f3.length c3) (.int .i64 y.f0) (.int .i64 y.f1) (.int .i64 y.f2) (.slice D3 y.f3.length d3) v36 v36 from ⟨(blk_cell HX36.out.h2 0).trans rfl, (blk_cell HX36.out.h2 1).trans rfl, (blk_cell HX36.out.h2 2).trans rfl, (blk_cell HX36.out.h2 3).trans rfl, (blk_cell HX36.out.h3 0).trans rfl, (blk_cell HX36.out.h3 1).trans rfl, (blk_cell HX36.out.h3 2).trans rfl, (blk_cell HX36.out.h3 3).trans rfl, Below.refl _ _⟩)
              refine start_ (n := 16) (S := Bt8 ⟨w.heap.size + 2, 0, none⟩ ⟨w.heap.size + 2, 1, none⟩ ⟨w.heap.size + 2, 2, none⟩ ⟨w.heap.size + 2, 3, none⟩ ⟨w.heap.size + 3, 0, none⟩ ⟨w.heap.size + 3, 1, none⟩ ⟨w.heap.size + 3, 2, none⟩ ⟨w.heap.size + 3, 3, none⟩ (.int .i64 x.f0) (.int .i64 x.f1) (.int .i64 x.f2) (.slice C3 x.f3.length c3) (.int .i64 y.f0) (.int .i64 y.f1) (.int .i64 y.f2) (.slice D3 y.f3.length d3) v36) (ds := []) #[false, false, false, false, false, false, false, false, false, false, false, false, false, false, false, false] (by kernel_rfl) rfl rfl (H8.out.of (below_drew1 (Below.refl _ _))) (fun hHeld => ?_)
              generalize v36.drew = v37 at hHeld ⊢
              refine with_tabW moE_tab19 moE_bits19 (fun HT_ HW_ => ?_)
              refine pure_ (i := 0) (N := some 108) (v := ?_) (a' := ?_) #[true, false, false, false, false, false, false, false, false, false, false, false, false, false, false, false] rfl rfl (any_of HT_.out (by kernel_rfl)) (fun _ _ _ h => h) (Or.inl ⟨by rfl, ?_⟩) ?_ ?_
              rotate_left
              · intro w'
                go_simp
                with_reducible rfl
              rotate_left
              · simp only [Act.put, List.setIfInBounds_toArray, List.set_cons_zero, List.set_cons_succ, i64_w, i32_w]
                rfl
              refine pure_ (i := 1) (N := some 109) (v := ?_) (a' := ?_) #[true, true, false, false, false, false, false, false, false, false, false, false, false, false, false, false] rfl rfl (any_of HT_.out (by kernel_rfl)) (fun _ _ _ h => h) (Or.inl ⟨by rfl, ?_⟩) ?_ ?_
              rotate_left
              · intro w'
                go_simp
                with_reducible rfl
              rotate_left
              · simp only [Act.put, List.setIfInBounds_toArray, List.set_cons_zero, List.set_cons_succ, i64_w, i32_w]
                rfl
              refine pure_ (i := 2) (N := some 110) (v := ?_) (a' := ?_) #[true, true, true, false, false, false, false, false, false, false, false, false, false, false, false, false] rfl rfl (any_of HT_.out (by kernel_rfl)) (fun _ _ _ h => h) (Or.inl ⟨by rfl, ?_⟩) ?_ ?_
              rotate_left
              · intro w'
                go_simp
                with_reducible rfl
              rotate_left
              · simp only [Act.put, List.setIfInBounds_toArray, List.set_cons_zero, List.set_cons_succ, i64_w, i32_w]
                rfl
              refine pure_ (i := 3) (N := some 111) (v := ?_) (a' := ?_) #[true, true, true, true, false, false, false, false, false, false, false, false, false, false, false, false] rfl rfl (any_of HT_.out (by kernel_rfl)) (fun _ _ _ h => h) (Or.inl ⟨by rfl, ?_⟩) ?_ ?_
              rotate_left
              · intro w'
                go_simp
                with_reducible rfl
              rotate_left
              · simp only [Act.put, List.setIfInBounds_toArray, List.set_cons_zero, List.set_cons_succ, i64_w, i32_w]
                rfl
              refine pure_ (i := 4) (N := some 112) (v := ?_) (a' := ?_) #[true, true, true, true, true, false, false, false, false, false, false, false, false, false, false, false] rfl rfl (any_of HT_.out (by kernel_rfl)) (fun _ _ _ h => h) (Or.inl ⟨by rfl, ?_⟩) ?_ ?_
              rotate_left
              · intro w'
                go_simp
                with_reducible rfl
              rotate_left
              · simp only [Act.put, List.setIfInBounds_toArray, List.set_cons_zero, List.set_cons_succ, i64_w, i32_w]
                rfl
              refine pure_ (i := 5) (N := some 113) (v := ?_) (a' := ?_) #[true, true, true, true, true, true, false, false, false, false, false, false, false, false, false, false] rfl rfl (any_of HT_.out (by kernel_rfl)) (fun _ _ _ h => h) (Or.inl ⟨by rfl, ?_⟩) ?_ ?_
              rotate_left
              · intro w'
                go_simp
                with_reducible rfl
              rotate_left
              · simp only [Act.put, List.setIfInBounds_toArray, List.set_cons_zero, List.set_cons_succ, i64_w, i32_w]
                rfl
              refine pure_ (i := 6) (N := some 114) (v := ?_) (a' := ?_) #[true, true, true, true, true, true, true, false, false, false, false, false, false, false, false, false] rfl rfl (any_of HT_.out (by kernel_rfl)) (fun _ _ _ h => h) (Or.inl ⟨by rfl, ?_⟩) ?_ ?_
              rotate_left
              · intro w'
                go_simp
                with_reducible rfl
              rotate_left
              · simp only [Act.put, List.setIfInBounds_toArray, List.set_cons_zero, List.set_cons_succ, i64_w, i32_w]
                rfl
              refine pure_ (i := 7) (N := some 115) (v := ?_) (a' := ?_) #[true, true, true, true, true, true, true, true, false, false, false, false, false, false, false, false] rfl rfl (any_of HT_.out (by kernel_rfl)) (fun _ _ _ h => h) (Or.inl ⟨by rfl, ?_⟩) ?_ ?_
              rotate_left
              · intro w'
                go_simp
                with_reducible rfl
              rotate_left
              · simp only [Act.put, List.setIfInBounds_toArray, List.set_cons_zero, List.set_cons_succ, i64_w, i32_w]
                rfl
              refine pure_ (i := 8) (N := some 116) (v := ?_) (a' := ?_) #[true, true, true, true, true, true, true, true, true, false, false, false, false, false, false, false] rfl rfl (any_of HT_.out (by kernel_rfl)) (fun _ _ _ h => h) (Or.inl ⟨by rfl, ?_⟩) ?_ ?_
              rotate_left
              · intro w'
                go_simp
                with_reducible rfl
              rotate_left
              · simp only [Act.put, List.setIfInBounds_toArray, List.set_cons_zero, List.set_cons_succ, i64_w, i32_w]
                rfl
              refine take_ (i := 10) (N := some 118) (v := ?_) (a' := ?_) #[true, true, true, true, true, true, true, true, true, false, true, false, false, false, false, false] rfl rfl (take_ofW HT_.out HW_.out (by kernel_rfl)) (fun _ _ _ h => h) (Or.inl ⟨by rfl, ?_⟩) hHeld ?_ ?_
              rotate_left
              · rintro w' ⟨s0, s1, s2, s3, s4, s5, s6, s7, s8⟩
                go_simp
                with_reducible rfl
              rotate_left
              · simp only [Act.put, List.setIfInBounds_toArray, List.set_cons_zero, List.set_cons_succ, i64_w, i32_w]
                rfl
              refine take_ (i := 11) (N := some 119) (v := ?_) (a' := ?_) #[true, true, true, true, true, true, true, true, true, false, true, true, false, false, false, false] rfl rfl (take_ofW HT_.out HW_.out (by kernel_rfl)) (fun _ _ _ h => h) (Or.inl ⟨by rfl, ?_⟩) hHeld ?_ ?_
              rotate_left
              · rintro w' ⟨s0, s1, s2, s3, s4, s5, s6, s7, s8⟩
                go_simp
                with_reducible rfl
              rotate_left
              · simp only [Act.put, List.setIfInBounds_toArray, List.set_cons_zero, List.set_cons_succ, i64_w, i32_w]
                rfl
              refine one_ (i := 9) (N := some 117) #[true, true, true, true, true, true, true, true, true, true, true, true, false, false, false, false] rfl rfl (one_of HT_.out (by kernel_rfl)) (by decide) (fun K hK => ?_)
              refine goes_ Try.func27 (by kernel_rfl) rfl #[.slice P3 z3.length p3, .slice P4 z4.length p4] (by rfl) rfl rfl (by (try simp only [List.map_toArray, List.map_cons, List.map_nil]); first | done | rfl) ?_
              refine (sameBytes_is P3 p3 z3 P4 p4 z4 q _ (Kd.C_below HC3_36.out hHeld.2.2.2.2.2.2.2.2) HP3.out (Kd.C_below HC4_36.out hHeld.2.2.2.2.2.2.2.2) HP4.out HQ8.out).mono ?_
              rintro e s4 ⟨rfl, hD⟩
              refine ⟨_, rfl, ?_⟩
              have HB4 := Aside0.mk (below_then hHeld.2.2.2.2.2.2.2.2 hHeld.2.2.2.2.2.2.2.2.size hD.below)
              refine hK.out _ _ (H8.out.of HB4.out) (fun hHeld => ?_)
              clear hK K hD
              refine norm_ (a' := ?_) ?_ ?_
              rotate_left
              · show Act.put _ (some 117) _ = _
                simp only [Act.put, List.setIfInBounds_toArray, List.set_cons_zero, List.set_cons_succ, i64_w, i32_w]
                rfl
              refine one_ (i := 12) (N := some 120) #[true, true, true, true, true, true, true, true, true, true, true, true, true, false, false, false] rfl rfl (one_of HT_.out (by kernel_rfl)) (by decide) (fun K hK => ?_)
              refine goes_ Try.func82 (by kernel_rfl) rfl #[.agg #[.int .i64 x.f0, .int .i64 x.f1, .int .i64 x.f2, .slice C3 x.f3.length c3], .agg #[.int .i64 y.f0, .int .i64 y.f1, .int .i64 y.f2, .slice D3 y.f3.length d3]] (by rfl) rfl rfl (by (try simp only [List.map_toArray, List.map_cons, List.map_nil]); first | done | rfl) ?_
              refine (sameEntry_is x y C3 D3 c3 d3 q _ (Kd.C_below (Kd.C_below HE.out.1 HX36.out.below) hHeld.2.2.2.2.2.2.2.2) HE.out.2.1 (Kd.C_below (Kd.C_below HG.out.1 HX36.out.below) hHeld.2.2.2.2.2.2.2.2) HG.out.2.1 HS.out).mono ?_
              rintro e s5 ⟨rfl, hB⟩
              refine ⟨_, rfl, ?_⟩
              have HB5 := Aside0.mk (below_then hHeld.2.2.2.2.2.2.2.2 hHeld.2.2.2.2.2.2.2.2.size hB)
              refine hK.out _ _ (H8.out.of HB5.out) (fun hHeld => ?_)
              clear hK K hB
              refine norm_ (a' := ?_) ?_ ?_
              rotate_left
              · show Act.put _ (some 120) _ = _
                simp only [Act.put, List.setIfInBounds_toArray, List.set_cons_zero, List.set_cons_succ, i64_w, i32_w]
                rfl
              refine pure_ (i := 13) (N := some 121) (v := ?_) (a' := ?_) #[true, true, true, true, true, true, true, true, true, true, true, true, true, true, false, false] rfl rfl (any_of HT_.out (by kernel_rfl)) (fun _ _ _ h => h) (Or.inl ⟨by rfl, ?_⟩) ?_ ?_
              rotate_left
              · intro w'
                go_simp
                with_reducible rfl
              rotate_left
              · simp only [Act.put, List.setIfInBounds_toArray, List.set_cons_zero, List.set_cons_succ, i64_w, i32_w]
                rfl
              refine pure_ (i := 14) (N := some 122) (v := ?_) (a' := ?_) #[true, true, true, true, true, true, true, true, true, true, true, true, true, true, true, false] rfl rfl (any_of HT_.out (by kernel_rfl)) (fun _ _ _ h => h) (Or.inl ⟨by rfl, ?_⟩) ?_ ?_
              rotate_left
              · intro w'
                go_simp
                with_reducible rfl
              rotate_left
              · simp only [Act.put, List.setIfInBounds_toArray, List.set_cons_zero, List.set_cons_succ, i64_w, i32_w]
                rfl
              refine pure_ (i := 15) (N := some 8) (v := ?_) (a' := ?_) #[true, true, true, true, true, true, true, true, true, true, true, true, true, true, true, true] rfl rfl (any_of HT_.out (by kernel_rfl)) (fun _ _ _ h => h) (Or.inl ⟨by rfl, ?_⟩) ?_ ?_
              rotate_left
              · intro w'
                go_simp
                with_reducible rfl
              rotate_left
              · simp only [Act.put, List.setIfInBounds_toArray, List.set_cons_zero, List.set_cons_succ, i64_w, i32_w]
                rfl
              refine done_ (done_of HT_.out (by kernel_rfl)) ?_
              have HF := Aside0.mk (HX36.out.step hHeld.2.2.2.2.2.2.2.2)
              clear hHeld
              go_wp2_with (fail)
              go_ret
              exact ⟨rfl, HF.out.below⟩
            · have hb0 : (u4 == 0) = false := beq_eq_false_iff_ne.mpr hu4
              have hb1 : (u4 != 0) = true := bne_iff_ne.mpr hu4
              clear hu4
              go_upto_region 19 with (fail)
              have H8 := Aside0.mk (show Bt8 ⟨w.heap.size + 2, 0, none⟩ ⟨w.heap.size + 2, 1, none⟩ ⟨w.heap.size + 2, 2, none⟩ ⟨w.heap.size + 2, 3, none⟩ ⟨w.heap.size + 3, 0, none⟩ ⟨w.heap.size + 3, 1, none⟩ ⟨w.heap.size + 3, 2, none⟩ ⟨w.heap.size + 3, 3, none⟩ (.int .i64 x.f0) (.int .i64 x.f1) (.int .i64 x.f2) (.slice C3 x.f3.length c3) (.int .i64 y.f0) (.int .i64 y.f1) (.int .i64 y.f2) (.slice D3 y.f3.length d3) v36 v36 from ⟨(blk_cell HX36.out.h2 0).trans rfl, (blk_cell HX36.out.h2 1).trans rfl, (blk_cell HX36.out.h2 2).trans rfl, (blk_cell HX36.out.h2 3).trans rfl, (blk_cell HX36.out.h3 0).trans rfl, (blk_cell HX36.out.h3 1).trans rfl, (blk_cell HX36.out.h3 2).trans rfl, (blk_cell HX36.out.h3 3).trans rfl, Below.refl _ _⟩)
              refine start_ (n := 16) (S := Bt8 ⟨w.heap.size + 2, 0, none⟩ ⟨w.heap.size + 2, 1, none⟩ ⟨w.heap.size + 2, 2, none⟩ ⟨w.heap.size + 2, 3, none⟩ ⟨w.heap.size + 3, 0, none⟩ ⟨w.heap.size + 3, 1, none⟩ ⟨w.heap.size + 3, 2, none⟩ ⟨w.heap.size + 3, 3, none⟩ (.int .i64 x.f0) (.int .i64 x.f1) (.int .i64 x.f2) (.slice C3 x.f3.length c3) (.int .i64 y.f0) (.int .i64 y.f1) (.int .i64 y.f2) (.slice D3 y.f3.length d3) v36) (ds := []) #[false, false, false, false, false, false, false, false, false, false, false, false, false, false, false, false] (by kernel_rfl) rfl rfl (H8.out.of (below_drew1 (Below.refl _ _))) (fun hHeld => ?_)
              generalize v36.drew = v37 at hHeld ⊢
              refine with_tabW moE_tab19 moE_bits19 (fun HT_ HW_ => ?_)
              refine pure_ (i := 0) (N := some 108) (v := ?_) (a' := ?_) #[true, false, false, false, false, false, false, false, false, false, false, false, false, false, false, false] rfl rfl (any_of HT_.out (by kernel_rfl)) (fun _ _ _ h => h) (Or.inl ⟨by rfl, ?_⟩) ?_ ?_
              rotate_left
              · intro w'
                go_simp
                with_reducible rfl
              rotate_left
              · simp only [Act.put, List.setIfInBounds_toArray, List.set_cons_zero, List.set_cons_succ, i64_w, i32_w]
                rfl
              refine pure_ (i := 1) (N := some 109) (v := ?_) (a' := ?_) #[true, true, false, false, false, false, false, false, false, false, false, false, false, false, false, false] rfl rfl (any_of HT_.out (by kernel_rfl)) (fun _ _ _ h => h) (Or.inl ⟨by rfl, ?_⟩) ?_ ?_
              rotate_left
              · intro w'
                go_simp
                with_reducible rfl
              rotate_left
              · simp only [Act.put, List.setIfInBounds_toArray, List.set_cons_zero, List.set_cons_succ, i64_w, i32_w]
                rfl
              refine pure_ (i := 2) (N := some 110) (v := ?_) (a' := ?_) #[true, true, true, false, false, false, false, false, false, false, false, false, false, false, false, false] rfl rfl (any_of HT_.out (by kernel_rfl)) (fun _ _ _ h => h) (Or.inl ⟨by rfl, ?_⟩) ?_ ?_
              rotate_left
              · intro w'
                go_simp
                with_reducible rfl
              rotate_left
              · simp only [Act.put, List.setIfInBounds_toArray, List.set_cons_zero, List.set_cons_succ, i64_w, i32_w]
                rfl
              refine pure_ (i := 3) (N := some 111) (v := ?_) (a' := ?_) #[true, true, true, true, false, false, false, false, false, false, false, false, false, false, false, false] rfl rfl (any_of HT_.out (by kernel_rfl)) (fun _ _ _ h => h) (Or.inl ⟨by rfl, ?_⟩) ?_ ?_
              rotate_left
              · intro w'
                go_simp
                with_reducible rfl
              rotate_left
              · simp only [Act.put, List.setIfInBounds_toArray, List.set_cons_zero, List.set_cons_succ, i64_w, i32_w]
                rfl
              refine pure_ (i := 4) (N := some 112) (v := ?_) (a' := ?_) #[true, true, true, true, true, false, false, false, false, false, false, false, false, false, false, false] rfl rfl (any_of HT_.out (by kernel_rfl)) (fun _ _ _ h => h) (Or.inl ⟨by rfl, ?_⟩) ?_ ?_
              rotate_left
              · intro w'
                go_simp
                with_reducible rfl
              rotate_left
              · simp only [Act.put, List.setIfInBounds_toArray, List.set_cons_zero, List.set_cons_succ, i64_w, i32_w]
                rfl
              refine pure_ (i := 5) (N := some 113) (v := ?_) (a' := ?_) #[true, true, true, true, true, true, false, false, false, false, false, false, false, false, false, false] rfl rfl (any_of HT_.out (by kernel_rfl)) (fun _ _ _ h => h) (Or.inl ⟨by rfl, ?_⟩) ?_ ?_
              rotate_left
              · intro w'
                go_simp
                with_reducible rfl
              rotate_left
              · simp only [Act.put, List.setIfInBounds_toArray, List.set_cons_zero, List.set_cons_succ, i64_w, i32_w]
                rfl
              refine pure_ (i := 6) (N := some 114) (v := ?_) (a' := ?_) #[true, true, true, true, true, true, true, false, false, false, false, false, false, false, false, false] rfl rfl (any_of HT_.out (by kernel_rfl)) (fun _ _ _ h => h) (Or.inl ⟨by rfl, ?_⟩) ?_ ?_
              rotate_left
              · intro w'
                go_simp
                with_reducible rfl
              rotate_left
              · simp only [Act.put, List.setIfInBounds_toArray, List.set_cons_zero, List.set_cons_succ, i64_w, i32_w]
                rfl
              refine pure_ (i := 7) (N := some 115) (v := undef) (a' := ?_) #[true, true, true, true, true, true, true, true, false, false, false, false, false, false, false, false] rfl rfl (any_of HT_.out (by kernel_rfl)) (fun _ _ _ h => h) (Or.inr ⟨by rfl, rfl⟩) ?_ ?_
              rotate_left
              · simp only [Act.put, List.setIfInBounds_toArray, List.set_cons_zero, List.set_cons_succ, i64_w, i32_w]
                rfl
              refine pure_ (i := 8) (N := some 116) (v := undef) (a' := ?_) #[true, true, true, true, true, true, true, true, true, false, false, false, false, false, false, false] rfl rfl (any_of HT_.out (by kernel_rfl)) (fun _ _ _ h => h) (Or.inr ⟨by rfl, rfl⟩) ?_ ?_
              rotate_left
              · simp only [Act.put, List.setIfInBounds_toArray, List.set_cons_zero, List.set_cons_succ, i64_w, i32_w]
                rfl
              refine pure_ (i := 9) (N := some 117) (v := undef) (a' := ?_) #[true, true, true, true, true, true, true, true, true, true, false, false, false, false, false, false] rfl rfl (any_of HT_.out (by kernel_rfl)) (fun _ _ _ h => h) (Or.inr ⟨by rfl, rfl⟩) ?_ ?_
              rotate_left
              · simp only [Act.put, List.setIfInBounds_toArray, List.set_cons_zero, List.set_cons_succ, i64_w, i32_w]
                rfl
              refine pure_ (i := 10) (N := some 118) (v := undef) (a' := ?_) #[true, true, true, true, true, true, true, true, true, true, true, false, false, false, false, false] rfl rfl (any_of HT_.out (by kernel_rfl)) (fun _ _ _ h => h) (Or.inr ⟨by rfl, rfl⟩) ?_ ?_
              rotate_left
              · simp only [Act.put, List.setIfInBounds_toArray, List.set_cons_zero, List.set_cons_succ, i64_w, i32_w]
                rfl
              refine pure_ (i := 11) (N := some 119) (v := undef) (a' := ?_) #[true, true, true, true, true, true, true, true, true, true, true, true, false, false, false, false] rfl rfl (any_of HT_.out (by kernel_rfl)) (fun _ _ _ h => h) (Or.inr ⟨by rfl, rfl⟩) ?_ ?_
              rotate_left
              · simp only [Act.put, List.setIfInBounds_toArray, List.set_cons_zero, List.set_cons_succ, i64_w, i32_w]
                rfl
              refine pure_ (i := 12) (N := some 120) (v := undef) (a' := ?_) #[true, true, true, true, true, true, true, true, true, true, true, true, true, false, false, false] rfl rfl (any_of HT_.out (by kernel_rfl)) (fun _ _ _ h => h) (Or.inr ⟨by rfl, rfl⟩) ?_ ?_
              rotate_left
              · simp only [Act.put, List.setIfInBounds_toArray, List.set_cons_zero, List.set_cons_succ, i64_w, i32_w]
                rfl
              refine pure_ (i := 13) (N := some 121) (v := undef) (a' := ?_) #[true, true, true, true, true, true, true, true, true, true, true, true, true, true, false, false] rfl rfl (any_of HT_.out (by kernel_rfl)) (fun _ _ _ h => h) (Or.inr ⟨by rfl, rfl⟩) ?_ ?_
              rotate_left
              · simp only [Act.put, List.setIfInBounds_toArray, List.set_cons_zero, List.set_cons_succ, i64_w, i32_w]
                rfl
              refine pure_ (i := 14) (N := some 122) (v := ?_) (a' := ?_) #[true, true, true, true, true, true, true, true, true, true, true, true, true, true, true, false] rfl rfl (any_of HT_.out (by kernel_rfl)) (fun _ _ _ h => h) (Or.inl ⟨by rfl, ?_⟩) ?_ ?_
              rotate_left
              · intro w'
                go_simp
                with_reducible rfl
              rotate_left
              · simp only [Act.put, List.setIfInBounds_toArray, List.set_cons_zero, List.set_cons_succ, i64_w, i32_w]
                rfl
              refine pure_ (i := 15) (N := some 8) (v := ?_) (a' := ?_) #[true, true, true, true, true, true, true, true, true, true, true, true, true, true, true, true] rfl rfl (any_of HT_.out (by kernel_rfl)) (fun _ _ _ h => h) (Or.inl ⟨by rfl, ?_⟩) ?_ ?_
              rotate_left
              · intro w'
                go_simp
                with_reducible rfl
              rotate_left
              · simp only [Act.put, List.setIfInBounds_toArray, List.set_cons_zero, List.set_cons_succ, i64_w, i32_w]
                rfl
              refine done_ (done_of HT_.out (by kernel_rfl)) ?_
              have HF := Aside0.mk (HX36.out.step hHeld.2.2.2.2.2.2.2.2)
              clear hHeld
              go_wp2_with (fail)
              go_ret
              exact ⟨rfl, HF.out.below⟩
          · have ha0 : (u3 == 0) = false := beq_eq_false_iff_ne.mpr hu3
            have ha1 : (u3 != 0) = true := bne_iff_ne.mpr hu3
            clear hu3
            go_upto_region 19 with (fail)
            have H8 := Aside0.mk (show Bt8 ⟨w.heap.size + 2, 0, none⟩ ⟨w.heap.size + 2, 1, none⟩ ⟨w.heap.size + 2, 2, none⟩ ⟨w.heap.size + 2, 3, none⟩ ⟨w.heap.size + 3, 0, none⟩ ⟨w.heap.size + 3, 1, none⟩ ⟨w.heap.size + 3, 2, none⟩ ⟨w.heap.size + 3, 3, none⟩ (.int .i64 x.f0) (.int .i64 x.f1) (.int .i64 x.f2) (.slice C3 x.f3.length c3) (.int .i64 y.f0) (.int .i64 y.f1) (.int .i64 y.f2) (.slice D3 y.f3.length d3) v33 v33 from ⟨(blk_cell HX33.out.h2 0).trans rfl, (blk_cell HX33.out.h2 1).trans rfl, (blk_cell HX33.out.h2 2).trans rfl, (blk_cell HX33.out.h2 3).trans rfl, (blk_cell HX33.out.h3 0).trans rfl, (blk_cell HX33.out.h3 1).trans rfl, (blk_cell HX33.out.h3 2).trans rfl, (blk_cell HX33.out.h3 3).trans rfl, Below.refl _ _⟩)
            refine start_ (n := 16) (S := Bt8 ⟨w.heap.size + 2, 0, none⟩ ⟨w.heap.size + 2, 1, none⟩ ⟨w.heap.size + 2, 2, none⟩ ⟨w.heap.size + 2, 3, none⟩ ⟨w.heap.size + 3, 0, none⟩ ⟨w.heap.size + 3, 1, none⟩ ⟨w.heap.size + 3, 2, none⟩ ⟨w.heap.size + 3, 3, none⟩ (.int .i64 x.f0) (.int .i64 x.f1) (.int .i64 x.f2) (.slice C3 x.f3.length c3) (.int .i64 y.f0) (.int .i64 y.f1) (.int .i64 y.f2) (.slice D3 y.f3.length d3) v33) (ds := []) #[false, false, false, false, false, false, false, false, false, false, false, false, false, false, false, false] (by kernel_rfl) rfl rfl (H8.out.of (below_drew1 (Below.refl _ _))) (fun hHeld => ?_)
            generalize v33.drew = v37 at hHeld ⊢
            refine with_tabW moE_tab19 moE_bits19 (fun HT_ HW_ => ?_)
            refine pure_ (i := 0) (N := some 108) (v := ?_) (a' := ?_) #[true, false, false, false, false, false, false, false, false, false, false, false, false, false, false, false] rfl rfl (any_of HT_.out (by kernel_rfl)) (fun _ _ _ h => h) (Or.inl ⟨by rfl, ?_⟩) ?_ ?_
            rotate_left
            · intro w'
              go_simp
              with_reducible rfl
            rotate_left
            · simp only [Act.put, List.setIfInBounds_toArray, List.set_cons_zero, List.set_cons_succ, i64_w, i32_w]
              rfl
            refine pure_ (i := 1) (N := some 109) (v := ?_) (a' := ?_) #[true, true, false, false, false, false, false, false, false, false, false, false, false, false, false, false] rfl rfl (any_of HT_.out (by kernel_rfl)) (fun _ _ _ h => h) (Or.inl ⟨by rfl, ?_⟩) ?_ ?_
            rotate_left
            · intro w'
              go_simp
              with_reducible rfl
            rotate_left
            · simp only [Act.put, List.setIfInBounds_toArray, List.set_cons_zero, List.set_cons_succ, i64_w, i32_w]
              rfl
            refine pure_ (i := 2) (N := some 110) (v := ?_) (a' := ?_) #[true, true, true, false, false, false, false, false, false, false, false, false, false, false, false, false] rfl rfl (any_of HT_.out (by kernel_rfl)) (fun _ _ _ h => h) (Or.inl ⟨by rfl, ?_⟩) ?_ ?_
            rotate_left
            · intro w'
              go_simp
              with_reducible rfl
            rotate_left
            · simp only [Act.put, List.setIfInBounds_toArray, List.set_cons_zero, List.set_cons_succ, i64_w, i32_w]
              rfl
            refine pure_ (i := 3) (N := some 111) (v := undef) (a' := ?_) #[true, true, true, true, false, false, false, false, false, false, false, false, false, false, false, false] rfl rfl (any_of HT_.out (by kernel_rfl)) (fun _ _ _ h => h) (Or.inr ⟨by rfl, rfl⟩) ?_ ?_
            rotate_left
            · simp only [Act.put, List.setIfInBounds_toArray, List.set_cons_zero, List.set_cons_succ, i64_w, i32_w]
              rfl
            refine pure_ (i := 4) (N := some 112) (v := undef) (a' := ?_) #[true, true, true, true, true, false, false, false, false, false, false, false, false, false, false, false] rfl rfl (any_of HT_.out (by kernel_rfl)) (fun _ _ _ h => h) (Or.inr ⟨by rfl, rfl⟩) ?_ ?_
            rotate_left
            · simp only [Act.put, List.setIfInBounds_toArray, List.set_cons_zero, List.set_cons_succ, i64_w, i32_w]
              rfl
            refine pure_ (i := 5) (N := some 113) (v := ?_) (a' := ?_) #[true, true, true, true, true, true, false, false, false, false, false, false, false, false, false, false] rfl rfl (any_of HT_.out (by kernel_rfl)) (fun _ _ _ h => h) (Or.inl ⟨by rfl, ?_⟩) ?_ ?_
            rotate_left
            · intro w'
              go_simp
              with_reducible rfl
            rotate_left
            · simp only [Act.put, List.setIfInBounds_toArray, List.set_cons_zero, List.set_cons_succ, i64_w, i32_w]
              rfl
            refine pure_ (i := 6) (N := some 114) (v := ?_) (a' := ?_) #[true, true, true, true, true, true, true, false, false, false, false, false, false, false, false, false] rfl rfl (any_of HT_.out (by kernel_rfl)) (fun _ _ _ h => h) (Or.inl ⟨by rfl, ?_⟩) ?_ ?_
            rotate_left
            · intro w'
              go_simp
              with_reducible rfl
            rotate_left
            · simp only [Act.put, List.setIfInBounds_toArray, List.set_cons_zero, List.set_cons_succ, i64_w, i32_w]
              rfl
            refine pure_ (i := 7) (N := some 115) (v := undef) (a' := ?_) #[true, true, true, true, true, true, true, true, false, false, false, false, false, false, false, false] rfl rfl (any_of HT_.out (by kernel_rfl)) (fun _ _ _ h => h) (Or.inr ⟨by rfl, rfl⟩) ?_ ?_
            rotate_left
            · simp only [Act.put, List.setIfInBounds_toArray, List.set_cons_zero, List.set_cons_succ, i64_w, i32_w]
              rfl
            refine pure_ (i := 8) (N := some 116) (v := undef) (a' := ?_) #[true, true, true, true, true, true, true, true, true, false, false, false, false, false, false, false] rfl rfl (any_of HT_.out (by kernel_rfl)) (fun _ _ _ h => h) (Or.inr ⟨by rfl, rfl⟩) ?_ ?_
            rotate_left
            · simp only [Act.put, List.setIfInBounds_toArray, List.set_cons_zero, List.set_cons_succ, i64_w, i32_w]
              rfl
            refine pure_ (i := 9) (N := some 117) (v := undef) (a' := ?_) #[true, true, true, true, true, true, true, true, true, true, false, false, false, false, false, false] rfl rfl (any_of HT_.out (by kernel_rfl)) (fun _ _ _ h => h) (Or.inr ⟨by rfl, rfl⟩) ?_ ?_
            rotate_left
            · simp only [Act.put, List.setIfInBounds_toArray, List.set_cons_zero, List.set_cons_succ, i64_w, i32_w]
              rfl
            refine pure_ (i := 10) (N := some 118) (v := undef) (a' := ?_) #[true, true, true, true, true, true, true, true, true, true, true, false, false, false, false, false] rfl rfl (any_of HT_.out (by kernel_rfl)) (fun _ _ _ h => h) (Or.inr ⟨by rfl, rfl⟩) ?_ ?_
            rotate_left
            · simp only [Act.put, List.setIfInBounds_toArray, List.set_cons_zero, List.set_cons_succ, i64_w, i32_w]
              rfl
            refine pure_ (i := 11) (N := some 119) (v := undef) (a' := ?_) #[true, true, true, true, true, true, true, true, true, true, true, true, false, false, false, false] rfl rfl (any_of HT_.out (by kernel_rfl)) (fun _ _ _ h => h) (Or.inr ⟨by rfl, rfl⟩) ?_ ?_
            rotate_left
            · simp only [Act.put, List.setIfInBounds_toArray, List.set_cons_zero, List.set_cons_succ, i64_w, i32_w]
              rfl
            refine pure_ (i := 12) (N := some 120) (v := undef) (a' := ?_) #[true, true, true, true, true, true, true, true, true, true, true, true, true, false, false, false] rfl rfl (any_of HT_.out (by kernel_rfl)) (fun _ _ _ h => h) (Or.inr ⟨by rfl, rfl⟩) ?_ ?_
            rotate_left
            · simp only [Act.put, List.setIfInBounds_toArray, List.set_cons_zero, List.set_cons_succ, i64_w, i32_w]
              rfl
            refine pure_ (i := 13) (N := some 121) (v := undef) (a' := ?_) #[true, true, true, true, true, true, true, true, true, true, true, true, true, true, false, false] rfl rfl (any_of HT_.out (by kernel_rfl)) (fun _ _ _ h => h) (Or.inr ⟨by rfl, rfl⟩) ?_ ?_
            rotate_left
            · simp only [Act.put, List.setIfInBounds_toArray, List.set_cons_zero, List.set_cons_succ, i64_w, i32_w]
              rfl
            refine pure_ (i := 14) (N := some 122) (v := ?_) (a' := ?_) #[true, true, true, true, true, true, true, true, true, true, true, true, true, true, true, false] rfl rfl (any_of HT_.out (by kernel_rfl)) (fun _ _ _ h => h) (Or.inl ⟨by rfl, ?_⟩) ?_ ?_
            rotate_left
            · intro w'
              go_simp
              with_reducible rfl
            rotate_left
            · simp only [Act.put, List.setIfInBounds_toArray, List.set_cons_zero, List.set_cons_succ, i64_w, i32_w]
              rfl
            refine pure_ (i := 15) (N := some 8) (v := ?_) (a' := ?_) #[true, true, true, true, true, true, true, true, true, true, true, true, true, true, true, true] rfl rfl (any_of HT_.out (by kernel_rfl)) (fun _ _ _ h => h) (Or.inl ⟨by rfl, ?_⟩) ?_ ?_
            rotate_left
            · intro w'
              go_simp
              with_reducible rfl
            rotate_left
            · simp only [Act.put, List.setIfInBounds_toArray, List.set_cons_zero, List.set_cons_succ, i64_w, i32_w]
              rfl
            refine done_ (done_of HT_.out (by kernel_rfl)) ?_
            have HF := Aside0.mk (HX33.out.step hHeld.2.2.2.2.2.2.2.2)
            clear hHeld
            go_wp2_with (fail)
            go_ret
            exact ⟨rfl, HF.out.below⟩
end Go.Proofs.Ytijccobeljoikaa.Ms

/- msg: MsgOthers over what comes in. -/
namespace Go.Proofs.Ytijccobeljoikaa.Ms
open Go.RowKit Go.Proofs.YtijccobeljoikaaW.PrintWords
open Go.Proofs.Ytijccobeljoikaa.Plain
theorem letR_open {W : World} {x : S72} {cs : Array Value} (h : k72.K W x cs.toList) : ∃ A2 c2 A3 c3, cs = #[.int .i64 x.f0.f0, .int .i64 x.f0.f1, .int .i64 x.f1, .slice A2 x.f2.length c2, .slice A3 x.f3.length c3] ∧ LetR W x A2 c2 A3 c3 := by
  obtain ⟨A3, c3, A4, c4, he, l3, g3, l4, g4⟩ := k72_open h
  exact ⟨A3, c3, A4, c4, Array.toList_inj.1 he, ⟨g3, l3, g4, l4⟩⟩
theorem entR_open {W : World} {x : S87} {cs : Array Value} (h : k87.K W x cs.toList) : ∃ A3 c3, cs = #[.int .i64 x.f0, .int .i64 x.f1, .int .i64 x.f2, .slice A3 x.f3.length c3] ∧ x.f3.length ≤ c3 ∧ Kd.C (Kd.int .u8) W A3 x.f3.length x.f3 := by
  obtain ⟨A3, c3, he, l3, g3⟩ := k87_open h
  exact ⟨A3, c3, Array.toList_inj.1 he, l3, g3⟩
theorem others_opened {l k : S72} {x y : S87} {c0 c1 c2 c3 : Array Value} {W : World} (h0 : k72.K W l c0.toList) (h1 : k72.K W k c1.toList) (h2 : k87.K W x c2.toList) (h3 : k87.K W y c3.toList)
    (f0 : Fit72 l ∧ Bytes72 l) (f1 : Fit72 k ∧ Bytes72 k) (f2 : x.f3.length ≤ 140737488355328 ∧ Byte x.f3) (f3 : y.f3.length ≤ 140737488355328 ∧ Byte y.f3) :
    Calls Try.prog 23 #[.agg c0, .agg c1, .agg c2, .agg c3] W fun e w' => e = .returned (.bool true) ∧ Below W.heap.size W w' := by
  obtain ⟨A2, a2, A3, a3, rfl, hl⟩ := letR_open h0
  obtain ⟨B2, b2, B3, b3, rfl, hk⟩ := letR_open h1
  obtain ⟨C3, c3', rfl, hc, hC⟩ := entR_open h2
  obtain ⟨D3, d3, rfl, hd, hD⟩ := entR_open h3
  exact others_calls l k x y A2 A3 B2 B3 C3 D3 a2 a3 b2 b3 c3' d3 W hl hk ⟨hC, hc, f2⟩ ⟨hD, hd, f3⟩ f0 f1
end Go.Proofs.Ytijccobeljoikaa.Ms
