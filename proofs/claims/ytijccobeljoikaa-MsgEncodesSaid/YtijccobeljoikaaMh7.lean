/- Put together of my texts: MtE, MtF, MtG, MtH, MtI, MtJ, MtK, MtL. -/
import Derived.Test.YtijccobeljoikaaMh6
/- msg: PackLetter, PackEntry. -/
namespace Go.Proofs.Ytijccobeljoikaa.Ms
open Go.RowKit Go.Proofs.YtijccobeljoikaaW.PrintWords Go.Proofs.YtijccobeljoikaaW.PrintLast
open Go.Proofs.Ytijccobeljoikaa.Plain Go.Proofs.Ytijccobeljoikaa.Walks
set_option linter.unusedVariables false
set_option linter.unusedSimpArgs false

/-- An entry's bytes, or the error. -/
def entryP (x : S87) : List Int × Int := if goodEntry x then (entryZ x, 0) else ([], 81)
/-- A letter's bytes, or the error. -/
def letterP (x : S72) : List Int × Int := if goodLetter x then (letterZ x, 0) else ([], 81)
set_option maxHeartbeats 8000000 in
set_option maxRecDepth 100000 in
theorem pack117_calls (x : S87) (A3 : Option Addr) (c3 : Nat) (be bb : Nat) (w : World) (hC3 : Kd.C (Kd.int .u8) w A3 x.f3.length x.f3) (hc3 : x.f3.length ≤ c3) (hbe : w.heap[be]? = some (.cells #[.int .i64 x.f0, .int .i64 x.f1, .int .i64 x.f2, .slice A3 x.f3.length c3] 87)) (hbb : w.heap[bb]? = some (.cells #[.slice none 0 0] 22)) :
    Calls Try.prog 117 #[.pointer (some ⟨be, 0, none⟩), .pointer (some ⟨bb, 0, none⟩)] w fun e w' =>
      if goodEntry x = true then ∃ A1 c1, e = .returned (.tuple #[]) ∧ w'.heap[bb]? = some (.cells #[.slice A1 (entryZ x).length c1] 22) ∧ (entryZ x).length ≤ c1 ∧ Kd.R (Kd.int .u8) 5 w' w.heap.size (fun k => w.heap.size ≤ k) (.slice A1 (entryZ x).length c1) (entryZ x) ∧ w.grownBy w' (some bb)
      else e = .panicked (fault 81) ∧ Below w.heap.size w w' := by
  have hu87 := Try.underlying87
  have HBB := Aside0.mk hbb
  have HHY := Aside0.mk (And.intro hC3 hc3)
  have x0 : w.cell? ⟨be, 0, none⟩ = some (.int .i64 x.f0) := (blk_cell hbe 0).trans rfl
  have x1 : w.cell? ⟨be, 1, none⟩ = some (.int .i64 x.f1) := (blk_cell hbe 1).trans rfl
  have x2 : w.cell? ⟨be, 2, none⟩ = some (.int .i64 x.f2) := (blk_cell hbe 2).trans rfl
  have x3 : w.cell? ⟨be, 3, none⟩ = some (.slice A3 x.f3.length c3) := (blk_cell hbe 3).trans rfl
  clear hbe hbb hC3 hc3
  cases hq : goodEntry x with
  | true =>
    have HQ := Aside0.mk hq
    obtain ⟨z, hz⟩ : ∃ z, z = entryZ x := ⟨_, rfl⟩
    have HZ := Aside0.mk hz
    rw [← hz]
    clear hq hz
    go_enter Try.func117, Try.ntmps117
    go_wp2_with (fail)
    have hE := packEntry_ok x A3 c3 w HHY.out.1 HHY.out.2 HQ.out
    rw [← HZ.out] at hE
    with_reducible refine hE.mono ?_
    clear hE
    rintro e w1 ⟨A1, c1, rfl, hG⟩
    have HBB1 := Aside0.mk ((hG.keep.block _ (blk_lt2 HBB.out)).trans HBB.out)
    have HG := Aside0.mk hG
    have xb : w1.cell? ⟨bb, 0, none⟩ = some (.slice none 0 0) := (blk_cell HBB1.out 0).trans rfl
    have xf : w1.frozen? ⟨bb, 0, none⟩ = false := blk_frozen HBB1.out 0
    clear hG
    go_wp2_with (fail)
    go_end0
    exact ⟨rfl, A1, c1, blk_put HBB1.out 0 _ rfl, HG.out.cap, Kd.R_set HG.out.own HBB1.out (by simp [Kd.int, Kd.scalar]) 0 _, (grown_of_below HG.out.keep (some bb)).trans (grown_set2 _ _ _ _)⟩
  | false =>
    have HQ := Aside0.mk hq
    clear hq
    go_enter Try.func117, Try.ntmps117
    go_wp2_with (fail)
    have hE := packEntry_bad x A3 c3 w HQ.out
    with_reducible refine hE.mono ?_
    clear hE
    rintro e w1 ⟨rfl, hB⟩
    have HB1 := Aside0.mk hB
    clear hB
    go_wp2_with (fail)
    exact ⟨rfl, rfl, HB1.out⟩
set_option maxHeartbeats 8000000 in
set_option maxRecDepth 100000 in
theorem pack74_calls (x : S87) (A3 : Option Addr) (c3 : Nat) (z : List Int) (y : Int) (w : World) (hC3 : Kd.C (Kd.int .u8) w A3 x.f3.length x.f3) (hc3 : x.f3.length ≤ c3) (h : entryP x = (z, y)) :
    Calls Try.prog 74 #[.agg #[.int .i64 x.f0, .int .i64 x.f1, .int .i64 x.f2, .slice A3 x.f3.length c3]] w fun e w' => ∃ A1 c1, e = .returned (.tuple #[.slice A1 z.length c1, .int .i64 y]) ∧ z.length ≤ c1 ∧ Kd.C (Kd.int .u8) w' A1 z.length z ∧ Below w.heap.size w w' := by
  have hu87 := Try.underlying87
  have HHY := Aside0.mk (And.intro hC3 hc3)
  have HE := Aside0.mk h
  clear h hC3 hc3
  have hmf : ∀ (fn : Fn) (first cap : Array Value) (w : World), (Instr.makeFunc fn first cap).run Try.prog w = .ok (.func fn first cap) w := fun _ _ _ _ => rfl
  have HBE0 := Aside0.mk ((Below.heap_alloc (w.alloc (.cells #[.int .i64 x.f0, .int .i64 x.f1, .int .i64 x.f2, .slice A3 x.f3.length c3] 87)) (.cells #[.slice none 0 0] 22) w.heap.size (by simp)).trans (blk_new w (.cells #[.int .i64 x.f0, .int .i64 x.f1, .int .i64 x.f2, .slice A3 x.f3.length c3] 87)))
  have HBB0 := Aside0.mk (blk_new (w.alloc (.cells #[.int .i64 x.f0, .int .i64 x.f1, .int .i64 x.f2, .slice A3 x.f3.length c3] 87)) (.cells #[.slice none 0 0] 22))
  have HB0 := Aside0.mk (below_alloc (below_alloc (Below.refl w.heap.size w) (.cells #[.int .i64 x.f0, .int .i64 x.f1, .int .i64 x.f2, .slice A3 x.f3.length c3] 87)) (.cells #[.slice none 0 0] 22))
  rw [show (w.alloc (.cells #[.int .i64 x.f0, .int .i64 x.f1, .int .i64 x.f2, .slice A3 x.f3.length c3] 87)).heap.size = w.heap.size + 1 by simp] at HBB0
  go_enter Try.func74, Try.ntmps74
  go_wp2_with (fail)
  generalize (w.alloc (.cells #[.int .i64 x.f0, .int .i64 x.f1, .int .i64 x.f2, .slice A3 x.f3.length c3] 87)).alloc (.cells #[.slice none 0 0] 22) = w2 at HBE0 HBB0 HB0 ⊢
  refine (caught_calls 117 #[.pointer (some ⟨w.heap.size, 0, none⟩), .pointer (some ⟨w.heap.size + 1, 0, none⟩)] w2 (fun r w3 => r.getD 0 = y ∧ w2.grownBy w3 (some (w.heap.size + 1)) ∧ w3.heap[w2.heap.size]? = some (.cells #[.int .i64 0] 23) ∧ ∃ A1 c1, w3.heap[w.heap.size + 1]? = some (.cells #[.slice A1 z.length c1] 22) ∧ z.length ≤ c1 ∧ Kd.R (Kd.int .u8) 5 w3 w2.heap.size (fun k => w2.heap.size ≤ k) (.slice A1 z.length c1) z) (fun _ => by kernel_rfl) ?_).mono ?_
  · intro W hW
    have hg0 := World.grownBy_alloc w2 (.cells #[.int .i64 0] 23) (some (w.heap.size + 1))
    have hbW := below_alloc (Below.refl w2.heap.size w2) (.cells #[.int .i64 0] 23)
    have hnW := blk_new w2 (.cells #[.int .i64 0] 23)
    rw [← hW] at hg0 hbW hnW
    have hne : w2.heap.size ≠ w.heap.size + 1 := fun e => by have := blk_lt2 HBB0.out; omega
    have hBW := below_then HB0.out HB0.out.size hbW
    refine (pack117_calls x A3 c3 w.heap.size (w.heap.size + 1) W (Kd.C_below HHY.out.1 hBW) HHY.out.2 ((hbW.block _ (blk_lt2 HBE0.out)).trans HBE0.out) ((hbW.block _ (blk_lt2 HBB0.out)).trans HBB0.out)).mono ?_
    intro e w3 hh
    have hE := HE.out
    unfold entryP at hE
    by_cases hx : goodEntry x = true
    · rw [if_pos hx] at hh hE
      obtain ⟨rfl, rfl⟩ := Prod.mk.inj hE
      obtain ⟨A1, c1, rfl, hbb, hl, hR, hg⟩ := hh
      have hbk := (hg.block _ (blk_lt2 hnW) (by intro e; injection e with e; exact hne e)).trans hnW
      exact ⟨⟨none, ⟨rfl, hg0.trans hg, hbk, A1, c1, hbb, hl, Kd.R_mono (Kd.R_lower hR hbW.size) (fun k hk => Nat.le_trans hbW.size hk)⟩, rfl⟩, (blk_cell hbk 0).trans rfl, blk_frozen hbk 0, hbk⟩
    · rw [if_neg hx] at hh hE
      obtain ⟨rfl, rfl⟩ := Prod.mk.inj hE
      obtain ⟨rfl, hB⟩ := hh
      have hbk := (hB.block _ (blk_lt2 hnW)).trans hnW
      exact ⟨⟨some 81, ⟨rfl, hg0.trans (grown_of_below hB _), hbk, none, 0, (hB.block _ (by have := blk_lt2 HBB0.out; have := hbW.size; omega)).trans ((hbW.block _ (blk_lt2 HBB0.out)).trans HBB0.out), Nat.le_refl _, Kd.R_nil _ _ _ _ _⟩, rfl⟩, (blk_cell hbk 0).trans rfl, blk_frozen hbk 0, hbk⟩
  rintro e w4 ⟨r, w3, ⟨hr, hg, hbk, A1, c1, hbb, hl, hR⟩, rfl, rfl⟩
  rw [hr]
  have HL := Aside0.mk hl
  have hne : w.heap.size + 1 ≠ w2.heap.size := fun e => by have := blk_lt2 HBB0.out; omega
  have HR := Aside0.mk (Kd.R_set hR hbk (by simp [Kd.int, Kd.scalar]) 0 (.int .i64 y))
  have HBB4 := Aside0.mk ((Below.heap_setCell w3 ⟨w2.heap.size, 0, none⟩ (.int .i64 y) _ hne).trans hbb)
  have HB4 := Aside0.mk ((HB0.out.grown hg HB0.out.size (fun k hk => by injection hk with hk; omega)).grown (grown_set2 w3 w2.heap.size 0 (.int .i64 y)) (by have := hg.size; have := HB0.out.size; omega) (fun k hk => by injection hk with hk; have := HB0.out.size; omega))
  generalize w3.setCell ⟨w2.heap.size, 0, none⟩ (.int .i64 y) = w4 at HR HBB4 HB4 ⊢
  clear hr hg hbk hbb hl hR hne
  have xb : w4.cell? ⟨w.heap.size + 1, 0, none⟩ = some (.slice A1 z.length c1) := (blk_cell HBB4.out 0).trans rfl
  have xf : w4.frozen? ⟨w.heap.size + 1, 0, none⟩ = false := blk_frozen HBB4.out 0
  have HBB5 := Aside0.mk (blk_put HBB4.out 0 (.slice A1 z.length c1) rfl)
  have xc : (w4.setCell ⟨w.heap.size + 1, 0, none⟩ (.slice A1 z.length c1)).cell? ⟨w.heap.size + 1, 0, none⟩ = some (.slice A1 z.length c1) := (blk_cell HBB5.out 0).trans rfl
  go_wp2_with (fail)
  refine bodyPost_ret (v := .tuple #[.slice A1 z.length c1, .int .i64 y]) ?_ rfl ⟨A1, c1, rfl, HL.out, (Kd.R_reads' (Kd.R_set HR.out HBB4.out (by simp [Kd.int, Kd.scalar]) 0 (.slice A1 z.length c1))).2.2, below_set HB4.out (by omega)⟩
  rw [results_cell_tmp rfl]
  simp [asAddr, Result.andThen, loadVar, xc]
set_option maxHeartbeats 8000000 in
set_option maxRecDepth 100000 in
theorem pack114_calls (x : S72) (A3 : Option Addr) (c3 : Nat) (A4 : Option Addr) (c4 : Nat) (be bb : Nat) (w : World) (hC3 : Kd.C (Kd.int .u8) w A3 x.f2.length x.f2) (hc3 : x.f2.length ≤ c3) (hC4 : Kd.C (Kd.slice 5 (Kd.int .u8)) w A4 x.f3.length x.f3) (hc4 : x.f3.length ≤ c4) (hbe : w.heap[be]? = some (.cells #[.int .i64 x.f0.f0, .int .i64 x.f0.f1, .int .i64 x.f1, .slice A3 x.f2.length c3, .slice A4 x.f3.length c4] 72)) (hbb : w.heap[bb]? = some (.cells #[.slice none 0 0] 22)) :
    Calls Try.prog 114 #[.pointer (some ⟨be, 0, none⟩), .pointer (some ⟨bb, 0, none⟩)] w fun e w' =>
      if goodLetter x = true then ∃ A1 c1, e = .returned (.tuple #[]) ∧ w'.heap[bb]? = some (.cells #[.slice A1 (letterZ x).length c1] 22) ∧ (letterZ x).length ≤ c1 ∧ Kd.R (Kd.int .u8) 5 w' w.heap.size (fun k => w.heap.size ≤ k) (.slice A1 (letterZ x).length c1) (letterZ x) ∧ w.grownBy w' (some bb)
      else e = .panicked (fault 81) ∧ Below w.heap.size w w' := by
  have hu72 := Try.underlying72
  have HBB := Aside0.mk hbb
  have HHY := Aside0.mk (And.intro hC3 (And.intro hc3 (And.intro hC4 hc4)))
  have x0 : w.cell? ⟨be, 0, none⟩ = some (.int .i64 x.f0.f0) := (blk_cell hbe 0).trans rfl
  have x1 : w.cell? ⟨be, 1, none⟩ = some (.int .i64 x.f0.f1) := (blk_cell hbe 1).trans rfl
  have x2 : w.cell? ⟨be, 2, none⟩ = some (.int .i64 x.f1) := (blk_cell hbe 2).trans rfl
  have x3 : w.cell? ⟨be, 3, none⟩ = some (.slice A3 x.f2.length c3) := (blk_cell hbe 3).trans rfl
  have x4 : w.cell? ⟨be, 4, none⟩ = some (.slice A4 x.f3.length c4) := (blk_cell hbe 4).trans rfl
  clear hbe hbb hC3 hc3 hC4 hc4
  cases hq : goodLetter x with
  | true =>
    have HQ := Aside0.mk hq
    obtain ⟨z, hz⟩ : ∃ z, z = letterZ x := ⟨_, rfl⟩
    have HZ := Aside0.mk hz
    rw [← hz]
    clear hq hz
    go_enter Try.func114, Try.ntmps114
    go_wp2_with (fail)
    have hE := packLetter_ok x A3 c3 A4 c4 w HHY.out.1 HHY.out.2.1 HHY.out.2.2.1 HHY.out.2.2.2 (good72.1 HQ.out)
    rw [← HZ.out] at hE
    with_reducible refine hE.mono ?_
    clear hE
    rintro e w1 ⟨A1, c1, rfl, hG⟩
    have HBB1 := Aside0.mk ((hG.keep.block _ (blk_lt2 HBB.out)).trans HBB.out)
    have HG := Aside0.mk hG
    have xb : w1.cell? ⟨bb, 0, none⟩ = some (.slice none 0 0) := (blk_cell HBB1.out 0).trans rfl
    have xf : w1.frozen? ⟨bb, 0, none⟩ = false := blk_frozen HBB1.out 0
    clear hG
    go_wp2_with (fail)
    go_end0
    exact ⟨rfl, A1, c1, blk_put HBB1.out 0 _ rfl, HG.out.cap, Kd.R_set HG.out.own HBB1.out (by simp [Kd.int, Kd.scalar]) 0 _, (grown_of_below HG.out.keep (some bb)).trans (grown_set2 _ _ _ _)⟩
  | false =>
    have HQ := Aside0.mk hq
    clear hq
    go_enter Try.func114, Try.ntmps114
    go_wp2_with (fail)
    have hE := packLetter_bad x A3 c3 A4 c4 w HHY.out.2.2.1 HHY.out.2.2.2 HQ.out
    with_reducible refine hE.mono ?_
    clear hE
    rintro e w1 ⟨rfl, hB⟩
    have HB1 := Aside0.mk hB
    clear hB
    go_wp2_with (fail)
    exact ⟨rfl, rfl, HB1.out⟩
set_option maxHeartbeats 8000000 in
set_option maxRecDepth 100000 in
theorem pack71_calls (x : S72) (A3 : Option Addr) (c3 : Nat) (A4 : Option Addr) (c4 : Nat) (z : List Int) (y : Int) (w : World) (hC3 : Kd.C (Kd.int .u8) w A3 x.f2.length x.f2) (hc3 : x.f2.length ≤ c3) (hC4 : Kd.C (Kd.slice 5 (Kd.int .u8)) w A4 x.f3.length x.f3) (hc4 : x.f3.length ≤ c4) (h : letterP x = (z, y)) :
    Calls Try.prog 71 #[.agg #[.int .i64 x.f0.f0, .int .i64 x.f0.f1, .int .i64 x.f1, .slice A3 x.f2.length c3, .slice A4 x.f3.length c4]] w fun e w' => ∃ A1 c1, e = .returned (.tuple #[.slice A1 z.length c1, .int .i64 y]) ∧ z.length ≤ c1 ∧ Kd.C (Kd.int .u8) w' A1 z.length z ∧ Below w.heap.size w w' := by
  have hu72 := Try.underlying72
  have HHY := Aside0.mk (And.intro hC3 (And.intro hc3 (And.intro hC4 hc4)))
  have HE := Aside0.mk h
  clear h hC3 hc3 hC4 hc4
  have hmf : ∀ (fn : Fn) (first cap : Array Value) (w : World), (Instr.makeFunc fn first cap).run Try.prog w = .ok (.func fn first cap) w := fun _ _ _ _ => rfl
  have HBE0 := Aside0.mk ((Below.heap_alloc (w.alloc (.cells #[.int .i64 x.f0.f0, .int .i64 x.f0.f1, .int .i64 x.f1, .slice A3 x.f2.length c3, .slice A4 x.f3.length c4] 72)) (.cells #[.slice none 0 0] 22) w.heap.size (by simp)).trans (blk_new w (.cells #[.int .i64 x.f0.f0, .int .i64 x.f0.f1, .int .i64 x.f1, .slice A3 x.f2.length c3, .slice A4 x.f3.length c4] 72)))
  have HBB0 := Aside0.mk (blk_new (w.alloc (.cells #[.int .i64 x.f0.f0, .int .i64 x.f0.f1, .int .i64 x.f1, .slice A3 x.f2.length c3, .slice A4 x.f3.length c4] 72)) (.cells #[.slice none 0 0] 22))
  have HB0 := Aside0.mk (below_alloc (below_alloc (Below.refl w.heap.size w) (.cells #[.int .i64 x.f0.f0, .int .i64 x.f0.f1, .int .i64 x.f1, .slice A3 x.f2.length c3, .slice A4 x.f3.length c4] 72)) (.cells #[.slice none 0 0] 22))
  rw [show (w.alloc (.cells #[.int .i64 x.f0.f0, .int .i64 x.f0.f1, .int .i64 x.f1, .slice A3 x.f2.length c3, .slice A4 x.f3.length c4] 72)).heap.size = w.heap.size + 1 by simp] at HBB0
  go_enter Try.func71, Try.ntmps71
  go_wp2_with (fail)
  generalize (w.alloc (.cells #[.int .i64 x.f0.f0, .int .i64 x.f0.f1, .int .i64 x.f1, .slice A3 x.f2.length c3, .slice A4 x.f3.length c4] 72)).alloc (.cells #[.slice none 0 0] 22) = w2 at HBE0 HBB0 HB0 ⊢
  refine (caught_calls 114 #[.pointer (some ⟨w.heap.size, 0, none⟩), .pointer (some ⟨w.heap.size + 1, 0, none⟩)] w2 (fun r w3 => r.getD 0 = y ∧ w2.grownBy w3 (some (w.heap.size + 1)) ∧ w3.heap[w2.heap.size]? = some (.cells #[.int .i64 0] 23) ∧ ∃ A1 c1, w3.heap[w.heap.size + 1]? = some (.cells #[.slice A1 z.length c1] 22) ∧ z.length ≤ c1 ∧ Kd.R (Kd.int .u8) 5 w3 w2.heap.size (fun k => w2.heap.size ≤ k) (.slice A1 z.length c1) z) (fun _ => by kernel_rfl) ?_).mono ?_
  · intro W hW
    have hg0 := World.grownBy_alloc w2 (.cells #[.int .i64 0] 23) (some (w.heap.size + 1))
    have hbW := below_alloc (Below.refl w2.heap.size w2) (.cells #[.int .i64 0] 23)
    have hnW := blk_new w2 (.cells #[.int .i64 0] 23)
    rw [← hW] at hg0 hbW hnW
    have hne : w2.heap.size ≠ w.heap.size + 1 := fun e => by have := blk_lt2 HBB0.out; omega
    have hBW := below_then HB0.out HB0.out.size hbW
    refine (pack114_calls x A3 c3 A4 c4 w.heap.size (w.heap.size + 1) W (Kd.C_below HHY.out.1 hBW) HHY.out.2.1 (Kd.C_below HHY.out.2.2.1 hBW) HHY.out.2.2.2 ((hbW.block _ (blk_lt2 HBE0.out)).trans HBE0.out) ((hbW.block _ (blk_lt2 HBB0.out)).trans HBB0.out)).mono ?_
    intro e w3 hh
    have hE := HE.out
    unfold letterP at hE
    by_cases hx : goodLetter x = true
    · rw [if_pos hx] at hh hE
      obtain ⟨rfl, rfl⟩ := Prod.mk.inj hE
      obtain ⟨A1, c1, rfl, hbb, hl, hR, hg⟩ := hh
      have hbk := (hg.block _ (blk_lt2 hnW) (by intro e; injection e with e; exact hne e)).trans hnW
      exact ⟨⟨none, ⟨rfl, hg0.trans hg, hbk, A1, c1, hbb, hl, Kd.R_mono (Kd.R_lower hR hbW.size) (fun k hk => Nat.le_trans hbW.size hk)⟩, rfl⟩, (blk_cell hbk 0).trans rfl, blk_frozen hbk 0, hbk⟩
    · rw [if_neg hx] at hh hE
      obtain ⟨rfl, rfl⟩ := Prod.mk.inj hE
      obtain ⟨rfl, hB⟩ := hh
      have hbk := (hB.block _ (blk_lt2 hnW)).trans hnW
      exact ⟨⟨some 81, ⟨rfl, hg0.trans (grown_of_below hB _), hbk, none, 0, (hB.block _ (by have := blk_lt2 HBB0.out; have := hbW.size; omega)).trans ((hbW.block _ (blk_lt2 HBB0.out)).trans HBB0.out), Nat.le_refl _, Kd.R_nil _ _ _ _ _⟩, rfl⟩, (blk_cell hbk 0).trans rfl, blk_frozen hbk 0, hbk⟩
  rintro e w4 ⟨r, w3, ⟨hr, hg, hbk, A1, c1, hbb, hl, hR⟩, rfl, rfl⟩
  rw [hr]
  have HL := Aside0.mk hl
  have hne : w.heap.size + 1 ≠ w2.heap.size := fun e => by have := blk_lt2 HBB0.out; omega
  have HR := Aside0.mk (Kd.R_set hR hbk (by simp [Kd.int, Kd.scalar]) 0 (.int .i64 y))
  have HBB4 := Aside0.mk ((Below.heap_setCell w3 ⟨w2.heap.size, 0, none⟩ (.int .i64 y) _ hne).trans hbb)
  have HB4 := Aside0.mk ((HB0.out.grown hg HB0.out.size (fun k hk => by injection hk with hk; omega)).grown (grown_set2 w3 w2.heap.size 0 (.int .i64 y)) (by have := hg.size; have := HB0.out.size; omega) (fun k hk => by injection hk with hk; have := HB0.out.size; omega))
  generalize w3.setCell ⟨w2.heap.size, 0, none⟩ (.int .i64 y) = w4 at HR HBB4 HB4 ⊢
  clear hr hg hbk hbb hl hR hne
  have xb : w4.cell? ⟨w.heap.size + 1, 0, none⟩ = some (.slice A1 z.length c1) := (blk_cell HBB4.out 0).trans rfl
  have xf : w4.frozen? ⟨w.heap.size + 1, 0, none⟩ = false := blk_frozen HBB4.out 0
  have HBB5 := Aside0.mk (blk_put HBB4.out 0 (.slice A1 z.length c1) rfl)
  have xc : (w4.setCell ⟨w.heap.size + 1, 0, none⟩ (.slice A1 z.length c1)).cell? ⟨w.heap.size + 1, 0, none⟩ = some (.slice A1 z.length c1) := (blk_cell HBB5.out 0).trans rfl
  go_wp2_with (fail)
  refine bodyPost_ret (v := .tuple #[.slice A1 z.length c1, .int .i64 y]) ?_ rfl ⟨A1, c1, rfl, HL.out, (Kd.R_reads' (Kd.R_set HR.out HBB4.out (by simp [Kd.int, Kd.scalar]) 0 (.slice A1 z.length c1))).2.2, below_set HB4.out (by omega)⟩
  rw [results_cell_tmp rfl]
  simp [asAddr, Result.andThen, loadVar, xc]
end Go.Proofs.Ytijccobeljoikaa.Ms

/- msg: the statements' helpers: bytes and rows of bytes, compared and copied. -/
namespace Go.Proofs.Ytijccobeljoikaa.Ms
open Go.RowKit Go.Proofs.YtijccobeljoikaaW.PrintWords Go.Proofs.YtijccobeljoikaaW.PrintLast
open Go.Proofs.Ytijccobeljoikaa.Plain Go.Proofs.Ytijccobeljoikaa.Walks
set_option linter.unusedVariables false
set_option linter.unusedSimpArgs false

theorem take_eq_step {α : Type} {a b : List α} {i : Nat} (h : a.take i = b.take i) (ha : i < a.length) (hb : i < b.length) (he : a[i] = b[i]) : a.take (i + 1) = b.take (i + 1) := by
  rw [← List.take_append_getElem ha, ← List.take_append_getElem hb, h, he]
set_option maxHeartbeats 8000000 in
set_option maxRecDepth 100000 in
theorem sameBytes_calls (A0 : Option Addr) (c0 : Nat) (l0 : List Int) (A1 : Option Addr) (c1 : Nat) (l1 : List Int) (w : World) (hr0 : Kd.C (Kd.int .u8) w A0 l0.length l0) (hc0 : l0.length ≤ c0) (hr1 : Kd.C (Kd.int .u8) w A1 l1.length l1) (hc1 : l1.length ≤ c1) :
    Calls Try.prog 27 #[.slice A0 l0.length c0, .slice A1 l1.length c1] w fun e w' => e = .returned (.bool (decide (l0 = l1))) ∧ Drawn0 w w' := by
  have HR0 := Aside0.mk hr0
  have HR1 := Aside0.mk hr1
  have hm0 := hr0.2.1
  have hm1 := hr1.2.1
  clear hr0 hr1
  by_cases c3 : l0.length = l1.length
  · have c3b1 : ((l0.length : Int) != (l1.length : Int)) = false := bne_eq_false_iff_eq.mpr (by omega)
    have c3b2 : (l0.length == l1.length) = true := beq_iff_eq.mpr c3
    have HC := Aside0.mk c3
    clear c3
    go_enter Try.func27, Try.ntmps27
    go_wp2
    repeat (go_quiet (fail); try go_wp2)
    go_loopw [5] (fun u wr => ∃ i : Nat, u = .int .i64 (i : Int) ∧ i ≤ l0.length ∧ Aside0 (l0.take i = l1.take i) ∧ Drawn0 w wr) (fun u _ => l0.length - (intOf u).toNat)
    case atStart => exact ⟨0, rfl, Nat.zero_le _, ⟨rfl⟩, by repeat (first | exact Drawn0.refl _ | apply Drawn0.step)⟩
    case round =>
      obtain ⟨i, rfl, hi, HT, ⟨m1, rfl⟩⟩ := hrel
      by_cases hlt : i < l0.length
      · have b0 : decide ((i : Int) < (l0.length : Int)) = true := decide_eq_true (by omega)
        have b0' : decide (i < l0.length) = true := decide_eq_true hlt
        have hlt1 : i < l1.length := by have := HC.out; omega
        obtain ⟨ad0, e0, hx0⟩ := Kd.at_int HR0.out (i : Int) (by omega) (by omega)
        obtain ⟨ad1, e1, hx1⟩ := Kd.at_int HR1.out (i : Int) (by omega) (by omega)
        subst e0
        subst e1
        rw [Int.toNat_natCast] at hx0 hx1
        have p0 : (0 ≤ (i : Int)) = True := eq_true (by omega)
        have p1 : ((i : Int) < (l0.length : Int)) = True := eq_true (by omega)
        have p2 : ((i : Int) < (l1.length : Int)) = True := eq_true (by omega)
        obtain ⟨u0, hu0⟩ : ∃ u, u = rd l0 (i : Int) := ⟨_, rfl⟩
        obtain ⟨u1, hu1⟩ : ∃ u, u = rd l1 (i : Int) := ⟨_, rfl⟩
        rw [← hu0] at hx0
        rw [← hu1] at hx1
        have HU0 := Aside0.mk (show u0 = l0[i] by rw [hu0]; simp [rd, List.getD_eq_getElem?_getD, hlt])
        have HU1 := Aside0.mk (show u1 = l1[i] by rw [hu1]; simp [rd, List.getD_eq_getElem?_getD, hlt1])
        clear hu0 hu1
        by_cases hq : u0 = u1
        · have q1 : (u0 != u1) = false := bne_eq_false_iff_eq.mpr hq
          have HQ := Aside0.mk hq
          clear hq
          go_wp2
          repeat (go_quiet (fail); try go_wp2)
          exact ⟨⟨i + 1, by simp, by omega, ⟨take_eq_step HT.out hlt hlt1 (by rw [← HU0.out, ← HU1.out]; exact HQ.out)⟩, by repeat (first | exact Drawn0.refl _ | apply Drawn0.step)⟩, by simp only [intOf]; omega⟩
        · have q1 : (u0 != u1) = true := bne_iff_ne.mpr hq
          have HQ := Aside0.mk hq
          clear hq
          go_wp2
          repeat (go_quiet (fail); try go_wp2)
          go_ret
          exact ⟨by rw [decide_eq_false (fun e => HQ.out (by rw [HU0.out, HU1.out]; simp [e]))]; rfl, by repeat (first | exact Drawn0.refl _ | apply Drawn0.step)⟩
      · have b0 : decide ((i : Int) < (l0.length : Int)) = false := decide_eq_false (by omega)
        have b0' : decide (i < l0.length) = false := decide_eq_false hlt
        go_wp2
        repeat (go_quiet (fail); try go_wp2)
        go_ret
        refine ⟨?_, by repeat (first | exact Drawn0.refl _ | apply Drawn0.step)⟩
        have := HT.out
        rw [List.take_of_length_le (by omega), List.take_of_length_le (by have := HC.out; omega)] at this
        rw [decide_eq_true this]; rfl
  · have c3b1 : ((l0.length : Int) != (l1.length : Int)) = true := bne_iff_ne.mpr (by omega)
    have c3b2 : (l0.length == l1.length) = false := beq_eq_false_iff_ne.mpr c3
    have HC := Aside0.mk c3
    clear c3
    go_enter Try.func27, Try.ntmps27
    go_wp2
    repeat (go_quiet (fail); try go_wp2)
    go_ret
    exact ⟨by rw [decide_eq_false (fun e => HC.out (by rw [e]))]; rfl, by repeat (first | exact Drawn0.refl _ | apply Drawn0.step)⟩
end Go.Proofs.Ytijccobeljoikaa.Ms

/- msg: the statements' helpers: bytes and rows of bytes, copied; rows compared. -/
namespace Go.Proofs.Ytijccobeljoikaa.Ms
open Go.RowKit Go.Proofs.YtijccobeljoikaaW.PrintWords Go.Proofs.YtijccobeljoikaaW.PrintLast
open Go.Proofs.Ytijccobeljoikaa.Plain Go.Proofs.Ytijccobeljoikaa.Walks
set_option linter.unusedVariables false
set_option linter.unusedSimpArgs false

theorem sameBytes_is (A0 : Option Addr) (c0 : Nat) (l0 : List Int) (A1 : Option Addr) (c1 : Nat) (l1 : List Int) (r : Bool) (w : World) (hr0 : Kd.C (Kd.int .u8) w A0 l0.length l0) (hc0 : l0.length ≤ c0) (hr1 : Kd.C (Kd.int .u8) w A1 l1.length l1) (hc1 : l1.length ≤ c1) (h : decide (l0 = l1) = r) :
    Calls Try.prog 27 #[.slice A0 l0.length c0, .slice A1 l1.length c1] w fun e w' => e = .returned (.bool r) ∧ Drawn0 w w' := h ▸ sameBytes_calls A0 c0 l0 A1 c1 l1 w hr0 hc0 hr1 hc1
theorem int_new (W : World) (b : Nat) (ok : Nat → Prop) (hb : b ≤ W.heap.size) (hok : ok W.heap.size) : Kd.R (Kd.int .u8) 5 (W.alloc (.cells #[] 5)) b ok (.slice (some ⟨W.heap.size, 0, none⟩) 0 0) [] :=
  Kd.R_of_own (own_lit_of W b 5 [] hb (by simp)) (fun k hk => by
    have : k = W.heap.size := by simpa [Value.ownBlock] using hk.symm
    rw [this]; exact hok)
theorem new_R {α : Type} (d : Kd α) (e : Nat) (W : World) (b : Nat) (ok : Nat → Prop) (hb : b ≤ W.heap.size) (hok : ok W.heap.size) : d.R e (W.alloc (.cells #[] e)) b ok (.slice (some ⟨W.heap.size, 0, none⟩) 0 0) [] :=
  ⟨fun k hk => by
    have : k = W.heap.size := by simpa [Value.ownBlock] using hk.symm
    rw [this]; exact hok, [], World.ownsRow_lit W #[] 0 hb (Nat.zero_le _) (by simp), Reps.none _ _⟩
set_option maxHeartbeats 8000000 in
set_option maxRecDepth 100000 in
theorem copyBytes_calls (A : Option Addr) (c : Nat) (l : List Int) (w : World) (hC : Kd.C (Kd.int .u8) w A l.length l) (hc : l.length ≤ c) (hl : l.length ≤ 140737488355328) :
    Calls Try.prog 41 #[.slice A l.length c] w fun e w' => ∃ A1 c1, e = .returned (.slice A1 l.length c1) ∧ Got (Kd.int .u8) 5 w w' A1 c1 l := by
  have HC := Aside0.mk (Kd.C_alloc hC (.cells #[] 5))
  have HR := Aside0.mk (int_new w w.heap.size (fun k => w.heap.size ≤ k) (Nat.le_refl _) (Nat.le_refl _))
  have HB := Aside0.mk (below_alloc (Below.refl w.heap.size w) (.cells #[] 5))
  have hs := below_size HB.out
  clear hC
  go_enter Try.func41, Try.ntmps41
  go_wp2_with (at_builtin; refine Kd.R_append_row (w0 := w) (Value.int .u8) (0 : Int) w.heap.size rfl (.tmp 5) (.tmp 6) 22 5 (.int .u8 0) 1 rfl Try.underlying22 info5 rfl (by decide) (.slice (some ⟨w.heap.size, 0, none⟩) 0 0) [] l A l.length c (fun k => w.heap.size ≤ k) rfl rfl (fun k hk => by omega) HR.out HC.out HB.out hs (by simp; omega) ?_; intro v1 w1 hR1 hB1 hg1 hat1; obtain ⟨A1, c1, rfl⟩ := Kd.R_slice hR1; have HR1 := Aside0.mk hR1; have HB1 := Aside0.mk hB1; clear hR1 hB1 hg1 hat1)
  go_ret
  exact ⟨A1, c1, rfl, HR1.out, HB1.out⟩
set_option maxHeartbeats 8000000 in
set_option maxRecDepth 100000 in
theorem copyRows_calls (A : Option Addr) (c : Nat) (rs : List (List Int)) (w : World) (hC : Kd.C (Kd.slice 5 (Kd.int .u8)) w A rs.length rs) (hc : rs.length ≤ c) (hn : rs.length * 24 ≤ 140737488355328) (hl : ∀ r ∈ rs, r.length ≤ 140737488355328) :
    Calls Try.prog 30 #[.slice A rs.length c] w fun e w' => ∃ A1 c1, e = .returned (.slice A1 rs.length c1) ∧ Got (Kd.slice 5 (Kd.int .u8)) 22 w w' A1 c1 rs := by
  have HC := Aside0.mk hC
  have HLs := Aside0.mk hl
  have hm := hC.2.1
  have HR0 := Aside0.mk (new_R (Kd.slice 5 (Kd.int .u8)) 22 w w.heap.size (fun k => w.heap.size ≤ k) (Nat.le_refl _) (Nat.le_refl _))
  have HB0 := Aside0.mk (below_alloc (Below.refl w.heap.size w) (.cells #[] 22))
  clear hC hl
  go_enter Try.func30, Try.ntmps30
  go_wp2_with (fail)
  go_loopw [3, 4] (fun u t wr => ∃ i : Nat, t = .int .i64 (i : Int) ∧ i ≤ rs.length ∧ Aside0 (Kd.R (Kd.slice 5 (Kd.int .u8)) 22 wr w.heap.size (fun k_ => w.heap.size ≤ k_) u (rs.take i)) ∧ Aside0 (Below w.heap.size w wr)) (fun _ t _ => rs.length - (intOf t).toNat)
  case atStart => exact ⟨0, rfl, Nat.zero_le _, HR0, HB0⟩
  case round =>
    clear HR0 HB0
    obtain ⟨i, rfl, hi, HR, HB⟩ := hrel
    obtain ⟨Av, cv, ev⟩ := Kd.R_slice HR.out
    subst ev
    by_cases hlt : i < rs.length
    · have b0 : decide ((i : Int) < (rs.length : Int)) = true := decide_eq_true (by omega)
      have b0' : decide (i < rs.length) = true := decide_eq_true hlt
      have b1 : (0 ≤ (i : Int)) = True := eq_true (by omega)
      have b2 : ((i : Int) < (rs.length : Int)) = True := eq_true (by omega)
      obtain ⟨ad, Ai, ci, e, hx0, hci, hCi⟩ := at_L3 (Kd.C_below HC.out HB.out) (i : Int) (by omega) (by omega)
      subst e
      rw [Int.toNat_natCast] at hx0
      obtain ⟨r, hr⟩ : ∃ r, r = rd_L3 rs (i : Int) := ⟨_, rfl⟩
      rw [← hr] at hx0 hci hCi
      have hri : r = rs[i] := by rw [hr]; simp [rd_L3, List.getD_eq_getElem?_getD, hlt]
      have HRI := Aside0.mk hri
      have HCi := Aside0.mk hCi
      have Hci := Aside0.mk hci
      have HLi := Aside0.mk (show r.length ≤ 140737488355328 from hri ▸ HLs.out _ (List.getElem_mem hlt))
      have hxl : (rs.take i).length < rs.length := by rw [List.length_take_of_le (by omega)]; exact hlt
      obtain ⟨xs, hxs⟩ : ∃ xs, xs = rs.take i := ⟨_, rfl⟩
      rw [← hxs] at HR hxl ⊢
      have HXS := Aside0.mk hxs
      clear hr hri hci hCi hxs
      go_wp2_with (first
        | (go_at_call 41; refine (copyBytes_calls Ai ci r _ HCi.out Hci.out HLi.out).mono ?_; rintro e w2 ⟨A1, c1, rfl, hG⟩; have HB2 := Aside0.mk (below_then HB.out HB.out.size hG.keep); have hs2 := HB2.out.size; have HR2 := Aside0.mk (Kd.R_below HR.out hG.keep); have HM := Aside0.mk (show (Kd.slice 5 (Kd.int .u8)).M w2 w.heap.size (fun k => wr.heap.size ≤ k) r [.slice A1 r.length c1] from ⟨_, rfl, Kd.R_lower hG.own HB.out.size⟩); clear hG)
        | (at_builtin; refine Kd.R_append (Kd.slice 5 (Kd.int .u8)) (w0 := w) w.heap.size rfl (.tmp 12) (.tmp 18) 32 22 (.slice none 0 0) 24 rfl Try.underlying32 Walks.info22 rfl (by decide) (by omega) (.slice Av xs.length cv) xs r [.slice A1 r.length c1] (fun k_ => w.heap.size ≤ k_) (fun k_ => wr.heap.size ≤ k_) rfl rfl HM.out (fun k hk => ⟨Nat.le_trans HB.out.size hk, fun e => by have := Kd.R_lt_ HR.out k e.symm; omega⟩) (fun k hk => by omega) HR2.out HB2.out hs2 (by omega) ?_; intro v3 w3 hR3 hB3 hg3 hat3; have HR3 := Aside0.mk hR3; have HB3 := Aside0.mk hB3; clear hR3 hB3 hg3 hat3))
      exact ⟨⟨i + 1, by simp, by omega, ⟨by rw [← List.take_append_getElem hlt, ← HXS.out, ← HRI.out]; exact HR3.out⟩, HB3⟩, by simp only [intOf]; omega⟩
    · have b0 : decide ((i : Int) < (rs.length : Int)) = false := decide_eq_false (by omega)
      have b0' : decide (i < rs.length) = false := decide_eq_false hlt
      have hil : rs.take i = rs := List.take_of_length_le (by omega)
      have HRF := Aside0.mk (hil ▸ HR.out)
      rw [hil]
      go_wp2_with (fail)
      go_ret
      exact ⟨_, _, rfl, HRF.out, HB.out⟩
set_option maxHeartbeats 8000000 in
set_option maxRecDepth 100000 in
theorem sameRows_calls (A0 : Option Addr) (c0 : Nat) (l0 : List (List Int)) (A1 : Option Addr) (c1 : Nat) (l1 : List (List Int)) (w : World) (hr0 : Kd.C (Kd.slice 5 (Kd.int .u8)) w A0 l0.length l0) (hr1 : Kd.C (Kd.slice 5 (Kd.int .u8)) w A1 l1.length l1) :
    Calls Try.prog 33 #[.slice A0 l0.length c0, .slice A1 l1.length c1] w fun e w' => e = .returned (.bool (decide (l0 = l1))) ∧ Drawn0 w w' := by
  have HR0 := Aside0.mk hr0
  have HR1 := Aside0.mk hr1
  have hm0 := hr0.2.1
  have hm1 := hr1.2.1
  clear hr0 hr1
  by_cases c3 : l0.length = l1.length
  · have c3b1 : ((l0.length : Int) != (l1.length : Int)) = false := bne_eq_false_iff_eq.mpr (by omega)
    have c3b2 : (l0.length == l1.length) = true := beq_iff_eq.mpr c3
    have HC := Aside0.mk c3
    clear c3
    go_enter Try.func33, Try.ntmps33
    go_wp2
    repeat (go_quiet (fail); try go_wp2)
    go_loopw [5] (fun u wr => ∃ i : Nat, u = .int .i64 (i : Int) ∧ i ≤ l0.length ∧ Aside0 (l0.take i = l1.take i) ∧ Drawn0 w wr) (fun u _ => l0.length - (intOf u).toNat)
    case atStart => exact ⟨0, rfl, Nat.zero_le _, ⟨rfl⟩, by repeat (first | exact Drawn0.refl _ | apply Drawn0.step)⟩
    case round =>
      obtain ⟨i, rfl, hi, HT, ⟨m1, rfl⟩⟩ := hrel
      by_cases hlt : i < l0.length
      · have b0 : decide ((i : Int) < (l0.length : Int)) = true := decide_eq_true (by omega)
        have b0' : decide (i < l0.length) = true := decide_eq_true hlt
        have hlt1 : i < l1.length := by have := HC.out; omega
        obtain ⟨ad0, B0, d0, e0, hx0, hl0, hC0⟩ := at_L3 HR0.out (i : Int) (by omega) (by omega)
        obtain ⟨ad1, B1, d1, e1, hx1, hl1, hC1⟩ := at_L3 HR1.out (i : Int) (by omega) (by omega)
        subst e0
        subst e1
        rw [Int.toNat_natCast] at hx0 hx1
        have p0 : (0 ≤ (i : Int)) = True := eq_true (by omega)
        have p1 : ((i : Int) < (l0.length : Int)) = True := eq_true (by omega)
        have p2 : ((i : Int) < (l1.length : Int)) = True := eq_true (by omega)
        obtain ⟨u0, hu0⟩ : ∃ u, u = rd_L3 l0 (i : Int) := ⟨_, rfl⟩
        obtain ⟨u1, hu1⟩ : ∃ u, u = rd_L3 l1 (i : Int) := ⟨_, rfl⟩
        rw [← hu0] at hx0 hl0 hC0
        rw [← hu1] at hx1 hl1 hC1
        have HU0 := Aside0.mk (show u0 = l0[i] by rw [hu0]; simp [rd_L3, List.getD_eq_getElem?_getD, hlt])
        have HU1 := Aside0.mk (show u1 = l1[i] by rw [hu1]; simp [rd_L3, List.getD_eq_getElem?_getD, hlt1])
        have HA := Aside0.mk (And.intro hl0 (And.intro hC0 (And.intro hl1 hC1)))
        clear hu0 hu1 hl0 hC0 hl1 hC1
        by_cases hq : u0 = u1
        · have HQ := Aside0.mk (decide_eq_true hq)
          have HE := Aside0.mk hq
          clear hq
          go_wp2_with (first | (go_at_call 27; (with_reducible refine (sameBytes_is B0 d0 u0 B1 d1 u1 true _ ?s1 ?s2 ?s3 ?s4 HQ.out).mono ?_); (case s1 => repeat (first | exact HA.out.2.1 | (with_reducible refine Kd.C_drewN ?_ _) | (with_reducible refine Kd.C_drew ?_))); (case s2 => exact HA.out.1); (case s3 => repeat (first | exact HA.out.2.2.2 | (with_reducible refine Kd.C_drewN ?_ _) | (with_reducible refine Kd.C_drew ?_))); (case s4 => exact HA.out.2.2.1); rintro e w' ⟨rfl, ⟨nd, rfl⟩⟩; (try first | exact ⟨rfl, _, World.drewN_drewN _ _ _⟩ | exact ⟨rfl, _, Eq.trans (World.drewN_drewN _ _ _) (congrArg (World.drewN _) (Nat.add_assoc _ _ _))⟩)))
          repeat (go_quiet (first | (go_at_call 27; (with_reducible refine (sameBytes_is B0 d0 u0 B1 d1 u1 true _ ?s1 ?s2 ?s3 ?s4 HQ.out).mono ?_); (case s1 => repeat (first | exact HA.out.2.1 | (with_reducible refine Kd.C_drewN ?_ _) | (with_reducible refine Kd.C_drew ?_))); (case s2 => exact HA.out.1); (case s3 => repeat (first | exact HA.out.2.2.2 | (with_reducible refine Kd.C_drewN ?_ _) | (with_reducible refine Kd.C_drew ?_))); (case s4 => exact HA.out.2.2.1); rintro e w' ⟨rfl, ⟨nd, rfl⟩⟩; (try first | exact ⟨rfl, _, World.drewN_drewN _ _ _⟩ | exact ⟨rfl, _, Eq.trans (World.drewN_drewN _ _ _) (congrArg (World.drewN _) (Nat.add_assoc _ _ _))⟩))); try (go_wp2_with (first | (go_at_call 27; (with_reducible refine (sameBytes_is B0 d0 u0 B1 d1 u1 true _ ?s1 ?s2 ?s3 ?s4 HQ.out).mono ?_); (case s1 => repeat (first | exact HA.out.2.1 | (with_reducible refine Kd.C_drewN ?_ _) | (with_reducible refine Kd.C_drew ?_))); (case s2 => exact HA.out.1); (case s3 => repeat (first | exact HA.out.2.2.2 | (with_reducible refine Kd.C_drewN ?_ _) | (with_reducible refine Kd.C_drew ?_))); (case s4 => exact HA.out.2.2.1); rintro e w' ⟨rfl, ⟨nd, rfl⟩⟩; (try first | exact ⟨rfl, _, World.drewN_drewN _ _ _⟩ | exact ⟨rfl, _, Eq.trans (World.drewN_drewN _ _ _) (congrArg (World.drewN _) (Nat.add_assoc _ _ _))⟩)))))
          exact ⟨⟨i + 1, by simp, by omega, ⟨take_eq_step HT.out hlt hlt1 (by rw [← HU0.out, ← HU1.out]; exact HE.out)⟩, by repeat (first | exact Drawn0.refl _ | apply Drawn0.step)⟩, by simp only [intOf]; omega⟩
        · have HQ := Aside0.mk (decide_eq_false hq)
          have HE := Aside0.mk hq
          clear hq
          go_wp2_with (first | (go_at_call 27; (with_reducible refine (sameBytes_is B0 d0 u0 B1 d1 u1 false _ ?s1 ?s2 ?s3 ?s4 HQ.out).mono ?_); (case s1 => repeat (first | exact HA.out.2.1 | (with_reducible refine Kd.C_drewN ?_ _) | (with_reducible refine Kd.C_drew ?_))); (case s2 => exact HA.out.1); (case s3 => repeat (first | exact HA.out.2.2.2 | (with_reducible refine Kd.C_drewN ?_ _) | (with_reducible refine Kd.C_drew ?_))); (case s4 => exact HA.out.2.2.1); rintro e w' ⟨rfl, ⟨nd, rfl⟩⟩; (try first | exact ⟨rfl, _, World.drewN_drewN _ _ _⟩ | exact ⟨rfl, _, Eq.trans (World.drewN_drewN _ _ _) (congrArg (World.drewN _) (Nat.add_assoc _ _ _))⟩)))
          repeat (go_quiet (first | (go_at_call 27; (with_reducible refine (sameBytes_is B0 d0 u0 B1 d1 u1 false _ ?s1 ?s2 ?s3 ?s4 HQ.out).mono ?_); (case s1 => repeat (first | exact HA.out.2.1 | (with_reducible refine Kd.C_drewN ?_ _) | (with_reducible refine Kd.C_drew ?_))); (case s2 => exact HA.out.1); (case s3 => repeat (first | exact HA.out.2.2.2 | (with_reducible refine Kd.C_drewN ?_ _) | (with_reducible refine Kd.C_drew ?_))); (case s4 => exact HA.out.2.2.1); rintro e w' ⟨rfl, ⟨nd, rfl⟩⟩; (try first | exact ⟨rfl, _, World.drewN_drewN _ _ _⟩ | exact ⟨rfl, _, Eq.trans (World.drewN_drewN _ _ _) (congrArg (World.drewN _) (Nat.add_assoc _ _ _))⟩))); try (go_wp2_with (first | (go_at_call 27; (with_reducible refine (sameBytes_is B0 d0 u0 B1 d1 u1 false _ ?s1 ?s2 ?s3 ?s4 HQ.out).mono ?_); (case s1 => repeat (first | exact HA.out.2.1 | (with_reducible refine Kd.C_drewN ?_ _) | (with_reducible refine Kd.C_drew ?_))); (case s2 => exact HA.out.1); (case s3 => repeat (first | exact HA.out.2.2.2 | (with_reducible refine Kd.C_drewN ?_ _) | (with_reducible refine Kd.C_drew ?_))); (case s4 => exact HA.out.2.2.1); rintro e w' ⟨rfl, ⟨nd, rfl⟩⟩; (try first | exact ⟨rfl, _, World.drewN_drewN _ _ _⟩ | exact ⟨rfl, _, Eq.trans (World.drewN_drewN _ _ _) (congrArg (World.drewN _) (Nat.add_assoc _ _ _))⟩)))))
          go_ret
          exact ⟨by rw [decide_eq_false (fun e => HE.out (by rw [HU0.out, HU1.out]; simp [e]))]; rfl, by repeat (first | exact Drawn0.refl _ | apply Drawn0.step)⟩
      · have b0 : decide ((i : Int) < (l0.length : Int)) = false := decide_eq_false (by omega)
        have b0' : decide (i < l0.length) = false := decide_eq_false hlt
        go_wp2
        repeat (go_quiet (fail); try go_wp2)
        go_ret
        refine ⟨?_, by repeat (first | exact Drawn0.refl _ | apply Drawn0.step)⟩
        have := HT.out
        rw [List.take_of_length_le (by omega), List.take_of_length_le (by have := HC.out; omega)] at this
        rw [decide_eq_true this]; rfl
  · have c3b1 : ((l0.length : Int) != (l1.length : Int)) = true := bne_iff_ne.mpr (by omega)
    have c3b2 : (l0.length == l1.length) = false := beq_eq_false_iff_ne.mpr c3
    have HC := Aside0.mk c3
    clear c3
    go_enter Try.func33, Try.ntmps33
    go_wp2
    repeat (go_quiet (fail); try go_wp2)
    go_ret
    exact ⟨by rw [decide_eq_false (fun e => HC.out (by rw [e]))]; rfl, by repeat (first | exact Drawn0.refl _ | apply Drawn0.step)⟩
end Go.Proofs.Ytijccobeljoikaa.Ms

/- msg: the statements' helpers: entries and letters, copied. -/
namespace Go.Proofs.Ytijccobeljoikaa.Ms
open Go.RowKit Go.Proofs.YtijccobeljoikaaW.PrintWords Go.Proofs.YtijccobeljoikaaW.PrintLast
open Go.Proofs.Ytijccobeljoikaa.Plain Go.Proofs.Ytijccobeljoikaa.Walks
set_option linter.unusedVariables false
set_option linter.unusedSimpArgs false

/-- Sizes that a letter may have in memory. -/
structure Fit72 (x : S72) : Prop where
  b : x.f2.length ≤ 140737488355328
  n : x.f3.length * 24 ≤ 140737488355328
  t : ∀ r ∈ x.f3, r.length ≤ 140737488355328
set_option maxHeartbeats 8000000 in
set_option maxRecDepth 100000 in
theorem copyEntry_calls (x : S87) (A3 : Option Addr) (c3 : Nat) (w : World) (hC : Kd.C (Kd.int .u8) w A3 x.f3.length x.f3) (hc : x.f3.length ≤ c3) (hl : x.f3.length ≤ 140737488355328) :
    Calls Try.prog 75 #[.agg #[.int .i64 x.f0, .int .i64 x.f1, .int .i64 x.f2, .slice A3 x.f3.length c3]] w fun e w' => EntryPost w (some x) e w' := by
  have hu87 := Try.underlying87
  have HC := Aside0.mk (Kd.C_alloc (Kd.C_alloc hC (.cells #[.int .i64 x.f0, .int .i64 x.f1, .int .i64 x.f2, .slice A3 x.f3.length c3] 87)) (.cells #[.int .i64 0, .int .i64 0, .int .i64 0, .slice none 0 0] 87))
  have HB0 := Aside0.mk (below_alloc (below_alloc (Below.refl w.heap.size w) (.cells #[.int .i64 x.f0, .int .i64 x.f1, .int .i64 x.f2, .slice A3 x.f3.length c3] 87)) (.cells #[.int .i64 0, .int .i64 0, .int .i64 0, .slice none 0 0] 87))
  have HX0 := Aside0.mk ((Below.heap_alloc (w.alloc (.cells #[.int .i64 x.f0, .int .i64 x.f1, .int .i64 x.f2, .slice A3 x.f3.length c3] 87)) (.cells #[.int .i64 0, .int .i64 0, .int .i64 0, .slice none 0 0] 87) w.heap.size (by simp)).trans (blk_new w (.cells #[.int .i64 x.f0, .int .i64 x.f1, .int .i64 x.f2, .slice A3 x.f3.length c3] 87)))
  have HY0 := Aside0.mk (blk_new (w.alloc (.cells #[.int .i64 x.f0, .int .i64 x.f1, .int .i64 x.f2, .slice A3 x.f3.length c3] 87)) (.cells #[.int .i64 0, .int .i64 0, .int .i64 0, .slice none 0 0] 87))
  rw [show (w.alloc (.cells #[.int .i64 x.f0, .int .i64 x.f1, .int .i64 x.f2, .slice A3 x.f3.length c3] 87)).heap.size = w.heap.size + 1 by simp] at HY0
  clear hC
  go_enter Try.func75, Try.ntmps75
  go_wp2_with (fail)
  generalize (w.alloc (.cells #[.int .i64 x.f0, .int .i64 x.f1, .int .i64 x.f2, .slice A3 x.f3.length c3] 87)).alloc (.cells #[.int .i64 0, .int .i64 0, .int .i64 0, .slice none 0 0] 87) = w0 at HC HB0 HX0 HY0 ⊢
  refine (copyBytes_calls A3 c3 x.f3 w0 HC.out hc hl).mono ?_
  rintro e w1 ⟨A1, c1, rfl, hG⟩
  have HX1 := Aside0.mk ((hG.keep.block _ (blk_lt2 HX0.out)).trans HX0.out)
  have HY1 := Aside0.mk ((hG.keep.block _ (blk_lt2 HY0.out)).trans HY0.out)
  have HB1 := Aside0.mk (below_then HB0.out HB0.out.size hG.keep)
  have HR1 := Aside0.mk (Kd.R_mono (Kd.R_lower hG.own HB0.out.size) (fun k hk => Nat.le_trans HB0.out.size hk))
  have HX2 := Aside0.mk (blk_put HX1.out 3 (.slice A1 x.f3.length c1) rfl)
  have HR2 := Aside0.mk (Kd.R_set HR1.out HX1.out (by simp [Kd.int, Kd.scalar]) 3 (.slice A1 x.f3.length c1))
  have HY2 := Aside0.mk ((Below.heap_setCell w1 ⟨w.heap.size, 3, none⟩ (.slice A1 x.f3.length c1) (w.heap.size + 1) (by simp)).trans HY1.out)
  have HB2 := Aside0.mk (below_set (j := 3) (v := .slice A1 x.f3.length c1) HB1.out (Nat.le_refl _))
  have y3 : w1.cell? ⟨w.heap.size, 3, none⟩ = some (.slice A3 x.f3.length c3) := (blk_cell HX1.out 3).trans rfl
  have f3 : w1.frozen? ⟨w.heap.size, 3, none⟩ = false := blk_frozen HX1.out 3
  have x0 : (w1.setCell ⟨w.heap.size, 3, none⟩ (.slice A1 x.f3.length c1)).cell? ⟨w.heap.size, 0, none⟩ = some (.int .i64 x.f0) := (blk_cell HX2.out 0).trans rfl
  have x1 : (w1.setCell ⟨w.heap.size, 3, none⟩ (.slice A1 x.f3.length c1)).cell? ⟨w.heap.size, 1, none⟩ = some (.int .i64 x.f1) := (blk_cell HX2.out 1).trans rfl
  have x2 : (w1.setCell ⟨w.heap.size, 3, none⟩ (.slice A1 x.f3.length c1)).cell? ⟨w.heap.size, 2, none⟩ = some (.int .i64 x.f2) := (blk_cell HX2.out 2).trans rfl
  have x3 : (w1.setCell ⟨w.heap.size, 3, none⟩ (.slice A1 x.f3.length c1)).cell? ⟨w.heap.size, 3, none⟩ = some (.slice A1 x.f3.length c1) := (blk_cell HX2.out 3).trans rfl
  clear hG
  go_wp2_with (refine wpList_store_row rfl 87 (.tmp 2) (.tmp 7) rfl (w.heap.size + 1) #[.int .i64 x.f0, .int .i64 x.f1, .int .i64 x.f2, .slice A1 x.f3.length c1] rfl rfl 87 _ HY2.out size87 rfl (by simp [Value.oneCell']) ?_; have HY3 := Aside0.mk (setRow_heap _ _ _ #[.int .i64 x.f0, .int .i64 x.f1, .int .i64 x.f2, .slice A1 x.f3.length c1] _ _ HY2.out); have HR3 := Aside0.mk (R_row HR2.out HY2.out (by simp [Kd.int, Kd.scalar]) #[.int .i64 x.f0, .int .i64 x.f1, .int .i64 x.f2, .slice A1 x.f3.length c1]); have HB3 := Aside0.mk (below_setRow HB2.out (Nat.le_succ _) #[.int .i64 x.f0, .int .i64 x.f1, .int .i64 x.f2, .slice A1 x.f3.length c1]))
  exact bodyPost_ret (v := .agg #[.int .i64 x.f0, .int .i64 x.f1, .int .i64 x.f2, .slice A1 x.f3.length c1]) (results_cell_row (p := 2) rfl _ _ (w.heap.size + 1) 87 _ _ _ rfl HY3.out hu87 rfl size87) rfl ⟨HB3.out, A1, c1, rfl, HR3.out⟩
set_option maxHeartbeats 8000000 in
set_option maxRecDepth 100000 in
theorem copyLetter_calls (x : S72) (A3 : Option Addr) (c3 : Nat) (A4 : Option Addr) (c4 : Nat) (w : World) (hC3 : Kd.C (Kd.int .u8) w A3 x.f2.length x.f2) (hc3 : x.f2.length ≤ c3) (hC4 : Kd.C (Kd.slice 5 (Kd.int .u8)) w A4 x.f3.length x.f3) (hc4 : x.f3.length ≤ c4) (hf : Fit72 x) :
    Calls Try.prog 72 #[.agg #[.int .i64 x.f0.f0, .int .i64 x.f0.f1, .int .i64 x.f1, .slice A3 x.f2.length c3, .slice A4 x.f3.length c4]] w fun e w' => LetterPost w (some x) e w' := by
  have hu72 := Try.underlying72
  have HF := Aside0.mk hf
  have HC := Aside0.mk (Kd.C_alloc (Kd.C_alloc hC3 (.cells #[.int .i64 x.f0.f0, .int .i64 x.f0.f1, .int .i64 x.f1, .slice A3 x.f2.length c3, .slice A4 x.f3.length c4] 72)) (.cells #[.int .i64 0, .int .i64 0, .int .i64 0, .slice none 0 0, .slice none 0 0] 72))
  have HC4 := Aside0.mk (Kd.C_alloc (Kd.C_alloc hC4 (.cells #[.int .i64 x.f0.f0, .int .i64 x.f0.f1, .int .i64 x.f1, .slice A3 x.f2.length c3, .slice A4 x.f3.length c4] 72)) (.cells #[.int .i64 0, .int .i64 0, .int .i64 0, .slice none 0 0, .slice none 0 0] 72))
  have HB0 := Aside0.mk (below_alloc (below_alloc (Below.refl w.heap.size w) (.cells #[.int .i64 x.f0.f0, .int .i64 x.f0.f1, .int .i64 x.f1, .slice A3 x.f2.length c3, .slice A4 x.f3.length c4] 72)) (.cells #[.int .i64 0, .int .i64 0, .int .i64 0, .slice none 0 0, .slice none 0 0] 72))
  have HX0 := Aside0.mk ((Below.heap_alloc (w.alloc (.cells #[.int .i64 x.f0.f0, .int .i64 x.f0.f1, .int .i64 x.f1, .slice A3 x.f2.length c3, .slice A4 x.f3.length c4] 72)) (.cells #[.int .i64 0, .int .i64 0, .int .i64 0, .slice none 0 0, .slice none 0 0] 72) w.heap.size (by simp)).trans (blk_new w (.cells #[.int .i64 x.f0.f0, .int .i64 x.f0.f1, .int .i64 x.f1, .slice A3 x.f2.length c3, .slice A4 x.f3.length c4] 72)))
  have HY0 := Aside0.mk (blk_new (w.alloc (.cells #[.int .i64 x.f0.f0, .int .i64 x.f0.f1, .int .i64 x.f1, .slice A3 x.f2.length c3, .slice A4 x.f3.length c4] 72)) (.cells #[.int .i64 0, .int .i64 0, .int .i64 0, .slice none 0 0, .slice none 0 0] 72))
  rw [show (w.alloc (.cells #[.int .i64 x.f0.f0, .int .i64 x.f0.f1, .int .i64 x.f1, .slice A3 x.f2.length c3, .slice A4 x.f3.length c4] 72)).heap.size = w.heap.size + 1 by simp] at HY0
  have HC4w := Aside0.mk hC4
  clear hC3 hC4 hf
  go_enter Try.func72, Try.ntmps72
  go_wp2_with (fail)
  generalize (w.alloc (.cells #[.int .i64 x.f0.f0, .int .i64 x.f0.f1, .int .i64 x.f1, .slice A3 x.f2.length c3, .slice A4 x.f3.length c4] 72)).alloc (.cells #[.int .i64 0, .int .i64 0, .int .i64 0, .slice none 0 0, .slice none 0 0] 72) = w0 at HC HC4 HB0 HX0 HY0 ⊢
  refine (copyBytes_calls A3 c3 x.f2 w0 HC.out hc3 HF.out.b).mono ?_
  rintro e w1 ⟨A1, c1, rfl, hG⟩
  have HX1 := Aside0.mk ((hG.keep.block _ (blk_lt2 HX0.out)).trans HX0.out)
  have HY1 := Aside0.mk ((hG.keep.block _ (blk_lt2 HY0.out)).trans HY0.out)
  have HB1 := Aside0.mk (below_then HB0.out HB0.out.size hG.keep)
  have HR1 := Aside0.mk (Kd.R_mono (Kd.R_lower hG.own HB0.out.size) (fun k hk => Nat.le_trans HB0.out.size hk))
  have HX2 := Aside0.mk (blk_put HX1.out 3 (.slice A1 x.f2.length c1) rfl)
  have HR2 := Aside0.mk (Kd.R_set HR1.out HX1.out (by simp [Kd.int, Kd.scalar]) 3 (.slice A1 x.f2.length c1))
  have HY2 := Aside0.mk ((Below.heap_setCell w1 ⟨w.heap.size, 3, none⟩ (.slice A1 x.f2.length c1) (w.heap.size + 1) (by simp)).trans HY1.out)
  have HB2 := Aside0.mk (below_set (j := 3) (v := .slice A1 x.f2.length c1) HB1.out (Nat.le_refl _))
  have y3 : w1.cell? ⟨w.heap.size, 3, none⟩ = some (.slice A3 x.f2.length c3) := (blk_cell HX1.out 3).trans rfl
  have f3 : w1.frozen? ⟨w.heap.size, 3, none⟩ = false := blk_frozen HX1.out 3
  have x4 : (w1.setCell ⟨w.heap.size, 3, none⟩ (.slice A1 x.f2.length c1)).cell? ⟨w.heap.size, 4, none⟩ = some (.slice A4 x.f3.length c4) := (blk_cell HX2.out 4).trans rfl
  clear hG
  go_wp2_with (fail)
  generalize w1.setCell ⟨w.heap.size, 3, none⟩ (.slice A1 x.f2.length c1) = w2 at HX2 HR2 HY2 HB2 ⊢
  clear y3 f3 x4 HX1 HY1 HB1 HR1
  refine (copyRows_calls A4 c4 x.f3 w2 (Kd.C_below HC4w.out HB2.out) hc4 HF.out.n HF.out.t).mono ?_
  rintro e w3 ⟨A2, c2, rfl, hG⟩
  have HX3 := Aside0.mk ((hG.keep.block _ (blk_lt2 HX2.out)).trans HX2.out)
  have HY3 := Aside0.mk ((hG.keep.block _ (blk_lt2 HY2.out)).trans HY2.out)
  have HB3 := Aside0.mk (below_then HB2.out HB2.out.size hG.keep)
  have HR3 := Aside0.mk (Kd.R_below HR2.out hG.keep)
  have HS3 := Aside0.mk (Kd.R_mono (Kd.R_lower hG.own HB2.out.size) (fun k hk => Nat.le_trans HB2.out.size hk))
  have HX4 := Aside0.mk (blk_put HX3.out 4 (.slice A2 x.f3.length c2) rfl)
  have HR4 := Aside0.mk (Kd.R_set HR3.out HX3.out (by simp [Kd.int, Kd.scalar]) 4 (.slice A2 x.f3.length c2))
  have HS4 := Aside0.mk (Kd.R_set HS3.out HX3.out (by simp [Kd.slice, Kd.int, Kd.scalar]) 4 (.slice A2 x.f3.length c2))
  have HY4 := Aside0.mk ((Below.heap_setCell w3 ⟨w.heap.size, 4, none⟩ (.slice A2 x.f3.length c2) (w.heap.size + 1) (by simp)).trans HY3.out)
  have HB4 := Aside0.mk (below_set (j := 4) (v := .slice A2 x.f3.length c2) HB3.out (Nat.le_refl _))
  have y4 : w3.cell? ⟨w.heap.size, 4, none⟩ = some (.slice A4 x.f3.length c4) := (blk_cell HX3.out 4).trans rfl
  have f4 : w3.frozen? ⟨w.heap.size, 4, none⟩ = false := blk_frozen HX3.out 4
  have x0 : (w3.setCell ⟨w.heap.size, 4, none⟩ (.slice A2 x.f3.length c2)).cell? ⟨w.heap.size, 0, none⟩ = some (.int .i64 x.f0.f0) := (blk_cell HX4.out 0).trans rfl
  have x1 : (w3.setCell ⟨w.heap.size, 4, none⟩ (.slice A2 x.f3.length c2)).cell? ⟨w.heap.size, 1, none⟩ = some (.int .i64 x.f0.f1) := (blk_cell HX4.out 1).trans rfl
  have x2 : (w3.setCell ⟨w.heap.size, 4, none⟩ (.slice A2 x.f3.length c2)).cell? ⟨w.heap.size, 2, none⟩ = some (.int .i64 x.f1) := (blk_cell HX4.out 2).trans rfl
  have x3 : (w3.setCell ⟨w.heap.size, 4, none⟩ (.slice A2 x.f3.length c2)).cell? ⟨w.heap.size, 3, none⟩ = some (.slice A1 x.f2.length c1) := (blk_cell HX4.out 3).trans rfl
  have x4 : (w3.setCell ⟨w.heap.size, 4, none⟩ (.slice A2 x.f3.length c2)).cell? ⟨w.heap.size, 4, none⟩ = some (.slice A2 x.f3.length c2) := (blk_cell HX4.out 4).trans rfl
  clear hG
  go_wp2_with (refine wpList_store_row rfl 72 (.tmp 2) (.tmp 11) rfl (w.heap.size + 1) #[.int .i64 x.f0.f0, .int .i64 x.f0.f1, .int .i64 x.f1, .slice A1 x.f2.length c1, .slice A2 x.f3.length c2] rfl rfl 72 _ HY4.out size72 rfl (by simp [Value.oneCell']) ?_; have HY5 := Aside0.mk (setRow_heap _ _ _ #[.int .i64 x.f0.f0, .int .i64 x.f0.f1, .int .i64 x.f1, .slice A1 x.f2.length c1, .slice A2 x.f3.length c2] _ _ HY4.out); have HR5 := Aside0.mk (R_row HR4.out HY4.out (by simp [Kd.int, Kd.scalar]) #[.int .i64 x.f0.f0, .int .i64 x.f0.f1, .int .i64 x.f1, .slice A1 x.f2.length c1, .slice A2 x.f3.length c2]); have HS5 := Aside0.mk (R_row HS4.out HY4.out (by simp [Kd.slice, Kd.int, Kd.scalar]) #[.int .i64 x.f0.f0, .int .i64 x.f0.f1, .int .i64 x.f1, .slice A1 x.f2.length c1, .slice A2 x.f3.length c2]); have HB5 := Aside0.mk (below_setRow HB4.out (Nat.le_succ _) #[.int .i64 x.f0.f0, .int .i64 x.f0.f1, .int .i64 x.f1, .slice A1 x.f2.length c1, .slice A2 x.f3.length c2]))
  exact bodyPost_ret (v := .agg #[.int .i64 x.f0.f0, .int .i64 x.f0.f1, .int .i64 x.f1, .slice A1 x.f2.length c1, .slice A2 x.f3.length c2]) (results_cell_row (p := 2) rfl _ _ (w.heap.size + 1) 72 _ _ _ rfl HY5.out hu72 rfl size72) rfl ⟨HB5.out, A1, c1, A2, c2, rfl, k72_mkM _ _ _ x HR5.out HS5.out⟩
set_option maxHeartbeats 8000000 in
set_option maxRecDepth 100000 in
theorem copyLetters_calls (A : Option Addr) (c : Nat) (l : List S72) (w : World) (hC : Kd.C k72 w A l.length l) (hc : l.length ≤ c) (hn : l.length * 72 ≤ 140737488355328) (hf : ∀ x ∈ l, Fit72 x) :
    Calls Try.prog 89 #[.slice A l.length c] w fun e w' => ListPost k72 72 w (some l) e w' := by
  have hu72 := Try.underlying72
  have HC := Aside0.mk hC
  have HF := Aside0.mk hf
  have hm := hC.2.1
  have HR0 := Aside0.mk (new_R k72 72 w w.heap.size (fun k => w.heap.size ≤ k) (Nat.le_refl _) (Nat.le_refl _))
  have HB0 := Aside0.mk (below_alloc (Below.refl w.heap.size w) (.cells #[] 72))
  clear hC hf
  go_enter Try.func89, Try.ntmps89
  go_wp2_with (fail)
  go_loopw [3, 4] (fun u t wr => ∃ i : Nat, t = .int .i64 (i : Int) ∧ i ≤ l.length ∧ Aside0 (Kd.R k72 72 wr w.heap.size (fun k_ => w.heap.size ≤ k_) u (l.take i)) ∧ Aside0 (Below w.heap.size w wr)) (fun _ t _ => l.length - (intOf t).toNat)
  case atStart => exact ⟨0, rfl, Nat.zero_le _, HR0, HB0⟩
  case round =>
    clear HR0 HB0
    obtain ⟨i, rfl, hi, HR, HB⟩ := hrel
    obtain ⟨Av, cv, ev⟩ := Kd.R_slice HR.out
    subst ev
    by_cases hlt : i < l.length
    · have b0 : decide ((i : Int) < (l.length : Int)) = true := decide_eq_true (by omega)
      have b0' : decide (i < l.length) = true := decide_eq_true hlt
      have b1 : (0 ≤ (i : Int)) = True := eq_true (by omega)
      have b2 : ((i : Int) < (l.length : Int)) = True := eq_true (by omega)
      obtain ⟨ad, B3, d3, B4, d4, e, hx0, hx1, hx2, hx3, hx4, hl3, hi3, hl4, hi4⟩ := at_T72 (Kd.C_below HC.out HB.out) (i : Int) (by omega) (by omega)
      subst e
      obtain ⟨x, hm⟩ : ∃ x, x = rd_T72 l (i : Int) := ⟨_, rfl⟩
      rw [← hm] at hx0 hx1 hx2 hx3 hx4 hl3 hi3 hl4 hi4
      rw [Int.toNat_natCast] at hx0 hx1 hx2 hx3 hx4
      have hmi : x = l[i] := by rw [hm]; simp [rd_T72, List.getD_eq_getElem?_getD, hlt]
      have HMI := Aside0.mk hmi
      have HFx := Aside0.mk (show Fit72 x from hmi ▸ HF.out _ (List.getElem_mem hlt))
      have HA := Aside0.mk (And.intro hl3 (And.intro hi3 (And.intro hl4 hi4)))
      have hxl : (l.take i).length < l.length := by rw [List.length_take_of_le (by omega)]; exact hlt
      obtain ⟨xs, hxs⟩ : ∃ xs, xs = l.take i := ⟨_, rfl⟩
      rw [← hxs] at HR hxl ⊢
      have HXS := Aside0.mk hxs
      clear hm hmi hl3 hi3 hl4 hi4 hxs
      go_wp2_with (first
        | (go_at_call 72; refine (copyLetter_calls x B3 d3 B4 d4 _ HA.out.2.1 HA.out.1 HA.out.2.2.2 HA.out.2.2.1 HFx.out).mono ?_; rintro e w2 ⟨hB, A3, c3, A4, c4, rfl, hM⟩; have HM := Aside0.mk (Kd.M_lower_ k72 HB.out.size hM); have HB2 := Aside0.mk (below_then HB.out HB.out.size hB); have hs2 := HB2.out.size; have HR2 := Aside0.mk (Kd.R_below HR.out hB); clear hB hM)
        | (at_builtin; refine Kd.R_append k72 (w0 := w) w.heap.size rfl (.tmp 12) (.tmp 18) 88 72 (.agg #[.int .i64 0, .int .i64 0, .int .i64 0, .slice none 0 0, .slice none 0 0]) 72 rfl Try.underlying88 info72 rfl (by decide) (by omega) (.slice Av xs.length cv) xs x [.int .i64 x.f0.f0, .int .i64 x.f0.f1, .int .i64 x.f1, .slice A3 x.f2.length c3, .slice A4 x.f3.length c4] (fun k_ => w.heap.size ≤ k_) (fun k_ => wr.heap.size ≤ k_) rfl rfl HM.out (fun k hk => ⟨Nat.le_trans HB.out.size hk, fun e => by have := Kd.R_lt_ HR.out k e.symm; omega⟩) (fun k hk => by omega) HR2.out HB2.out hs2 (by omega) ?_; intro v3 w3 hR3 hB3 hg3 hat3; have HR3 := Aside0.mk hR3; have HB3 := Aside0.mk hB3; clear hR3 hB3 hg3 hat3))
      exact ⟨⟨i + 1, by simp, by omega, ⟨by rw [← List.take_append_getElem hlt, ← HXS.out, ← HMI.out]; exact HR3.out⟩, HB3⟩, by simp only [intOf]; omega⟩
    · have b0 : decide ((i : Int) < (l.length : Int)) = false := decide_eq_false (by omega)
      have b0' : decide (i < l.length) = false := decide_eq_false hlt
      have hil : l.take i = l := List.take_of_length_le (by omega)
      have HRF := Aside0.mk (hil ▸ HR.out)
      rw [hil]
      go_wp2_with (fail)
      go_ret
      exact ⟨HB.out, _, _, rfl, HRF.out⟩
end Go.Proofs.Ytijccobeljoikaa.Ms

/- msg: the statements' helpers: what is proven, copied. -/
namespace Go.Proofs.Ytijccobeljoikaa.Ms
open Go.RowKit Go.Proofs.YtijccobeljoikaaW.PrintWords Go.Proofs.YtijccobeljoikaaW.PrintLast
open Go.Proofs.Ytijccobeljoikaa.Plain Go.Proofs.Ytijccobeljoikaa.Walks
set_option linter.unusedVariables false
set_option linter.unusedSimpArgs false

/-- Sizes that what is proven may have in memory. -/
structure Fit101 (x : S101) : Prop where
  d : x.f2.f3.length ≤ 140737488355328
  n : x.f3.length * 72 ≤ 140737488355328
  v : ∀ m ∈ x.f3, Fit72 m
/-- Seven cells of an elder world, and what was there is as it was. -/
def At7 (p0 p1 p2 p3 p4 p5 p6 : Addr) (v0 v1 v2 v3 v4 v5 v6 : Value) (w0 w' : World) : Prop := w'.cell? p0 = some v0 ∧ w'.cell? p1 = some v1 ∧ w'.cell? p2 = some v2 ∧ w'.cell? p3 = some v3 ∧ w'.cell? p4 = some v4 ∧ w'.cell? p5 = some v5 ∧ w'.cell? p6 = some v6 ∧ Below w0.heap.size w0 w'
theorem At7.of {p0 p1 p2 p3 p4 p5 p6 : Addr} {v0 v1 v2 v3 v4 v5 v6 : Value} {w0 w' : World} (h : At7 p0 p1 p2 p3 p4 p5 p6 v0 v1 v2 v3 v4 v5 v6 w0 w0) (hB : Below w0.heap.size w0 w') : At7 p0 p1 p2 p3 p4 p5 p6 v0 v1 v2 v3 v4 v5 v6 w0 w' :=
  ⟨cell_step h.1 hB, cell_step h.2.1 hB, cell_step h.2.2.1 hB, cell_step h.2.2.2.1 hB, cell_step h.2.2.2.2.1 hB, cell_step h.2.2.2.2.2.1 hB, cell_step h.2.2.2.2.2.2.1 hB, hB⟩
def cpP_T5 : Bool × List (List Nat × List Nat) := (true, [([], []), ([], []), ([], []), ([1, 2], [1, 2]), ([3], [3]), ([4], [4]), ([], []), ([], []), ([6, 7], [6, 7]), ([8], [8]), ([9], [9]), ([], []), ([], []), ([11, 12], [11, 12]), ([13], [13]), ([14], [14]), ([15], [15]), ([], []), ([], []), ([17, 18], [17, 18]), ([19], [19]), ([20], [20]), ([21, 16], [21]), ([5, 10, 16, 22], [5, 10, 16, 22]), ([23], [23]), ([0, 24, 22], [0, 24]), ([25, 25, 0, 1, 2, 3, 4, 5, 6, 7, 8, 9, 10, 11, 12, 13, 14, 15, 16, 17, 18, 19, 20, 21, 22, 23, 24, 25], [0, 25])])
def cpP_B5 : List Nat := [0, 0, 0, 6, 14, 30, 0, 0, 192, 448, 960, 0, 0, 6144, 14336, 30720, 63488, 0, 0, 393216, 917504, 1966080, 4192256, 8388606, 16777214, 33554431, 67108863]
theorem cpP_tab5 : rtab .any (opsOf Try.f90 5) = cpP_T5 := by kernel_rfl
theorem cpP_bits5 : waitsOk cpP_T5.2 cpP_B5 = true := by kernel_rfl
set_option maxHeartbeats 8000000 in
set_option maxRecDepth 100000 in
theorem copyProven_calls (A : Option Addr) (c : Nat) (l : List S101) (w : World) (hC : Kd.C k101 w A l.length l) (hc : l.length ≤ c) (hn : l.length * 88 ≤ 140737488355328) (hf : ∀ x ∈ l, Fit101 x) :
    Calls Try.prog 90 #[.slice A l.length c] w fun e w' => ListPost k101 101 w (some l) e w' := by
  have hu101 := Try.underlying101
  have hu87 := Try.underlying87
  have HC := Aside0.mk hC
  have HF := Aside0.mk hf
  have hm := hC.2.1
  have HR0 := Aside0.mk (new_R k101 101 w w.heap.size (fun k => w.heap.size ≤ k) (Nat.le_refl _) (Nat.le_refl _))
  have HB0 := Aside0.mk (below_alloc (Below.refl w.heap.size w) (.cells #[] 101))
  clear hC hf
  go_enter Try.func90, Try.ntmps90
  go_wp2_with (fail)
  go_loopw [3, 4] (fun u t wr => ∃ i : Nat, t = .int .i64 (i : Int) ∧ i ≤ l.length ∧ Aside0 (Kd.R k101 101 wr w.heap.size (fun k_ => w.heap.size ≤ k_) u (l.take i)) ∧ Aside0 (Below w.heap.size w wr)) (fun _ t _ => l.length - (intOf t).toNat)
  case atStart => exact ⟨0, rfl, Nat.zero_le _, HR0, HB0⟩
  case round =>
    clear HR0 HB0
    obtain ⟨i, rfl, hi, HR, HB⟩ := hrel
    obtain ⟨Av, cv, ev⟩ := Kd.R_slice HR.out
    subst ev
    by_cases hlt : i < l.length
    · have b0 : decide ((i : Int) < (l.length : Int)) = true := decide_eq_true (by omega)
      have b0' : decide (i < l.length) = true := decide_eq_true hlt
      have b1 : (0 ≤ (i : Int)) = True := eq_true (by omega)
      have b2 : ((i : Int) < (l.length : Int)) = True := eq_true (by omega)
      obtain ⟨ad, B5, d5, B6, d6, e, hx0, hx1, hx2, hx3, hx4, hx5, hx6, hl5, hi5, hl6, hi6⟩ := at_T101 HC.out (i : Int) (by omega) (by omega)
      subst e
      obtain ⟨x, hm⟩ : ∃ x, x = rd_T101 l (i : Int) := ⟨_, rfl⟩
      rw [← hm] at hx0 hx1 hx2 hx3 hx4 hx5 hx6 hl5 hi5 hl6 hi6
      rw [Int.toNat_natCast] at hx0 hx1 hx2 hx3 hx4 hx5 hx6
      have hmi : x = l[i] := by rw [hm]; simp [rd_T101, List.getD_eq_getElem?_getD, hlt]
      have HMI := Aside0.mk hmi
      have HFx := Aside0.mk (show Fit101 x from hmi ▸ HF.out _ (List.getElem_mem hlt))
      have HA := Aside0.mk (And.intro hl5 (And.intro hi5 (And.intro hl6 hi6)))
      have H7 := Aside0.mk (show At7 _ _ _ _ _ _ _ _ _ _ _ _ _ _ w w from ⟨hx0, hx1, hx2, hx3, hx4, hx5, hx6, Below.refl _ _⟩)
      have hxl : (l.take i).length < l.length := by rw [List.length_take_of_le (by omega)]; exact hlt
      obtain ⟨xs, hxs⟩ : ∃ xs, xs = l.take i := ⟨_, rfl⟩
      rw [← hxs] at HR hxl ⊢
      have HXS := Aside0.mk hxs
      clear hm hmi hl5 hi5 hl6 hi6 hxs hx0 hx1 hx2 hx3 hx4 hx5 hx6
      go_upto_region 5 with (fail)
      have HR3 := Aside0.mk (Kd.R_below HR.out (below_drew1 (Below.refl _ _)))
      have HS3 := Aside0.mk (show w.heap.size ≤ wr.drew.heap.size from HB.out.size)
      refine start_ (n := 27) (S := At7 (ad.add (i * 7)) ⟨(ad.add (i * 7)).block, (ad.add (i * 7)).off + 1, none⟩ ⟨(ad.add (i * 7)).block, (ad.add (i * 7)).off + 2, none⟩ ⟨(ad.add (i * 7)).block, (ad.add (i * 7)).off + 3, none⟩ ⟨(ad.add (i * 7)).block, (ad.add (i * 7)).off + 4, none⟩ ⟨(ad.add (i * 7)).block, (ad.add (i * 7)).off + 5, none⟩ ⟨(ad.add (i * 7)).block, (ad.add (i * 7)).off + 6, none⟩ (.int .i64 x.f0) (.int .i64 x.f1) (.int .i64 x.f2.f0) (.int .i64 x.f2.f1) (.int .i64 x.f2.f2) (.slice B5 x.f2.f3.length d5) (.slice B6 x.f3.length d6) w) (ds := []) #[false, false, false, false, false, false, false, false, false, false, false, false, false, false, false, false, false, false, false, false, false, false, false, false, false, false, false] (by kernel_rfl) rfl rfl
        (H7.out.of (below_drew1 HB.out)) (fun hHeld => ?_)
      generalize wr.drew = w3 at hHeld HR3 HS3 ⊢
      refine with_tabW cpP_tab5 cpP_bits5 (fun HT_ HW_ => ?_)
      refine pure_ (i := 0) (N := some 12) (v := ?_) (a' := ?_) #[true, false, false, false, false, false, false, false, false, false, false, false, false, false, false, false, false, false, false, false, false, false, false, false, false, false, false] rfl rfl (any_of HT_.out (by kernel_rfl)) (fun _ _ _ h => h) (Or.inl ⟨by rfl, ?_⟩) ?_ ?_
      rotate_left
      · intro w'
        go_simp
        with_reducible rfl
      rotate_left
      · simp only [Act.put, List.setIfInBounds_toArray, List.set_cons_zero, List.set_cons_succ, i64_w, i32_w]
        rfl
      refine pure_ (i := 1) (N := some 13) (v := ?_) (a' := ?_) #[true, true, false, false, false, false, false, false, false, false, false, false, false, false, false, false, false, false, false, false, false, false, false, false, false, false, false] rfl rfl (any_of HT_.out (by kernel_rfl)) (fun _ _ _ h => h) (Or.inl ⟨by rfl, ?_⟩) ?_ ?_
      rotate_left
      · intro w'
        go_simp
        with_reducible rfl
      rotate_left
      · simp only [Act.put, List.setIfInBounds_toArray, List.set_cons_zero, List.set_cons_succ, i64_w, i32_w]
        rfl
      refine pure_ (i := 2) (N := some 14) (v := ?_) (a' := ?_) #[true, true, true, false, false, false, false, false, false, false, false, false, false, false, false, false, false, false, false, false, false, false, false, false, false, false, false] rfl rfl (any_of HT_.out (by kernel_rfl)) (fun _ _ _ h => h) (Or.inl ⟨by rfl, ?_⟩) ?_ ?_
      rotate_left
      · intro w'
        go_simp
        with_reducible rfl
      rotate_left
      · simp only [Act.put, List.setIfInBounds_toArray, List.set_cons_zero, List.set_cons_succ, i64_w, i32_w]
        rfl
      refine pure_ (i := 3) (N := some 15) (v := ?_) (a' := ?_) #[true, true, true, true, false, false, false, false, false, false, false, false, false, false, false, false, false, false, false, false, false, false, false, false, false, false, false] rfl rfl (any_of HT_.out (by kernel_rfl)) (fun _ _ _ h => h) (Or.inl ⟨by rfl, ?_⟩) ?_ ?_
      rotate_left
      · intro w'
        go_simp
        with_reducible rfl
      rotate_left
      · simp only [Act.put, List.setIfInBounds_toArray, List.set_cons_zero, List.set_cons_succ, i64_w, i32_w]
        rfl
      refine pure_ (i := 4) (N := some 16) (v := ?_) (a' := ?_) #[true, true, true, true, true, false, false, false, false, false, false, false, false, false, false, false, false, false, false, false, false, false, false, false, false, false, false] rfl rfl (any_of HT_.out (by kernel_rfl)) (fun _ _ _ h => h) (Or.inl ⟨by rfl, ?_⟩) ?_ ?_
      rotate_left
      · intro w'
        go_simp
        with_reducible rfl
      rotate_left
      · simp only [Act.put, List.setIfInBounds_toArray, List.set_cons_zero, List.set_cons_succ, i64_w, i32_w]
        rfl
      refine take_ (i := 5) (N := some 17) (v := ?_) (a' := ?_) #[true, true, true, true, true, true, false, false, false, false, false, false, false, false, false, false, false, false, false, false, false, false, false, false, false, false, false] rfl rfl (take_ofW HT_.out HW_.out (by kernel_rfl)) (fun _ _ _ h => h) (Or.inl ⟨by rfl, ?_⟩) hHeld ?_ ?_
      rotate_left
      · rintro w' ⟨s0, s1, s2, s3, s4, s5, s6, s7⟩
        go_simp
        with_reducible rfl
      rotate_left
      · simp only [Act.put, List.setIfInBounds_toArray, List.set_cons_zero, List.set_cons_succ, i64_w, i32_w]
        rfl
      refine pure_ (i := 6) (N := some 18) (v := ?_) (a' := ?_) #[true, true, true, true, true, true, true, false, false, false, false, false, false, false, false, false, false, false, false, false, false, false, false, false, false, false, false] rfl rfl (any_of HT_.out (by kernel_rfl)) (fun _ _ _ h => h) (Or.inl ⟨by rfl, ?_⟩) ?_ ?_
      rotate_left
      · intro w'
        go_simp
        with_reducible rfl
      rotate_left
      · simp only [Act.put, List.setIfInBounds_toArray, List.set_cons_zero, List.set_cons_succ, i64_w, i32_w]
        rfl
      refine pure_ (i := 7) (N := some 19) (v := ?_) (a' := ?_) #[true, true, true, true, true, true, true, true, false, false, false, false, false, false, false, false, false, false, false, false, false, false, false, false, false, false, false] rfl rfl (any_of HT_.out (by kernel_rfl)) (fun _ _ _ h => h) (Or.inl ⟨by rfl, ?_⟩) ?_ ?_
      rotate_left
      · intro w'
        go_simp
        with_reducible rfl
      rotate_left
      · simp only [Act.put, List.setIfInBounds_toArray, List.set_cons_zero, List.set_cons_succ, i64_w, i32_w]
        rfl
      refine pure_ (i := 8) (N := some 20) (v := ?_) (a' := ?_) #[true, true, true, true, true, true, true, true, true, false, false, false, false, false, false, false, false, false, false, false, false, false, false, false, false, false, false] rfl rfl (any_of HT_.out (by kernel_rfl)) (fun _ _ _ h => h) (Or.inl ⟨by rfl, ?_⟩) ?_ ?_
      rotate_left
      · intro w'
        go_simp
        with_reducible rfl
      rotate_left
      · simp only [Act.put, List.setIfInBounds_toArray, List.set_cons_zero, List.set_cons_succ, i64_w, i32_w]
        rfl
      refine pure_ (i := 9) (N := some 21) (v := ?_) (a' := ?_) #[true, true, true, true, true, true, true, true, true, true, false, false, false, false, false, false, false, false, false, false, false, false, false, false, false, false, false] rfl rfl (any_of HT_.out (by kernel_rfl)) (fun _ _ _ h => h) (Or.inl ⟨by rfl, ?_⟩) ?_ ?_
      rotate_left
      · intro w'
        go_simp
        with_reducible rfl
      rotate_left
      · simp only [Act.put, List.setIfInBounds_toArray, List.set_cons_zero, List.set_cons_succ, i64_w, i32_w]
        rfl
      refine take_ (i := 10) (N := some 22) (v := ?_) (a' := ?_) #[true, true, true, true, true, true, true, true, true, true, true, false, false, false, false, false, false, false, false, false, false, false, false, false, false, false, false] rfl rfl (take_ofW HT_.out HW_.out (by kernel_rfl)) (fun _ _ _ h => h) (Or.inl ⟨by rfl, ?_⟩) hHeld ?_ ?_
      rotate_left
      · rintro w' ⟨s0, s1, s2, s3, s4, s5, s6, s7⟩
        go_simp
        with_reducible rfl
      rotate_left
      · simp only [Act.put, List.setIfInBounds_toArray, List.set_cons_zero, List.set_cons_succ, i64_w, i32_w]
        rfl
      refine pure_ (i := 11) (N := some 23) (v := ?_) (a' := ?_) #[true, true, true, true, true, true, true, true, true, true, true, true, false, false, false, false, false, false, false, false, false, false, false, false, false, false, false] rfl rfl (any_of HT_.out (by kernel_rfl)) (fun _ _ _ h => h) (Or.inl ⟨by rfl, ?_⟩) ?_ ?_
      rotate_left
      · intro w'
        go_simp
        with_reducible rfl
      rotate_left
      · simp only [Act.put, List.setIfInBounds_toArray, List.set_cons_zero, List.set_cons_succ, i64_w, i32_w]
        rfl
      refine pure_ (i := 12) (N := some 24) (v := ?_) (a' := ?_) #[true, true, true, true, true, true, true, true, true, true, true, true, true, false, false, false, false, false, false, false, false, false, false, false, false, false, false] rfl rfl (any_of HT_.out (by kernel_rfl)) (fun _ _ _ h => h) (Or.inl ⟨by rfl, ?_⟩) ?_ ?_
      rotate_left
      · intro w'
        go_simp
        with_reducible rfl
      rotate_left
      · simp only [Act.put, List.setIfInBounds_toArray, List.set_cons_zero, List.set_cons_succ, i64_w, i32_w]
        rfl
      refine pure_ (i := 13) (N := some 25) (v := ?_) (a' := ?_) #[true, true, true, true, true, true, true, true, true, true, true, true, true, true, false, false, false, false, false, false, false, false, false, false, false, false, false] rfl rfl (any_of HT_.out (by kernel_rfl)) (fun _ _ _ h => h) (Or.inl ⟨by rfl, ?_⟩) ?_ ?_
      rotate_left
      · intro w'
        go_simp
        with_reducible rfl
      rotate_left
      · simp only [Act.put, List.setIfInBounds_toArray, List.set_cons_zero, List.set_cons_succ, i64_w, i32_w]
        rfl
      refine pure_ (i := 14) (N := some 26) (v := ?_) (a' := ?_) #[true, true, true, true, true, true, true, true, true, true, true, true, true, true, true, false, false, false, false, false, false, false, false, false, false, false, false] rfl rfl (any_of HT_.out (by kernel_rfl)) (fun _ _ _ h => h) (Or.inl ⟨by rfl, ?_⟩) ?_ ?_
      rotate_left
      · intro w'
        go_simp
        with_reducible rfl
      rotate_left
      · simp only [Act.put, List.setIfInBounds_toArray, List.set_cons_zero, List.set_cons_succ, i64_w, i32_w]
        rfl
      refine take_ (i := 15) (N := some 27) (v := ?_) (a' := ?_) #[true, true, true, true, true, true, true, true, true, true, true, true, true, true, true, true, false, false, false, false, false, false, false, false, false, false, false] rfl rfl (take_ofW HT_.out HW_.out (by kernel_rfl)) (fun _ _ _ h => h) (Or.inl ⟨by rfl, ?_⟩) hHeld ?_ ?_
      rotate_left
      · rintro w' ⟨s0, s1, s2, s3, s4, s5, s6, s7⟩
        go_simp
        with_reducible rfl
      rotate_left
      · simp only [Act.put, List.setIfInBounds_toArray, List.set_cons_zero, List.set_cons_succ, i64_w, i32_w]
        rfl
      refine pure_ (i := 17) (N := some 29) (v := ?_) (a' := ?_) #[true, true, true, true, true, true, true, true, true, true, true, true, true, true, true, true, false, true, false, false, false, false, false, false, false, false, false] rfl rfl (any_of HT_.out (by kernel_rfl)) (fun _ _ _ h => h) (Or.inl ⟨by rfl, ?_⟩) ?_ ?_
      rotate_left
      · intro w'
        go_simp
        with_reducible rfl
      rotate_left
      · simp only [Act.put, List.setIfInBounds_toArray, List.set_cons_zero, List.set_cons_succ, i64_w, i32_w]
        rfl
      refine pure_ (i := 18) (N := some 30) (v := ?_) (a' := ?_) #[true, true, true, true, true, true, true, true, true, true, true, true, true, true, true, true, false, true, true, false, false, false, false, false, false, false, false] rfl rfl (any_of HT_.out (by kernel_rfl)) (fun _ _ _ h => h) (Or.inl ⟨by rfl, ?_⟩) ?_ ?_
      rotate_left
      · intro w'
        go_simp
        with_reducible rfl
      rotate_left
      · simp only [Act.put, List.setIfInBounds_toArray, List.set_cons_zero, List.set_cons_succ, i64_w, i32_w]
        rfl
      refine pure_ (i := 19) (N := some 31) (v := ?_) (a' := ?_) #[true, true, true, true, true, true, true, true, true, true, true, true, true, true, true, true, false, true, true, true, false, false, false, false, false, false, false] rfl rfl (any_of HT_.out (by kernel_rfl)) (fun _ _ _ h => h) (Or.inl ⟨by rfl, ?_⟩) ?_ ?_
      rotate_left
      · intro w'
        go_simp
        with_reducible rfl
      rotate_left
      · simp only [Act.put, List.setIfInBounds_toArray, List.set_cons_zero, List.set_cons_succ, i64_w, i32_w]
        rfl
      refine pure_ (i := 20) (N := some 32) (v := ?_) (a' := ?_) #[true, true, true, true, true, true, true, true, true, true, true, true, true, true, true, true, false, true, true, true, true, false, false, false, false, false, false] rfl rfl (any_of HT_.out (by kernel_rfl)) (fun _ _ _ h => h) (Or.inl ⟨by rfl, ?_⟩) ?_ ?_
      rotate_left
      · intro w'
        go_simp
        with_reducible rfl
      rotate_left
      · simp only [Act.put, List.setIfInBounds_toArray, List.set_cons_zero, List.set_cons_succ, i64_w, i32_w]
        rfl
      refine take_ (i := 21) (N := some 33) (v := ?_) (a' := ?_) #[true, true, true, true, true, true, true, true, true, true, true, true, true, true, true, true, false, true, true, true, true, true, false, false, false, false, false] rfl rfl (take_ofW HT_.out HW_.out (by kernel_rfl)) (fun _ _ _ h => h) (Or.inl ⟨by rfl, ?_⟩) hHeld ?_ ?_
      rotate_left
      · rintro w' ⟨s0, s1, s2, s3, s4, s5, s6, s7⟩
        go_simp
        with_reducible rfl
      rotate_left
      · simp only [Act.put, List.setIfInBounds_toArray, List.set_cons_zero, List.set_cons_succ, i64_w, i32_w]
        rfl
      refine one_ (i := 16) (N := some 28) #[true, true, true, true, true, true, true, true, true, true, true, true, true, true, true, true, true, true, true, true, true, true, false, false, false, false, false] rfl rfl (one_of HT_.out (by kernel_rfl)) (by decide) (fun K hK => ?_)
      refine goes_ Try.func75 (by kernel_rfl) rfl #[.agg #[.int .i64 x.f2.f0, .int .i64 x.f2.f1, .int .i64 x.f2.f2, .slice B5 x.f2.f3.length d5]] (by rfl) rfl rfl (by (try simp only [List.map_toArray, List.map_cons, List.map_nil]); first | done | rfl) ?_
      refine (copyEntry_calls x.f2 B5 d5 _ (Kd.C_below HA.out.2.1 hHeld.2.2.2.2.2.2.2) HA.out.1 HFx.out.d).mono ?_
      rintro e w4 ⟨hB, A7, c7, rfl, hR⟩
      refine ⟨_, rfl, ?_⟩
      have HB4 := Aside0.mk (below_then hHeld.2.2.2.2.2.2.2 hHeld.2.2.2.2.2.2.2.size hB)
      have HE4 := Aside0.mk (Kd.R_lower hR HS3.out)
      have HR4 := Aside0.mk (Kd.R_below HR3.out hB)
      have HS4 := Aside0.mk (Nat.le_trans HS3.out hB.size)
      have HS34 := Aside0.mk hB.size
      refine hK.out _ _ (H7.out.of HB4.out) (fun hHeld => ?_)
      clear hK K hR hB
      refine norm_ (a' := ?_) ?_ ?_
      rotate_left
      · show Act.put _ (some 28) _ = _
        simp only [Act.put, List.setIfInBounds_toArray, List.set_cons_zero, List.set_cons_succ, i64_w, i32_w]
        rfl
      refine one_ (i := 22) (N := some 34) #[true, true, true, true, true, true, true, true, true, true, true, true, true, true, true, true, true, true, true, true, true, true, true, false, false, false, false] rfl rfl (one_of HT_.out (by kernel_rfl)) (by decide) (fun K hK => ?_)
      refine goes_ Try.func89 (by kernel_rfl) rfl #[.slice B6 x.f3.length d6] (by rfl) rfl rfl (by (try simp only [List.map_toArray, List.map_cons, List.map_nil]); first | done | rfl) ?_
      refine (copyLetters_calls B6 d6 x.f3 _ (Kd.C_below HA.out.2.2.2 hHeld.2.2.2.2.2.2.2) HA.out.2.2.1 HFx.out.n HFx.out.v).mono ?_
      rintro e w5 ⟨hB, A8, c8, rfl, hR⟩
      refine ⟨_, rfl, ?_⟩
      have HB5 := Aside0.mk (below_then hHeld.2.2.2.2.2.2.2 hHeld.2.2.2.2.2.2.2.size hB)
      have HE5 := Aside0.mk (Kd.R_below HE4.out hB)
      have HL5 := Aside0.mk (Kd.R_mono (Kd.R_lower hR HS4.out) (fun k hk => Nat.le_trans HS34.out hk))
      have HR5 := Aside0.mk (Kd.R_below HR4.out hB)
      have HS5 := Aside0.mk (Nat.le_trans HS4.out hB.size)
      refine hK.out _ _ (H7.out.of HB5.out) (fun hHeld => ?_)
      clear hK K hR hB
      refine norm_ (a' := ?_) ?_ ?_
      rotate_left
      · show Act.put _ (some 34) _ = _
        simp only [Act.put, List.setIfInBounds_toArray, List.set_cons_zero, List.set_cons_succ, i64_w, i32_w]
        rfl
      refine pure_ (i := 23) (N := some 35) (v := ?_) (a' := ?_) #[true, true, true, true, true, true, true, true, true, true, true, true, true, true, true, true, true, true, true, true, true, true, true, true, false, false, false] rfl rfl (any_of HT_.out (by kernel_rfl)) (fun _ _ _ h => h) (Or.inl ⟨by rfl, ?_⟩) ?_ ?_
      rotate_left
      · intro w'
        go_simp
        with_reducible rfl
      rotate_left
      · simp only [Act.put, List.setIfInBounds_toArray, List.set_cons_zero, List.set_cons_succ, i64_w, i32_w]
        rfl
      refine one_ (i := 24) (N := some 36) #[true, true, true, true, true, true, true, true, true, true, true, true, true, true, true, true, true, true, true, true, true, true, true, true, true, false, false] rfl rfl (one_of HT_.out (by kernel_rfl)) (by decide) (fun K hK => ?_)
      go_simp
      have HB6 := Aside0.mk (below_alloc HB5.out (.cells #[.int .i64 x.f0, .int .i64 x.f1, .int .i64 x.f2.f0, .int .i64 x.f2.f1, .int .i64 x.f2.f2, .slice A7 x.f2.f3.length c7, .slice A8 x.f3.length c8] 101))
      have HM5 := Aside0.mk (show k101.M w5 w.heap.size (fun k => w3.heap.size ≤ k) x [.int .i64 x.f0, .int .i64 x.f1, .int .i64 x.f2.f0, .int .i64 x.f2.f1, .int .i64 x.f2.f2, .slice A7 x.f2.f3.length c7, .slice A8 x.f3.length c8] from k101_mkM _ _ _ x HE5.out HL5.out)
      refine hK.out _ _ (H7.out.of HB6.out) (fun hHeld => ?_)
      clear hK K
      refine one_ (i := 25) (N := some 37) #[true, true, true, true, true, true, true, true, true, true, true, true, true, true, true, true, true, true, true, true, true, true, true, true, true, true, false] rfl rfl (one_of HT_.out (by kernel_rfl)) (by decide) (fun K hK => ?_)
      refine Kd.R_append_step k101 (w0 := w) w.heap.size (by simp [Region.wanted]) (.tmp 12) (.tmp 36) 89 101 (.agg #[.int .i64 0, .int .i64 0, .int .i64 0, .int .i64 0, .int .i64 0, .slice none 0 0, .slice none 0 0]) 88 rfl Try.underlying89 info101 rfl (by decide) (by omega) (.slice Av xs.length cv) xs x [.int .i64 x.f0, .int .i64 x.f1, .int .i64 x.f2.f0, .int .i64 x.f2.f1, .int .i64 x.f2.f2, .slice A7 x.f2.f3.length c7, .slice A8 x.f3.length c8] (fun k_ => w.heap.size ≤ k_) (fun k_ => w3.heap.size ≤ k_) rfl rfl HM5.out (fun k hk => ⟨Nat.le_trans HS3.out hk, fun e => by have := Kd.R_lt_ HR3.out k e.symm; omega⟩) (fun k hk => by have := HS5.out; omega) HR5.out HB5.out HS5.out (by omega) ?_
      intro v7 w7 hR7 hB7 hg7 hat7
      have HR7 := Aside0.mk hR7
      have HB7 := Aside0.mk hB7
      clear hR7 hg7 hat7
      refine hK.out _ _ (H7.out.of hB7) (fun hHeld => ?_)
      clear hK K hB7
      refine norm_ (a' := ?_) ?_ ?_
      rotate_left
      · show Act.put _ (some 37) _ = _
        simp only [Act.put, List.setIfInBounds_toArray, List.set_cons_zero, List.set_cons_succ, i64_w, i32_w]
        rfl
      refine pure_ (i := 26) (N := some 3) (v := ?_) (a' := ?_) #[true, true, true, true, true, true, true, true, true, true, true, true, true, true, true, true, true, true, true, true, true, true, true, true, true, true, true] rfl rfl (any_of HT_.out (by kernel_rfl)) (fun _ _ _ h => h) (Or.inl ⟨by rfl, ?_⟩) ?_ ?_
      rotate_left
      · intro w'
        go_simp
        with_reducible rfl
      rotate_left
      · simp only [Act.put, List.setIfInBounds_toArray, List.set_cons_zero, List.set_cons_succ, i64_w, i32_w]
        rfl
      refine done_ (done_of HT_.out (by kernel_rfl)) ?_
      go_wp2_with (fail)
      exact ⟨⟨i + 1, by simp, by omega, ⟨by rw [← List.take_append_getElem hlt, ← HXS.out, ← HMI.out]; exact HR7.out⟩, HB7⟩, by simp only [intOf]; omega⟩
    · have b0 : decide ((i : Int) < (l.length : Int)) = false := decide_eq_false (by omega)
      have b0' : decide (i < l.length) = false := decide_eq_false hlt
      have hil : l.take i = l := List.take_of_length_le (by omega)
      have HRF := Aside0.mk (hil ▸ HR.out)
      rw [hil]
      go_wp2_with (fail)
      go_ret
      exact ⟨HB.out, _, _, rfl, HRF.out⟩
end Go.Proofs.Ytijccobeljoikaa.Ms

/- msg: the statements' helpers: a message, copied; how heavy it is. -/
namespace Go.Proofs.Ytijccobeljoikaa.Ms
open Go.RowKit Go.Proofs.YtijccobeljoikaaW.PrintWords Go.Proofs.YtijccobeljoikaaW.PrintLast
open Go.Proofs.Ytijccobeljoikaa.Plain Go.Proofs.Ytijccobeljoikaa.Walks
set_option linter.unusedVariables false
set_option linter.unusedSimpArgs false

/-- Sizes that a message may have in memory. -/
structure Fit91 (m : S91) : Prop where
  e : m.entry.f3.length ≤ 140737488355328
  d : m.digest.length ≤ 140737488355328
  b : m.data.length ≤ 140737488355328
  n : m.proof.length * 72 ≤ 140737488355328
  l : ∀ x ∈ m.proof, Fit72 x
  k : m.proven.length * 88 ≤ 140737488355328
  p : ∀ x ∈ m.proven, Fit101 x
set_option maxHeartbeats 16000000 in
set_option maxRecDepth 100000 in
theorem copyMsg_calls (m : S91) (a : Nat → Option Addr) (d : Nat → Nat) (w : World) (hM : Msg w m a d) (hf : Fit91 m) :
    Calls Try.prog 64 #[.agg #[.int .i64 m.kind, .int .i64 m.view, .int .i64 m.seq, .int .i64 m.client, .int .i64 m.stamp, .int .i64 m.entry.f0, .int .i64 m.entry.f1, .int .i64 m.entry.f2, .slice (a 0) m.entry.f3.length (d 0), .slice (a 1) m.digest.length (d 1), .slice (a 2) m.data.length (d 2), .slice (a 3) m.proof.length (d 3), .slice (a 4) m.proven.length (d 4)]] w fun e w' => ∃ (b : Nat → Option Addr) (c : Nat → Nat), e = .returned (.agg #[.int .i64 m.kind, .int .i64 m.view, .int .i64 m.seq, .int .i64 m.client, .int .i64 m.stamp, .int .i64 m.entry.f0, .int .i64 m.entry.f1, .int .i64 m.entry.f2, .slice (b 0) m.entry.f3.length (c 0), .slice (b 1) m.digest.length (c 1), .slice (b 2) m.data.length (c 2), .slice (b 3) m.proof.length (c 3), .slice (b 4) m.proven.length (c 4)]) ∧ Msg w' m b c ∧ Below w.heap.size w w' := by
  have hu91 := Try.underlying91
  have hu87 := Try.underlying87
  have HM := Aside0.mk hM
  have HF := Aside0.mk hf
  clear hM hf
  have HB0 := Aside0.mk (below_alloc (below_alloc (Below.refl w.heap.size w) (.cells #[.int .i64 m.kind, .int .i64 m.view, .int .i64 m.seq, .int .i64 m.client, .int .i64 m.stamp, .int .i64 m.entry.f0, .int .i64 m.entry.f1, .int .i64 m.entry.f2, .slice (a 0) m.entry.f3.length (d 0), .slice (a 1) m.digest.length (d 1), .slice (a 2) m.data.length (d 2), .slice (a 3) m.proof.length (d 3), .slice (a 4) m.proven.length (d 4)] 91)) (.cells #[.int .i64 0, .int .i64 0, .int .i64 0, .int .i64 0, .int .i64 0, .int .i64 0, .int .i64 0, .int .i64 0, .slice none 0 0, .slice none 0 0, .slice none 0 0, .slice none 0 0, .slice none 0 0] 91))
  have HX0 := Aside0.mk ((Below.heap_alloc (w.alloc (.cells #[.int .i64 m.kind, .int .i64 m.view, .int .i64 m.seq, .int .i64 m.client, .int .i64 m.stamp, .int .i64 m.entry.f0, .int .i64 m.entry.f1, .int .i64 m.entry.f2, .slice (a 0) m.entry.f3.length (d 0), .slice (a 1) m.digest.length (d 1), .slice (a 2) m.data.length (d 2), .slice (a 3) m.proof.length (d 3), .slice (a 4) m.proven.length (d 4)] 91)) (.cells #[.int .i64 0, .int .i64 0, .int .i64 0, .int .i64 0, .int .i64 0, .int .i64 0, .int .i64 0, .int .i64 0, .slice none 0 0, .slice none 0 0, .slice none 0 0, .slice none 0 0, .slice none 0 0] 91) w.heap.size (by simp)).trans (blk_new w (.cells #[.int .i64 m.kind, .int .i64 m.view, .int .i64 m.seq, .int .i64 m.client, .int .i64 m.stamp, .int .i64 m.entry.f0, .int .i64 m.entry.f1, .int .i64 m.entry.f2, .slice (a 0) m.entry.f3.length (d 0), .slice (a 1) m.digest.length (d 1), .slice (a 2) m.data.length (d 2), .slice (a 3) m.proof.length (d 3), .slice (a 4) m.proven.length (d 4)] 91)))
  have HY0 := Aside0.mk (blk_new (w.alloc (.cells #[.int .i64 m.kind, .int .i64 m.view, .int .i64 m.seq, .int .i64 m.client, .int .i64 m.stamp, .int .i64 m.entry.f0, .int .i64 m.entry.f1, .int .i64 m.entry.f2, .slice (a 0) m.entry.f3.length (d 0), .slice (a 1) m.digest.length (d 1), .slice (a 2) m.data.length (d 2), .slice (a 3) m.proof.length (d 3), .slice (a 4) m.proven.length (d 4)] 91)) (.cells #[.int .i64 0, .int .i64 0, .int .i64 0, .int .i64 0, .int .i64 0, .int .i64 0, .int .i64 0, .int .i64 0, .slice none 0 0, .slice none 0 0, .slice none 0 0, .slice none 0 0, .slice none 0 0] 91))
  rw [show (w.alloc (.cells #[.int .i64 m.kind, .int .i64 m.view, .int .i64 m.seq, .int .i64 m.client, .int .i64 m.stamp, .int .i64 m.entry.f0, .int .i64 m.entry.f1, .int .i64 m.entry.f2, .slice (a 0) m.entry.f3.length (d 0), .slice (a 1) m.digest.length (d 1), .slice (a 2) m.data.length (d 2), .slice (a 3) m.proof.length (d 3), .slice (a 4) m.proven.length (d 4)] 91)).heap.size = w.heap.size + 1 by simp] at HY0
  go_enter Try.func64, Try.ntmps64
  go_wp2_with (fail)
  generalize (w.alloc (.cells #[.int .i64 m.kind, .int .i64 m.view, .int .i64 m.seq, .int .i64 m.client, .int .i64 m.stamp, .int .i64 m.entry.f0, .int .i64 m.entry.f1, .int .i64 m.entry.f2, .slice (a 0) m.entry.f3.length (d 0), .slice (a 1) m.digest.length (d 1), .slice (a 2) m.data.length (d 2), .slice (a 3) m.proof.length (d 3), .slice (a 4) m.proven.length (d 4)] 91)).alloc (.cells #[.int .i64 0, .int .i64 0, .int .i64 0, .int .i64 0, .int .i64 0, .int .i64 0, .int .i64 0, .int .i64 0, .slice none 0 0, .slice none 0 0, .slice none 0 0, .slice none 0 0, .slice none 0 0] 91) = w0 at HX0 HY0 HB0 ⊢
  refine (copyEntry_calls m.entry (a 0) (d 0) w0 (Kd.C_below HM.out.r0 HB0.out) HM.out.l0 HF.out.e).mono ?_
  rintro e v0 ⟨hB, E0, g0, rfl, hR⟩
  have HXa := Aside0.mk ((hB.block _ (blk_lt2 HX0.out)).trans HX0.out)
  have HYa := Aside0.mk ((hB.block _ (blk_lt2 HY0.out)).trans HY0.out)
  have HBa := Aside0.mk (below_then HB0.out HB0.out.size hB)
  have Ra0 := Aside0.mk (Kd.R_mono (Kd.R_lower hR HB0.out.size) (fun k hk => Nat.le_trans HB0.out.size hk))
  clear hB hR
  have y5 : v0.cell? ⟨w.heap.size, 5, none⟩ = some (.int .i64 m.entry.f0) := (blk_cell HXa.out 5).trans rfl
  have f5 : v0.frozen? ⟨w.heap.size, 5, none⟩ = false := blk_frozen HXa.out 5
  have HXb0 : Aside0 ((v0.setCell ⟨w.heap.size, 5, none⟩ (.int .i64 m.entry.f0)).heap[w.heap.size]? = some (.cells #[.int .i64 m.kind, .int .i64 m.view, .int .i64 m.seq, .int .i64 m.client, .int .i64 m.stamp, .int .i64 m.entry.f0, .int .i64 m.entry.f1, .int .i64 m.entry.f2, .slice (a 0) m.entry.f3.length (d 0), .slice (a 1) m.digest.length (d 1), .slice (a 2) m.data.length (d 2), .slice (a 3) m.proof.length (d 3), .slice (a 4) m.proven.length (d 4)] 91)) := ⟨blk_put HXa.out 5 (.int .i64 m.entry.f0) rfl⟩
  have y6 : (v0.setCell ⟨w.heap.size, 5, none⟩ (.int .i64 m.entry.f0)).cell? ⟨w.heap.size, 6, none⟩ = some (.int .i64 m.entry.f1) := (blk_cell HXb0.out 6).trans rfl
  have f6 : (v0.setCell ⟨w.heap.size, 5, none⟩ (.int .i64 m.entry.f0)).frozen? ⟨w.heap.size, 6, none⟩ = false := blk_frozen HXb0.out 6
  have HXb1 : Aside0 (((v0.setCell ⟨w.heap.size, 5, none⟩ (.int .i64 m.entry.f0)).setCell ⟨w.heap.size, 6, none⟩ (.int .i64 m.entry.f1)).heap[w.heap.size]? = some (.cells #[.int .i64 m.kind, .int .i64 m.view, .int .i64 m.seq, .int .i64 m.client, .int .i64 m.stamp, .int .i64 m.entry.f0, .int .i64 m.entry.f1, .int .i64 m.entry.f2, .slice (a 0) m.entry.f3.length (d 0), .slice (a 1) m.digest.length (d 1), .slice (a 2) m.data.length (d 2), .slice (a 3) m.proof.length (d 3), .slice (a 4) m.proven.length (d 4)] 91)) := ⟨blk_put HXb0.out 6 (.int .i64 m.entry.f1) rfl⟩
  have y7 : ((v0.setCell ⟨w.heap.size, 5, none⟩ (.int .i64 m.entry.f0)).setCell ⟨w.heap.size, 6, none⟩ (.int .i64 m.entry.f1)).cell? ⟨w.heap.size, 7, none⟩ = some (.int .i64 m.entry.f2) := (blk_cell HXb1.out 7).trans rfl
  have f7 : ((v0.setCell ⟨w.heap.size, 5, none⟩ (.int .i64 m.entry.f0)).setCell ⟨w.heap.size, 6, none⟩ (.int .i64 m.entry.f1)).frozen? ⟨w.heap.size, 7, none⟩ = false := blk_frozen HXb1.out 7
  have HXb2 : Aside0 ((((v0.setCell ⟨w.heap.size, 5, none⟩ (.int .i64 m.entry.f0)).setCell ⟨w.heap.size, 6, none⟩ (.int .i64 m.entry.f1)).setCell ⟨w.heap.size, 7, none⟩ (.int .i64 m.entry.f2)).heap[w.heap.size]? = some (.cells #[.int .i64 m.kind, .int .i64 m.view, .int .i64 m.seq, .int .i64 m.client, .int .i64 m.stamp, .int .i64 m.entry.f0, .int .i64 m.entry.f1, .int .i64 m.entry.f2, .slice (a 0) m.entry.f3.length (d 0), .slice (a 1) m.digest.length (d 1), .slice (a 2) m.data.length (d 2), .slice (a 3) m.proof.length (d 3), .slice (a 4) m.proven.length (d 4)] 91)) := ⟨blk_put HXb1.out 7 (.int .i64 m.entry.f2) rfl⟩
  have y8 : (((v0.setCell ⟨w.heap.size, 5, none⟩ (.int .i64 m.entry.f0)).setCell ⟨w.heap.size, 6, none⟩ (.int .i64 m.entry.f1)).setCell ⟨w.heap.size, 7, none⟩ (.int .i64 m.entry.f2)).cell? ⟨w.heap.size, 8, none⟩ = some (.slice (a 0) m.entry.f3.length (d 0)) := (blk_cell HXb2.out 8).trans rfl
  have f8 : (((v0.setCell ⟨w.heap.size, 5, none⟩ (.int .i64 m.entry.f0)).setCell ⟨w.heap.size, 6, none⟩ (.int .i64 m.entry.f1)).setCell ⟨w.heap.size, 7, none⟩ (.int .i64 m.entry.f2)).frozen? ⟨w.heap.size, 8, none⟩ = false := blk_frozen HXb2.out 8
  have HXb3 : Aside0 (((((v0.setCell ⟨w.heap.size, 5, none⟩ (.int .i64 m.entry.f0)).setCell ⟨w.heap.size, 6, none⟩ (.int .i64 m.entry.f1)).setCell ⟨w.heap.size, 7, none⟩ (.int .i64 m.entry.f2)).setCell ⟨w.heap.size, 8, none⟩ (.slice E0 m.entry.f3.length g0)).heap[w.heap.size]? = some (.cells #[.int .i64 m.kind, .int .i64 m.view, .int .i64 m.seq, .int .i64 m.client, .int .i64 m.stamp, .int .i64 m.entry.f0, .int .i64 m.entry.f1, .int .i64 m.entry.f2, .slice E0 m.entry.f3.length g0, .slice (a 1) m.digest.length (d 1), .slice (a 2) m.data.length (d 2), .slice (a 3) m.proof.length (d 3), .slice (a 4) m.proven.length (d 4)] 91)) := ⟨blk_put HXb2.out 8 (.slice E0 m.entry.f3.length g0) rfl⟩
  have HX1 := HXb3
  have HY1 := Aside0.mk ((Below.heap_setCell (((v0.setCell ⟨w.heap.size, 5, none⟩ (.int .i64 m.entry.f0)).setCell ⟨w.heap.size, 6, none⟩ (.int .i64 m.entry.f1)).setCell ⟨w.heap.size, 7, none⟩ (.int .i64 m.entry.f2)) ⟨w.heap.size, 8, none⟩ (.slice E0 m.entry.f3.length g0) (w.heap.size + 1) (by simp)).trans ((Below.heap_setCell ((v0.setCell ⟨w.heap.size, 5, none⟩ (.int .i64 m.entry.f0)).setCell ⟨w.heap.size, 6, none⟩ (.int .i64 m.entry.f1)) ⟨w.heap.size, 7, none⟩ (.int .i64 m.entry.f2) (w.heap.size + 1) (by simp)).trans ((Below.heap_setCell (v0.setCell ⟨w.heap.size, 5, none⟩ (.int .i64 m.entry.f0)) ⟨w.heap.size, 6, none⟩ (.int .i64 m.entry.f1) (w.heap.size + 1) (by simp)).trans ((Below.heap_setCell v0 ⟨w.heap.size, 5, none⟩ (.int .i64 m.entry.f0) (w.heap.size + 1) (by simp)).trans HYa.out))))
  have HB1 := Aside0.mk (below_set (j := 8) (v := .slice E0 m.entry.f3.length g0) (below_set (j := 7) (v := .int .i64 m.entry.f2) (below_set (j := 6) (v := .int .i64 m.entry.f1) (below_set (j := 5) (v := .int .i64 m.entry.f0) HBa.out (Nat.le_refl _)) (Nat.le_refl _)) (Nat.le_refl _)) (Nat.le_refl _))
  have R0_1 := Aside0.mk (Kd.R_set (Kd.R_set (Kd.R_set (Kd.R_set Ra0.out HXa.out (by simp [Kd.int, Kd.scalar]) 5 (.int .i64 m.entry.f0)) HXb0.out (by simp [Kd.int, Kd.scalar]) 6 (.int .i64 m.entry.f1)) HXb1.out (by simp [Kd.int, Kd.scalar]) 7 (.int .i64 m.entry.f2)) HXb2.out (by simp [Kd.int, Kd.scalar]) 8 (.slice E0 m.entry.f3.length g0))
  have x9 : ((((v0.setCell ⟨w.heap.size, 5, none⟩ (.int .i64 m.entry.f0)).setCell ⟨w.heap.size, 6, none⟩ (.int .i64 m.entry.f1)).setCell ⟨w.heap.size, 7, none⟩ (.int .i64 m.entry.f2)).setCell ⟨w.heap.size, 8, none⟩ (.slice E0 m.entry.f3.length g0)).cell? ⟨w.heap.size, 9, none⟩ = some (.slice (a 1) m.digest.length (d 1)) := (blk_cell HX1.out 9).trans rfl
  go_wp2_with (fail)
  generalize ((((v0.setCell ⟨w.heap.size, 5, none⟩ (.int .i64 m.entry.f0)).setCell ⟨w.heap.size, 6, none⟩ (.int .i64 m.entry.f1)).setCell ⟨w.heap.size, 7, none⟩ (.int .i64 m.entry.f2)).setCell ⟨w.heap.size, 8, none⟩ (.slice E0 m.entry.f3.length g0)) = w1 at HX1 HY1 HB1 R0_1 ⊢
  clear y5 f5 y6 f6 y7 f7 y8 f8 x9 HXa HYa HBa Ra0
  refine (copyBytes_calls (a 1) (d 1) m.digest w1 (Kd.C_below HM.out.r1 HB1.out) HM.out.l1 HF.out.d).mono ?_
  rintro e v1 ⟨E1, g1, rfl, hG⟩
  have hB := hG.keep
  have hR := hG.own
  clear hG
  have HXa := Aside0.mk ((hB.block _ (blk_lt2 HX1.out)).trans HX1.out)
  have HYa := Aside0.mk ((hB.block _ (blk_lt2 HY1.out)).trans HY1.out)
  have HBa := Aside0.mk (below_then HB1.out HB1.out.size hB)
  have Ra0 := Aside0.mk (Kd.R_below R0_1.out hB)
  have Ra1 := Aside0.mk (Kd.R_mono (Kd.R_lower hR HB1.out.size) (fun k hk => Nat.le_trans HB1.out.size hk))
  clear hB hR
  have y9 : v1.cell? ⟨w.heap.size, 9, none⟩ = some (.slice (a 1) m.digest.length (d 1)) := (blk_cell HXa.out 9).trans rfl
  have f9 : v1.frozen? ⟨w.heap.size, 9, none⟩ = false := blk_frozen HXa.out 9
  have HXb0 : Aside0 ((v1.setCell ⟨w.heap.size, 9, none⟩ (.slice E1 m.digest.length g1)).heap[w.heap.size]? = some (.cells #[.int .i64 m.kind, .int .i64 m.view, .int .i64 m.seq, .int .i64 m.client, .int .i64 m.stamp, .int .i64 m.entry.f0, .int .i64 m.entry.f1, .int .i64 m.entry.f2, .slice E0 m.entry.f3.length g0, .slice E1 m.digest.length g1, .slice (a 2) m.data.length (d 2), .slice (a 3) m.proof.length (d 3), .slice (a 4) m.proven.length (d 4)] 91)) := ⟨blk_put HXa.out 9 (.slice E1 m.digest.length g1) rfl⟩
  have HX2 := HXb0
  have HY2 := Aside0.mk ((Below.heap_setCell v1 ⟨w.heap.size, 9, none⟩ (.slice E1 m.digest.length g1) (w.heap.size + 1) (by simp)).trans HYa.out)
  have HB2 := Aside0.mk (below_set (j := 9) (v := .slice E1 m.digest.length g1) HBa.out (Nat.le_refl _))
  have R0_2 := Aside0.mk (Kd.R_set Ra0.out HXa.out (by simp [Kd.int, Kd.scalar]) 9 (.slice E1 m.digest.length g1))
  have R1_2 := Aside0.mk (Kd.R_set Ra1.out HXa.out (by simp [Kd.int, Kd.scalar]) 9 (.slice E1 m.digest.length g1))
  have x10 : (v1.setCell ⟨w.heap.size, 9, none⟩ (.slice E1 m.digest.length g1)).cell? ⟨w.heap.size, 10, none⟩ = some (.slice (a 2) m.data.length (d 2)) := (blk_cell HX2.out 10).trans rfl
  go_wp2_with (fail)
  generalize (v1.setCell ⟨w.heap.size, 9, none⟩ (.slice E1 m.digest.length g1)) = w2 at HX2 HY2 HB2 R0_2 R1_2 ⊢
  clear y9 f9 x10 HXa HYa HBa Ra0 Ra1
  refine (copyBytes_calls (a 2) (d 2) m.data w2 (Kd.C_below HM.out.r2 HB2.out) HM.out.l2 HF.out.b).mono ?_
  rintro e v2 ⟨E2, g2, rfl, hG⟩
  have hB := hG.keep
  have hR := hG.own
  clear hG
  have HXa := Aside0.mk ((hB.block _ (blk_lt2 HX2.out)).trans HX2.out)
  have HYa := Aside0.mk ((hB.block _ (blk_lt2 HY2.out)).trans HY2.out)
  have HBa := Aside0.mk (below_then HB2.out HB2.out.size hB)
  have Ra0 := Aside0.mk (Kd.R_below R0_2.out hB)
  have Ra1 := Aside0.mk (Kd.R_below R1_2.out hB)
  have Ra2 := Aside0.mk (Kd.R_mono (Kd.R_lower hR HB2.out.size) (fun k hk => Nat.le_trans HB2.out.size hk))
  clear hB hR
  have y10 : v2.cell? ⟨w.heap.size, 10, none⟩ = some (.slice (a 2) m.data.length (d 2)) := (blk_cell HXa.out 10).trans rfl
  have f10 : v2.frozen? ⟨w.heap.size, 10, none⟩ = false := blk_frozen HXa.out 10
  have HXb0 : Aside0 ((v2.setCell ⟨w.heap.size, 10, none⟩ (.slice E2 m.data.length g2)).heap[w.heap.size]? = some (.cells #[.int .i64 m.kind, .int .i64 m.view, .int .i64 m.seq, .int .i64 m.client, .int .i64 m.stamp, .int .i64 m.entry.f0, .int .i64 m.entry.f1, .int .i64 m.entry.f2, .slice E0 m.entry.f3.length g0, .slice E1 m.digest.length g1, .slice E2 m.data.length g2, .slice (a 3) m.proof.length (d 3), .slice (a 4) m.proven.length (d 4)] 91)) := ⟨blk_put HXa.out 10 (.slice E2 m.data.length g2) rfl⟩
  have HX3 := HXb0
  have HY3 := Aside0.mk ((Below.heap_setCell v2 ⟨w.heap.size, 10, none⟩ (.slice E2 m.data.length g2) (w.heap.size + 1) (by simp)).trans HYa.out)
  have HB3 := Aside0.mk (below_set (j := 10) (v := .slice E2 m.data.length g2) HBa.out (Nat.le_refl _))
  have R0_3 := Aside0.mk (Kd.R_set Ra0.out HXa.out (by simp [Kd.int, Kd.scalar]) 10 (.slice E2 m.data.length g2))
  have R1_3 := Aside0.mk (Kd.R_set Ra1.out HXa.out (by simp [Kd.int, Kd.scalar]) 10 (.slice E2 m.data.length g2))
  have R2_3 := Aside0.mk (Kd.R_set Ra2.out HXa.out (by simp [Kd.int, Kd.scalar]) 10 (.slice E2 m.data.length g2))
  have x11 : (v2.setCell ⟨w.heap.size, 10, none⟩ (.slice E2 m.data.length g2)).cell? ⟨w.heap.size, 11, none⟩ = some (.slice (a 3) m.proof.length (d 3)) := (blk_cell HX3.out 11).trans rfl
  go_wp2_with (fail)
  generalize (v2.setCell ⟨w.heap.size, 10, none⟩ (.slice E2 m.data.length g2)) = w3 at HX3 HY3 HB3 R0_3 R1_3 R2_3 ⊢
  clear y10 f10 x11 HXa HYa HBa Ra0 Ra1 Ra2
  refine (copyLetters_calls (a 3) (d 3) m.proof w3 (Kd.C_below HM.out.r3 HB3.out) HM.out.l3 HF.out.n HF.out.l).mono ?_
  rintro e v3 ⟨hB, E3, g3, rfl, hR⟩
  have HXa := Aside0.mk ((hB.block _ (blk_lt2 HX3.out)).trans HX3.out)
  have HYa := Aside0.mk ((hB.block _ (blk_lt2 HY3.out)).trans HY3.out)
  have HBa := Aside0.mk (below_then HB3.out HB3.out.size hB)
  have Ra0 := Aside0.mk (Kd.R_below R0_3.out hB)
  have Ra1 := Aside0.mk (Kd.R_below R1_3.out hB)
  have Ra2 := Aside0.mk (Kd.R_below R2_3.out hB)
  have Ra3 := Aside0.mk (Kd.R_mono (Kd.R_lower hR HB3.out.size) (fun k hk => Nat.le_trans HB3.out.size hk))
  clear hB hR
  have y11 : v3.cell? ⟨w.heap.size, 11, none⟩ = some (.slice (a 3) m.proof.length (d 3)) := (blk_cell HXa.out 11).trans rfl
  have f11 : v3.frozen? ⟨w.heap.size, 11, none⟩ = false := blk_frozen HXa.out 11
  have HXb0 : Aside0 ((v3.setCell ⟨w.heap.size, 11, none⟩ (.slice E3 m.proof.length g3)).heap[w.heap.size]? = some (.cells #[.int .i64 m.kind, .int .i64 m.view, .int .i64 m.seq, .int .i64 m.client, .int .i64 m.stamp, .int .i64 m.entry.f0, .int .i64 m.entry.f1, .int .i64 m.entry.f2, .slice E0 m.entry.f3.length g0, .slice E1 m.digest.length g1, .slice E2 m.data.length g2, .slice E3 m.proof.length g3, .slice (a 4) m.proven.length (d 4)] 91)) := ⟨blk_put HXa.out 11 (.slice E3 m.proof.length g3) rfl⟩
  have HX4 := HXb0
  have HY4 := Aside0.mk ((Below.heap_setCell v3 ⟨w.heap.size, 11, none⟩ (.slice E3 m.proof.length g3) (w.heap.size + 1) (by simp)).trans HYa.out)
  have HB4 := Aside0.mk (below_set (j := 11) (v := .slice E3 m.proof.length g3) HBa.out (Nat.le_refl _))
  have R0_4 := Aside0.mk (Kd.R_set Ra0.out HXa.out (by simp [Kd.int, Kd.scalar]) 11 (.slice E3 m.proof.length g3))
  have R1_4 := Aside0.mk (Kd.R_set Ra1.out HXa.out (by simp [Kd.int, Kd.scalar]) 11 (.slice E3 m.proof.length g3))
  have R2_4 := Aside0.mk (Kd.R_set Ra2.out HXa.out (by simp [Kd.int, Kd.scalar]) 11 (.slice E3 m.proof.length g3))
  have R3_4 := Aside0.mk (Kd.R_set Ra3.out HXa.out (by simp [k72, k70, Kd.iso, Kd.pair, Kd.slice, Kd.int, Kd.scalar]) 11 (.slice E3 m.proof.length g3))
  have x12 : (v3.setCell ⟨w.heap.size, 11, none⟩ (.slice E3 m.proof.length g3)).cell? ⟨w.heap.size, 12, none⟩ = some (.slice (a 4) m.proven.length (d 4)) := (blk_cell HX4.out 12).trans rfl
  go_wp2_with (fail)
  generalize (v3.setCell ⟨w.heap.size, 11, none⟩ (.slice E3 m.proof.length g3)) = w4 at HX4 HY4 HB4 R0_4 R1_4 R2_4 R3_4 ⊢
  clear y11 f11 x12 HXa HYa HBa Ra0 Ra1 Ra2 Ra3
  refine (copyProven_calls (a 4) (d 4) m.proven w4 (Kd.C_below HM.out.r4 HB4.out) HM.out.l4 HF.out.k HF.out.p).mono ?_
  rintro e v4 ⟨hB, E4, g4, rfl, hR⟩
  have HXa := Aside0.mk ((hB.block _ (blk_lt2 HX4.out)).trans HX4.out)
  have HYa := Aside0.mk ((hB.block _ (blk_lt2 HY4.out)).trans HY4.out)
  have HBa := Aside0.mk (below_then HB4.out HB4.out.size hB)
  have Ra0 := Aside0.mk (Kd.R_below R0_4.out hB)
  have Ra1 := Aside0.mk (Kd.R_below R1_4.out hB)
  have Ra2 := Aside0.mk (Kd.R_below R2_4.out hB)
  have Ra3 := Aside0.mk (Kd.R_below R3_4.out hB)
  have Ra4 := Aside0.mk (Kd.R_mono (Kd.R_lower hR HB4.out.size) (fun k hk => Nat.le_trans HB4.out.size hk))
  clear hB hR
  have y12 : v4.cell? ⟨w.heap.size, 12, none⟩ = some (.slice (a 4) m.proven.length (d 4)) := (blk_cell HXa.out 12).trans rfl
  have f12 : v4.frozen? ⟨w.heap.size, 12, none⟩ = false := blk_frozen HXa.out 12
  have HXb0 : Aside0 ((v4.setCell ⟨w.heap.size, 12, none⟩ (.slice E4 m.proven.length g4)).heap[w.heap.size]? = some (.cells #[.int .i64 m.kind, .int .i64 m.view, .int .i64 m.seq, .int .i64 m.client, .int .i64 m.stamp, .int .i64 m.entry.f0, .int .i64 m.entry.f1, .int .i64 m.entry.f2, .slice E0 m.entry.f3.length g0, .slice E1 m.digest.length g1, .slice E2 m.data.length g2, .slice E3 m.proof.length g3, .slice E4 m.proven.length g4] 91)) := ⟨blk_put HXa.out 12 (.slice E4 m.proven.length g4) rfl⟩
  have HX5 := HXb0
  have HY5 := Aside0.mk ((Below.heap_setCell v4 ⟨w.heap.size, 12, none⟩ (.slice E4 m.proven.length g4) (w.heap.size + 1) (by simp)).trans HYa.out)
  have HB5 := Aside0.mk (below_set (j := 12) (v := .slice E4 m.proven.length g4) HBa.out (Nat.le_refl _))
  have R0_5 := Aside0.mk (Kd.R_set Ra0.out HXa.out (by simp [Kd.int, Kd.scalar]) 12 (.slice E4 m.proven.length g4))
  have R1_5 := Aside0.mk (Kd.R_set Ra1.out HXa.out (by simp [Kd.int, Kd.scalar]) 12 (.slice E4 m.proven.length g4))
  have R2_5 := Aside0.mk (Kd.R_set Ra2.out HXa.out (by simp [Kd.int, Kd.scalar]) 12 (.slice E4 m.proven.length g4))
  have R3_5 := Aside0.mk (Kd.R_set Ra3.out HXa.out (by simp [k72, k70, Kd.iso, Kd.pair, Kd.slice, Kd.int, Kd.scalar]) 12 (.slice E4 m.proven.length g4))
  have R4_5 := Aside0.mk (Kd.R_set Ra4.out HXa.out (by simp [k101, k87, k72, k70, Kd.iso, Kd.pair, Kd.slice, Kd.int, Kd.scalar]) 12 (.slice E4 m.proven.length g4))
  have x0 : (v4.setCell ⟨w.heap.size, 12, none⟩ (.slice E4 m.proven.length g4)).cell? ⟨w.heap.size, 0, none⟩ = some (.int .i64 m.kind) := (blk_cell HX5.out 0).trans rfl
  have x1 : (v4.setCell ⟨w.heap.size, 12, none⟩ (.slice E4 m.proven.length g4)).cell? ⟨w.heap.size, 1, none⟩ = some (.int .i64 m.view) := (blk_cell HX5.out 1).trans rfl
  have x2 : (v4.setCell ⟨w.heap.size, 12, none⟩ (.slice E4 m.proven.length g4)).cell? ⟨w.heap.size, 2, none⟩ = some (.int .i64 m.seq) := (blk_cell HX5.out 2).trans rfl
  have x3 : (v4.setCell ⟨w.heap.size, 12, none⟩ (.slice E4 m.proven.length g4)).cell? ⟨w.heap.size, 3, none⟩ = some (.int .i64 m.client) := (blk_cell HX5.out 3).trans rfl
  have x4 : (v4.setCell ⟨w.heap.size, 12, none⟩ (.slice E4 m.proven.length g4)).cell? ⟨w.heap.size, 4, none⟩ = some (.int .i64 m.stamp) := (blk_cell HX5.out 4).trans rfl
  have x5 : (v4.setCell ⟨w.heap.size, 12, none⟩ (.slice E4 m.proven.length g4)).cell? ⟨w.heap.size, 5, none⟩ = some (.int .i64 m.entry.f0) := (blk_cell HX5.out 5).trans rfl
  have x6 : (v4.setCell ⟨w.heap.size, 12, none⟩ (.slice E4 m.proven.length g4)).cell? ⟨w.heap.size, 6, none⟩ = some (.int .i64 m.entry.f1) := (blk_cell HX5.out 6).trans rfl
  have x7 : (v4.setCell ⟨w.heap.size, 12, none⟩ (.slice E4 m.proven.length g4)).cell? ⟨w.heap.size, 7, none⟩ = some (.int .i64 m.entry.f2) := (blk_cell HX5.out 7).trans rfl
  have x8 : (v4.setCell ⟨w.heap.size, 12, none⟩ (.slice E4 m.proven.length g4)).cell? ⟨w.heap.size, 8, none⟩ = some (.slice E0 m.entry.f3.length g0) := (blk_cell HX5.out 8).trans rfl
  have x9 : (v4.setCell ⟨w.heap.size, 12, none⟩ (.slice E4 m.proven.length g4)).cell? ⟨w.heap.size, 9, none⟩ = some (.slice E1 m.digest.length g1) := (blk_cell HX5.out 9).trans rfl
  have x10 : (v4.setCell ⟨w.heap.size, 12, none⟩ (.slice E4 m.proven.length g4)).cell? ⟨w.heap.size, 10, none⟩ = some (.slice E2 m.data.length g2) := (blk_cell HX5.out 10).trans rfl
  have x11 : (v4.setCell ⟨w.heap.size, 12, none⟩ (.slice E4 m.proven.length g4)).cell? ⟨w.heap.size, 11, none⟩ = some (.slice E3 m.proof.length g3) := (blk_cell HX5.out 11).trans rfl
  have x12 : (v4.setCell ⟨w.heap.size, 12, none⟩ (.slice E4 m.proven.length g4)).cell? ⟨w.heap.size, 12, none⟩ = some (.slice E4 m.proven.length g4) := (blk_cell HX5.out 12).trans rfl
  go_wp2_with (refine wpList_store_row rfl 91 (.tmp 2) (.tmp 23) rfl (w.heap.size + 1) #[.int .i64 m.kind, .int .i64 m.view, .int .i64 m.seq, .int .i64 m.client, .int .i64 m.stamp, .int .i64 m.entry.f0, .int .i64 m.entry.f1, .int .i64 m.entry.f2, .slice E0 m.entry.f3.length g0, .slice E1 m.digest.length g1, .slice E2 m.data.length g2, .slice E3 m.proof.length g3, .slice E4 m.proven.length g4] rfl rfl 91 _ HY5.out size91 rfl (by simp [Value.oneCell']) ?_; have HY6 := Aside0.mk (setRow_heap _ _ _ #[.int .i64 m.kind, .int .i64 m.view, .int .i64 m.seq, .int .i64 m.client, .int .i64 m.stamp, .int .i64 m.entry.f0, .int .i64 m.entry.f1, .int .i64 m.entry.f2, .slice E0 m.entry.f3.length g0, .slice E1 m.digest.length g1, .slice E2 m.data.length g2, .slice E3 m.proof.length g3, .slice E4 m.proven.length g4] _ _ HY5.out); have HB6 := Aside0.mk (below_setRow HB5.out (Nat.le_succ _) #[.int .i64 m.kind, .int .i64 m.view, .int .i64 m.seq, .int .i64 m.client, .int .i64 m.stamp, .int .i64 m.entry.f0, .int .i64 m.entry.f1, .int .i64 m.entry.f2, .slice E0 m.entry.f3.length g0, .slice E1 m.digest.length g1, .slice E2 m.data.length g2, .slice E3 m.proof.length g3, .slice E4 m.proven.length g4]); have R0_6 := Aside0.mk (R_row R0_5.out HY5.out (by simp [Kd.int, Kd.scalar]) #[.int .i64 m.kind, .int .i64 m.view, .int .i64 m.seq, .int .i64 m.client, .int .i64 m.stamp, .int .i64 m.entry.f0, .int .i64 m.entry.f1, .int .i64 m.entry.f2, .slice E0 m.entry.f3.length g0, .slice E1 m.digest.length g1, .slice E2 m.data.length g2, .slice E3 m.proof.length g3, .slice E4 m.proven.length g4]); have R1_6 := Aside0.mk (R_row R1_5.out HY5.out (by simp [Kd.int, Kd.scalar]) #[.int .i64 m.kind, .int .i64 m.view, .int .i64 m.seq, .int .i64 m.client, .int .i64 m.stamp, .int .i64 m.entry.f0, .int .i64 m.entry.f1, .int .i64 m.entry.f2, .slice E0 m.entry.f3.length g0, .slice E1 m.digest.length g1, .slice E2 m.data.length g2, .slice E3 m.proof.length g3, .slice E4 m.proven.length g4]); have R2_6 := Aside0.mk (R_row R2_5.out HY5.out (by simp [Kd.int, Kd.scalar]) #[.int .i64 m.kind, .int .i64 m.view, .int .i64 m.seq, .int .i64 m.client, .int .i64 m.stamp, .int .i64 m.entry.f0, .int .i64 m.entry.f1, .int .i64 m.entry.f2, .slice E0 m.entry.f3.length g0, .slice E1 m.digest.length g1, .slice E2 m.data.length g2, .slice E3 m.proof.length g3, .slice E4 m.proven.length g4]); have R3_6 := Aside0.mk (R_row R3_5.out HY5.out (by simp [k72, k70, Kd.iso, Kd.pair, Kd.slice, Kd.int, Kd.scalar]) #[.int .i64 m.kind, .int .i64 m.view, .int .i64 m.seq, .int .i64 m.client, .int .i64 m.stamp, .int .i64 m.entry.f0, .int .i64 m.entry.f1, .int .i64 m.entry.f2, .slice E0 m.entry.f3.length g0, .slice E1 m.digest.length g1, .slice E2 m.data.length g2, .slice E3 m.proof.length g3, .slice E4 m.proven.length g4]); have R4_6 := Aside0.mk (R_row R4_5.out HY5.out (by simp [k101, k87, k72, k70, Kd.iso, Kd.pair, Kd.slice, Kd.int, Kd.scalar]) #[.int .i64 m.kind, .int .i64 m.view, .int .i64 m.seq, .int .i64 m.client, .int .i64 m.stamp, .int .i64 m.entry.f0, .int .i64 m.entry.f1, .int .i64 m.entry.f2, .slice E0 m.entry.f3.length g0, .slice E1 m.digest.length g1, .slice E2 m.data.length g2, .slice E3 m.proof.length g3, .slice E4 m.proven.length g4]))
  exact bodyPost_ret (v := .agg #[.int .i64 m.kind, .int .i64 m.view, .int .i64 m.seq, .int .i64 m.client, .int .i64 m.stamp, .int .i64 m.entry.f0, .int .i64 m.entry.f1, .int .i64 m.entry.f2, .slice E0 m.entry.f3.length g0, .slice E1 m.digest.length g1, .slice E2 m.data.length g2, .slice E3 m.proof.length g3, .slice E4 m.proven.length g4]) (results_cell_row (p := 2) rfl _ _ (w.heap.size + 1) 91 _ _ _ rfl HY6.out hu91 rfl size91) rfl ⟨fun n => if n = 0 then E0 else if n = 1 then E1 else if n = 2 then E2 else if n = 3 then E3 else E4, fun n => if n = 0 then g0 else if n = 1 then g1 else if n = 2 then g2 else if n = 3 then g3 else g4, rfl, ⟨(Kd.R_reads' R0_6.out).2.2, (Kd.R_reads' R0_6.out).2.1, (Kd.R_reads' R1_6.out).2.2, (Kd.R_reads' R1_6.out).2.1, (Kd.R_reads' R2_6.out).2.2, (Kd.R_reads' R2_6.out).2.1, (Kd.R_reads' R3_6.out).2.2, (Kd.R_reads' R3_6.out).2.1, (Kd.R_reads' R4_6.out).2.2, (Kd.R_reads' R4_6.out).2.1⟩, HB6.out⟩
end Go.Proofs.Ytijccobeljoikaa.Ms

/- msg: the statements' helpers: how heavy a message is (any answer). -/
namespace Go.Proofs.Ytijccobeljoikaa.Ms
open Go.RowKit Go.Proofs.YtijccobeljoikaaW.PrintWords Go.Proofs.YtijccobeljoikaaW.PrintLast
open Go.Proofs.Ytijccobeljoikaa.Plain Go.Proofs.Ytijccobeljoikaa.Walks
set_option linter.unusedVariables false
set_option linter.unusedSimpArgs false
set_option maxHeartbeats 8000000 in
set_option maxRecDepth 100000 in
theorem weight_calls (x : S72) (A3 : Option Addr) (c3 : Nat) (A4 : Option Addr) (c4 : Nat) (w : World) (hC4 : Kd.C (Kd.slice 5 (Kd.int .u8)) w A4 x.f3.length x.f3) :
    Calls Try.prog 70 #[.agg #[.int .i64 x.f0.f0, .int .i64 x.f0.f1, .int .i64 x.f1, .slice A3 x.f2.length c3, .slice A4 x.f3.length c4]] w fun e w' => ∃ n : Int, e = .returned (.int .i64 n) ∧ Below w.heap.size w w' := by
  have hu72 := Try.underlying72
  have HC := Aside0.mk (Kd.C_alloc hC4 (.cells #[.int .i64 x.f0.f0, .int .i64 x.f0.f1, .int .i64 x.f1, .slice A3 x.f2.length c3, .slice A4 x.f3.length c4] 72))
  have HB := Aside0.mk (below_alloc (Below.refl w.heap.size w) (.cells #[.int .i64 x.f0.f0, .int .i64 x.f0.f1, .int .i64 x.f1, .slice A3 x.f2.length c3, .slice A4 x.f3.length c4] 72))
  have hm := hC4.2.1
  clear hC4
  go_enter Try.func70, Try.ntmps70
  go_wp2_with (fail)
  go_loop [3, 4] (fun u t => ∃ (n : Int) (i : Nat), u = .int .i64 n ∧ t = .int .i64 (i : Int) ∧ i ≤ x.f3.length) (fun _ t => x.f3.length - (intOf t).toNat)
  case atStart => exact ⟨_, 0, rfl, rfl, Nat.zero_le _⟩
  case round =>
    obtain ⟨n, i, rfl, rfl, hi⟩ := hrel
    by_cases hlt : i < x.f3.length
    · have b0 : decide ((i : Int) < (x.f3.length : Int)) = true := decide_eq_true (by omega)
      have b0' : decide (i < x.f3.length) = true := decide_eq_true hlt
      have b1 : (0 ≤ (i : Int)) = True := eq_true (by omega)
      have b2 : ((i : Int) < (x.f3.length : Int)) = True := eq_true (by omega)
      obtain ⟨ad, Ai, ci, e, hx0, hci, hCi⟩ := at_L3 HC.out (i : Int) (by omega) (by omega)
      subst e
      rw [Int.toNat_natCast] at hx0
      go_wp2_with (fail)
      exact ⟨⟨_, i + 1, rfl, by simp, by omega⟩, by simp only [intOf]; omega⟩
    · have b0 : decide ((i : Int) < (x.f3.length : Int)) = false := decide_eq_false (by omega)
      have b0' : decide (i < x.f3.length) = false := decide_eq_false hlt
      go_wp2_with (fail)
      go_ret
      first
        | exact ⟨_, rfl, HB.out⟩
        | exact ⟨⟨_, rfl⟩, HB.out⟩
        | exact HB.out
set_option maxHeartbeats 8000000 in
set_option maxRecDepth 100000 in
theorem heavy_calls (m : S91) (a : Nat → Option Addr) (d : Nat → Nat) (most : Int) (w : World) (hM : Msg w m a d) :
    Calls Try.prog 63 #[.agg #[.int .i64 m.kind, .int .i64 m.view, .int .i64 m.seq, .int .i64 m.client, .int .i64 m.stamp, .int .i64 m.entry.f0, .int .i64 m.entry.f1, .int .i64 m.entry.f2, .slice (a 0) m.entry.f3.length (d 0), .slice (a 1) m.digest.length (d 1), .slice (a 2) m.data.length (d 2), .slice (a 3) m.proof.length (d 3), .slice (a 4) m.proven.length (d 4)], .int .i64 most] w fun e w' => ∃ q : Bool, e = .returned (.bool q) ∧ Below w.heap.size w w' := by
  have hu91 := Try.underlying91
  have hu87 := Try.underlying87
  have hu101 := Try.underlying101
  have HM := Aside0.mk hM
  have hm3 := hM.r3.2.1
  have hm4 := hM.r4.2.1
  have HX0 := Aside0.mk (blk_new w (.cells #[.int .i64 m.kind, .int .i64 m.view, .int .i64 m.seq, .int .i64 m.client, .int .i64 m.stamp, .int .i64 m.entry.f0, .int .i64 m.entry.f1, .int .i64 m.entry.f2, .slice (a 0) m.entry.f3.length (d 0), .slice (a 1) m.digest.length (d 1), .slice (a 2) m.data.length (d 2), .slice (a 3) m.proof.length (d 3), .slice (a 4) m.proven.length (d 4)] 91))
  have HB0 := Aside0.mk (below_alloc (Below.refl w.heap.size w) (.cells #[.int .i64 m.kind, .int .i64 m.view, .int .i64 m.seq, .int .i64 m.client, .int .i64 m.stamp, .int .i64 m.entry.f0, .int .i64 m.entry.f1, .int .i64 m.entry.f2, .slice (a 0) m.entry.f3.length (d 0), .slice (a 1) m.digest.length (d 1), .slice (a 2) m.data.length (d 2), .slice (a 3) m.proof.length (d 3), .slice (a 4) m.proven.length (d 4)] 91))
  clear hM
  go_enter Try.func63, Try.ntmps63
  go_wp2_with (fail)
  generalize w.alloc (.cells #[.int .i64 m.kind, .int .i64 m.view, .int .i64 m.seq, .int .i64 m.client, .int .i64 m.stamp, .int .i64 m.entry.f0, .int .i64 m.entry.f1, .int .i64 m.entry.f2, .slice (a 0) m.entry.f3.length (d 0), .slice (a 1) m.digest.length (d 1), .slice (a 2) m.data.length (d 2), .slice (a 3) m.proof.length (d 3), .slice (a 4) m.proven.length (d 4)] 91) = w0 at HX0 HB0 ⊢
  go_loopw [5, 6] (fun u t wr => ∃ (n : Int) (i : Nat), u = .int .i64 n ∧ t = .int .i64 (i : Int) ∧ i ≤ m.proof.length ∧ Aside0 (wr.heap[w.heap.size]? = some (.cells #[.int .i64 m.kind, .int .i64 m.view, .int .i64 m.seq, .int .i64 m.client, .int .i64 m.stamp, .int .i64 m.entry.f0, .int .i64 m.entry.f1, .int .i64 m.entry.f2, .slice (a 0) m.entry.f3.length (d 0), .slice (a 1) m.digest.length (d 1), .slice (a 2) m.data.length (d 2), .slice (a 3) m.proof.length (d 3), .slice (a 4) m.proven.length (d 4)] 91)) ∧ Aside0 (Below w.heap.size w wr)) (fun _ t _ => m.proof.length - (intOf t).toNat)
  case atStart => exact ⟨_, 0, rfl, rfl, Nat.zero_le _, HX0, HB0⟩
  case round =>
    clear HX0 HB0
    obtain ⟨n, i, rfl, rfl, hi, HX, HB⟩ := hrel
    have y11 : wr.cell? ⟨w.heap.size, 11, none⟩ = some (.slice (a 3) m.proof.length (d 3)) := (blk_cell HX.out 11).trans rfl
    obtain ⟨q, hq⟩ : ∃ q, decide (n ≤ most) = q := ⟨_, rfl⟩
    by_cases hlt : i < m.proof.length
    · have b0 : decide ((i : Int) < (m.proof.length : Int)) = true := decide_eq_true (by omega)
      have b0' : decide (i < m.proof.length) = true := decide_eq_true hlt
      have b1 : (0 ≤ (i : Int)) = True := eq_true (by omega)
      have b2 : ((i : Int) < (m.proof.length : Int)) = True := eq_true (by omega)
      cases q with
      | true =>
        obtain ⟨ad, B3, d3, B4, d4, e, hx0, hx1, hx2, hx3, hx4, hl3, hi3, hl4, hi4⟩ := at_T72 (Kd.C_below HM.out.r3 HB.out) (i : Int) (by omega) (by omega)
        rw [e] at y11
        rw [Int.toNat_natCast] at hx0 hx1 hx2 hx3 hx4
        have HI4 := Aside0.mk hi4
        clear e hl3 hi3 hl4 hi4
        go_wp2_with (go_at_call 70; refine (weight_calls (rd_T72 m.proof (i : Int)) B3 d3 B4 d4 wr HI4.out).mono ?_; rintro e w2 ⟨n2, rfl, hB⟩; have HX2 := Aside0.mk ((hB.block _ (blk_lt2 HX.out)).trans HX.out); have HB2 := Aside0.mk (below_then HB.out HB.out.size hB); clear hB)
        exact ⟨⟨_, i + 1, rfl, by simp, by omega, HX2, HB2⟩, by simp only [intOf]; omega⟩
      | false =>
        go_wp2_with (fail)
        clear y11 hq b0 b0' b1 b2 hlt hi
        obtain ⟨wp, rfl⟩ : ∃ W, W = wr := ⟨_, rfl⟩
        go_loopw [5, 7] (fun u t wr2 => ∃ (n : Int) (i : Nat), u = .int .i64 n ∧ t = .int .i64 (i : Int) ∧ i ≤ m.proven.length ∧ Aside0 (wr2.heap[w.heap.size]? = some (.cells #[.int .i64 m.kind, .int .i64 m.view, .int .i64 m.seq, .int .i64 m.client, .int .i64 m.stamp, .int .i64 m.entry.f0, .int .i64 m.entry.f1, .int .i64 m.entry.f2, .slice (a 0) m.entry.f3.length (d 0), .slice (a 1) m.digest.length (d 1), .slice (a 2) m.data.length (d 2), .slice (a 3) m.proof.length (d 3), .slice (a 4) m.proven.length (d 4)] 91)) ∧ Aside0 (Below w.heap.size w wr2)) (fun _ t _ => m.proven.length - (intOf t).toNat)
        case atStart => exact ⟨_, 0, rfl, rfl, Nat.zero_le _, HX, HB⟩
        case round =>
          clear HX HB
          obtain ⟨n, i, rfl, rfl, hi, HX, HB⟩ := hrel
          have y12 : wr.cell? ⟨w.heap.size, 12, none⟩ = some (.slice (a 4) m.proven.length (d 4)) := (blk_cell HX.out 12).trans rfl
          obtain ⟨q, hq⟩ : ∃ q, decide (n ≤ most) = q := ⟨_, rfl⟩
          by_cases hlt : i < m.proven.length
          · have b0 : decide ((i : Int) < (m.proven.length : Int)) = true := decide_eq_true (by omega)
            have b0' : decide (i < m.proven.length) = true := decide_eq_true hlt
            have b1 : (0 ≤ (i : Int)) = True := eq_true (by omega)
            have b2 : ((i : Int) < (m.proven.length : Int)) = True := eq_true (by omega)
            cases q with
            | false =>
              go_wp2_with (fail)
              go_ret
              first | exact ⟨_, rfl, HB.out⟩ | exact ⟨⟨_, rfl⟩, HB.out⟩ | exact HB.out
            | true =>
              obtain ⟨ad, B5, d5, B6, d6, e, hx0, hx1, hx2, hx3, hx4, hx5, hx6, hl5, hi5, hl6, hi6⟩ := at_T101 HM.out.r4 (i : Int) (by omega) (by omega)
              rw [e] at y12
              obtain ⟨x, hxx⟩ : ∃ x, x = rd_T101 m.proven (i : Int) := ⟨_, rfl⟩
              rw [← hxx] at hx5 hx6 hi6
              rw [Int.toNat_natCast] at hx5 hx6
              have HI6 := Aside0.mk hi6
              have H5 := Aside0.mk hx5
              have H6 := Aside0.mk hx6
              have hvm := hi6.2.1
              have HE := Aside0.mk e
              have z5 := cell_step hx5 HB.out
              have z6 := cell_step hx6 HB.out
              clear e hx0 hx1 hx2 hx3 hx4 hx5 hx6 hl5 hi5 hl6 hi6 hxx
              go_wp2_with (fail)
              clear y12 z5 z6
              obtain ⟨wq, rfl⟩ : ∃ W, W = wr := ⟨_, rfl⟩
              go_loopw [5, 8] (fun u t wr3 => ∃ (n : Int) (j : Nat), u = .int .i64 n ∧ t = .int .i64 (j : Int) ∧ j ≤ x.f3.length ∧ Aside0 (wr3.heap[w.heap.size]? = some (.cells #[.int .i64 m.kind, .int .i64 m.view, .int .i64 m.seq, .int .i64 m.client, .int .i64 m.stamp, .int .i64 m.entry.f0, .int .i64 m.entry.f1, .int .i64 m.entry.f2, .slice (a 0) m.entry.f3.length (d 0), .slice (a 1) m.digest.length (d 1), .slice (a 2) m.data.length (d 2), .slice (a 3) m.proof.length (d 3), .slice (a 4) m.proven.length (d 4)] 91)) ∧ Aside0 (Below w.heap.size w wr3)) (fun _ t _ => x.f3.length - (intOf t).toNat)
              case atStart => exact ⟨_, 0, rfl, rfl, Nat.zero_le _, HX, HB⟩
              case round =>
                clear HX HB hq
                obtain ⟨n3, j, rfl, rfl, hj, HX, HB⟩ := hrel
                have y12 : wr.cell? ⟨w.heap.size, 12, none⟩ = some (.slice (some ad) m.proven.length (d 4)) := HE.out ▸ ((blk_cell HX.out 12).trans rfl)
                have z6 := cell_step H6.out HB.out
                obtain ⟨q, hq⟩ : ∃ q, decide (n3 ≤ most) = q := ⟨_, rfl⟩
                by_cases hjt : j < x.f3.length
                · have c0 : decide ((j : Int) < (x.f3.length : Int)) = true := decide_eq_true (by omega)
                  have c0' : decide (j < x.f3.length) = true := decide_eq_true hjt
                  have c1 : (0 ≤ (j : Int)) = True := eq_true (by omega)
                  have c2 : ((j : Int) < (x.f3.length : Int)) = True := eq_true (by omega)
                  cases q with
                  | false =>
                    go_wp2_with (fail)
                    exact ⟨⟨_, i + 1, rfl, by simp, by omega, HX, HB⟩, by simp only [intOf]; omega⟩
                  | true =>
                    obtain ⟨ad2, C3, e3, C4, e4, e, kx0, kx1, kx2, kx3, kx4, kl3, ki3, kl4, ki4⟩ := at_T72 (Kd.C_below HI6.out HB.out) (j : Int) (by omega) (by omega)
                    rw [e] at z6
                    rw [Int.toNat_natCast] at kx0 kx1 kx2 kx3 kx4
                    have KI4 := Aside0.mk ki4
                    clear e kl3 ki3 kl4 ki4
                    go_wp2_with (go_at_call 70; refine (weight_calls (rd_T72 x.f3 (j : Int)) C3 e3 C4 e4 wr KI4.out).mono ?_; rintro e w2 ⟨n2, rfl, hB⟩; have HX2 := Aside0.mk ((hB.block _ (blk_lt2 HX.out)).trans HX.out); have HB2 := Aside0.mk (below_then HB.out HB.out.size hB); clear hB)
                    exact ⟨⟨_, j + 1, rfl, by simp, by omega, HX2, HB2⟩, by simp only [intOf]; omega⟩
                · have c0 : decide ((j : Int) < (x.f3.length : Int)) = false := decide_eq_false (by omega)
                  have c0' : decide (j < x.f3.length) = false := decide_eq_false hjt
                  go_wp2_with (fail)
                  exact ⟨⟨_, i + 1, rfl, by simp, by omega, HX, HB⟩, by simp only [intOf]; omega⟩
          · have b0 : decide ((i : Int) < (m.proven.length : Int)) = false := decide_eq_false (by omega)
            have b0' : decide (i < m.proven.length) = false := decide_eq_false hlt
            go_wp2_with (fail)
            go_ret
            first | exact ⟨_, rfl, HB.out⟩ | exact ⟨⟨_, rfl⟩, HB.out⟩ | exact HB.out
    · have b0 : decide ((i : Int) < (m.proof.length : Int)) = false := decide_eq_false (by omega)
      have b0' : decide (i < m.proof.length) = false := decide_eq_false hlt
      go_wp2_with (fail)
      clear y11 hq b0 b0' hlt hi
      obtain ⟨wp, rfl⟩ : ∃ W, W = wr := ⟨_, rfl⟩
      go_loopw [5, 7] (fun u t wr2 => ∃ (n : Int) (i : Nat), u = .int .i64 n ∧ t = .int .i64 (i : Int) ∧ i ≤ m.proven.length ∧ Aside0 (wr2.heap[w.heap.size]? = some (.cells #[.int .i64 m.kind, .int .i64 m.view, .int .i64 m.seq, .int .i64 m.client, .int .i64 m.stamp, .int .i64 m.entry.f0, .int .i64 m.entry.f1, .int .i64 m.entry.f2, .slice (a 0) m.entry.f3.length (d 0), .slice (a 1) m.digest.length (d 1), .slice (a 2) m.data.length (d 2), .slice (a 3) m.proof.length (d 3), .slice (a 4) m.proven.length (d 4)] 91)) ∧ Aside0 (Below w.heap.size w wr2)) (fun _ t _ => m.proven.length - (intOf t).toNat)
      case atStart => exact ⟨_, 0, rfl, rfl, Nat.zero_le _, HX, HB⟩
      case round =>
        clear HX HB
        obtain ⟨n, i, rfl, rfl, hi, HX, HB⟩ := hrel
        have y12 : wr.cell? ⟨w.heap.size, 12, none⟩ = some (.slice (a 4) m.proven.length (d 4)) := (blk_cell HX.out 12).trans rfl
        obtain ⟨q, hq⟩ : ∃ q, decide (n ≤ most) = q := ⟨_, rfl⟩
        by_cases hlt : i < m.proven.length
        · have b0 : decide ((i : Int) < (m.proven.length : Int)) = true := decide_eq_true (by omega)
          have b0' : decide (i < m.proven.length) = true := decide_eq_true hlt
          have b1 : (0 ≤ (i : Int)) = True := eq_true (by omega)
          have b2 : ((i : Int) < (m.proven.length : Int)) = True := eq_true (by omega)
          cases q with
          | false =>
            go_wp2_with (fail)
            go_ret
            first | exact ⟨_, rfl, HB.out⟩ | exact ⟨⟨_, rfl⟩, HB.out⟩ | exact HB.out
          | true =>
            obtain ⟨ad, B5, d5, B6, d6, e, hx0, hx1, hx2, hx3, hx4, hx5, hx6, hl5, hi5, hl6, hi6⟩ := at_T101 HM.out.r4 (i : Int) (by omega) (by omega)
            rw [e] at y12
            obtain ⟨x, hxx⟩ : ∃ x, x = rd_T101 m.proven (i : Int) := ⟨_, rfl⟩
            rw [← hxx] at hx5 hx6 hi6
            rw [Int.toNat_natCast] at hx5 hx6
            have HI6 := Aside0.mk hi6
            have H5 := Aside0.mk hx5
            have H6 := Aside0.mk hx6
            have hvm := hi6.2.1
            have HE := Aside0.mk e
            have z5 := cell_step hx5 HB.out
            have z6 := cell_step hx6 HB.out
            clear e hx0 hx1 hx2 hx3 hx4 hx5 hx6 hl5 hi5 hl6 hi6 hxx
            go_wp2_with (fail)
            clear y12 z5 z6
            obtain ⟨wq, rfl⟩ : ∃ W, W = wr := ⟨_, rfl⟩
            go_loopw [5, 8] (fun u t wr3 => ∃ (n : Int) (j : Nat), u = .int .i64 n ∧ t = .int .i64 (j : Int) ∧ j ≤ x.f3.length ∧ Aside0 (wr3.heap[w.heap.size]? = some (.cells #[.int .i64 m.kind, .int .i64 m.view, .int .i64 m.seq, .int .i64 m.client, .int .i64 m.stamp, .int .i64 m.entry.f0, .int .i64 m.entry.f1, .int .i64 m.entry.f2, .slice (a 0) m.entry.f3.length (d 0), .slice (a 1) m.digest.length (d 1), .slice (a 2) m.data.length (d 2), .slice (a 3) m.proof.length (d 3), .slice (a 4) m.proven.length (d 4)] 91)) ∧ Aside0 (Below w.heap.size w wr3)) (fun _ t _ => x.f3.length - (intOf t).toNat)
            case atStart => exact ⟨_, 0, rfl, rfl, Nat.zero_le _, HX, HB⟩
            case round =>
              clear HX HB hq
              obtain ⟨n3, j, rfl, rfl, hj, HX, HB⟩ := hrel
              have y12 : wr.cell? ⟨w.heap.size, 12, none⟩ = some (.slice (some ad) m.proven.length (d 4)) := HE.out ▸ ((blk_cell HX.out 12).trans rfl)
              have z6 := cell_step H6.out HB.out
              obtain ⟨q, hq⟩ : ∃ q, decide (n3 ≤ most) = q := ⟨_, rfl⟩
              by_cases hjt : j < x.f3.length
              · have c0 : decide ((j : Int) < (x.f3.length : Int)) = true := decide_eq_true (by omega)
                have c0' : decide (j < x.f3.length) = true := decide_eq_true hjt
                have c1 : (0 ≤ (j : Int)) = True := eq_true (by omega)
                have c2 : ((j : Int) < (x.f3.length : Int)) = True := eq_true (by omega)
                cases q with
                | false =>
                  go_wp2_with (fail)
                  exact ⟨⟨_, i + 1, rfl, by simp, by omega, HX, HB⟩, by simp only [intOf]; omega⟩
                | true =>
                  obtain ⟨ad2, C3, e3, C4, e4, e, kx0, kx1, kx2, kx3, kx4, kl3, ki3, kl4, ki4⟩ := at_T72 (Kd.C_below HI6.out HB.out) (j : Int) (by omega) (by omega)
                  rw [e] at z6
                  rw [Int.toNat_natCast] at kx0 kx1 kx2 kx3 kx4
                  have KI4 := Aside0.mk ki4
                  clear e kl3 ki3 kl4 ki4
                  go_wp2_with (go_at_call 70; refine (weight_calls (rd_T72 x.f3 (j : Int)) C3 e3 C4 e4 wr KI4.out).mono ?_; rintro e w2 ⟨n2, rfl, hB⟩; have HX2 := Aside0.mk ((hB.block _ (blk_lt2 HX.out)).trans HX.out); have HB2 := Aside0.mk (below_then HB.out HB.out.size hB); clear hB)
                  exact ⟨⟨_, j + 1, rfl, by simp, by omega, HX2, HB2⟩, by simp only [intOf]; omega⟩
              · have c0 : decide ((j : Int) < (x.f3.length : Int)) = false := decide_eq_false (by omega)
                have c0' : decide (j < x.f3.length) = false := decide_eq_false hjt
                go_wp2_with (fail)
                exact ⟨⟨_, i + 1, rfl, by simp, by omega, HX, HB⟩, by simp only [intOf]; omega⟩
        · have b0 : decide ((i : Int) < (m.proven.length : Int)) = false := decide_eq_false (by omega)
          have b0' : decide (i < m.proven.length) = false := decide_eq_false hlt
          go_wp2_with (fail)
          go_ret
          first | exact ⟨_, rfl, HB.out⟩ | exact ⟨⟨_, rfl⟩, HB.out⟩ | exact HB.out
end Go.Proofs.Ytijccobeljoikaa.Ms

/- msg: alive. -/
namespace Go.Proofs.Ytijccobeljoikaa.Ms
open Go.RowKit Go.Proofs.YtijccobeljoikaaW.PrintWords Go.Proofs.YtijccobeljoikaaW.PrintLast
open Go.Proofs.Ytijccobeljoikaa.Plain Go.Proofs.Ytijccobeljoikaa.Walks
set_option linter.unusedVariables false
set_option linter.unusedSimpArgs false

/-- Bytes that a block holds. -/
theorem C_bytes_block {W : World} {n t : Nat} {fr : Nat × Nat} {l : List Int} (h : W.heap[n]? = some (.cells (l.map (Value.int .u8)).toArray t fr)) (hl : l.length ≤ 9223372036854775807) : Kd.C (Kd.int .u8) W (some ⟨n, 0, none⟩) l.length l :=
  Kd.C_of_reads (d := (0 : Int)) (h1 := fun _ => rfl) ⟨rfl, hl, fun _ => ⟨_, rfl, fun j hj => by rw [add_plain, cell_of_row W n j _ t fr h]; simp [List.getD_eq_getElem?_getD, hj]⟩⟩
theorem Kd.C_nil_ {α : Type} {d : Kd α} (w : World) (A : Option Addr) : Kd.C d w A 0 [] := ⟨rfl, Nat.zero_le _, fun h => absurd h (Nat.lt_irrefl 0)⟩
def m0 : S91 := ⟨13, 0, 3, 0, 0, z87, [], [], [], []⟩
theorem enc_small {n : Nat} (h : n < 128) (B : List Int) : encN n ++ B = (n : Int) :: B := by rw [encN_small h]; rfl
theorem encP_m0 : encP m0 = ([1, 13, 1, 3], 0) := by
  have hr : rightB m0 (partsS m0.kind) = true := by decide
  have hk : partsS m0.kind ≠ ⟨#[]⟩ := by decide
  rw [encP, if_neg hk, if_pos hr]
  have hp : (partsS m0.kind).data.toList = [115] := by decide
  rw [hp]
  have e1 : encI [m0.kind] = [13] := by show encN 13 ++ [] = _; rw [encN_small (by omega)]; rfl
  have e2 : fieldP m0 115 = ([3], 0) := by
    simp (config := { decide := true }) only [fieldP, if_true, if_false]
    show (encN 3 ++ [], (0 : Int)) = _
    rw [encN_small (by omega)]; rfl
  rw [encGo, e2, if_pos rfl, encGo, e1, joinP_ok (by simp) (by simp)]
  show (encN 1 ++ [13] ++ (encN 1 ++ [3] ++ []), (0 : Int)) = _
  rw [encN_small (by omega)]; rfl
theorem decO_m0 : decO [1, 13, 1, 3] = some m0 := msg_again encP_m0
def x0 : S87 := ⟨-1, 0, 0, []⟩
theorem entryP_x0 : entryP x0 = ([3, 0, 0, 0, 0], 0) := by
  have hg : goodEntry x0 = true := by decide
  rw [entryP, if_pos hg]
  have e1 : encI [x0.f0 + 1, x0.f1, x0.f2] = [0, 0, 0] := by
    show encN 0 ++ (encN 0 ++ (encN 0 ++ [])) = _
    rw [encN_small (by omega)]; rfl
  rw [entryZ, e1]
  show (encN 3 ++ [0, 0, 0] ++ (encN 0 ++ [] ++ []), (0 : Int)) = _
  rw [encN_small (v := 3) (by omega), encN_small (v := 0) (by omega)]; rfl
set_option maxHeartbeats 8000000 in
set_option maxRecDepth 100000 in
theorem alive_calls (w : World) : Calls Try.prog 62 #[] w fun e w' => e = .returned (.bool true) ∧ Below w.heap.size w w' := by
  have hu91 := Try.underlying91
  have hu87 := Try.underlying87
  have hE : Calls Try.prog 65 #[.agg #[.int .i64 13, .int .i64 0, .int .i64 3, .int .i64 0, .int .i64 0, .int .i64 0, .int .i64 0, .int .i64 0, .slice none 0 0, .slice none 0 0, .slice none 0 0, .slice none 0 0, .slice none 0 0]] w fun e w' => ∃ A1 c1, e = .returned (.tuple #[.slice A1 4 c1, .int .i64 0]) ∧ 4 ≤ c1 ∧ Kd.C (Kd.int .u8) w' A1 4 [1, 13, 1, 3] ∧ Below w.heap.size w w' :=
    encode_calls m0 (fun _ => none) (fun _ => 0) [1, 13, 1, 3] 0 w ⟨Kd.C_nil_ _ _, Nat.le_refl _, Kd.C_nil_ _ _, Nat.le_refl _, Kd.C_nil_ _ _, Nat.le_refl _, Kd.C_nil_ _ _, Nat.le_refl _, Kd.C_nil_ _ _, Nat.le_refl _⟩ encP_m0
  go_enter Try.func62, Try.ntmps62
  go_wp2_with (fail)
  with_reducible refine hE.mono ?_
  clear hE
  rintro e w1 ⟨A1, c1, rfl, hc1, hC1, hB1⟩
  have HC1 := Aside0.mk hC1
  have HB1 := Aside0.mk hB1
  clear hC1 hB1
  go_wp2_with (fail)
  have hE : Calls Try.prog 68 #[.slice (some ⟨w1.heap.size, 0, none⟩) 4 4] (w1.alloc (.cells #[.int .u8 1, .int .u8 13, .int .u8 1, .int .u8 3] 5)) fun e w' => Below (w1.alloc (.cells #[.int .u8 1, .int .u8 13, .int .u8 1, .int .u8 3] 5)).heap.size (w1.alloc (.cells #[.int .u8 1, .int .u8 13, .int .u8 1, .int .u8 3] 5)) w' ∧ ∃ (a : Nat → Option Addr) (d : Nat → Nat), e = .returned (.tuple #[.agg #[.int .i64 13, .int .i64 0, .int .i64 3, .int .i64 0, .int .i64 0, .int .i64 0, .int .i64 0, .int .i64 0, .slice (a 0) 0 (d 0), .slice (a 1) 0 (d 1), .slice (a 2) 0 (d 2), .slice (a 3) 0 (d 3), .slice (a 4) 0 (d 4)], .int .i64 0]) ∧ Msg w' m0 a d :=
    decode_calls (some ⟨w1.heap.size, 0, none⟩) 4 [1, 13, 1, 3] (some m0) _ (C_bytes_block (l := [1, 13, 1, 3]) (t := 5) (fr := (0, 0)) (blk_new w1 _) (by simp)) (by simp) (by intro c hc; simp at hc; omega) (by simp) decO_m0
  with_reducible refine hE.mono ?_
  clear hE
  rintro e w2 ⟨hB, a, d, rfl, -⟩
  have HB2 := Aside0.mk (below_then (below_alloc HB1.out (.cells #[.int .u8 1, .int .u8 13, .int .u8 1, .int .u8 3] 5)) (below_size (below_alloc HB1.out _)) hB)
  have HC2 := Aside0.mk (Kd.C_below (Kd.C_alloc HC1.out (.cells #[.int .u8 1, .int .u8 13, .int .u8 1, .int .u8 3] 5)) hB)
  clear hB HB1 HC1
  go_wp2_with (fail)
  have HX3 := Aside0.mk (blk_new w2 (.cells #[.int .i64 13, .int .i64 0, .int .i64 3, .int .i64 0, .int .i64 0, .int .i64 0, .int .i64 0, .int .i64 0, .slice (a 0) 0 (d 0), .slice (a 1) 0 (d 1), .slice (a 2) 0 (d 2), .slice (a 3) 0 (d 3), .slice (a 4) 0 (d 4)] 91))
  have HB3 := Aside0.mk (below_alloc HB2.out (.cells #[.int .i64 13, .int .i64 0, .int .i64 3, .int .i64 0, .int .i64 0, .int .i64 0, .int .i64 0, .int .i64 0, .slice (a 0) 0 (d 0), .slice (a 1) 0 (d 1), .slice (a 2) 0 (d 2), .slice (a 3) 0 (d 3), .slice (a 4) 0 (d 4)] 91))
  have HC3 := Aside0.mk (Kd.C_alloc HC2.out (.cells #[.int .i64 13, .int .i64 0, .int .i64 3, .int .i64 0, .int .i64 0, .int .i64 0, .int .i64 0, .int .i64 0, .slice (a 0) 0 (d 0), .slice (a 1) 0 (d 1), .slice (a 2) 0 (d 2), .slice (a 3) 0 (d 3), .slice (a 4) 0 (d 4)] 91))
  obtain ⟨g3, hg3⟩ : ∃ g, g = w2.heap.size := ⟨_, rfl⟩
  rw [← hg3] at HX3 ⊢
  clear hg3 HB2 HC2
  generalize w2.alloc (.cells #[.int .i64 13, .int .i64 0, .int .i64 3, .int .i64 0, .int .i64 0, .int .i64 0, .int .i64 0, .int .i64 0, .slice (a 0) 0 (d 0), .slice (a 1) 0 (d 1), .slice (a 2) 0 (d 2), .slice (a 3) 0 (d 3), .slice (a 4) 0 (d 4)] 91) = w3 at HX3 HB3 HC3 ⊢
  have hE : Calls Try.prog 74 #[.agg #[.int .i64 (-1), .int .i64 0, .int .i64 0, .slice none 0 0]] w3 fun e w' => ∃ A1 c1, e = .returned (.tuple #[.slice A1 5 c1, .int .i64 0]) ∧ 5 ≤ c1 ∧ Kd.C (Kd.int .u8) w' A1 5 [3, 0, 0, 0, 0] ∧ Below w3.heap.size w3 w' :=
    pack74_calls x0 none 0 [3, 0, 0, 0, 0] 0 w3 (Kd.C_nil_ _ _) (Nat.le_refl _) entryP_x0
  with_reducible refine hE.mono ?_
  clear hE
  rintro e w4 ⟨A5, c5, rfl, hc5, hC5, hB⟩
  have HX4 := Aside0.mk ((hB.block _ (blk_lt2 HX3.out)).trans HX3.out)
  have HB4 := Aside0.mk (below_then HB3.out HB3.out.size hB)
  have HC4 := Aside0.mk (Kd.C_below HC3.out hB)
  have HC5 := Aside0.mk hC5
  clear hB HX3 HB3 HC3 hC5
  go_wp2_with (fail)
  have hE : Calls Try.prog 27 #[.slice A1 4 c1, .slice (some ⟨w4.heap.size, 0, none⟩) 4 4] (w4.alloc (.cells #[.int .u8 1, .int .u8 13, .int .u8 1, .int .u8 3] 5)) fun e w' => e = .returned (.bool true) ∧ Drawn0 (w4.alloc (.cells #[.int .u8 1, .int .u8 13, .int .u8 1, .int .u8 3] 5)) w' :=
    sameBytes_is A1 c1 [1, 13, 1, 3] (some ⟨w4.heap.size, 0, none⟩) 4 [1, 13, 1, 3] true _ (Kd.C_alloc HC4.out _) hc1 (C_bytes_block (l := [1, 13, 1, 3]) (t := 5) (fr := (0, 0)) (blk_new w4 _) (by simp)) (by simp) (by decide)
  with_reducible refine hE.mono ?_
  clear hE
  rintro e w5 ⟨rfl, hD⟩
  have hB := hD.below
  have HX5 := Aside0.mk ((hB.block _ (blk_lt2 ((Below.heap_alloc w4 (.cells #[.int .u8 1, .int .u8 13, .int .u8 1, .int .u8 3] 5) _ (blk_lt2 HX4.out)).trans HX4.out))).trans ((Below.heap_alloc w4 (.cells #[.int .u8 1, .int .u8 13, .int .u8 1, .int .u8 3] 5) _ (blk_lt2 HX4.out)).trans HX4.out))
  have HB5 := Aside0.mk (below_then (below_alloc HB4.out _) (below_size (below_alloc HB4.out _)) hB)
  have HC6 := Aside0.mk (Kd.C_below (Kd.C_alloc HC5.out (.cells #[.int .u8 1, .int .u8 13, .int .u8 1, .int .u8 3] 5)) hB)
  clear hB hD HX4 HB4 HC4 HC5
  have x2 : w5.cell? ⟨g3, 2, none⟩ = some (.int .i64 3) := (blk_cell HX5.out 2).trans rfl
  go_wp2_with (fail)
  have hE : Calls Try.prog 27 #[.slice A5 5 c5, .slice (some ⟨w5.heap.size, 0, none⟩) 5 5] (w5.alloc (.cells #[.int .u8 3, .int .u8 0, .int .u8 0, .int .u8 0, .int .u8 0] 5)) fun e w' => e = .returned (.bool true) ∧ Drawn0 (w5.alloc (.cells #[.int .u8 3, .int .u8 0, .int .u8 0, .int .u8 0, .int .u8 0] 5)) w' :=
    sameBytes_is A5 c5 [3, 0, 0, 0, 0] (some ⟨w5.heap.size, 0, none⟩) 5 [3, 0, 0, 0, 0] true _ (Kd.C_alloc HC6.out _) hc5 (C_bytes_block (l := [3, 0, 0, 0, 0]) (t := 5) (fr := (0, 0)) (blk_new w5 _) (by simp)) (by simp) (by decide)
  with_reducible refine hE.mono ?_
  clear hE
  rintro e w6 ⟨rfl, hD⟩
  have HB6 := Aside0.mk (below_then (below_alloc HB5.out _) (below_size (below_alloc HB5.out _)) hD.below)
  clear hD
  go_wp2_with (fail)
  go_ret
  exact ⟨rfl, HB6.out⟩
end Go.Proofs.Ytijccobeljoikaa.Ms
