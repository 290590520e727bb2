/- Put together of my texts: MtE, MtF, MtG, MtI, MtL. -/
import Derived.Test.YtijccobeljoikaaMi6
/- msg: PackLetter, PackEntry. -/
namespace Go.Proofs.Ytijccobeljoikaa.Ms
open Go.RowKit Go.Proofs.YtijccobeljoikaaW.PrintWords Go.Proofs.YtijccobeljoikaaW.PrintLast
open Go.Proofs.Ytijccobeljoikaa.Plain Go.Proofs.Ytijccobeljoikaa.Walks
set_option linter.unusedVariables false
set_option linter.unusedSimpArgs false

/-- An entry's bytes, or the error. -/
def entryP (x : S87) : List Int × Int := if goodEntry x then (entryZ x, 0) else ([], 81)
set_option maxHeartbeats 8000000 in
set_option maxRecDepth 100000 in
theorem pack117_calls (x : S87) (A3 : Option Addr) (c3 : Nat) (be bb : Nat) (w : World) (hC3 : Kd.C (Kd.int .u8) w A3 x.f3.length x.f3) (hc3 : x.f3.length ≤ c3) (hbe : w.heap[be]? = some (.cells #[.int .i64 x.f0, .int .i64 x.f1, .int .i64 x.f2, .slice A3 x.f3.length c3] 87)) (hbb : w.heap[bb]? = some (.cells #[.slice none 0 0] 22)) :
    Calls Try.prog 117 #[.pointer (some ⟨be, 0, none⟩), .pointer (some ⟨bb, 0, none⟩)] w fun e w' =>
      if goodEntry x = true then ∃ A1 c1, e = .returned (.tuple #[]) ∧ w'.heap[bb]? = some (.cells #[.slice A1 (entryZ x).length c1] 22) ∧ (entryZ x).length ≤ c1 ∧ Kd.R (Kd.int .u8) 5 w' w.heap.size (fun k => w.heap.size ≤ k) (.slice A1 (entryZ x).length c1) (entryZ x) ∧ w.grownBy w' (some bb)
      else e = .panicked (fault 81) ∧ Below w.heap.size w w' := by
  have hu87 := Try.underlying87
  have HBB := Aside0.mk hbb
  have HHY := Aside0.mk (And.intro hC3 hc3)
  have x0 : w.cell? ⟨be, 0, none⟩ = some (.int .i64 x.f0) := (blk_cell hbe 0).trans rfl
  have x1 : w.cell? ⟨be, 1, none⟩ = some (.int .i64 x.f1) := (blk_cell hbe 1).trans rfl
  have x2 : w.cell? ⟨be, 2, none⟩ = some (.int .i64 x.f2) := (blk_cell hbe 2).trans rfl
  have x3 : w.cell? ⟨be, 3, none⟩ = some (.slice A3 x.f3.length c3) := (blk_cell hbe 3).trans rfl
  clear hbe hbb hC3 hc3
  cases hq : goodEntry x with
  | true =>
    have HQ := Aside0.mk hq
    obtain ⟨z, hz⟩ : ∃ z, z = entryZ x := ⟨_, rfl⟩
    have HZ := Aside0.mk hz
    rw [← hz]
    clear hq hz
    go_enter Try.func117, Try.ntmps117
    go_wp2_with (fail)
    have hE := packEntry_ok x A3 c3 w HHY.out.1 HHY.out.2 HQ.out
    rw [← HZ.out] at hE
    with_reducible refine hE.mono ?_
    clear hE
    rintro e w1 ⟨A1, c1, rfl, hG⟩
    have HBB1 := Aside0.mk ((hG.keep.block _ (blk_lt2 HBB.out)).trans HBB.out)
    have HG := Aside0.mk hG
    have xb : w1.cell? ⟨bb, 0, none⟩ = some (.slice none 0 0) := (blk_cell HBB1.out 0).trans rfl
    have xf : w1.frozen? ⟨bb, 0, none⟩ = false := blk_frozen HBB1.out 0
    clear hG
    go_wp2_with (fail)
    go_end0
    exact ⟨rfl, A1, c1, blk_put HBB1.out 0 _ rfl, HG.out.cap, Kd.R_set HG.out.own HBB1.out (by simp [Kd.int, Kd.scalar]) 0 _, (grown_of_below HG.out.keep (some bb)).trans (grown_set2 _ _ _ _)⟩
  | false =>
    have HQ := Aside0.mk hq
    clear hq
    go_enter Try.func117, Try.ntmps117
    go_wp2_with (fail)
    have hE := packEntry_bad x A3 c3 w HQ.out
    with_reducible refine hE.mono ?_
    clear hE
    rintro e w1 ⟨rfl, hB⟩
    have HB1 := Aside0.mk hB
    clear hB
    go_wp2_with (fail)
    exact ⟨rfl, rfl, HB1.out⟩
set_option maxHeartbeats 8000000 in
set_option maxRecDepth 100000 in
theorem pack74_calls (x : S87) (A3 : Option Addr) (c3 : Nat) (z : List Int) (y : Int) (w : World) (hC3 : Kd.C (Kd.int .u8) w A3 x.f3.length x.f3) (hc3 : x.f3.length ≤ c3) (h : entryP x = (z, y)) :
    Calls Try.prog 74 #[.agg #[.int .i64 x.f0, .int .i64 x.f1, .int .i64 x.f2, .slice A3 x.f3.length c3]] w fun e w' => ∃ A1 c1, e = .returned (.tuple #[.slice A1 z.length c1, .int .i64 y]) ∧ z.length ≤ c1 ∧ Kd.C (Kd.int .u8) w' A1 z.length z ∧ Below w.heap.size w w' := by
  have hu87 := Try.underlying87
  have HHY := Aside0.mk (And.intro hC3 hc3)
  have HE := Aside0.mk h
  clear h hC3 hc3
  have hmf : ∀ (fn : Fn) (first cap : Array Value) (w : World), (Instr.makeFunc fn first cap).run Try.prog w = .ok (.func fn first cap) w := fun _ _ _ _ => rfl
  have HBE0 := Aside0.mk ((Below.heap_alloc (w.alloc (.cells #[.int .i64 x.f0, .int .i64 x.f1, .int .i64 x.f2, .slice A3 x.f3.length c3] 87)) (.cells #[.slice none 0 0] 22) w.heap.size (by simp)).trans (blk_new w (.cells #[.int .i64 x.f0, .int .i64 x.f1, .int .i64 x.f2, .slice A3 x.f3.length c3] 87)))
  have HBB0 := Aside0.mk (blk_new (w.alloc (.cells #[.int .i64 x.f0, .int .i64 x.f1, .int .i64 x.f2, .slice A3 x.f3.length c3] 87)) (.cells #[.slice none 0 0] 22))
  have HB0 := Aside0.mk (below_alloc (below_alloc (Below.refl w.heap.size w) (.cells #[.int .i64 x.f0, .int .i64 x.f1, .int .i64 x.f2, .slice A3 x.f3.length c3] 87)) (.cells #[.slice none 0 0] 22))
  rw [show (w.alloc (.cells #[.int .i64 x.f0, .int .i64 x.f1, .int .i64 x.f2, .slice A3 x.f3.length c3] 87)).heap.size = w.heap.size + 1 by simp] at HBB0
  go_enter Try.func74, Try.ntmps74
  go_wp2_with (fail)
  generalize (w.alloc (.cells #[.int .i64 x.f0, .int .i64 x.f1, .int .i64 x.f2, .slice A3 x.f3.length c3] 87)).alloc (.cells #[.slice none 0 0] 22) = w2 at HBE0 HBB0 HB0 ⊢
  refine (caught_calls 117 #[.pointer (some ⟨w.heap.size, 0, none⟩), .pointer (some ⟨w.heap.size + 1, 0, none⟩)] w2 (fun r w3 => r.getD 0 = y ∧ w2.grownBy w3 (some (w.heap.size + 1)) ∧ w3.heap[w2.heap.size]? = some (.cells #[.int .i64 0] 23) ∧ ∃ A1 c1, w3.heap[w.heap.size + 1]? = some (.cells #[.slice A1 z.length c1] 22) ∧ z.length ≤ c1 ∧ Kd.R (Kd.int .u8) 5 w3 w2.heap.size (fun k => w2.heap.size ≤ k) (.slice A1 z.length c1) z) (fun _ => by kernel_rfl) ?_).mono ?_
  · intro W hW
    have hg0 := World.grownBy_alloc w2 (.cells #[.int .i64 0] 23) (some (w.heap.size + 1))
    have hbW := below_alloc (Below.refl w2.heap.size w2) (.cells #[.int .i64 0] 23)
    have hnW := blk_new w2 (.cells #[.int .i64 0] 23)
    rw [← hW] at hg0 hbW hnW
    have hne : w2.heap.size ≠ w.heap.size + 1 := fun e => by have := blk_lt2 HBB0.out; omega
    have hBW := below_then HB0.out HB0.out.size hbW
    refine (pack117_calls x A3 c3 w.heap.size (w.heap.size + 1) W (Kd.C_below HHY.out.1 hBW) HHY.out.2 ((hbW.block _ (blk_lt2 HBE0.out)).trans HBE0.out) ((hbW.block _ (blk_lt2 HBB0.out)).trans HBB0.out)).mono ?_
    intro e w3 hh
    have hE := HE.out
    unfold entryP at hE
    by_cases hx : goodEntry x = true
    · rw [if_pos hx] at hh hE
      obtain ⟨rfl, rfl⟩ := Prod.mk.inj hE
      obtain ⟨A1, c1, rfl, hbb, hl, hR, hg⟩ := hh
      have hbk := (hg.block _ (blk_lt2 hnW) (by intro e; injection e with e; exact hne e)).trans hnW
      exact ⟨⟨none, ⟨rfl, hg0.trans hg, hbk, A1, c1, hbb, hl, Kd.R_mono (Kd.R_lower hR hbW.size) (fun k hk => Nat.le_trans hbW.size hk)⟩, rfl⟩, (blk_cell hbk 0).trans rfl, blk_frozen hbk 0, hbk⟩
    · rw [if_neg hx] at hh hE
      obtain ⟨rfl, rfl⟩ := Prod.mk.inj hE
      obtain ⟨rfl, hB⟩ := hh
      have hbk := (hB.block _ (blk_lt2 hnW)).trans hnW
      exact ⟨⟨some 81, ⟨rfl, hg0.trans (grown_of_below hB _), hbk, none, 0, (hB.block _ (by have := blk_lt2 HBB0.out; have := hbW.size; omega)).trans ((hbW.block _ (blk_lt2 HBB0.out)).trans HBB0.out), Nat.le_refl _, Kd.R_nil _ _ _ _ _⟩, rfl⟩, (blk_cell hbk 0).trans rfl, blk_frozen hbk 0, hbk⟩
  rintro e w4 ⟨r, w3, ⟨hr, hg, hbk, A1, c1, hbb, hl, hR⟩, rfl, rfl⟩
  rw [hr]
  have HL := Aside0.mk hl
  have hne : w.heap.size + 1 ≠ w2.heap.size := fun e => by have := blk_lt2 HBB0.out; omega
  have HR := Aside0.mk (Kd.R_set hR hbk (by simp [Kd.int, Kd.scalar]) 0 (.int .i64 y))
  have HBB4 := Aside0.mk ((Below.heap_setCell w3 ⟨w2.heap.size, 0, none⟩ (.int .i64 y) _ hne).trans hbb)
  have HB4 := Aside0.mk ((HB0.out.grown hg HB0.out.size (fun k hk => by injection hk with hk; omega)).grown (grown_set2 w3 w2.heap.size 0 (.int .i64 y)) (by have := hg.size; have := HB0.out.size; omega) (fun k hk => by injection hk with hk; have := HB0.out.size; omega))
  generalize w3.setCell ⟨w2.heap.size, 0, none⟩ (.int .i64 y) = w4 at HR HBB4 HB4 ⊢
  clear hr hg hbk hbb hl hR hne
  have xb : w4.cell? ⟨w.heap.size + 1, 0, none⟩ = some (.slice A1 z.length c1) := (blk_cell HBB4.out 0).trans rfl
  have xf : w4.frozen? ⟨w.heap.size + 1, 0, none⟩ = false := blk_frozen HBB4.out 0
  have HBB5 := Aside0.mk (blk_put HBB4.out 0 (.slice A1 z.length c1) rfl)
  have xc : (w4.setCell ⟨w.heap.size + 1, 0, none⟩ (.slice A1 z.length c1)).cell? ⟨w.heap.size + 1, 0, none⟩ = some (.slice A1 z.length c1) := (blk_cell HBB5.out 0).trans rfl
  go_wp2_with (fail)
  refine bodyPost_ret (v := .tuple #[.slice A1 z.length c1, .int .i64 y]) ?_ rfl ⟨A1, c1, rfl, HL.out, (Kd.R_reads' (Kd.R_set HR.out HBB4.out (by simp [Kd.int, Kd.scalar]) 0 (.slice A1 z.length c1))).2.2, below_set HB4.out (by omega)⟩
  rw [results_cell_tmp rfl]
  simp [asAddr, Result.andThen, loadVar, xc]
end Go.Proofs.Ytijccobeljoikaa.Ms

/- msg: the statements' helpers: bytes and rows of bytes, compared and copied. -/
namespace Go.Proofs.Ytijccobeljoikaa.Ms
open Go.RowKit Go.Proofs.YtijccobeljoikaaW.PrintWords Go.Proofs.YtijccobeljoikaaW.PrintLast
open Go.Proofs.Ytijccobeljoikaa.Plain Go.Proofs.Ytijccobeljoikaa.Walks
set_option linter.unusedVariables false
set_option linter.unusedSimpArgs false

theorem take_eq_step {α : Type} {a b : List α} {i : Nat} (h : a.take i = b.take i) (ha : i < a.length) (hb : i < b.length) (he : a[i] = b[i]) : a.take (i + 1) = b.take (i + 1) := by
  rw [← List.take_append_getElem ha, ← List.take_append_getElem hb, h, he]
set_option maxHeartbeats 8000000 in
set_option maxRecDepth 100000 in
theorem sameBytes_calls (A0 : Option Addr) (c0 : Nat) (l0 : List Int) (A1 : Option Addr) (c1 : Nat) (l1 : List Int) (w : World) (hr0 : Kd.C (Kd.int .u8) w A0 l0.length l0) (hc0 : l0.length ≤ c0) (hr1 : Kd.C (Kd.int .u8) w A1 l1.length l1) (hc1 : l1.length ≤ c1) :
    Calls Try.prog 27 #[.slice A0 l0.length c0, .slice A1 l1.length c1] w fun e w' => e = .returned (.bool (decide (l0 = l1))) ∧ Drawn0 w w' := by
  have HR0 := Aside0.mk hr0
  have HR1 := Aside0.mk hr1
  have hm0 := hr0.2.1
  have hm1 := hr1.2.1
  clear hr0 hr1
  by_cases c3 : l0.length = l1.length
  · have c3b1 : ((l0.length : Int) != (l1.length : Int)) = false := bne_eq_false_iff_eq.mpr (by omega)
    have c3b2 : (l0.length == l1.length) = true := beq_iff_eq.mpr c3
    have HC := Aside0.mk c3
    clear c3
    go_enter Try.func27, Try.ntmps27
    go_wp2
    repeat (go_quiet (fail); try go_wp2)
    go_loopw [5] (fun u wr => ∃ i : Nat, u = .int .i64 (i : Int) ∧ i ≤ l0.length ∧ Aside0 (l0.take i = l1.take i) ∧ Drawn0 w wr) (fun u _ => l0.length - (intOf u).toNat)
    case atStart => exact ⟨0, rfl, Nat.zero_le _, ⟨rfl⟩, by repeat (first | exact Drawn0.refl _ | apply Drawn0.step)⟩
    case round =>
      obtain ⟨i, rfl, hi, HT, ⟨m1, rfl⟩⟩ := hrel
      by_cases hlt : i < l0.length
      · have b0 : decide ((i : Int) < (l0.length : Int)) = true := decide_eq_true (by omega)
        have b0' : decide (i < l0.length) = true := decide_eq_true hlt
        have hlt1 : i < l1.length := by have := HC.out; omega
        obtain ⟨ad0, e0, hx0⟩ := Kd.at_int HR0.out (i : Int) (by omega) (by omega)
        obtain ⟨ad1, e1, hx1⟩ := Kd.at_int HR1.out (i : Int) (by omega) (by omega)
        subst e0
        subst e1
        rw [Int.toNat_natCast] at hx0 hx1
        have p0 : (0 ≤ (i : Int)) = True := eq_true (by omega)
        have p1 : ((i : Int) < (l0.length : Int)) = True := eq_true (by omega)
        have p2 : ((i : Int) < (l1.length : Int)) = True := eq_true (by omega)
        obtain ⟨u0, hu0⟩ : ∃ u, u = rd l0 (i : Int) := ⟨_, rfl⟩
        obtain ⟨u1, hu1⟩ : ∃ u, u = rd l1 (i : Int) := ⟨_, rfl⟩
        rw [← hu0] at hx0
        rw [← hu1] at hx1
        have HU0 := Aside0.mk (show u0 = l0[i] by rw [hu0]; simp [rd, List.getD_eq_getElem?_getD, hlt])
        have HU1 := Aside0.mk (show u1 = l1[i] by rw [hu1]; simp [rd, List.getD_eq_getElem?_getD, hlt1])
        clear hu0 hu1
        by_cases hq : u0 = u1
        · have q1 : (u0 != u1) = false := bne_eq_false_iff_eq.mpr hq
          have HQ := Aside0.mk hq
          clear hq
          go_wp2
          repeat (go_quiet (fail); try go_wp2)
          exact ⟨⟨i + 1, by simp, by omega, ⟨take_eq_step HT.out hlt hlt1 (by rw [← HU0.out, ← HU1.out]; exact HQ.out)⟩, by repeat (first | exact Drawn0.refl _ | apply Drawn0.step)⟩, by simp only [intOf]; omega⟩
        · have q1 : (u0 != u1) = true := bne_iff_ne.mpr hq
          have HQ := Aside0.mk hq
          clear hq
          go_wp2
          repeat (go_quiet (fail); try go_wp2)
          go_ret
          exact ⟨by rw [decide_eq_false (fun e => HQ.out (by rw [HU0.out, HU1.out]; simp [e]))]; rfl, by repeat (first | exact Drawn0.refl _ | apply Drawn0.step)⟩
      · have b0 : decide ((i : Int) < (l0.length : Int)) = false := decide_eq_false (by omega)
        have b0' : decide (i < l0.length) = false := decide_eq_false hlt
        go_wp2
        repeat (go_quiet (fail); try go_wp2)
        go_ret
        refine ⟨?_, by repeat (first | exact Drawn0.refl _ | apply Drawn0.step)⟩
        have := HT.out
        rw [List.take_of_length_le (by omega), List.take_of_length_le (by have := HC.out; omega)] at this
        rw [decide_eq_true this]; rfl
  · have c3b1 : ((l0.length : Int) != (l1.length : Int)) = true := bne_iff_ne.mpr (by omega)
    have c3b2 : (l0.length == l1.length) = false := beq_eq_false_iff_ne.mpr c3
    have HC := Aside0.mk c3
    clear c3
    go_enter Try.func27, Try.ntmps27
    go_wp2
    repeat (go_quiet (fail); try go_wp2)
    go_ret
    exact ⟨by rw [decide_eq_false (fun e => HC.out (by rw [e]))]; rfl, by repeat (first | exact Drawn0.refl _ | apply Drawn0.step)⟩
end Go.Proofs.Ytijccobeljoikaa.Ms

/- msg: the statements' helpers: bytes and rows of bytes, copied; rows compared. -/
namespace Go.Proofs.Ytijccobeljoikaa.Ms
open Go.RowKit Go.Proofs.YtijccobeljoikaaW.PrintWords Go.Proofs.YtijccobeljoikaaW.PrintLast
open Go.Proofs.Ytijccobeljoikaa.Plain Go.Proofs.Ytijccobeljoikaa.Walks
set_option linter.unusedVariables false
set_option linter.unusedSimpArgs false

theorem sameBytes_is (A0 : Option Addr) (c0 : Nat) (l0 : List Int) (A1 : Option Addr) (c1 : Nat) (l1 : List Int) (r : Bool) (w : World) (hr0 : Kd.C (Kd.int .u8) w A0 l0.length l0) (hc0 : l0.length ≤ c0) (hr1 : Kd.C (Kd.int .u8) w A1 l1.length l1) (hc1 : l1.length ≤ c1) (h : decide (l0 = l1) = r) :
    Calls Try.prog 27 #[.slice A0 l0.length c0, .slice A1 l1.length c1] w fun e w' => e = .returned (.bool r) ∧ Drawn0 w w' := h ▸ sameBytes_calls A0 c0 l0 A1 c1 l1 w hr0 hc0 hr1 hc1
theorem int_new (W : World) (b : Nat) (ok : Nat → Prop) (hb : b ≤ W.heap.size) (hok : ok W.heap.size) : Kd.R (Kd.int .u8) 5 (W.alloc (.cells #[] 5)) b ok (.slice (some ⟨W.heap.size, 0, none⟩) 0 0) [] :=
  Kd.R_of_own (own_lit_of W b 5 [] hb (by simp)) (fun k hk => by
    have : k = W.heap.size := by simpa [Value.ownBlock] using hk.symm
    rw [this]; exact hok)
theorem new_R {α : Type} (d : Kd α) (e : Nat) (W : World) (b : Nat) (ok : Nat → Prop) (hb : b ≤ W.heap.size) (hok : ok W.heap.size) : d.R e (W.alloc (.cells #[] e)) b ok (.slice (some ⟨W.heap.size, 0, none⟩) 0 0) [] :=
  ⟨fun k hk => by
    have : k = W.heap.size := by simpa [Value.ownBlock] using hk.symm
    rw [this]; exact hok, [], World.ownsRow_lit W #[] 0 hb (Nat.zero_le _) (by simp), Reps.none _ _⟩
set_option maxHeartbeats 8000000 in
set_option maxRecDepth 100000 in
theorem copyBytes_calls (A : Option Addr) (c : Nat) (l : List Int) (w : World) (hC : Kd.C (Kd.int .u8) w A l.length l) (hc : l.length ≤ c) (hl : l.length ≤ 140737488355328) :
    Calls Try.prog 41 #[.slice A l.length c] w fun e w' => ∃ A1 c1, e = .returned (.slice A1 l.length c1) ∧ Got (Kd.int .u8) 5 w w' A1 c1 l := by
  have HC := Aside0.mk (Kd.C_alloc hC (.cells #[] 5))
  have HR := Aside0.mk (int_new w w.heap.size (fun k => w.heap.size ≤ k) (Nat.le_refl _) (Nat.le_refl _))
  have HB := Aside0.mk (below_alloc (Below.refl w.heap.size w) (.cells #[] 5))
  have hs := below_size HB.out
  clear hC
  go_enter Try.func41, Try.ntmps41
  go_wp2_with (at_builtin; refine Kd.R_append_row (w0 := w) (Value.int .u8) (0 : Int) w.heap.size rfl (.tmp 5) (.tmp 6) 22 5 (.int .u8 0) 1 rfl Try.underlying22 info5 rfl (by decide) (.slice (some ⟨w.heap.size, 0, none⟩) 0 0) [] l A l.length c (fun k => w.heap.size ≤ k) rfl rfl (fun k hk => by omega) HR.out HC.out HB.out hs (by simp; omega) ?_; intro v1 w1 hR1 hB1 hg1 hat1; obtain ⟨A1, c1, rfl⟩ := Kd.R_slice hR1; have HR1 := Aside0.mk hR1; have HB1 := Aside0.mk hB1; clear hR1 hB1 hg1 hat1)
  go_ret
  exact ⟨A1, c1, rfl, HR1.out, HB1.out⟩
set_option maxHeartbeats 8000000 in
set_option maxRecDepth 100000 in
theorem sameRows_calls (A0 : Option Addr) (c0 : Nat) (l0 : List (List Int)) (A1 : Option Addr) (c1 : Nat) (l1 : List (List Int)) (w : World) (hr0 : Kd.C (Kd.slice 5 (Kd.int .u8)) w A0 l0.length l0) (hr1 : Kd.C (Kd.slice 5 (Kd.int .u8)) w A1 l1.length l1) :
    Calls Try.prog 33 #[.slice A0 l0.length c0, .slice A1 l1.length c1] w fun e w' => e = .returned (.bool (decide (l0 = l1))) ∧ Drawn0 w w' := by
  have HR0 := Aside0.mk hr0
  have HR1 := Aside0.mk hr1
  have hm0 := hr0.2.1
  have hm1 := hr1.2.1
  clear hr0 hr1
  by_cases c3 : l0.length = l1.length
  · have c3b1 : ((l0.length : Int) != (l1.length : Int)) = false := bne_eq_false_iff_eq.mpr (by omega)
    have c3b2 : (l0.length == l1.length) = true := beq_iff_eq.mpr c3
    have HC := Aside0.mk c3
    clear c3
    go_enter Try.func33, Try.ntmps33
    go_wp2
    repeat (go_quiet (fail); try go_wp2)
    go_loopw [5] (fun u wr => ∃ i : Nat, u = .int .i64 (i : Int) ∧ i ≤ l0.length ∧ Aside0 (l0.take i = l1.take i) ∧ Drawn0 w wr) (fun u _ => l0.length - (intOf u).toNat)
    case atStart => exact ⟨0, rfl, Nat.zero_le _, ⟨rfl⟩, by repeat (first | exact Drawn0.refl _ | apply Drawn0.step)⟩
    case round =>
      obtain ⟨i, rfl, hi, HT, ⟨m1, rfl⟩⟩ := hrel
      by_cases hlt : i < l0.length
      · have b0 : decide ((i : Int) < (l0.length : Int)) = true := decide_eq_true (by omega)
        have b0' : decide (i < l0.length) = true := decide_eq_true hlt
        have hlt1 : i < l1.length := by have := HC.out; omega
        obtain ⟨ad0, B0, d0, e0, hx0, hl0, hC0⟩ := at_L3 HR0.out (i : Int) (by omega) (by omega)
        obtain ⟨ad1, B1, d1, e1, hx1, hl1, hC1⟩ := at_L3 HR1.out (i : Int) (by omega) (by omega)
        subst e0
        subst e1
        rw [Int.toNat_natCast] at hx0 hx1
        have p0 : (0 ≤ (i : Int)) = True := eq_true (by omega)
        have p1 : ((i : Int) < (l0.length : Int)) = True := eq_true (by omega)
        have p2 : ((i : Int) < (l1.length : Int)) = True := eq_true (by omega)
        obtain ⟨u0, hu0⟩ : ∃ u, u = rd_L3 l0 (i : Int) := ⟨_, rfl⟩
        obtain ⟨u1, hu1⟩ : ∃ u, u = rd_L3 l1 (i : Int) := ⟨_, rfl⟩
        rw [← hu0] at hx0 hl0 hC0
        rw [← hu1] at hx1 hl1 hC1
        have HU0 := Aside0.mk (show u0 = l0[i] by rw [hu0]; simp [rd_L3, List.getD_eq_getElem?_getD, hlt])
        have HU1 := Aside0.mk (show u1 = l1[i] by rw [hu1]; simp [rd_L3, List.getD_eq_getElem?_getD, hlt1])
        have HA := Aside0.mk (And.intro hl0 (And.intro hC0 (And.intro hl1 hC1)))
        clear hu0 hu1 hl0 hC0 hl1 hC1
        by_cases hq : u0 = u1
        · have HQ := Aside0.mk (decide_eq_true hq)
          have HE := Aside0.mk hq
          clear hq
          go_wp2_with (first | (go_at_call 27; (with_reducible refine (sameBytes_is B0 d0 u0 B1 d1 u1 true _ ?s1 ?s2 ?s3 ?s4 HQ.out).mono ?_); (case s1 => repeat (first | exact HA.out.2.1 | (with_reducible refine Kd.C_drewN ?_ _) | (with_reducible refine Kd.C_drew ?_))); (case s2 => exact HA.out.1); (case s3 => repeat (first | exact HA.out.2.2.2 | (with_reducible refine Kd.C_drewN ?_ _) | (with_reducible refine Kd.C_drew ?_))); (case s4 => exact HA.out.2.2.1); rintro e w' ⟨rfl, ⟨nd, rfl⟩⟩; (try first | exact ⟨rfl, _, World.drewN_drewN _ _ _⟩ | exact ⟨rfl, _, Eq.trans (World.drewN_drewN _ _ _) (congrArg (World.drewN _) (Nat.add_assoc _ _ _))⟩)))
          repeat (go_quiet (first | (go_at_call 27; (with_reducible refine (sameBytes_is B0 d0 u0 B1 d1 u1 true _ ?s1 ?s2 ?s3 ?s4 HQ.out).mono ?_); (case s1 => repeat (first | exact HA.out.2.1 | (with_reducible refine Kd.C_drewN ?_ _) | (with_reducible refine Kd.C_drew ?_))); (case s2 => exact HA.out.1); (case s3 => repeat (first | exact HA.out.2.2.2 | (with_reducible refine Kd.C_drewN ?_ _) | (with_reducible refine Kd.C_drew ?_))); (case s4 => exact HA.out.2.2.1); rintro e w' ⟨rfl, ⟨nd, rfl⟩⟩; (try first | exact ⟨rfl, _, World.drewN_drewN _ _ _⟩ | exact ⟨rfl, _, Eq.trans (World.drewN_drewN _ _ _) (congrArg (World.drewN _) (Nat.add_assoc _ _ _))⟩))); try (go_wp2_with (first | (go_at_call 27; (with_reducible refine (sameBytes_is B0 d0 u0 B1 d1 u1 true _ ?s1 ?s2 ?s3 ?s4 HQ.out).mono ?_); (case s1 => repeat (first | exact HA.out.2.1 | (with_reducible refine Kd.C_drewN ?_ _) | (with_reducible refine Kd.C_drew ?_))); (case s2 => exact HA.out.1); (case s3 => repeat (first | exact HA.out.2.2.2 | (with_reducible refine Kd.C_drewN ?_ _) | (with_reducible refine Kd.C_drew ?_))); (case s4 => exact HA.out.2.2.1); rintro e w' ⟨rfl, ⟨nd, rfl⟩⟩; (try first | exact ⟨rfl, _, World.drewN_drewN _ _ _⟩ | exact ⟨rfl, _, Eq.trans (World.drewN_drewN _ _ _) (congrArg (World.drewN _) (Nat.add_assoc _ _ _))⟩)))))
          exact ⟨⟨i + 1, by simp, by omega, ⟨take_eq_step HT.out hlt hlt1 (by rw [← HU0.out, ← HU1.out]; exact HE.out)⟩, by repeat (first | exact Drawn0.refl _ | apply Drawn0.step)⟩, by simp only [intOf]; omega⟩
        · have HQ := Aside0.mk (decide_eq_false hq)
          have HE := Aside0.mk hq
          clear hq
          go_wp2_with (first | (go_at_call 27; (with_reducible refine (sameBytes_is B0 d0 u0 B1 d1 u1 false _ ?s1 ?s2 ?s3 ?s4 HQ.out).mono ?_); (case s1 => repeat (first | exact HA.out.2.1 | (with_reducible refine Kd.C_drewN ?_ _) | (with_reducible refine Kd.C_drew ?_))); (case s2 => exact HA.out.1); (case s3 => repeat (first | exact HA.out.2.2.2 | (with_reducible refine Kd.C_drewN ?_ _) | (with_reducible refine Kd.C_drew ?_))); (case s4 => exact HA.out.2.2.1); rintro e w' ⟨rfl, ⟨nd, rfl⟩⟩; (try first | exact ⟨rfl, _, World.drewN_drewN _ _ _⟩ | exact ⟨rfl, _, Eq.trans (World.drewN_drewN _ _ _) (congrArg (World.drewN _) (Nat.add_assoc _ _ _))⟩)))
          repeat (go_quiet (first | (go_at_call 27; (with_reducible refine (sameBytes_is B0 d0 u0 B1 d1 u1 false _ ?s1 ?s2 ?s3 ?s4 HQ.out).mono ?_); (case s1 => repeat (first | exact HA.out.2.1 | (with_reducible refine Kd.C_drewN ?_ _) | (with_reducible refine Kd.C_drew ?_))); (case s2 => exact HA.out.1); (case s3 => repeat (first | exact HA.out.2.2.2 | (with_reducible refine Kd.C_drewN ?_ _) | (with_reducible refine Kd.C_drew ?_))); (case s4 => exact HA.out.2.2.1); rintro e w' ⟨rfl, ⟨nd, rfl⟩⟩; (try first | exact ⟨rfl, _, World.drewN_drewN _ _ _⟩ | exact ⟨rfl, _, Eq.trans (World.drewN_drewN _ _ _) (congrArg (World.drewN _) (Nat.add_assoc _ _ _))⟩))); try (go_wp2_with (first | (go_at_call 27; (with_reducible refine (sameBytes_is B0 d0 u0 B1 d1 u1 false _ ?s1 ?s2 ?s3 ?s4 HQ.out).mono ?_); (case s1 => repeat (first | exact HA.out.2.1 | (with_reducible refine Kd.C_drewN ?_ _) | (with_reducible refine Kd.C_drew ?_))); (case s2 => exact HA.out.1); (case s3 => repeat (first | exact HA.out.2.2.2 | (with_reducible refine Kd.C_drewN ?_ _) | (with_reducible refine Kd.C_drew ?_))); (case s4 => exact HA.out.2.2.1); rintro e w' ⟨rfl, ⟨nd, rfl⟩⟩; (try first | exact ⟨rfl, _, World.drewN_drewN _ _ _⟩ | exact ⟨rfl, _, Eq.trans (World.drewN_drewN _ _ _) (congrArg (World.drewN _) (Nat.add_assoc _ _ _))⟩)))))
          go_ret
          exact ⟨by rw [decide_eq_false (fun e => HE.out (by rw [HU0.out, HU1.out]; simp [e]))]; rfl, by repeat (first | exact Drawn0.refl _ | apply Drawn0.step)⟩
      · have b0 : decide ((i : Int) < (l0.length : Int)) = false := decide_eq_false (by omega)
        have b0' : decide (i < l0.length) = false := decide_eq_false hlt
        go_wp2
        repeat (go_quiet (fail); try go_wp2)
        go_ret
        refine ⟨?_, by repeat (first | exact Drawn0.refl _ | apply Drawn0.step)⟩
        have := HT.out
        rw [List.take_of_length_le (by omega), List.take_of_length_le (by have := HC.out; omega)] at this
        rw [decide_eq_true this]; rfl
  · have c3b1 : ((l0.length : Int) != (l1.length : Int)) = true := bne_iff_ne.mpr (by omega)
    have c3b2 : (l0.length == l1.length) = false := beq_eq_false_iff_ne.mpr c3
    have HC := Aside0.mk c3
    clear c3
    go_enter Try.func33, Try.ntmps33
    go_wp2
    repeat (go_quiet (fail); try go_wp2)
    go_ret
    exact ⟨by rw [decide_eq_false (fun e => HC.out (by rw [e]))]; rfl, by repeat (first | exact Drawn0.refl _ | apply Drawn0.step)⟩
end Go.Proofs.Ytijccobeljoikaa.Ms

/- msg: the statements' helpers: what is proven, copied. -/
namespace Go.Proofs.Ytijccobeljoikaa.Ms
open Go.RowKit Go.Proofs.YtijccobeljoikaaW.PrintWords Go.Proofs.YtijccobeljoikaaW.PrintLast
open Go.Proofs.Ytijccobeljoikaa.Plain Go.Proofs.Ytijccobeljoikaa.Walks
set_option linter.unusedVariables false
set_option linter.unusedSimpArgs false

/-- Seven cells of an elder world, and what was there is as it was. -/
def At7 (p0 p1 p2 p3 p4 p5 p6 : Addr) (v0 v1 v2 v3 v4 v5 v6 : Value) (w0 w' : World) : Prop := w'.cell? p0 = some v0 ∧ w'.cell? p1 = some v1 ∧ w'.cell? p2 = some v2 ∧ w'.cell? p3 = some v3 ∧ w'.cell? p4 = some v4 ∧ w'.cell? p5 = some v5 ∧ w'.cell? p6 = some v6 ∧ Below w0.heap.size w0 w'
theorem At7.of {p0 p1 p2 p3 p4 p5 p6 : Addr} {v0 v1 v2 v3 v4 v5 v6 : Value} {w0 w' : World} (h : At7 p0 p1 p2 p3 p4 p5 p6 v0 v1 v2 v3 v4 v5 v6 w0 w0) (hB : Below w0.heap.size w0 w') : At7 p0 p1 p2 p3 p4 p5 p6 v0 v1 v2 v3 v4 v5 v6 w0 w' :=
  ⟨cell_step h.1 hB, cell_step h.2.1 hB, cell_step h.2.2.1 hB, cell_step h.2.2.2.1 hB, cell_step h.2.2.2.2.1 hB, cell_step h.2.2.2.2.2.1 hB, cell_step h.2.2.2.2.2.2.1 hB, hB⟩
end Go.Proofs.Ytijccobeljoikaa.Ms

/- msg: alive. -/
namespace Go.Proofs.Ytijccobeljoikaa.Ms
open Go.RowKit Go.Proofs.YtijccobeljoikaaW.PrintWords Go.Proofs.YtijccobeljoikaaW.PrintLast
open Go.Proofs.Ytijccobeljoikaa.Plain Go.Proofs.Ytijccobeljoikaa.Walks
set_option linter.unusedVariables false
set_option linter.unusedSimpArgs false

/-- Bytes that a block holds. -/
theorem C_bytes_block {W : World} {n t : Nat} {fr : Nat × Nat} {l : List Int} (h : W.heap[n]? = some (.cells (l.map (Value.int .u8)).toArray t fr)) (hl : l.length ≤ 9223372036854775807) : Kd.C (Kd.int .u8) W (some ⟨n, 0, none⟩) l.length l :=
  Kd.C_of_reads (d := (0 : Int)) (h1 := fun _ => rfl) ⟨rfl, hl, fun _ => ⟨_, rfl, fun j hj => by rw [add_plain, cell_of_row W n j _ t fr h]; simp [List.getD_eq_getElem?_getD, hj]⟩⟩
theorem Kd.C_nil_ {α : Type} {d : Kd α} (w : World) (A : Option Addr) : Kd.C d w A 0 [] := ⟨rfl, Nat.zero_le _, fun h => absurd h (Nat.lt_irrefl 0)⟩
def m0 : S91 := ⟨13, 0, 3, 0, 0, z87, [], [], [], []⟩
theorem encP_m0 : encP m0 = ([1, 13, 1, 3], 0) := by
  have hr : rightB m0 (partsS m0.kind) = true := by decide
  have hk : partsS m0.kind ≠ ⟨#[]⟩ := by decide
  rw [encP, if_neg hk, if_pos hr]
  have hp : (partsS m0.kind).data.toList = [115] := by decide
  rw [hp]
  have e1 : encI [m0.kind] = [13] := by show encN 13 ++ [] = _; rw [encN_small (by omega)]; rfl
  have e2 : fieldP m0 115 = ([3], 0) := by
    simp (config := { decide := true }) only [fieldP, if_true, if_false]
    show (encN 3 ++ [], (0 : Int)) = _
    rw [encN_small (by omega)]; rfl
  rw [encGo, e2, if_pos rfl, encGo, e1, joinP_ok (by simp) (by simp)]
  show (encN 1 ++ [13] ++ (encN 1 ++ [3] ++ []), (0 : Int)) = _
  rw [encN_small (by omega)]; rfl
theorem decO_m0 : decO [1, 13, 1, 3] = some m0 := msg_again encP_m0
def x0 : S87 := ⟨-1, 0, 0, []⟩
theorem entryP_x0 : entryP x0 = ([3, 0, 0, 0, 0], 0) := by
  have hg : goodEntry x0 = true := by decide
  rw [entryP, if_pos hg]
  have e1 : encI [x0.f0 + 1, x0.f1, x0.f2] = [0, 0, 0] := by
    show encN 0 ++ (encN 0 ++ (encN 0 ++ [])) = _
    rw [encN_small (by omega)]; rfl
  rw [entryZ, e1]
  show (encN 3 ++ [0, 0, 0] ++ (encN 0 ++ [] ++ []), (0 : Int)) = _
  rw [encN_small (v := 3) (by omega), encN_small (v := 0) (by omega)]; rfl
set_option maxHeartbeats 8000000 in
set_option maxRecDepth 100000 in
theorem alive_calls (w : World) : Calls Try.prog 62 #[] w fun e w' => e = .returned (.bool true) ∧ Below w.heap.size w w' := by
  have hu91 := Try.underlying91
  have hu87 := Try.underlying87
  have hE : Calls Try.prog 65 #[.agg #[.int .i64 13, .int .i64 0, .int .i64 3, .int .i64 0, .int .i64 0, .int .i64 0, .int .i64 0, .int .i64 0, .slice none 0 0, .slice none 0 0, .slice none 0 0, .slice none 0 0, .slice none 0 0]] w fun e w' => ∃ A1 c1, e = .returned (.tuple #[.slice A1 4 c1, .int .i64 0]) ∧ 4 ≤ c1 ∧ Kd.C (Kd.int .u8) w' A1 4 [1, 13, 1, 3] ∧ Below w.heap.size w w' :=
    encode_calls m0 (fun _ => none) (fun _ => 0) [1, 13, 1, 3] 0 w ⟨Kd.C_nil_ _ _, Nat.le_refl _, Kd.C_nil_ _ _, Nat.le_refl _, Kd.C_nil_ _ _, Nat.le_refl _, Kd.C_nil_ _ _, Nat.le_refl _, Kd.C_nil_ _ _, Nat.le_refl _⟩ encP_m0
  go_enter Try.func62, Try.ntmps62
  go_wp2_with (fail)
  with_reducible refine hE.mono ?_
  clear hE
  rintro e w1 ⟨A1, c1, rfl, hc1, hC1, hB1⟩
  have HC1 := Aside0.mk hC1
  have HB1 := Aside0.mk hB1
  clear hC1 hB1
  go_wp2_with (fail)
  have hE : Calls Try.prog 68 #[.slice (some ⟨w1.heap.size, 0, none⟩) 4 4] (w1.alloc (.cells #[.int .u8 1, .int .u8 13, .int .u8 1, .int .u8 3] 5)) fun e w' => Below (w1.alloc (.cells #[.int .u8 1, .int .u8 13, .int .u8 1, .int .u8 3] 5)).heap.size (w1.alloc (.cells #[.int .u8 1, .int .u8 13, .int .u8 1, .int .u8 3] 5)) w' ∧ ∃ (a : Nat → Option Addr) (d : Nat → Nat), e = .returned (.tuple #[.agg #[.int .i64 13, .int .i64 0, .int .i64 3, .int .i64 0, .int .i64 0, .int .i64 0, .int .i64 0, .int .i64 0, .slice (a 0) 0 (d 0), .slice (a 1) 0 (d 1), .slice (a 2) 0 (d 2), .slice (a 3) 0 (d 3), .slice (a 4) 0 (d 4)], .int .i64 0]) ∧ Msg w' m0 a d :=
    decode_calls (some ⟨w1.heap.size, 0, none⟩) 4 [1, 13, 1, 3] (some m0) _ (C_bytes_block (l := [1, 13, 1, 3]) (t := 5) (fr := (0, 0)) (blk_new w1 _) (by simp)) (by simp) (by intro c hc; simp at hc; omega) (by simp) decO_m0
  with_reducible refine hE.mono ?_
  clear hE
  rintro e w2 ⟨hB, a, d, rfl, -⟩
  have HB2 := Aside0.mk (below_then (below_alloc HB1.out (.cells #[.int .u8 1, .int .u8 13, .int .u8 1, .int .u8 3] 5)) (below_size (below_alloc HB1.out _)) hB)
  have HC2 := Aside0.mk (Kd.C_below (Kd.C_alloc HC1.out (.cells #[.int .u8 1, .int .u8 13, .int .u8 1, .int .u8 3] 5)) hB)
  clear hB HB1 HC1
  go_wp2_with (fail)
  have HX3 := Aside0.mk (blk_new w2 (.cells #[.int .i64 13, .int .i64 0, .int .i64 3, .int .i64 0, .int .i64 0, .int .i64 0, .int .i64 0, .int .i64 0, .slice (a 0) 0 (d 0), .slice (a 1) 0 (d 1), .slice (a 2) 0 (d 2), .slice (a 3) 0 (d 3), .slice (a 4) 0 (d 4)] 91))
  have HB3 := Aside0.mk (below_alloc HB2.out (.cells #[.int .i64 13, .int .i64 0, .int .i64 3, .int .i64 0, .int .i64 0, .int .i64 0, .int .i64 0, .int .i64 0, .slice (a 0) 0 (d 0), .slice (a 1) 0 (d 1), .slice (a 2) 0 (d 2), .slice (a 3) 0 (d 3), .slice (a 4) 0 (d 4)] 91))
  have HC3 := Aside0.mk (Kd.C_alloc HC2.out (.cells #[.int .i64 13, .int .i64 0, .int .i64 3, .int .i64 0, .int .i64 0, .int .i64 0, .int .i64 0, .int .i64 0, .slice (a 0) 0 (d 0), .slice (a 1) 0 (d 1), .slice (a 2) 0 (d 2), .slice (a 3) 0 (d 3), .slice (a 4) 0 (d 4)] 91))
  obtain ⟨g3, hg3⟩ : ∃ g, g = w2.heap.size := ⟨_, rfl⟩
  rw [← hg3] at HX3 ⊢
  clear hg3 HB2 HC2
  generalize w2.alloc (.cells #[.int .i64 13, .int .i64 0, .int .i64 3, .int .i64 0, .int .i64 0, .int .i64 0, .int .i64 0, .int .i64 0, .slice (a 0) 0 (d 0), .slice (a 1) 0 (d 1), .slice (a 2) 0 (d 2), .slice (a 3) 0 (d 3), .slice (a 4) 0 (d 4)] 91) = w3 at HX3 HB3 HC3 ⊢
  have hE : Calls Try.prog 74 #[.agg #[.int .i64 (-1), .int .i64 0, .int .i64 0, .slice none 0 0]] w3 fun e w' => ∃ A1 c1, e = .returned (.tuple #[.slice A1 5 c1, .int .i64 0]) ∧ 5 ≤ c1 ∧ Kd.C (Kd.int .u8) w' A1 5 [3, 0, 0, 0, 0] ∧ Below w3.heap.size w3 w' :=
    pack74_calls x0 none 0 [3, 0, 0, 0, 0] 0 w3 (Kd.C_nil_ _ _) (Nat.le_refl _) entryP_x0
  with_reducible refine hE.mono ?_
  clear hE
  rintro e w4 ⟨A5, c5, rfl, hc5, hC5, hB⟩
  have HX4 := Aside0.mk ((hB.block _ (blk_lt2 HX3.out)).trans HX3.out)
  have HB4 := Aside0.mk (below_then HB3.out HB3.out.size hB)
  have HC4 := Aside0.mk (Kd.C_below HC3.out hB)
  have HC5 := Aside0.mk hC5
  clear hB HX3 HB3 HC3 hC5
  go_wp2_with (fail)
  have hE : Calls Try.prog 27 #[.slice A1 4 c1, .slice (some ⟨w4.heap.size, 0, none⟩) 4 4] (w4.alloc (.cells #[.int .u8 1, .int .u8 13, .int .u8 1, .int .u8 3] 5)) fun e w' => e = .returned (.bool true) ∧ Drawn0 (w4.alloc (.cells #[.int .u8 1, .int .u8 13, .int .u8 1, .int .u8 3] 5)) w' :=
    sameBytes_is A1 c1 [1, 13, 1, 3] (some ⟨w4.heap.size, 0, none⟩) 4 [1, 13, 1, 3] true _ (Kd.C_alloc HC4.out _) hc1 (C_bytes_block (l := [1, 13, 1, 3]) (t := 5) (fr := (0, 0)) (blk_new w4 _) (by simp)) (by simp) (by decide)
  with_reducible refine hE.mono ?_
  clear hE
  rintro e w5 ⟨rfl, hD⟩
  have hB := hD.below
  have HX5 := Aside0.mk ((hB.block _ (blk_lt2 ((Below.heap_alloc w4 (.cells #[.int .u8 1, .int .u8 13, .int .u8 1, .int .u8 3] 5) _ (blk_lt2 HX4.out)).trans HX4.out))).trans ((Below.heap_alloc w4 (.cells #[.int .u8 1, .int .u8 13, .int .u8 1, .int .u8 3] 5) _ (blk_lt2 HX4.out)).trans HX4.out))
  have HB5 := Aside0.mk (below_then (below_alloc HB4.out _) (below_size (below_alloc HB4.out _)) hB)
  have HC6 := Aside0.mk (Kd.C_below (Kd.C_alloc HC5.out (.cells #[.int .u8 1, .int .u8 13, .int .u8 1, .int .u8 3] 5)) hB)
  clear hB hD HX4 HB4 HC4 HC5
  have x2 : w5.cell? ⟨g3, 2, none⟩ = some (.int .i64 3) := (blk_cell HX5.out 2).trans rfl
  go_wp2_with (fail)
  have hE : Calls Try.prog 27 #[.slice A5 5 c5, .slice (some ⟨w5.heap.size, 0, none⟩) 5 5] (w5.alloc (.cells #[.int .u8 3, .int .u8 0, .int .u8 0, .int .u8 0, .int .u8 0] 5)) fun e w' => e = .returned (.bool true) ∧ Drawn0 (w5.alloc (.cells #[.int .u8 3, .int .u8 0, .int .u8 0, .int .u8 0, .int .u8 0] 5)) w' :=
    sameBytes_is A5 c5 [3, 0, 0, 0, 0] (some ⟨w5.heap.size, 0, none⟩) 5 [3, 0, 0, 0, 0] true _ (Kd.C_alloc HC6.out _) hc5 (C_bytes_block (l := [3, 0, 0, 0, 0]) (t := 5) (fr := (0, 0)) (blk_new w5 _) (by simp)) (by simp) (by decide)
  with_reducible refine hE.mono ?_
  clear hE
  rintro e w6 ⟨rfl, hD⟩
  have HB6 := Aside0.mk (below_then (below_alloc HB5.out _) (below_size (below_alloc HB5.out _)) hD.below)
  clear hD
  go_wp2_with (fail)
  go_ret
  exact ⟨rfl, HB6.out⟩
end Go.Proofs.Ytijccobeljoikaa.Ms
