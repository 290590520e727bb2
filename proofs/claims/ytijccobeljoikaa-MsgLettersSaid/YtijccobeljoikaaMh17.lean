/- Put together of my texts: MuD, MuE. -/
import Derived.Test.YtijccobeljoikaaMh15
import Derived.Test.YtijccobeljoikaaMh16
import Derived.Test.YtijccobeljoikaaMh10
import Derived.Test.YtijccobeljoikaaMh7
import Derived.Test.YtijccobeljoikaaMh8
/- msg: MsgLetters: PackLetter, ReadLetter, PackEntry, ReadEntry answer what the document says. -/
namespace Go.Proofs.Ytijccobeljoikaa.Ms
open Go.RowKit Go.Proofs.YtijccobeljoikaaW.PrintWords Go.Proofs.YtijccobeljoikaaW.PrintLast
open Go.Proofs.Ytijccobeljoikaa.Plain Go.Proofs.Ytijccobeljoikaa.Walks
set_option linter.unusedVariables false
set_option linter.unusedSimpArgs false
/-- A letter's lists in memory. -/
structure LetQ (w : World) (x : S72) (A2 : Option Addr) (c2 : Nat) (A3 : Option Addr) (c3 : Nat) : Prop where
  r2 : Kd.C (Kd.int .u8) w A2 x.f2.length x.f2
  l2 : x.f2.length ≤ c2
  r3 : Kd.C (Kd.slice 5 (Kd.int .u8)) w A3 x.f3.length x.f3
  l3 : x.f3.length ≤ c3
theorem LetQ.below {w w1 : World} {x : S72} {A2 : Option Addr} {c2 : Nat} {A3 : Option Addr} {c3 : Nat} (h : LetQ w x A2 c2 A3 c3) (hB : Below w.heap.size w w1) : LetQ w1 x A2 c2 A3 c3 :=
  ⟨Kd.C_below h.r2 hB, h.l2, Kd.C_below h.r3 hB, h.l3⟩
theorem LetQ.of_M {w : World} {b : Nat} {ok : Nat → Prop} {x : S72} {A2 : Option Addr} {c2 : Nat} {A3 : Option Addr} {c3 : Nat} (h : k72.M w b ok x [.int .i64 x.f0.f0, .int .i64 x.f0.f1, .int .i64 x.f1, .slice A2 x.f2.length c2, .slice A3 x.f3.length c3]) : LetQ w x A2 c2 A3 c3 := by
  obtain ⟨v3, v4, he, hr0, hr1⟩ := k72_openM h
  simp only [List.cons.injEq, true_and, and_true] at he
  obtain ⟨rfl, rfl⟩ := he
  exact ⟨(Kd.R_reads' hr0).2.2, (Kd.R_reads' hr0).2.1, (Kd.R_reads' hr1).2.2, (Kd.R_reads' hr1).2.1⟩
/-- Two boxes, and what was there is as it was. -/
structure Bx2 (w w' : World) (b : Nat) (c0 c1 : Array Value) : Prop where
  h0 : w'.heap[b]? = some (.cells c0 72)
  h1 : w'.heap[b + 1]? = some (.cells c1 87)
  below : Below w.heap.size w w'
theorem Bx2.step {w w' w2 : World} {b : Nat} {c0 c1 : Array Value} (h : Bx2 w w' b c0 c1) (hB : Below w'.heap.size w' w2) : Bx2 w w2 b c0 c1 :=
  ⟨(hB.block _ (blk_lt2 h.h0)).trans h.h0, (hB.block _ (blk_lt2 h.h1)).trans h.h1, below_then h.below h.below.size hB⟩
theorem Bx2.new (w : World) (c0 c1 : Array Value) : Bx2 w ((w.alloc (.cells c0 72)).alloc (.cells c1 87)) w.heap.size c0 c1 := by
  have s1 : (w.alloc (.cells c0 72)).heap.size = w.heap.size + 1 := by simp
  exact ⟨(Below.heap_alloc _ _ _ (by rw [s1]; omega)).trans (blk_new w _), s1 ▸ blk_new (w.alloc (.cells c0 72)) (.cells c1 87), below_alloc (below_alloc (Below.refl _ _) _) _⟩
theorem blk_step {w w' : World} {g : Nat} {o : Obj} (h : w.heap[g]? = some o) (hB : Below w.heap.size w w') : w'.heap[g]? = some o := (hB.block _ (blk_lt2 h)).trans h
theorem sameBytes_b (A0 : Option Addr) (c0 : Nat) (l : List Int) (A1 : Option Addr) (c1 : Nat) (w : World) (hr0 : Kd.C (Kd.int .u8) w A0 l.length l) (hc0 : l.length ≤ c0) (hr1 : Kd.C (Kd.int .u8) w A1 l.length l) (hc1 : l.length ≤ c1) :
    Calls Try.prog 27 #[.slice A0 l.length c0, .slice A1 l.length c1] w fun e w' => e = .returned (.bool true) ∧ Below w.heap.size w w' :=
  (sameBytes_is A0 c0 l A1 c1 l true w hr0 hc0 hr1 hc1 (by simp)).mono fun e w' h => ⟨h.1, h.2.below⟩
theorem copyBytes_b (A : Option Addr) (c : Nat) (l : List Int) (w : World) (hC : Kd.C (Kd.int .u8) w A l.length l) (hc : l.length ≤ c) (hl : l.length ≤ 140737488355328) :
    Calls Try.prog 41 #[.slice A l.length c] w fun e w' => ∃ A1 c1, e = .returned (.slice A1 l.length c1) ∧ Kd.C (Kd.int .u8) w' A1 l.length l ∧ l.length ≤ c1 ∧ Below w.heap.size w w' :=
  (copyBytes_calls A c l w hC hc hl).mono fun e w' ⟨A1, c1, he, hG⟩ => ⟨A1, c1, he, hG.row, hG.cap, hG.keep⟩
theorem sameLetter_q (x : S72) (A2 A3 B2 B3 : Option Addr) (c2 c3 d2 d3 : Nat) (w : World) (hA : LetQ w x A2 c2 A3 c3) (hB : LetQ w x B2 d2 B3 d3) :
    Calls Try.prog 81 #[.agg #[.int .i64 x.f0.f0, .int .i64 x.f0.f1, .int .i64 x.f1, .slice A2 x.f2.length c2, .slice A3 x.f3.length c3], .agg #[.int .i64 x.f0.f0, .int .i64 x.f0.f1, .int .i64 x.f1, .slice B2 x.f2.length d2, .slice B3 x.f3.length d3]] w fun e w' => e = .returned (.bool true) ∧ Below w.heap.size w w' := by
  have h := sameLetter_calls x x A2 A3 B2 B3 c2 c3 d2 d3 w hA.r2 hA.l2 hA.r3 hB.r2 hB.l2 hB.r3
  rw [show sameL x x = true by simp [sameL]] at h
  exact h
theorem sameEntry_q (x : S87) (A B : Option Addr) (c d : Nat) (w : World) (hA : Kd.C (Kd.int .u8) w A x.f3.length x.f3) (hc : x.f3.length ≤ c) (hB : Kd.C (Kd.int .u8) w B x.f3.length x.f3) (hd : x.f3.length ≤ d) :
    Calls Try.prog 82 #[.agg #[.int .i64 x.f0, .int .i64 x.f1, .int .i64 x.f2, .slice A x.f3.length c], .agg #[.int .i64 x.f0, .int .i64 x.f1, .int .i64 x.f2, .slice B x.f3.length d]] w fun e w' => e = .returned (.bool true) ∧ Below w.heap.size w w' := by
  have h := sameEntry_calls x x A B c d w hA hc hB hd
  rw [show sameE x x = true by simp [sameE]] at h
  exact h
theorem read77_any (A : Option Addr) (c : Nat) (l : List Int) (x : S72) (y : Int) (w : World) (hC : Kd.C (Kd.int .u8) w A l.length l) (hc : l.length ≤ c) (hb : Byte l) (hl : l.length < 17592186044416) (hx : (letterO l).getD z72 = x) (hy : (if (letterO l).isSome then (0 : Int) else 12) = y) :
    Calls Try.prog 77 #[.slice A l.length c] w fun e w' => Below w.heap.size w w' ∧ ∃ A2 c2 A3 c3, e = .returned (.tuple #[.agg #[.int .i64 x.f0.f0, .int .i64 x.f0.f1, .int .i64 x.f1, .slice A2 x.f2.length c2, .slice A3 x.f3.length c3], .int .i64 y]) ∧ LetQ w' x A2 c2 A3 c3 := by
  cases ho : letterO l with
  | none =>
    rw [ho] at hx hy; subst hx; subst hy
    refine (read77_calls A c l none w hC hc hb hl ho).mono ?_
    rintro e w' ⟨hB, rfl⟩
    exact ⟨hB, none, 0, none, 0, rfl, ⟨Kd.C_nil_ _ _, Nat.le_refl _, Kd.C_nil_ _ _, Nat.le_refl _⟩⟩
  | some x0 =>
    rw [ho] at hx hy; obtain rfl : x0 = x := hx; obtain rfl : 0 = y := hy
    refine (read77_calls A c l (some x0) w hC hc hb hl ho).mono ?_
    rintro e w' ⟨hB, A2, c2, A3, c3, rfl, h2, h3, h4, h5⟩
    exact ⟨hB, A2, c2, A3, c3, rfl, ⟨h2, h3, h4, h5⟩⟩
theorem refRead78_any (A : Option Addr) (c : Nat) (l : List Int) (x : S72) (y : Int) (w : World) (hC : Kd.C (Kd.int .u8) w A l.length l) (hc : l.length ≤ c) (hb : Byte l) (hl : l.length < 17592186044416) (hx : (letterO l).getD z72 = x) (hy : (if (letterO l).isSome then (0 : Int) else 12) = y) :
    Calls Try.prog 78 #[.slice A l.length c] w fun e w' => Below w.heap.size w w' ∧ ∃ A2 c2 A3 c3, e = .returned (.tuple #[.agg #[.int .i64 x.f0.f0, .int .i64 x.f0.f1, .int .i64 x.f1, .slice A2 x.f2.length c2, .slice A3 x.f3.length c3], .int .i64 y]) ∧ LetQ w' x A2 c2 A3 c3 := by
  cases ho : letterO l with
  | none =>
    rw [ho] at hx hy; subst hx; subst hy
    refine (refRead78_calls A c l none w hC hc hb (by omega) ho).mono ?_
    rintro e w' ⟨hB, rfl⟩
    exact ⟨hB, none, 0, none, 0, rfl, ⟨Kd.C_nil_ _ _, Nat.le_refl _, Kd.C_nil_ _ _, Nat.le_refl _⟩⟩
  | some x0 =>
    rw [ho] at hx hy; obtain rfl : x0 = x := hx; obtain rfl : 0 = y := hy
    refine (refRead78_calls A c l (some x0) w hC hc hb (by omega) ho).mono ?_
    rintro e w' ⟨hB, A2, c2, A3, c3, rfl, h2, h3⟩
    exact ⟨hB, A2, c2, A3, c3, rfl, ⟨(Kd.R_reads' h2).2.2, (Kd.R_reads' h2).2.1, (Kd.R_reads' h3).2.2, (Kd.R_reads' h3).2.1⟩⟩
theorem read79_any (A : Option Addr) (c : Nat) (l : List Int) (x : S87) (y : Int) (w : World) (hC : Kd.C (Kd.int .u8) w A l.length l) (hc : l.length ≤ c) (hb : Byte l) (hl : l.length < 17592186044416) (hx : (entryO l).getD z87 = x) (hy : (if (entryO l).isSome then (0 : Int) else 12) = y) :
    Calls Try.prog 79 #[.slice A l.length c] w fun e w' => Below w.heap.size w w' ∧ ∃ A2 c2, e = .returned (.tuple #[.agg #[.int .i64 x.f0, .int .i64 x.f1, .int .i64 x.f2, .slice A2 x.f3.length c2], .int .i64 y]) ∧ Kd.C (Kd.int .u8) w' A2 x.f3.length x.f3 ∧ x.f3.length ≤ c2 := by
  cases ho : entryO l with
  | none =>
    rw [ho] at hx hy; subst hx; subst hy
    refine (read79_calls A c l none w hC hc hb hl ho).mono ?_
    rintro e w' ⟨hB, rfl⟩
    exact ⟨hB, none, 0, rfl, Kd.C_nil_ _ _, Nat.le_refl _⟩
  | some x0 =>
    rw [ho] at hx hy; obtain rfl : x0 = x := hx; obtain rfl : 0 = y := hy
    refine (read79_calls A c l (some x0) w hC hc hb hl ho).mono ?_
    rintro e w' ⟨hB, A2, c2, rfl, h2, h3⟩
    exact ⟨hB, A2, c2, rfl, h2, h3⟩
theorem refRead80_any (A : Option Addr) (c : Nat) (l : List Int) (x : S87) (y : Int) (w : World) (hC : Kd.C (Kd.int .u8) w A l.length l) (hc : l.length ≤ c) (hb : Byte l) (hl : l.length < 17592186044416) (hx : (entryO l).getD z87 = x) (hy : (if (entryO l).isSome then (0 : Int) else 12) = y) :
    Calls Try.prog 80 #[.slice A l.length c] w fun e w' => Below w.heap.size w w' ∧ ∃ A2 c2, e = .returned (.tuple #[.agg #[.int .i64 x.f0, .int .i64 x.f1, .int .i64 x.f2, .slice A2 x.f3.length c2], .int .i64 y]) ∧ Kd.C (Kd.int .u8) w' A2 x.f3.length x.f3 ∧ x.f3.length ≤ c2 := by
  cases ho : entryO l with
  | none =>
    rw [ho] at hx hy; subst hx; subst hy
    refine (refRead80_calls A c l none w hC hc hb (by omega) ho).mono ?_
    rintro e w' ⟨hB, rfl⟩
    exact ⟨hB, none, 0, rfl, Kd.C_nil_ _ _, Nat.le_refl _⟩
  | some x0 =>
    rw [ho] at hx hy; obtain rfl : x0 = x := hx; obtain rfl : 0 = y := hy
    refine (refRead80_calls A c l (some x0) w hC hc hb (by omega) ho).mono ?_
    rintro e w' ⟨hB, A2, c2, rfl, h2⟩
    exact ⟨hB, A2, c2, rfl, (Kd.R_reads' h2).2.2, (Kd.R_reads' h2).2.1⟩
set_option maxHeartbeats 16000000 in
set_option maxRecDepth 100000 in
theorem letters_calls (l : S72) (x : S87) (b : List Int) (A2 A3 C3 D5 : Option Addr) (a2 a3 c3 d5 : Nat) (w : World) (hL : LetQ w l A2 a2 A3 a3) (hFl : Fit72 l)
    (hE : Kd.C (Kd.int .u8) w C3 x.f3.length x.f3 ∧ x.f3.length ≤ c3 ∧ x.f3.length ≤ 140737488355328) (hBb : Kd.C (Kd.int .u8) w D5 b.length b ∧ b.length ≤ d5 ∧ Byte b) :
    Calls Try.prog 22 #[.agg #[.int .i64 l.f0.f0, .int .i64 l.f0.f1, .int .i64 l.f1, .slice A2 l.f2.length a2, .slice A3 l.f3.length a3], .agg #[.int .i64 x.f0, .int .i64 x.f1, .int .i64 x.f2, .slice C3 x.f3.length c3], .slice D5 b.length d5] w fun e w' => e = .returned (.bool true) ∧ Below w.heap.size w w' := by
  have hu72 := Try.underlying72
  have hu87 := Try.underlying87
  have HL := Aside0.mk hL
  have HE := Aside0.mk hE
  have HFl := Aside0.mk hFl
  have HBb := Aside0.mk hBb
  have HX0 := Aside0.mk (Bx2.new w #[.int .i64 l.f0.f0, .int .i64 l.f0.f1, .int .i64 l.f1, .slice A2 l.f2.length a2, .slice A3 l.f3.length a3] #[.int .i64 x.f0, .int .i64 x.f1, .int .i64 x.f2, .slice C3 x.f3.length c3])
  clear hL hE hFl hBb
  go_enter Try.func22, Try.ntmps22
  go_wp2_with (fail)
  generalize (w.alloc (.cells #[.int .i64 l.f0.f0, .int .i64 l.f0.f1, .int .i64 l.f1, .slice A2 l.f2.length a2, .slice A3 l.f3.length a3] 72)).alloc (.cells #[.int .i64 x.f0, .int .i64 x.f1, .int .i64 x.f2, .slice C3 x.f3.length c3] 87) = v0 at HX0 ⊢
  refine (alive_calls v0).mono ?_
  rintro e v1 ⟨rfl, hB⟩
  have HX1 := Aside0.mk (HX0.out.step hB)
  clear hB
  have l0 : v1.cell? ⟨w.heap.size, 0, none⟩ = some (.int .i64 l.f0.f0) := (blk_cell HX1.out.h0 0).trans rfl
  have l1 : v1.cell? ⟨w.heap.size, 1, none⟩ = some (.int .i64 l.f0.f1) := (blk_cell HX1.out.h0 1).trans rfl
  have l2 : v1.cell? ⟨w.heap.size, 2, none⟩ = some (.int .i64 l.f1) := (blk_cell HX1.out.h0 2).trans rfl
  have l3 : v1.cell? ⟨w.heap.size, 3, none⟩ = some (.slice A2 l.f2.length a2) := (blk_cell HX1.out.h0 3).trans rfl
  have l4 : v1.cell? ⟨w.heap.size, 4, none⟩ = some (.slice A3 l.f3.length a3) := (blk_cell HX1.out.h0 4).trans rfl
  go_wp2_with (fail)
  have hE := weight_calls l A2 a2 A3 a3 v1 (HL.out.below HX1.out.below).r3
  with_reducible refine hE.mono ?_
  clear hE
  rintro e v2 ⟨n, rfl, hB⟩
  have HX2 := Aside0.mk (HX1.out.step hB)
  clear hB l0 l1 l2 l3 l4
  by_cases hn : 100000 < n
  · have b0 : decide (100000 < n) = true := decide_eq_true hn
    go_wp2_with (fail)
    go_ret
    exact ⟨rfl, HX2.out.below⟩
  · have b0 : decide (100000 < n) = false := decide_eq_false hn
    clear hn
    have x3 : v2.cell? ⟨w.heap.size + 1, 3, none⟩ = some (.slice C3 x.f3.length c3) := (blk_cell HX2.out.h1 3).trans rfl
    by_cases hs : (5000 : Int) < (x.f3.length : Int)
    · have b1 : decide ((5000 : Int) < (x.f3.length : Int)) = true := decide_eq_true hs
      have b1' : decide (5000 < x.f3.length) = true := decide_eq_true (by omega)
      go_wp2_with (fail)
      go_ret
      exact ⟨rfl, HX2.out.below⟩
    · have b1 : decide ((5000 : Int) < (x.f3.length : Int)) = false := decide_eq_false hs
      have b1' : decide (5000 < x.f3.length) = false := decide_eq_false (by omega)
      clear hs
      by_cases hs : (5000 : Int) < (b.length : Int)
      · have b2 : decide ((5000 : Int) < (b.length : Int)) = true := decide_eq_true hs
        have b2' : decide (5000 < b.length) = true := decide_eq_true (by omega)
        go_wp2_with (fail)
        go_ret
        exact ⟨rfl, HX2.out.below⟩
      · have b2 : decide ((5000 : Int) < (b.length : Int)) = false := decide_eq_false hs
        have b2' : decide (5000 < b.length) = false := decide_eq_false (by omega)
        have HS := Aside0.mk (show b.length ≤ 5000 by omega)
        clear hs
        have l0 : v2.cell? ⟨w.heap.size, 0, none⟩ = some (.int .i64 l.f0.f0) := (blk_cell HX2.out.h0 0).trans rfl
        have l1 : v2.cell? ⟨w.heap.size, 1, none⟩ = some (.int .i64 l.f0.f1) := (blk_cell HX2.out.h0 1).trans rfl
        have l2 : v2.cell? ⟨w.heap.size, 2, none⟩ = some (.int .i64 l.f1) := (blk_cell HX2.out.h0 2).trans rfl
        have l3 : v2.cell? ⟨w.heap.size, 3, none⟩ = some (.slice A2 l.f2.length a2) := (blk_cell HX2.out.h0 3).trans rfl
        have l4 : v2.cell? ⟨w.heap.size, 4, none⟩ = some (.slice A3 l.f3.length a3) := (blk_cell HX2.out.h0 4).trans rfl
        go_wp2_with (fail)
        clear b0 b1 b1' b2 b2' x3
        have hE := copyLetter_calls l A2 a2 A3 a3 v2 (HL.out.below HX2.out.below).r2 HL.out.l2 (HL.out.below HX2.out.below).r3 HL.out.l3 HFl.out
        with_reducible refine hE.mono ?_
        clear hE
        rintro e v3 ⟨hB, E2, e2, E3, e3, rfl, hM⟩
        have HX3 := Aside0.mk (HX2.out.step hB)
        clear l0 l1 l2 l3 l4
        have HM1 := Aside0.mk (LetQ.of_M hM)
        clear hM hB
        go_wp2_with (fail)
        obtain ⟨z1, u1, hz1⟩ : ∃ z u, letterP l = (z, u) := ⟨_, _, rfl⟩
        have hE := pack71_calls l E2 e2 E3 e3 z1 u1 v3 HM1.out.r2 HM1.out.l2 HM1.out.r3 HM1.out.l3 hz1
        with_reducible refine hE.mono ?_
        clear hE
        rintro e v4 ⟨P1, p1, rfl, hp, hC, hB⟩
        have HX4 := Aside0.mk (HX3.out.step hB)
        have HZ1 := Aside0.mk hz1
        have HP1 := Aside0.mk hp
        have HC1_4 := Aside0.mk (hC)
        clear hz1 hp hC hB
        have l0 : v4.cell? ⟨w.heap.size, 0, none⟩ = some (.int .i64 l.f0.f0) := (blk_cell HX4.out.h0 0).trans rfl
        have l1 : v4.cell? ⟨w.heap.size, 1, none⟩ = some (.int .i64 l.f0.f1) := (blk_cell HX4.out.h0 1).trans rfl
        have l2 : v4.cell? ⟨w.heap.size, 2, none⟩ = some (.int .i64 l.f1) := (blk_cell HX4.out.h0 2).trans rfl
        have l3 : v4.cell? ⟨w.heap.size, 3, none⟩ = some (.slice A2 l.f2.length a2) := (blk_cell HX4.out.h0 3).trans rfl
        have l4 : v4.cell? ⟨w.heap.size, 4, none⟩ = some (.slice A3 l.f3.length a3) := (blk_cell HX4.out.h0 4).trans rfl
        go_wp2_with (fail)
        have hE := refPack73_calls l A2 a2 A3 a3 z1 u1 v4 (HL.out.below HX4.out.below).r2 HL.out.l2 (HL.out.below HX4.out.below).r3 HL.out.l3 HZ1.out
        with_reducible refine hE.mono ?_
        clear hE
        rintro e v5 ⟨Q1, q1, rfl, ⟨hR, hB⟩⟩
        have HX5 := Aside0.mk (HX4.out.step hB)
        have HC1_5 := Aside0.mk (Kd.C_below HC1_4.out hB)
        have HQ1 := Aside0.mk (Kd.R_reads' hR).2.1
        have HD1_5 := Aside0.mk ((Kd.R_reads' hR).2.2)
        clear hR hB l0 l1 l2 l3 l4
        have x0 : v5.cell? ⟨w.heap.size + 1, 0, none⟩ = some (.int .i64 x.f0) := (blk_cell HX5.out.h1 0).trans rfl
        have x1 : v5.cell? ⟨w.heap.size + 1, 1, none⟩ = some (.int .i64 x.f1) := (blk_cell HX5.out.h1 1).trans rfl
        have x2 : v5.cell? ⟨w.heap.size + 1, 2, none⟩ = some (.int .i64 x.f2) := (blk_cell HX5.out.h1 2).trans rfl
        have x3 : v5.cell? ⟨w.heap.size + 1, 3, none⟩ = some (.slice C3 x.f3.length c3) := (blk_cell HX5.out.h1 3).trans rfl
        go_wp2_with (fail)
        have hE := copyEntry_calls x C3 c3 v5 (Kd.C_below HE.out.1 HX5.out.below) HE.out.2.1 HE.out.2.2
        with_reducible refine hE.mono ?_
        clear hE
        rintro e v6 ⟨hB, G1, g1, rfl, hR⟩
        have HX6 := Aside0.mk (HX5.out.step hB)
        have HC1_6 := Aside0.mk (Kd.C_below HC1_5.out hB)
        have HD1_6 := Aside0.mk (Kd.C_below HD1_5.out hB)
        clear x0 x1 x2 x3
        have HR1 := Aside0.mk hR
        clear hR hB
        go_wp2_with (fail)
        obtain ⟨z3, u3, hz3⟩ : ∃ z u, entryP x = (z, u) := ⟨_, _, rfl⟩
        have hE := pack74_calls x G1 g1 z3 u3 v6 (Kd.R_reads' HR1.out).2.2 (Kd.R_reads' HR1.out).2.1 hz3
        with_reducible refine hE.mono ?_
        clear hE
        rintro e v7 ⟨P3, p3, rfl, hp, hC, hB⟩
        have HX7 := Aside0.mk (HX6.out.step hB)
        have HC1_7 := Aside0.mk (Kd.C_below HC1_6.out hB)
        have HD1_7 := Aside0.mk (Kd.C_below HD1_6.out hB)
        have HZ3 := Aside0.mk hz3
        have HP3 := Aside0.mk hp
        have HC3_7 := Aside0.mk (hC)
        clear hz3 hp hC hB
        have x0 : v7.cell? ⟨w.heap.size + 1, 0, none⟩ = some (.int .i64 x.f0) := (blk_cell HX7.out.h1 0).trans rfl
        have x1 : v7.cell? ⟨w.heap.size + 1, 1, none⟩ = some (.int .i64 x.f1) := (blk_cell HX7.out.h1 1).trans rfl
        have x2 : v7.cell? ⟨w.heap.size + 1, 2, none⟩ = some (.int .i64 x.f2) := (blk_cell HX7.out.h1 2).trans rfl
        have x3 : v7.cell? ⟨w.heap.size + 1, 3, none⟩ = some (.slice C3 x.f3.length c3) := (blk_cell HX7.out.h1 3).trans rfl
        go_wp2_with (fail)
        have hE := refPack76_calls x C3 c3 z3 u3 v7 (Kd.C_below HE.out.1 HX7.out.below) HE.out.2.1 HZ3.out
        with_reducible refine hE.mono ?_
        clear hE
        rintro e v8 ⟨Q3, q3, rfl, ⟨hR, hB⟩⟩
        have HX8 := Aside0.mk (HX7.out.step hB)
        have HC1_8 := Aside0.mk (Kd.C_below HC1_7.out hB)
        have HD1_8 := Aside0.mk (Kd.C_below HD1_7.out hB)
        have HC3_8 := Aside0.mk (Kd.C_below HC3_7.out hB)
        have HQ3 := Aside0.mk (Kd.R_reads' hR).2.1
        have HD3_8 := Aside0.mk ((Kd.R_reads' hR).2.2)
        clear hR hB x0 x1 x2 x3
        go_wp2_with (fail)
        have hE := sameBytes_b P1 p1 z1 Q1 q1 v8 HC1_8.out HP1.out HD1_8.out HQ1.out
        with_reducible refine hE.mono ?_
        clear hE
        rintro e v9 ⟨rfl, hB⟩
        have HX9 := Aside0.mk (HX8.out.step hB)
        have HC1_9 := Aside0.mk (Kd.C_below HC1_8.out hB)
        have HD1_9 := Aside0.mk (Kd.C_below HD1_8.out hB)
        have HC3_9 := Aside0.mk (Kd.C_below HC3_8.out hB)
        have HD3_9 := Aside0.mk (Kd.C_below HD3_8.out hB)
        clear hB
        go_wp2_with (fail)
        have hE := sameBytes_b P3 p3 z3 Q3 q3 v9 HC3_9.out HP3.out HD3_9.out HQ3.out
        with_reducible refine hE.mono ?_
        clear hE
        rintro e v10 ⟨rfl, hB⟩
        have HX10 := Aside0.mk (HX9.out.step hB)
        have HC1_10 := Aside0.mk (Kd.C_below HC1_9.out hB)
        have HD1_10 := Aside0.mk (Kd.C_below HD1_9.out hB)
        have HC3_10 := Aside0.mk (Kd.C_below HC3_9.out hB)
        have HD3_10 := Aside0.mk (Kd.C_below HD3_9.out hB)
        clear hB
        obtain ⟨xl, hxl⟩ : ∃ q, (letterO b).getD z72 = q := ⟨_, rfl⟩
        obtain ⟨yl, hyl⟩ : ∃ q, (if (letterO b).isSome then (0 : Int) else 12) = q := ⟨_, rfl⟩
        obtain ⟨xe, hxe⟩ : ∃ q, (entryO b).getD z87 = q := ⟨_, rfl⟩
        obtain ⟨ye, hye⟩ : ∃ q, (if (entryO b).isSome then (0 : Int) else 12) = q := ⟨_, rfl⟩
        have HO := Aside0.mk (And.intro hxl (And.intro hyl (And.intro hxe hye)))
        clear hxl hyl hxe hye
        go_wp2_with (fail)
        have hE := copyBytes_b D5 d5 b v10 (Kd.C_below HBb.out.1 HX10.out.below) HBb.out.2.1 (by have := HS.out; omega)
        with_reducible refine hE.mono ?_
        clear hE
        rintro e v11 ⟨B5, k5, rfl, hC, hp, hB⟩
        have HX11 := Aside0.mk (HX10.out.step hB)
        have HP5 := Aside0.mk hp
        have HC5_11 := Aside0.mk (hC)
        clear hB hC hp
        go_wp2_with (fail)
        have hE := read77_any B5 k5 b xl yl v11 HC5_11.out HP5.out HBb.out.2.2 (by have := HS.out; omega) HO.out.1 HO.out.2.1
        with_reducible refine hE.mono ?_
        clear hE
        rintro e v12 ⟨hB, R2, r2, R3, r3, rfl, hQ⟩
        have HX12 := Aside0.mk (HX11.out.step hB)
        have HC5_12 := Aside0.mk (Kd.C_below HC5_11.out hB)
        have HQa_12 := Aside0.mk (hQ)
        clear hB hQ HP5
        have HN0 := Aside0.mk (blk_new v12 (.cells #[.int .i64 0, .int .i64 0, .int .i64 0, .slice none 0 0, .slice none 0 0] 72))
        have HK0 := Aside0.mk (below_alloc (Below.refl v12.heap.size v12) (.cells #[.int .i64 0, .int .i64 0, .int .i64 0, .slice none 0 0, .slice none 0 0] 72))
        go_upto_region 12 with (refine wpList_store_row rfl 72 (.tmp 15) (.tmp 81) rfl v12.heap.size #[.int .i64 xl.f0.f0, .int .i64 xl.f0.f1, .int .i64 xl.f1, .slice R2 xl.f2.length r2, .slice R3 xl.f3.length r3] rfl rfl 72 _ HN0.out size72 rfl (by simp [Value.oneCell']) ?_; have HN1 := Aside0.mk (setRow_heap _ _ _ #[.int .i64 xl.f0.f0, .int .i64 xl.f0.f1, .int .i64 xl.f1, .slice R2 xl.f2.length r2, .slice R3 xl.f3.length r3] _ _ HN0.out); have HK1 := Aside0.mk (below_setRow HK0.out (Nat.le_refl _) #[.int .i64 xl.f0.f0, .int .i64 xl.f0.f1, .int .i64 xl.f1, .slice R2 xl.f2.length r2, .slice R3 xl.f3.length r3]))
        generalize (v12.alloc (.cells #[.int .i64 0, .int .i64 0, .int .i64 0, .slice none 0 0, .slice none 0 0] 72)).setRow v12.heap.size #[.int .i64 xl.f0.f0, .int .i64 xl.f0.f1, .int .i64 xl.f1, .slice R2 xl.f2.length r2, .slice R3 xl.f3.length r3] = v13 at HN1 HK1 ⊢
        have HX13 := Aside0.mk (HX12.out.step HK1.out)
        have HQa_13 := Aside0.mk (LetQ.below HQa_12.out HK1.out)
        have HBa_13 := Aside0.mk (HN1.out)
        clear HN0 HN1 HK0 HK1
        go_wp2_with (fail)
        have hE := refRead78_any D5 d5 b xl yl v13 (Kd.C_below HBb.out.1 HX13.out.below) HBb.out.2.1 HBb.out.2.2 (by have := HS.out; omega) HO.out.1 HO.out.2.1
        with_reducible refine hE.mono ?_
        clear hE
        rintro e v14 ⟨hB, S2, s2, S3, s3, rfl, hQ⟩
        have HX14 := Aside0.mk (HX13.out.step hB)
        have HQa_14 := Aside0.mk (LetQ.below HQa_13.out hB)
        have HBa_14 := Aside0.mk (blk_step HBa_13.out hB)
        have HQb_14 := Aside0.mk (hQ)
        clear hB hQ
        have HN0 := Aside0.mk (blk_new v14 (.cells #[.int .i64 0, .int .i64 0, .int .i64 0, .slice none 0 0, .slice none 0 0] 72))
        have HK0 := Aside0.mk (below_alloc (Below.refl v14.heap.size v14) (.cells #[.int .i64 0, .int .i64 0, .int .i64 0, .slice none 0 0, .slice none 0 0] 72))
        go_upto_region 13 with (refine wpList_store_row rfl 72 (.tmp 16) (.tmp 86) rfl v14.heap.size #[.int .i64 xl.f0.f0, .int .i64 xl.f0.f1, .int .i64 xl.f1, .slice S2 xl.f2.length s2, .slice S3 xl.f3.length s3] rfl rfl 72 _ HN0.out size72 rfl (by simp [Value.oneCell']) ?_; have HN1 := Aside0.mk (setRow_heap _ _ _ #[.int .i64 xl.f0.f0, .int .i64 xl.f0.f1, .int .i64 xl.f1, .slice S2 xl.f2.length s2, .slice S3 xl.f3.length s3] _ _ HN0.out); have HK1 := Aside0.mk (below_setRow HK0.out (Nat.le_refl _) #[.int .i64 xl.f0.f0, .int .i64 xl.f0.f1, .int .i64 xl.f1, .slice S2 xl.f2.length s2, .slice S3 xl.f3.length s3]))
        generalize (v14.alloc (.cells #[.int .i64 0, .int .i64 0, .int .i64 0, .slice none 0 0, .slice none 0 0] 72)).setRow v14.heap.size #[.int .i64 xl.f0.f0, .int .i64 xl.f0.f1, .int .i64 xl.f1, .slice S2 xl.f2.length s2, .slice S3 xl.f3.length s3] = v15 at HN1 HK1 ⊢
        have HX15 := Aside0.mk (HX14.out.step HK1.out)
        have HQa_15 := Aside0.mk (LetQ.below HQa_14.out HK1.out)
        have HBa_15 := Aside0.mk (blk_step HBa_14.out HK1.out)
        have HQb_15 := Aside0.mk (LetQ.below HQb_14.out HK1.out)
        have HBb2_15 := Aside0.mk (HN1.out)
        clear HN0 HN1 HK0 HK1
        go_wp2_with (fail)
        have hE := copyBytes_b D5 d5 b v15 (Kd.C_below HBb.out.1 HX15.out.below) HBb.out.2.1 (by have := HS.out; omega)
        with_reducible refine hE.mono ?_
        clear hE
        rintro e v16 ⟨B5, k5, rfl, hC, hp, hB⟩
        have HX16 := Aside0.mk (HX15.out.step hB)
        have HQa_16 := Aside0.mk (LetQ.below HQa_15.out hB)
        have HBa_16 := Aside0.mk (blk_step HBa_15.out hB)
        have HQb_16 := Aside0.mk (LetQ.below HQb_15.out hB)
        have HBb2_16 := Aside0.mk (blk_step HBb2_15.out hB)
        have HP5 := Aside0.mk hp
        have HC5_16 := Aside0.mk (hC)
        clear hB hC hp
        go_wp2_with (fail)
        have hE := read79_any B5 k5 b xe ye v16 HC5_16.out HP5.out HBb.out.2.2 (by have := HS.out; omega) HO.out.2.2.1 HO.out.2.2.2
        with_reducible refine hE.mono ?_
        clear hE
        rintro e v17 ⟨hB, T3, t3, rfl, hC, hp⟩
        have HX17 := Aside0.mk (HX16.out.step hB)
        have HQa_17 := Aside0.mk (LetQ.below HQa_16.out hB)
        have HBa_17 := Aside0.mk (blk_step HBa_16.out hB)
        have HQb_17 := Aside0.mk (LetQ.below HQb_16.out hB)
        have HBb2_17 := Aside0.mk (blk_step HBb2_16.out hB)
        have HC5_17 := Aside0.mk (Kd.C_below HC5_16.out hB)
        have HTa_17 := Aside0.mk (hC)
        have HTp := Aside0.mk hp
        clear hB hC hp HP5
        have HN0 := Aside0.mk (blk_new v17 (.cells #[.int .i64 0, .int .i64 0, .int .i64 0, .slice none 0 0] 87))
        have HK0 := Aside0.mk (below_alloc (Below.refl v17.heap.size v17) (.cells #[.int .i64 0, .int .i64 0, .int .i64 0, .slice none 0 0] 87))
        go_upto_region 14 with (refine wpList_store_row rfl 87 (.tmp 17) (.tmp 92) rfl v17.heap.size #[.int .i64 xe.f0, .int .i64 xe.f1, .int .i64 xe.f2, .slice T3 xe.f3.length t3] rfl rfl 87 _ HN0.out size87 rfl (by simp [Value.oneCell']) ?_; have HN1 := Aside0.mk (setRow_heap _ _ _ #[.int .i64 xe.f0, .int .i64 xe.f1, .int .i64 xe.f2, .slice T3 xe.f3.length t3] _ _ HN0.out); have HK1 := Aside0.mk (below_setRow HK0.out (Nat.le_refl _) #[.int .i64 xe.f0, .int .i64 xe.f1, .int .i64 xe.f2, .slice T3 xe.f3.length t3]))
        generalize (v17.alloc (.cells #[.int .i64 0, .int .i64 0, .int .i64 0, .slice none 0 0] 87)).setRow v17.heap.size #[.int .i64 xe.f0, .int .i64 xe.f1, .int .i64 xe.f2, .slice T3 xe.f3.length t3] = v18 at HN1 HK1 ⊢
        have HX18 := Aside0.mk (HX17.out.step HK1.out)
        have HQa_18 := Aside0.mk (LetQ.below HQa_17.out HK1.out)
        have HBa_18 := Aside0.mk (blk_step HBa_17.out HK1.out)
        have HQb_18 := Aside0.mk (LetQ.below HQb_17.out HK1.out)
        have HBb2_18 := Aside0.mk (blk_step HBb2_17.out HK1.out)
        have HTa_18 := Aside0.mk (Kd.C_below HTa_17.out HK1.out)
        have HBc_18 := Aside0.mk (HN1.out)
        clear HN0 HN1 HK0 HK1
        go_wp2_with (fail)
        have hE := refRead80_any D5 d5 b xe ye v18 (Kd.C_below HBb.out.1 HX18.out.below) HBb.out.2.1 HBb.out.2.2 (by have := HS.out; omega) HO.out.2.2.1 HO.out.2.2.2
        with_reducible refine hE.mono ?_
        clear hE
        rintro e v19 ⟨hB, U3, u3', rfl, hC, hp⟩
        have HX19 := Aside0.mk (HX18.out.step hB)
        have HQa_19 := Aside0.mk (LetQ.below HQa_18.out hB)
        have HBa_19 := Aside0.mk (blk_step HBa_18.out hB)
        have HQb_19 := Aside0.mk (LetQ.below HQb_18.out hB)
        have HBb2_19 := Aside0.mk (blk_step HBb2_18.out hB)
        have HTa_19 := Aside0.mk (Kd.C_below HTa_18.out hB)
        have HBc_19 := Aside0.mk (blk_step HBc_18.out hB)
        have HUa_19 := Aside0.mk (hC)
        have HUp := Aside0.mk hp
        clear hB hC hp
        have HN0 := Aside0.mk (blk_new v19 (.cells #[.int .i64 0, .int .i64 0, .int .i64 0, .slice none 0 0] 87))
        have HK0 := Aside0.mk (below_alloc (Below.refl v19.heap.size v19) (.cells #[.int .i64 0, .int .i64 0, .int .i64 0, .slice none 0 0] 87))
        go_upto_region 15 with (refine wpList_store_row rfl 87 (.tmp 18) (.tmp 97) rfl v19.heap.size #[.int .i64 xe.f0, .int .i64 xe.f1, .int .i64 xe.f2, .slice U3 xe.f3.length u3'] rfl rfl 87 _ HN0.out size87 rfl (by simp [Value.oneCell']) ?_; have HN1 := Aside0.mk (setRow_heap _ _ _ #[.int .i64 xe.f0, .int .i64 xe.f1, .int .i64 xe.f2, .slice U3 xe.f3.length u3'] _ _ HN0.out); have HK1 := Aside0.mk (below_setRow HK0.out (Nat.le_refl _) #[.int .i64 xe.f0, .int .i64 xe.f1, .int .i64 xe.f2, .slice U3 xe.f3.length u3']))
        generalize (v19.alloc (.cells #[.int .i64 0, .int .i64 0, .int .i64 0, .slice none 0 0] 87)).setRow v19.heap.size #[.int .i64 xe.f0, .int .i64 xe.f1, .int .i64 xe.f2, .slice U3 xe.f3.length u3'] = v20 at HN1 HK1 ⊢
        have HX20 := Aside0.mk (HX19.out.step HK1.out)
        have HQa_20 := Aside0.mk (LetQ.below HQa_19.out HK1.out)
        have HBa_20 := Aside0.mk (blk_step HBa_19.out HK1.out)
        have HQb_20 := Aside0.mk (LetQ.below HQb_19.out HK1.out)
        have HBb2_20 := Aside0.mk (blk_step HBb2_19.out HK1.out)
        have HTa_20 := Aside0.mk (Kd.C_below HTa_19.out HK1.out)
        have HBc_20 := Aside0.mk (blk_step HBc_19.out HK1.out)
        have HUa_20 := Aside0.mk (Kd.C_below HUa_19.out HK1.out)
        have HBd_20 := Aside0.mk (HN1.out)
        clear HN0 HN1 HK0 HK1
        have la0 : v20.cell? ⟨v12.heap.size, 0, none⟩ = some (.int .i64 xl.f0.f0) := (blk_cell HBa_20.out 0).trans rfl
        have la1 : v20.cell? ⟨v12.heap.size, 1, none⟩ = some (.int .i64 xl.f0.f1) := (blk_cell HBa_20.out 1).trans rfl
        have la2 : v20.cell? ⟨v12.heap.size, 2, none⟩ = some (.int .i64 xl.f1) := (blk_cell HBa_20.out 2).trans rfl
        have la3 : v20.cell? ⟨v12.heap.size, 3, none⟩ = some (.slice R2 xl.f2.length r2) := (blk_cell HBa_20.out 3).trans rfl
        have la4 : v20.cell? ⟨v12.heap.size, 4, none⟩ = some (.slice R3 xl.f3.length r3) := (blk_cell HBa_20.out 4).trans rfl
        have lb0 : v20.cell? ⟨v14.heap.size, 0, none⟩ = some (.int .i64 xl.f0.f0) := (blk_cell HBb2_20.out 0).trans rfl
        have lb1 : v20.cell? ⟨v14.heap.size, 1, none⟩ = some (.int .i64 xl.f0.f1) := (blk_cell HBb2_20.out 1).trans rfl
        have lb2 : v20.cell? ⟨v14.heap.size, 2, none⟩ = some (.int .i64 xl.f1) := (blk_cell HBb2_20.out 2).trans rfl
        have lb3 : v20.cell? ⟨v14.heap.size, 3, none⟩ = some (.slice S2 xl.f2.length s2) := (blk_cell HBb2_20.out 3).trans rfl
        have lb4 : v20.cell? ⟨v14.heap.size, 4, none⟩ = some (.slice S3 xl.f3.length s3) := (blk_cell HBb2_20.out 4).trans rfl
        go_wp2_with (fail)
        have hE := sameLetter_q xl R2 R3 S2 S3 r2 r3 s2 s3 v20 HQa_20.out HQb_20.out
        with_reducible refine hE.mono ?_
        clear hE
        rintro e v21 ⟨rfl, hB⟩
        have HX21 := Aside0.mk (HX20.out.step hB)
        have HQa_21 := Aside0.mk (LetQ.below HQa_20.out hB)
        have HBa_21 := Aside0.mk (blk_step HBa_20.out hB)
        have HQb_21 := Aside0.mk (LetQ.below HQb_20.out hB)
        have HBb2_21 := Aside0.mk (blk_step HBb2_20.out hB)
        have HTa_21 := Aside0.mk (Kd.C_below HTa_20.out hB)
        have HBc_21 := Aside0.mk (blk_step HBc_20.out hB)
        have HUa_21 := Aside0.mk (Kd.C_below HUa_20.out hB)
        have HBd_21 := Aside0.mk (blk_step HBd_20.out hB)
        clear hB la0 la1 la2 la3 la4 lb0 lb1 lb2 lb3 lb4
        have ec0 : v21.cell? ⟨v17.heap.size, 0, none⟩ = some (.int .i64 xe.f0) := (blk_cell HBc_21.out 0).trans rfl
        have ec1 : v21.cell? ⟨v17.heap.size, 1, none⟩ = some (.int .i64 xe.f1) := (blk_cell HBc_21.out 1).trans rfl
        have ec2 : v21.cell? ⟨v17.heap.size, 2, none⟩ = some (.int .i64 xe.f2) := (blk_cell HBc_21.out 2).trans rfl
        have ec3 : v21.cell? ⟨v17.heap.size, 3, none⟩ = some (.slice T3 xe.f3.length t3) := (blk_cell HBc_21.out 3).trans rfl
        have ed0 : v21.cell? ⟨v19.heap.size, 0, none⟩ = some (.int .i64 xe.f0) := (blk_cell HBd_21.out 0).trans rfl
        have ed1 : v21.cell? ⟨v19.heap.size, 1, none⟩ = some (.int .i64 xe.f1) := (blk_cell HBd_21.out 1).trans rfl
        have ed2 : v21.cell? ⟨v19.heap.size, 2, none⟩ = some (.int .i64 xe.f2) := (blk_cell HBd_21.out 2).trans rfl
        have ed3 : v21.cell? ⟨v19.heap.size, 3, none⟩ = some (.slice U3 xe.f3.length u3') := (blk_cell HBd_21.out 3).trans rfl
        go_wp2_with (fail)
        have hE := sameEntry_q xe T3 U3 t3 u3' v21 HTa_21.out HTp.out HUa_21.out HUp.out
        with_reducible refine hE.mono ?_
        clear hE
        rintro e v22 ⟨rfl, hB⟩
        have HX22 := Aside0.mk (HX21.out.step hB)
        have HQa_22 := Aside0.mk (LetQ.below HQa_21.out hB)
        have HBa_22 := Aside0.mk (blk_step HBa_21.out hB)
        have HQb_22 := Aside0.mk (LetQ.below HQb_21.out hB)
        have HBb2_22 := Aside0.mk (blk_step HBb2_21.out hB)
        have HTa_22 := Aside0.mk (Kd.C_below HTa_21.out hB)
        have HBc_22 := Aside0.mk (blk_step HBc_21.out hB)
        have HUa_22 := Aside0.mk (Kd.C_below HUa_21.out hB)
        have HBd_22 := Aside0.mk (blk_step HBd_21.out hB)
        clear hB
        go_wp2_with (fail)
        go_ret
        exact ⟨rfl, HX22.out.below⟩
end Go.Proofs.Ytijccobeljoikaa.Ms

/- msg: MsgLetters over what comes in. -/
namespace Go.Proofs.Ytijccobeljoikaa.Ms
open Go.RowKit Go.Proofs.YtijccobeljoikaaW.PrintWords
open Go.Proofs.Ytijccobeljoikaa.Plain
theorem letters_opened {l : S72} {x : S87} {b : List Int} {c0 c1 : Array Value} {D5 : Option Addr} {d5 : Nat} {W : World} (h0 : k72.K W l c0.toList) (h1 : k87.K W x c1.toList) (f0 : Fit72 l) (f1 : x.f3.length ≤ 140737488355328)
    (hB : Kd.C (Kd.int .u8) W D5 b.length b) (hd : b.length ≤ d5) (hb : Byte b) :
    Calls Try.prog 22 #[.agg c0, .agg c1, .slice D5 b.length d5] W fun e w' => e = .returned (.bool true) ∧ Below W.heap.size W w' := by
  obtain ⟨A3, c3, A4, c4, he, l3, g3, l4, g4⟩ := k72_open h0
  obtain rfl := Array.toList_inj.1 he
  obtain ⟨C3, c3', he, hc, hC⟩ := k87_open h1
  obtain rfl := Array.toList_inj.1 he
  exact letters_calls l x b A3 A4 C3 D5 c3 c4 c3' d5 W ⟨g3, l3, g4, l4⟩ f0 ⟨hC, hc, f1⟩ ⟨hB, hd, hb⟩
end Go.Proofs.Ytijccobeljoikaa.Ms
