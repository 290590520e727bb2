/- Put together of my texts: MuC. -/
import Derived.Test.YtijccobeljoikaaMh14
import Derived.Test.YtijccobeljoikaaMh12
/- msg: the document: fields, ReadEntry, ReadLetter. -/
namespace Go.Proofs.Ytijccobeljoikaa.Ms
open Go.RowKit Go.Proofs.YtijccobeljoikaaW.PrintWords Go.Proofs.YtijccobeljoikaaW.PrintLast
open Go.Proofs.Ytijccobeljoikaa.Plain Go.Proofs.Ytijccobeljoikaa.Walks
set_option linter.unusedVariables false
set_option linter.unusedSimpArgs false
theorem Got.andThen {α : Type} {d : Kd α} {e : Nat} {w w1 w2 : World} {A : Option Addr} {c : Nat} {zs : List α} (h : Got d e w w1 A c zs) (hB : Below w1.heap.size w1 w2) : Got d e w w2 A c zs :=
  ⟨Kd.R_below h.own hB, below_then h.keep h.keep.size hB⟩
/-- fields: the fields and the first one's numbers. -/
def headO (l : List Int) (n k : Nat) : Option (List (List Int) × List Int) := (fieldsO l n).bind fun s => (intsO (s.getD 0 []) k).map fun v => (s, v)
set_option maxHeartbeats 8000000 in
set_option maxRecDepth 100000 in
theorem fields113_33 (A : Option Addr) (c : Nat) (l : List Int) (o : Option (List (List Int) × List Int)) (w : World) (hC : Kd.C (Kd.int .u8) w A l.length l) (hc : l.length ≤ c) (hb : Byte l) (hl : l.length < 140737488355328) (ho : headO l 3 3 = o) :
    Calls Try.prog 113 #[.slice A l.length c, .int .i64 3, .int .i64 3] w fun e w' => match (generalizing := false) o with
      | some t => ∃ g1 c1 g4 c4, e = .returned (.tuple #[.slice (some ⟨g1, 0, none⟩) t.1.length c1, .slice (some ⟨g4, 0, none⟩) t.2.length c4, .bool true]) ∧ Got (Kd.slice 5 (Kd.int .u8)) 22 w w' (some ⟨g1, 0, none⟩) c1 t.1 ∧ Got (Kd.int .i64) 3 w w' (some ⟨g4, 0, none⟩) c4 t.2
      | none => (∃ u1 u2, e = .returned (.tuple #[u1, u2, .bool false])) ∧ Below w.heap.size w w' := by
  rcases split_cases l 3 with ⟨rs, x, hs, hbad, hf⟩ | ⟨rs, hs, hn, hf⟩
  · have : o = none := by rw [← ho, headO, hf]; rfl
    subst this
    have hE := refSplit_calls A c l rs x w hC hc hb hl hs
    clear hC hc hb hl ho hf hs
    go_enter Try.func113, Try.ntmps113
    go_wp2_with (fail)
    with_reducible refine hE.mono ?_
    clear hE
    rintro e w1 ⟨A1, c1, rfl, hG⟩
    have HB1 := Aside0.mk hG.keep
    clear hG
    by_cases hx : x = 0
    · subst hx
      have hn : ¬ rs.length = 3 := by rcases hbad with h | h; exact absurd rfl h; exact h
      have b0 : ((rs.length : Int) != 3) = true := bne_iff_ne.mpr (by omega)
      have b1 : (rs.length == 3) = false := beq_eq_false_iff_ne.mpr hn
      clear hbad hn
      go_wp2_with (fail)
      go_ret3
      exact ⟨⟨_, _, rfl⟩, HB1.out⟩
    · have b0 : (x != 0) = true := bne_iff_ne.mpr hx
      clear hbad hx
      go_wp2_with (fail)
      go_ret3
      exact ⟨⟨_, _, rfl⟩, HB1.out⟩
  · obtain ⟨s0, s1, s2, rfl⟩ := three hn
    obtain ⟨hj, hbs, _⟩ := fieldsO_some hb hf
    have Hb0 := Aside0.mk (hbs s0 (by simp))
    have Hl0 := Aside0.mk ((joinP_some hj).2.1 s0 (by simp))
    have hE := refSplit_calls A c l [s0, s1, s2] 0 w hC hc hb hl hs
    clear hC hc hb hl hs hj hbs hn
    go_enter Try.func113, Try.ntmps113
    go_wp2_with (fail)
    with_reducible refine hE.mono ?_
    clear hE
    rintro e w1 ⟨A1, c1, rfl, hG⟩
    obtain ⟨g1, rfl, hg1⟩ := got_head hG (by simp)
    obtain ⟨A2, c2, y0, hR0⟩ := rows_at hG 0 (by simp)
    simp only [List.getElem_cons_zero] at y0 hR0
    have HG1 := Aside0.mk hG
    have HR0 := Aside0.mk hR0
    clear hG hR0 hg1
    go_wp2_with (fail)
    rcases ints_cases s0 3 with ⟨vs, x, hi, hbad, hfi⟩ | ⟨vs, hi, hn, hfi⟩
    · have : o = none := by rw [← ho, headO, hf]; show (intsO s0 3).map _ = none; rw [hfi]; rfl
      subst this
      have hE := refInts_calls A2 c2 s0 vs x w1 (Kd.R_reads' HR0.out).2.2 (Kd.R_reads' HR0.out).2.1 Hb0.out (by have := Hl0.out; omega) hi
      clear hf ho hfi hi
      refine hE.mono ?_
      clear hE
      rintro e w2 ⟨A4, c4, rfl, hG⟩
      have HB2 := Aside0.mk (below_then HG1.out.keep HG1.out.keep.size hG.keep)
      clear hG
      by_cases hx : x = 0
      · subst hx
        have hn : ¬ vs.length = 3 := by rcases hbad with h | h; exact absurd rfl h; exact h
        have b0 : ((vs.length : Int) == 3) = false := beq_eq_false_iff_ne.mpr (by omega)
        have b1 : (vs.length == 3) = false := beq_eq_false_iff_ne.mpr hn
        clear hbad hn
        go_wp2_with (fail)
        go_ret3
        exact ⟨⟨_, _, rfl⟩, HB2.out⟩
      · have b0 : (x == 0) = false := beq_eq_false_iff_ne.mpr hx
        clear hbad hx
        go_wp2_with (fail)
        go_ret3
        exact ⟨⟨_, _, rfl⟩, HB2.out⟩
    · obtain ⟨v0, v1, v2, rfl⟩ := three hn
      have : o = some ([s0, s1, s2], [v0, v1, v2]) := by rw [← ho, headO, hf]; show (intsO s0 3).map _ = _; rw [hfi]; rfl
      subst this
      have hE := refInts_calls A2 c2 s0 [v0, v1, v2] 0 w1 (Kd.R_reads' HR0.out).2.2 (Kd.R_reads' HR0.out).2.1 Hb0.out (by have := Hl0.out; omega) hi
      clear hf ho hfi hi hn
      refine hE.mono ?_
      clear hE
      rintro e w2 ⟨A4, c4, rfl, hG⟩
      obtain ⟨g4, rfl, hg4⟩ := got_head hG (by simp)
      have HG2 := Aside0.mk hG
      clear hG hg4
      go_wp2_with (fail)
      go_ret3
      exact ⟨g1, c1, g4, c4, rfl, HG1.out.andThen HG2.out.keep, HG2.out.lift HG1.out.keep⟩
set_option maxHeartbeats 8000000 in
set_option maxRecDepth 100000 in
theorem fields113_23 (A : Option Addr) (c : Nat) (l : List Int) (o : Option (List (List Int) × List Int)) (w : World) (hC : Kd.C (Kd.int .u8) w A l.length l) (hc : l.length ≤ c) (hb : Byte l) (hl : l.length < 140737488355328) (ho : headO l 2 3 = o) :
    Calls Try.prog 113 #[.slice A l.length c, .int .i64 2, .int .i64 3] w fun e w' => match (generalizing := false) o with
      | some t => ∃ g1 c1 g4 c4, e = .returned (.tuple #[.slice (some ⟨g1, 0, none⟩) t.1.length c1, .slice (some ⟨g4, 0, none⟩) t.2.length c4, .bool true]) ∧ Got (Kd.slice 5 (Kd.int .u8)) 22 w w' (some ⟨g1, 0, none⟩) c1 t.1 ∧ Got (Kd.int .i64) 3 w w' (some ⟨g4, 0, none⟩) c4 t.2
      | none => (∃ u1 u2, e = .returned (.tuple #[u1, u2, .bool false])) ∧ Below w.heap.size w w' := by
  rcases split_cases l 2 with ⟨rs, x, hs, hbad, hf⟩ | ⟨rs, hs, hn, hf⟩
  · have : o = none := by rw [← ho, headO, hf]; rfl
    subst this
    have hE := refSplit_calls A c l rs x w hC hc hb hl hs
    clear hC hc hb hl ho hf hs
    go_enter Try.func113, Try.ntmps113
    go_wp2_with (fail)
    with_reducible refine hE.mono ?_
    clear hE
    rintro e w1 ⟨A1, c1, rfl, hG⟩
    have HB1 := Aside0.mk hG.keep
    clear hG
    by_cases hx : x = 0
    · subst hx
      have hn : ¬ rs.length = 2 := by rcases hbad with h | h; exact absurd rfl h; exact h
      have b0 : ((rs.length : Int) != 2) = true := bne_iff_ne.mpr (by omega)
      have b1 : (rs.length == 2) = false := beq_eq_false_iff_ne.mpr hn
      clear hbad hn
      go_wp2_with (fail)
      go_ret3
      exact ⟨⟨_, _, rfl⟩, HB1.out⟩
    · have b0 : (x != 0) = true := bne_iff_ne.mpr hx
      clear hbad hx
      go_wp2_with (fail)
      go_ret3
      exact ⟨⟨_, _, rfl⟩, HB1.out⟩
  · obtain ⟨s0, s1, rfl⟩ := two hn
    obtain ⟨hj, hbs, _⟩ := fieldsO_some hb hf
    have Hb0 := Aside0.mk (hbs s0 (by simp))
    have Hl0 := Aside0.mk ((joinP_some hj).2.1 s0 (by simp))
    have hE := refSplit_calls A c l [s0, s1] 0 w hC hc hb hl hs
    clear hC hc hb hl hs hj hbs hn
    go_enter Try.func113, Try.ntmps113
    go_wp2_with (fail)
    with_reducible refine hE.mono ?_
    clear hE
    rintro e w1 ⟨A1, c1, rfl, hG⟩
    obtain ⟨g1, rfl, hg1⟩ := got_head hG (by simp)
    obtain ⟨A2, c2, y0, hR0⟩ := rows_at hG 0 (by simp)
    simp only [List.getElem_cons_zero] at y0 hR0
    have HG1 := Aside0.mk hG
    have HR0 := Aside0.mk hR0
    clear hG hR0 hg1
    go_wp2_with (fail)
    rcases ints_cases s0 3 with ⟨vs, x, hi, hbad, hfi⟩ | ⟨vs, hi, hn, hfi⟩
    · have : o = none := by rw [← ho, headO, hf]; show (intsO s0 3).map _ = none; rw [hfi]; rfl
      subst this
      have hE := refInts_calls A2 c2 s0 vs x w1 (Kd.R_reads' HR0.out).2.2 (Kd.R_reads' HR0.out).2.1 Hb0.out (by have := Hl0.out; omega) hi
      clear hf ho hfi hi
      refine hE.mono ?_
      clear hE
      rintro e w2 ⟨A4, c4, rfl, hG⟩
      have HB2 := Aside0.mk (below_then HG1.out.keep HG1.out.keep.size hG.keep)
      clear hG
      by_cases hx : x = 0
      · subst hx
        have hn : ¬ vs.length = 3 := by rcases hbad with h | h; exact absurd rfl h; exact h
        have b0 : ((vs.length : Int) == 3) = false := beq_eq_false_iff_ne.mpr (by omega)
        have b1 : (vs.length == 3) = false := beq_eq_false_iff_ne.mpr hn
        clear hbad hn
        go_wp2_with (fail)
        go_ret3
        exact ⟨⟨_, _, rfl⟩, HB2.out⟩
      · have b0 : (x == 0) = false := beq_eq_false_iff_ne.mpr hx
        clear hbad hx
        go_wp2_with (fail)
        go_ret3
        exact ⟨⟨_, _, rfl⟩, HB2.out⟩
    · obtain ⟨v0, v1, v2, rfl⟩ := three hn
      have : o = some ([s0, s1], [v0, v1, v2]) := by rw [← ho, headO, hf]; show (intsO s0 3).map _ = _; rw [hfi]; rfl
      subst this
      have hE := refInts_calls A2 c2 s0 [v0, v1, v2] 0 w1 (Kd.R_reads' HR0.out).2.2 (Kd.R_reads' HR0.out).2.1 Hb0.out (by have := Hl0.out; omega) hi
      clear hf ho hfi hi hn
      refine hE.mono ?_
      clear hE
      rintro e w2 ⟨A4, c4, rfl, hG⟩
      obtain ⟨g4, rfl, hg4⟩ := got_head hG (by simp)
      have HG2 := Aside0.mk hG
      clear hG hg4
      go_wp2_with (fail)
      go_ret3
      exact ⟨g1, c1, g4, c4, rfl, HG1.out.andThen HG2.out.keep, HG2.out.lift HG1.out.keep⟩
set_option maxHeartbeats 8000000 in
set_option maxRecDepth 100000 in
theorem fields113_32 (A : Option Addr) (c : Nat) (l : List Int) (o : Option (List (List Int) × List Int)) (w : World) (hC : Kd.C (Kd.int .u8) w A l.length l) (hc : l.length ≤ c) (hb : Byte l) (hl : l.length < 140737488355328) (ho : headO l 3 2 = o) :
    Calls Try.prog 113 #[.slice A l.length c, .int .i64 3, .int .i64 2] w fun e w' => match (generalizing := false) o with
      | some t => ∃ g1 c1 g4 c4, e = .returned (.tuple #[.slice (some ⟨g1, 0, none⟩) t.1.length c1, .slice (some ⟨g4, 0, none⟩) t.2.length c4, .bool true]) ∧ Got (Kd.slice 5 (Kd.int .u8)) 22 w w' (some ⟨g1, 0, none⟩) c1 t.1 ∧ Got (Kd.int .i64) 3 w w' (some ⟨g4, 0, none⟩) c4 t.2
      | none => (∃ u1 u2, e = .returned (.tuple #[u1, u2, .bool false])) ∧ Below w.heap.size w w' := by
  rcases split_cases l 3 with ⟨rs, x, hs, hbad, hf⟩ | ⟨rs, hs, hn, hf⟩
  · have : o = none := by rw [← ho, headO, hf]; rfl
    subst this
    have hE := refSplit_calls A c l rs x w hC hc hb hl hs
    clear hC hc hb hl ho hf hs
    go_enter Try.func113, Try.ntmps113
    go_wp2_with (fail)
    with_reducible refine hE.mono ?_
    clear hE
    rintro e w1 ⟨A1, c1, rfl, hG⟩
    have HB1 := Aside0.mk hG.keep
    clear hG
    by_cases hx : x = 0
    · subst hx
      have hn : ¬ rs.length = 3 := by rcases hbad with h | h; exact absurd rfl h; exact h
      have b0 : ((rs.length : Int) != 3) = true := bne_iff_ne.mpr (by omega)
      have b1 : (rs.length == 3) = false := beq_eq_false_iff_ne.mpr hn
      clear hbad hn
      go_wp2_with (fail)
      go_ret3
      exact ⟨⟨_, _, rfl⟩, HB1.out⟩
    · have b0 : (x != 0) = true := bne_iff_ne.mpr hx
      clear hbad hx
      go_wp2_with (fail)
      go_ret3
      exact ⟨⟨_, _, rfl⟩, HB1.out⟩
  · obtain ⟨s0, s1, s2, rfl⟩ := three hn
    obtain ⟨hj, hbs, _⟩ := fieldsO_some hb hf
    have Hb0 := Aside0.mk (hbs s0 (by simp))
    have Hl0 := Aside0.mk ((joinP_some hj).2.1 s0 (by simp))
    have hE := refSplit_calls A c l [s0, s1, s2] 0 w hC hc hb hl hs
    clear hC hc hb hl hs hj hbs hn
    go_enter Try.func113, Try.ntmps113
    go_wp2_with (fail)
    with_reducible refine hE.mono ?_
    clear hE
    rintro e w1 ⟨A1, c1, rfl, hG⟩
    obtain ⟨g1, rfl, hg1⟩ := got_head hG (by simp)
    obtain ⟨A2, c2, y0, hR0⟩ := rows_at hG 0 (by simp)
    simp only [List.getElem_cons_zero] at y0 hR0
    have HG1 := Aside0.mk hG
    have HR0 := Aside0.mk hR0
    clear hG hR0 hg1
    go_wp2_with (fail)
    rcases ints_cases s0 2 with ⟨vs, x, hi, hbad, hfi⟩ | ⟨vs, hi, hn, hfi⟩
    · have : o = none := by rw [← ho, headO, hf]; show (intsO s0 2).map _ = none; rw [hfi]; rfl
      subst this
      have hE := refInts_calls A2 c2 s0 vs x w1 (Kd.R_reads' HR0.out).2.2 (Kd.R_reads' HR0.out).2.1 Hb0.out (by have := Hl0.out; omega) hi
      clear hf ho hfi hi
      refine hE.mono ?_
      clear hE
      rintro e w2 ⟨A4, c4, rfl, hG⟩
      have HB2 := Aside0.mk (below_then HG1.out.keep HG1.out.keep.size hG.keep)
      clear hG
      by_cases hx : x = 0
      · subst hx
        have hn : ¬ vs.length = 2 := by rcases hbad with h | h; exact absurd rfl h; exact h
        have b0 : ((vs.length : Int) == 2) = false := beq_eq_false_iff_ne.mpr (by omega)
        have b1 : (vs.length == 2) = false := beq_eq_false_iff_ne.mpr hn
        clear hbad hn
        go_wp2_with (fail)
        go_ret3
        exact ⟨⟨_, _, rfl⟩, HB2.out⟩
      · have b0 : (x == 0) = false := beq_eq_false_iff_ne.mpr hx
        clear hbad hx
        go_wp2_with (fail)
        go_ret3
        exact ⟨⟨_, _, rfl⟩, HB2.out⟩
    · obtain ⟨v0, v1, rfl⟩ := two hn
      have : o = some ([s0, s1, s2], [v0, v1]) := by rw [← ho, headO, hf]; show (intsO s0 2).map _ = _; rw [hfi]; rfl
      subst this
      have hE := refInts_calls A2 c2 s0 [v0, v1] 0 w1 (Kd.R_reads' HR0.out).2.2 (Kd.R_reads' HR0.out).2.1 Hb0.out (by have := Hl0.out; omega) hi
      clear hf ho hfi hi hn
      refine hE.mono ?_
      clear hE
      rintro e w2 ⟨A4, c4, rfl, hG⟩
      obtain ⟨g4, rfl, hg4⟩ := got_head hG (by simp)
      have HG2 := Aside0.mk hG
      clear hG hg4
      go_wp2_with (fail)
      go_ret3
      exact ⟨g1, c1, g4, c4, rfl, HG1.out.andThen HG2.out.keep, HG2.out.lift HG1.out.keep⟩
def reE_T4 : Bool × List (List Nat × List Nat) := (true, [([], []), ([0], [0]), ([1], [1]), ([2], [2]), ([], []), ([4], [4]), ([5], [5]), ([], []), ([7], [7]), ([8], [8]), ([], []), ([10], [10]), ([11], [11]), ([3, 6, 9, 12], [3, 6, 9, 12]), ([], []), ([14, 13, 0, 1, 2, 3, 4, 5, 6, 7, 8, 9, 10, 11, 12, 13, 14], [13, 14])])
def reE_B4 : List Nat := [0, 1, 3, 7, 0, 16, 48, 0, 128, 384, 0, 1024, 3072, 8191, 0, 32767]
theorem reE_tab4 : rtab .any (opsOf Try.f80 4) = reE_T4 := by kernel_rfl
theorem reE_bits4 : waitsOk reE_T4.2 reE_B4 = true := by kernel_rfl
def reL_T5 : Bool × List (List Nat × List Nat) := (true, [([], []), ([0], [0]), ([1], [1]), ([], []), ([3], [3]), ([4], [4]), ([2, 5], [2, 5]), ([], []), ([7], [7]), ([8], [8]), ([], []), ([10], [10]), ([11], [11]), ([], []), ([6, 9, 12, 13], [6, 9, 12, 13]), ([], []), ([15, 14, 0, 1, 2, 3, 4, 5, 6, 7, 8, 9, 10, 11, 12, 13, 14, 15], [14, 15])])
def reL_B5 : List Nat := [0, 1, 3, 0, 8, 24, 63, 0, 128, 384, 0, 1024, 3072, 0, 16383, 0, 65535]
theorem reL_tab5 : rtab .any (opsOf Try.f78 5) = reL_T5 := by kernel_rfl
theorem reL_bits5 : waitsOk reL_T5.2 reL_B5 = true := by kernel_rfl
/-- What the document's reading an entry comes to. -/
def RefEnt (w : World) (o : Option S87) (e : Ending) (w' : World) : Prop :=
  Below w.heap.size w w' ∧ match o with
    | some x => ∃ A3 c3, e = .returned (.tuple #[.agg #[.int .i64 x.f0, .int .i64 x.f1, .int .i64 x.f2, .slice A3 x.f3.length c3], .int .i64 0]) ∧ Kd.R (Kd.int .u8) 5 w' w.heap.size (fun k => w.heap.size ≤ k) (.slice A3 x.f3.length c3) x.f3
    | none => e = .returned (.tuple #[.agg #[.int .i64 0, .int .i64 0, .int .i64 0, .slice none 0 0], .int .i64 12])
def RefLet (w : World) (o : Option S72) (e : Ending) (w' : World) : Prop :=
  Below w.heap.size w w' ∧ match o with
    | some x => ∃ A3 c3 A4 c4, e = .returned (.tuple #[.agg #[.int .i64 x.f0.f0, .int .i64 x.f0.f1, .int .i64 x.f1, .slice A3 x.f2.length c3, .slice A4 x.f3.length c4], .int .i64 0]) ∧ Kd.R (Kd.int .u8) 5 w' w.heap.size (fun k => w.heap.size ≤ k) (.slice A3 x.f2.length c3) x.f2 ∧ Kd.R (Kd.slice 5 (Kd.int .u8)) 22 w' w.heap.size (fun k => w.heap.size ≤ k) (.slice A4 x.f3.length c4) x.f3
    | none => e = .returned (.tuple #[.agg #[.int .i64 0, .int .i64 0, .int .i64 0, .slice none 0 0, .slice none 0 0], .int .i64 12])
theorem entryO_head (l : List Int) : entryO l = (headO l 2 3).bind fun t => if goodEntry (mkEntry t.1 t.2) then some (mkEntry t.1 t.2) else none := by
  unfold entryO headO
  cases fieldsO l 2 with
  | none => rfl
  | some s => show (intsO (s.getD 0 []) 3).bind _ = ((intsO (s.getD 0 []) 3).map _).bind _; cases intsO (s.getD 0 []) 3 <;> rfl
theorem letterO_head (l : List Int) : letterO l = (headO l 3 3).bind fun t => (splitO (t.1.getD 2 [])).bind fun ts => if goodLetter (mkLetter t.1 t.2 ts) then some (mkLetter t.1 t.2 ts) else none := by
  unfold letterO headO
  cases fieldsO l 3 with
  | none => rfl
  | some s => show (intsO (s.getD 0 []) 3).bind _ = ((intsO (s.getD 0 []) 3).map _).bind _; cases intsO (s.getD 0 []) 3 <;> rfl
theorem headO_some {l : List Int} {n k : Nat} {t : List (List Int) × List Int} (hb : Byte l) (h : headO l n k = some t) : t.1.length = n ∧ t.2.length = k ∧ (∀ r ∈ t.1, Byte r ∧ r.length ≤ 65536) ∧ (0 < n → ∀ v ∈ t.2, 0 ≤ v ∧ v < 4611686018427387904) := by
  unfold headO at h
  obtain ⟨s, hs, h⟩ := bind_some h
  obtain ⟨v, hv, rfl⟩ := Option.map_eq_some_iff.1 h
  obtain ⟨hj, hbs, hn⟩ := fieldsO_some hb hs
  refine ⟨hn, ?_, fun r hr => ⟨hbs r hr, (joinP_some hj).2.1 r hr⟩, fun h0 => ?_⟩
  · unfold intsO at hv; split at hv
    · rename_i hh; injection hv with hv; rw [← hv]; exact hh.2
    · cases hv
  · have hm : s.getD 0 [] ∈ s := by
      cases s with
      | nil => simp at hn; omega
      | cons a s => simp
    exact (intsO_some (hbs _ hm) hv).2.2
set_option maxHeartbeats 8000000 in
set_option maxRecDepth 100000 in
theorem refRead80_calls (A : Option Addr) (c : Nat) (l : List Int) (o : Option S87) (w : World) (hC : Kd.C (Kd.int .u8) w A l.length l) (hc : l.length ≤ c) (hb : Byte l) (hl : l.length < 140737488355328) (ho : entryO l = o) :
    Calls Try.prog 80 #[.slice A l.length c] w fun e w' => RefEnt w o e w' := by
  have hu87 := Try.underlying87
  have HC := Aside0.mk (And.intro hC hc)
  have HX0 := Aside0.mk (blk_new w (.cells #[.int .i64 0, .int .i64 0, .int .i64 0, .slice none 0 0] 87))
  have HB0 := Aside0.mk (below_alloc (Below.refl w.heap.size w) (.cells #[.int .i64 0, .int .i64 0, .int .i64 0, .slice none 0 0] 87))
  rw [entryO_head] at ho
  obtain ⟨t, ht⟩ : ∃ t, headO l 2 3 = t := ⟨_, rfl⟩
  rw [ht] at ho
  have HT := Aside0.mk ht
  have HBL := Aside0.mk (And.intro hb hl)
  clear hC hc hb hl ht
  go_enter Try.func80, Try.ntmps80
  go_wp2_with (fail)
  generalize w.alloc (.cells #[.int .i64 0, .int .i64 0, .int .i64 0, .slice none 0 0] 87) = w0 at HX0 HB0 ⊢
  refine (fields113_23 A c l t w0 (Kd.C_below HC.out.1 HB0.out) HC.out.2 HBL.out.1 HBL.out.2 HT.out).mono ?_
  intro e w1 hh
  cases t with
  | none =>
    obtain ⟨⟨u1, u2, rfl⟩, hB⟩ := hh
    have : o = none := ho.symm
    subst this
    have HX1 := Aside0.mk ((hB.block _ (blk_lt2 HX0.out)).trans HX0.out)
    have HB1 := Aside0.mk (below_then HB0.out HB0.out.size hB)
    clear hB ho
    go_wp2_with (refine wpList_store_row rfl 87 (.tmp 2) (.tmp 16) rfl w.heap.size #[.int .i64 0, .int .i64 0, .int .i64 0, .slice none 0 0] rfl rfl 87 _ HX1.out size87 rfl (by simp [Value.oneCell']) ?_; have HX9 := Aside0.mk (setRow_heap _ _ _ #[.int .i64 0, .int .i64 0, .int .i64 0, .slice none 0 0] _ _ HX1.out); have HB9 := Aside0.mk (below_setRow HB1.out (Nat.le_refl _) #[.int .i64 0, .int .i64 0, .int .i64 0, .slice none 0 0]))
    exact bodyPost_ret (v := .tuple #[.agg #[.int .i64 0, .int .i64 0, .int .i64 0, .slice none 0 0], .int .i64 12]) (results_row_tmp (p := 2) (u := 3) (ty := 87) rfl _ _ w.heap.size 87 _ _ _ rfl HX9.out hu87 rfl size87) rfl ⟨HB9.out, rfl⟩
  | some t =>
    obtain ⟨hn, hk, hr, hv⟩ := headO_some HBL.out.1 HT.out
    obtain ⟨rs, vs⟩ := t
    obtain ⟨s0, s1, rfl⟩ := two hn
    obtain ⟨v0, v1, v2, rfl⟩ := three hk
    have hvr := hv (by decide) v0 (by simp)
    obtain ⟨g1, c1, g4, c4, rfl, hG, hG4⟩ := hh
    obtain ⟨A3, c3, y1, hR1⟩ := rows_at hG 1 (by simp)
    have z0 := nums_at hG4 0 (by simp)
    have z1 := nums_at hG4 1 (by simp)
    have z2 := nums_at hG4 2 (by simp)
    simp only [List.getElem_cons_zero, List.getElem_cons_succ] at y1 hR1 z0 z1 z2
    have HB2 := Aside0.mk (below_then HB0.out HB0.out.size hG.keep)
    have HR2 := Aside0.mk (Kd.R_mono (Kd.R_lower hR1 HB0.out.size) (fun k hk => Nat.le_trans HB0.out.size hk))
    have HZ := Aside0.mk (And.intro z0 (And.intro z1 (And.intro z2 y1)))
    have HBX2 := Aside0.mk ((hG.keep.block _ (blk_lt2 HX0.out)).trans HX0.out)
    obtain ⟨m, hm⟩ : ∃ m : S87, m = ⟨v0 - 1, v1, v2, s1⟩ := ⟨_, rfl⟩
    have ho2 : (if goodEntry m then some m else none) = o := by rw [hm]; exact ho
    clear hG hG4 z0 z1 z2 y1 hR1 hr hv hn hk ho HT
    go_upto_region 4 with (fail)
    refine start_ (n := 16) (S := At4 ⟨g4, 0, none⟩ ⟨g4, 1, none⟩ ⟨g4, 2, none⟩ ⟨g1, 1, none⟩ (.int .i64 v0) (.int .i64 v1) (.int .i64 v2) (.slice A3 s1.length c3) w1) (ds := []) #[false, false, false, false, false, false, false, false, false, false, false, false, false, false, false, false] (by kernel_rfl) rfl rfl
      ⟨HZ.out.1, HZ.out.2.1, HZ.out.2.2.1, HZ.out.2.2.2, below_drew1 (Below.refl _ _)⟩ (fun hHeld => ?_)
    generalize w1.drew = w3 at hHeld ⊢
    refine with_tabW reE_tab4 reE_bits4 (fun HT_ HW_ => ?_)
    refine pure_ (i := 0) (N := some 17) (v := ?_) (a' := ?_) #[true, false, false, false, false, false, false, false, false, false, false, false, false, false, false, false] rfl rfl (any_of HT_.out (by kernel_rfl)) (fun _ _ _ h => h) (Or.inl ⟨by rfl, ?_⟩) ?_ ?_
    rotate_left
    · intro w'
      go_simp
      with_reducible rfl
    rotate_left
    · simp only [Act.put, List.setIfInBounds_toArray, List.set_cons_zero, List.set_cons_succ, i64_w, i32_w]
      rfl
    refine pure_ (i := 1) (N := some 18) (v := ?_) (a' := ?_) #[true, true, false, false, false, false, false, false, false, false, false, false, false, false, false, false] rfl rfl (any_of HT_.out (by kernel_rfl)) (fun _ _ _ h => h) (Or.inl ⟨by rfl, ?_⟩) ?_ ?_
    rotate_left
    · intro w'
      go_simp
      with_reducible rfl
    rotate_left
    · simp only [Act.put, List.setIfInBounds_toArray, List.set_cons_zero, List.set_cons_succ, i64_w, i32_w]
      rfl
    refine take_ (i := 2) (N := some 19) (v := ?_) (a' := ?_) #[true, true, true, false, false, false, false, false, false, false, false, false, false, false, false, false] rfl rfl (take_ofW HT_.out HW_.out (by kernel_rfl)) (fun _ _ _ h => h) (Or.inl ⟨by rfl, ?_⟩) hHeld ?_ ?_
    rotate_left
    · rintro w' ⟨s0, s1, s2, s3, s4⟩
      go_simp
      with_reducible rfl
    rotate_left
    · simp only [Act.put, List.setIfInBounds_toArray, List.set_cons_zero, List.set_cons_succ, i64_w, i32_w]
      rfl
    refine pure_ (i := 3) (N := some 20) (v := ?_) (a' := ?_) #[true, true, true, true, false, false, false, false, false, false, false, false, false, false, false, false] rfl rfl (any_of HT_.out (by kernel_rfl)) (fun _ _ _ h => h) (Or.inl ⟨by rfl, ?_⟩) ?_ ?_
    rotate_left
    · intro w'
      go_simp
      with_reducible rfl
    rotate_left
    · simp only [Act.put, List.setIfInBounds_toArray, List.set_cons_zero, List.set_cons_succ, i64_w, i32_w]
      rfl
    refine pure_ (i := 4) (N := some 21) (v := ?_) (a' := ?_) #[true, true, true, true, true, false, false, false, false, false, false, false, false, false, false, false] rfl rfl (any_of HT_.out (by kernel_rfl)) (fun _ _ _ h => h) (Or.inl ⟨by rfl, ?_⟩) ?_ ?_
    rotate_left
    · intro w'
      go_simp
      with_reducible rfl
    rotate_left
    · simp only [Act.put, List.setIfInBounds_toArray, List.set_cons_zero, List.set_cons_succ, i64_w, i32_w]
      rfl
    refine pure_ (i := 5) (N := some 22) (v := ?_) (a' := ?_) #[true, true, true, true, true, true, false, false, false, false, false, false, false, false, false, false] rfl rfl (any_of HT_.out (by kernel_rfl)) (fun _ _ _ h => h) (Or.inl ⟨by rfl, ?_⟩) ?_ ?_
    rotate_left
    · intro w'
      go_simp
      with_reducible rfl
    rotate_left
    · simp only [Act.put, List.setIfInBounds_toArray, List.set_cons_zero, List.set_cons_succ, i64_w, i32_w]
      rfl
    refine take_ (i := 6) (N := some 23) (v := ?_) (a' := ?_) #[true, true, true, true, true, true, true, false, false, false, false, false, false, false, false, false] rfl rfl (take_ofW HT_.out HW_.out (by kernel_rfl)) (fun _ _ _ h => h) (Or.inl ⟨by rfl, ?_⟩) hHeld ?_ ?_
    rotate_left
    · rintro w' ⟨s0, s1, s2, s3, s4⟩
      go_simp
      with_reducible rfl
    rotate_left
    · simp only [Act.put, List.setIfInBounds_toArray, List.set_cons_zero, List.set_cons_succ, i64_w, i32_w]
      rfl
    refine pure_ (i := 7) (N := some 24) (v := ?_) (a' := ?_) #[true, true, true, true, true, true, true, true, false, false, false, false, false, false, false, false] rfl rfl (any_of HT_.out (by kernel_rfl)) (fun _ _ _ h => h) (Or.inl ⟨by rfl, ?_⟩) ?_ ?_
    rotate_left
    · intro w'
      go_simp
      with_reducible rfl
    rotate_left
    · simp only [Act.put, List.setIfInBounds_toArray, List.set_cons_zero, List.set_cons_succ, i64_w, i32_w]
      rfl
    refine pure_ (i := 8) (N := some 25) (v := ?_) (a' := ?_) #[true, true, true, true, true, true, true, true, true, false, false, false, false, false, false, false] rfl rfl (any_of HT_.out (by kernel_rfl)) (fun _ _ _ h => h) (Or.inl ⟨by rfl, ?_⟩) ?_ ?_
    rotate_left
    · intro w'
      go_simp
      with_reducible rfl
    rotate_left
    · simp only [Act.put, List.setIfInBounds_toArray, List.set_cons_zero, List.set_cons_succ, i64_w, i32_w]
      rfl
    refine take_ (i := 9) (N := some 26) (v := ?_) (a' := ?_) #[true, true, true, true, true, true, true, true, true, true, false, false, false, false, false, false] rfl rfl (take_ofW HT_.out HW_.out (by kernel_rfl)) (fun _ _ _ h => h) (Or.inl ⟨by rfl, ?_⟩) hHeld ?_ ?_
    rotate_left
    · rintro w' ⟨s0, s1, s2, s3, s4⟩
      go_simp
      with_reducible rfl
    rotate_left
    · simp only [Act.put, List.setIfInBounds_toArray, List.set_cons_zero, List.set_cons_succ, i64_w, i32_w]
      rfl
    refine pure_ (i := 10) (N := some 27) (v := ?_) (a' := ?_) #[true, true, true, true, true, true, true, true, true, true, true, false, false, false, false, false] rfl rfl (any_of HT_.out (by kernel_rfl)) (fun _ _ _ h => h) (Or.inl ⟨by rfl, ?_⟩) ?_ ?_
    rotate_left
    · intro w'
      go_simp
      with_reducible rfl
    rotate_left
    · simp only [Act.put, List.setIfInBounds_toArray, List.set_cons_zero, List.set_cons_succ, i64_w, i32_w]
      rfl
    refine pure_ (i := 11) (N := some 28) (v := ?_) (a' := ?_) #[true, true, true, true, true, true, true, true, true, true, true, true, false, false, false, false] rfl rfl (any_of HT_.out (by kernel_rfl)) (fun _ _ _ h => h) (Or.inl ⟨by rfl, ?_⟩) ?_ ?_
    rotate_left
    · intro w'
      go_simp
      with_reducible rfl
    rotate_left
    · simp only [Act.put, List.setIfInBounds_toArray, List.set_cons_zero, List.set_cons_succ, i64_w, i32_w]
      rfl
    refine take_ (i := 12) (N := some 29) (v := ?_) (a' := ?_) #[true, true, true, true, true, true, true, true, true, true, true, true, true, false, false, false] rfl rfl (take_ofW HT_.out HW_.out (by kernel_rfl)) (fun _ _ _ h => h) (Or.inl ⟨by rfl, ?_⟩) hHeld ?_ ?_
    rotate_left
    · rintro w' ⟨s0, s1, s2, s3, s4⟩
      go_simp
      with_reducible rfl
    rotate_left
    · simp only [Act.put, List.setIfInBounds_toArray, List.set_cons_zero, List.set_cons_succ, i64_w, i32_w]
      rfl
    refine pure_ (i := 13) (N := some 30) (v := ?_) (a' := ?_) #[true, true, true, true, true, true, true, true, true, true, true, true, true, true, false, false] rfl rfl (any_of HT_.out (by kernel_rfl)) (fun _ _ _ h => h) (Or.inl ⟨by rfl, ?_⟩) ?_ ?_
    rotate_left
    · intro w'
      go_simp
      with_reducible rfl
    rotate_left
    · simp only [Act.put, List.setIfInBounds_toArray, List.set_cons_zero, List.set_cons_succ, i64_w, i32_w]
      rfl
    refine one_ (i := 14) (N := some 7) #[true, true, true, true, true, true, true, true, true, true, true, true, true, true, true, false] rfl rfl (one_of HT_.out (by kernel_rfl)) (by decide) (fun K hK => ?_)
    go_simp
    rw [show wrap64 (v0 - 1) = v0 - 1 by unfold wrap64; omega]
    have hHeld3 := hHeld
    refine hK.out _ _ (hHeld.step (below_alloc (Below.refl _ _) _)) (fun hHeld => ?_)
    clear hK K
    refine one_ (i := 15) (N := none) #[true, true, true, true, true, true, true, true, true, true, true, true, true, true, true, true] rfl rfl (one_of HT_.out (by kernel_rfl)) (by decide) (fun K hK => ?_)
    go_simp
    refine hK.out _ _ (hHeld3.step (below_alloc (Below.refl _ _) _)) (fun hHeld => ?_)
    clear hK K
    refine done_ (done_of HT_.out (by kernel_rfl)) ?_
    have HX := Aside0.mk (blk_new w3 (.cells #[.int .i64 (v0 - 1), .int .i64 v1, .int .i64 v2, .slice A3 s1.length c3] 87))
    have HB5 := Aside0.mk (below_then HB2.out HB2.out.size hHeld.2.2.2.2)
    have HR5 := Aside0.mk (Kd.R_below HR2.out hHeld.2.2.2.2)
    have HBX := Aside0.mk ((hHeld.2.2.2.2.block _ (blk_lt2 HBX2.out)).trans HBX2.out)
    obtain ⟨g5, hg5⟩ : ∃ g5, g5 = w3.heap.size := ⟨_, rfl⟩
    rw [← hg5] at HX ⊢
    clear hg5 hHeld hHeld3 HR2 HB2 HZ HBX2
    generalize w3.alloc (.cells #[.int .i64 (v0 - 1), .int .i64 v1, .int .i64 v2, .slice A3 s1.length c3] 87) = w5 at HX HB5 HR5 HBX ⊢
    have x0 : w5.cell? ⟨g5, 0, none⟩ = some (.int .i64 (v0 - 1)) := (blk_cell HX.out 0).trans rfl
    have x1 : w5.cell? ⟨g5, 1, none⟩ = some (.int .i64 v1) := (blk_cell HX.out 1).trans rfl
    have x2 : w5.cell? ⟨g5, 2, none⟩ = some (.int .i64 v2) := (blk_cell HX.out 2).trans rfl
    have x3 : w5.cell? ⟨g5, 3, none⟩ = some (.slice A3 s1.length c3) := (blk_cell HX.out 3).trans rfl
    go_wp2_with (fail)
    have hE := entry119_calls ⟨v0 - 1, v1, v2, s1⟩ A3 c3 w5
    rw [← hm] at hE
    rw [hm] at hE
    with_reducible refine hE.mono ?_
    clear hE
    rintro e w6 ⟨rfl, hB⟩
    have HX6 := Aside0.mk ((hB.block _ (blk_lt2 HX.out)).trans HX.out)
    have HBX6 := Aside0.mk ((hB.block _ (blk_lt2 HBX.out)).trans HBX.out)
    have HB6 := Aside0.mk (below_then HB5.out HB5.out.size hB)
    have HR6 := Aside0.mk (Kd.R_below HR5.out hB)
    clear hB x0 x1 x2 x3 HX HBX HB5 HR5
    rw [← hm]
    obtain ⟨q, hq⟩ : ∃ q, q = goodEntry m := ⟨_, rfl⟩
    rw [← hq] at ho2 ⊢
    cases q with
    | false =>
      have : o = none := ho2.symm
      subst this
      clear ho2 hq
      go_wp2_with (refine wpList_store_row rfl 87 (.tmp 2) (.tmp 34) rfl w.heap.size #[.int .i64 0, .int .i64 0, .int .i64 0, .slice none 0 0] rfl rfl 87 _ HBX6.out size87 rfl (by simp [Value.oneCell']) ?_; have HX9 := Aside0.mk (setRow_heap _ _ _ #[.int .i64 0, .int .i64 0, .int .i64 0, .slice none 0 0] _ _ HBX6.out); have HB9 := Aside0.mk (below_setRow HB6.out (Nat.le_refl _) #[.int .i64 0, .int .i64 0, .int .i64 0, .slice none 0 0]))
      exact bodyPost_ret (v := .tuple #[.agg #[.int .i64 0, .int .i64 0, .int .i64 0, .slice none 0 0], .int .i64 12]) (results_row_tmp (p := 2) (u := 3) (ty := 87) rfl _ _ w.heap.size 87 _ _ _ rfl HX9.out hu87 rfl size87) rfl ⟨HB9.out, rfl⟩
    | true =>
      have : o = some m := ho2.symm
      subst this
      subst hm
      clear ho2 hq
      have x0 : w6.cell? ⟨g5, 0, none⟩ = some (.int .i64 (v0 - 1)) := (blk_cell HX6.out 0).trans rfl
      have x1 : w6.cell? ⟨g5, 1, none⟩ = some (.int .i64 v1) := (blk_cell HX6.out 1).trans rfl
      have x2 : w6.cell? ⟨g5, 2, none⟩ = some (.int .i64 v2) := (blk_cell HX6.out 2).trans rfl
      have x3 : w6.cell? ⟨g5, 3, none⟩ = some (.slice A3 s1.length c3) := (blk_cell HX6.out 3).trans rfl
      go_wp2_with (refine wpList_store_row rfl 87 (.tmp 2) (.tmp 35) rfl w.heap.size #[.int .i64 (v0 - 1), .int .i64 v1, .int .i64 v2, .slice A3 s1.length c3] rfl rfl 87 _ HBX6.out size87 rfl (by simp [Value.oneCell']) ?_; have HR8 := Aside0.mk (R_row HR6.out HBX6.out (by simp [Kd.int, Kd.scalar]) #[.int .i64 (v0 - 1), .int .i64 v1, .int .i64 v2, .slice A3 s1.length c3]); have HBX8 := Aside0.mk (setRow_heap _ _ _ #[.int .i64 (v0 - 1), .int .i64 v1, .int .i64 v2, .slice A3 s1.length c3] _ _ HBX6.out); have HB8 := Aside0.mk (below_setRow HB6.out (Nat.le_refl _) #[.int .i64 (v0 - 1), .int .i64 v1, .int .i64 v2, .slice A3 s1.length c3]))
      exact bodyPost_ret (v := .tuple #[.agg #[.int .i64 (v0 - 1), .int .i64 v1, .int .i64 v2, .slice A3 s1.length c3], .int .i64 0]) (results_row_tmp (p := 2) (u := 3) (ty := 87) rfl _ _ w.heap.size 87 _ _ _ rfl HBX8.out hu87 rfl size87) rfl ⟨HB8.out, A3, c3, rfl, HR8.out⟩
set_option maxHeartbeats 8000000 in
set_option maxRecDepth 100000 in
theorem refRead78_calls (A : Option Addr) (c : Nat) (l : List Int) (o : Option S72) (w : World) (hC : Kd.C (Kd.int .u8) w A l.length l) (hc : l.length ≤ c) (hb : Byte l) (hl : l.length < 140737488355328) (ho : letterO l = o) :
    Calls Try.prog 78 #[.slice A l.length c] w fun e w' => RefLet w o e w' := by
  have hu72 := Try.underlying72
  have hu70 := Try.underlying70
  have HC := Aside0.mk (And.intro hC hc)
  have HX0 := Aside0.mk (blk_new w (.cells #[.int .i64 0, .int .i64 0, .int .i64 0, .slice none 0 0, .slice none 0 0] 72))
  have HB0 := Aside0.mk (below_alloc (Below.refl w.heap.size w) (.cells #[.int .i64 0, .int .i64 0, .int .i64 0, .slice none 0 0, .slice none 0 0] 72))
  rw [letterO_head] at ho
  obtain ⟨t, ht⟩ : ∃ t, headO l 3 3 = t := ⟨_, rfl⟩
  rw [ht] at ho
  have HT := Aside0.mk ht
  have HBL := Aside0.mk (And.intro hb hl)
  clear hC hc hb hl ht
  go_enter Try.func78, Try.ntmps78
  go_wp2_with (fail)
  generalize w.alloc (.cells #[.int .i64 0, .int .i64 0, .int .i64 0, .slice none 0 0, .slice none 0 0] 72) = w0 at HX0 HB0 ⊢
  refine (fields113_33 A c l t w0 (Kd.C_below HC.out.1 HB0.out) HC.out.2 HBL.out.1 HBL.out.2 HT.out).mono ?_
  intro e w1 hh
  cases t with
  | none =>
    obtain ⟨⟨u1, u2, rfl⟩, hB⟩ := hh
    have : o = none := ho.symm
    subst this
    have HX1 := Aside0.mk ((hB.block _ (blk_lt2 HX0.out)).trans HX0.out)
    have HB1 := Aside0.mk (below_then HB0.out HB0.out.size hB)
    clear hB ho
    go_wp2_with (refine wpList_store_row rfl 72 (.tmp 2) (.tmp 18) rfl w.heap.size #[.int .i64 0, .int .i64 0, .int .i64 0, .slice none 0 0, .slice none 0 0] rfl rfl 72 _ HX1.out size72 rfl (by simp [Value.oneCell']) ?_; have HX9 := Aside0.mk (setRow_heap _ _ _ #[.int .i64 0, .int .i64 0, .int .i64 0, .slice none 0 0, .slice none 0 0] _ _ HX1.out); have HB9 := Aside0.mk (below_setRow HB1.out (Nat.le_refl _) #[.int .i64 0, .int .i64 0, .int .i64 0, .slice none 0 0, .slice none 0 0]))
    exact bodyPost_ret (v := .tuple #[.agg #[.int .i64 0, .int .i64 0, .int .i64 0, .slice none 0 0, .slice none 0 0], .int .i64 12]) (results_row_tmp (p := 2) (u := 3) (ty := 72) rfl _ _ w.heap.size 72 _ _ _ rfl HX9.out hu72 rfl size72) rfl ⟨HB9.out, rfl⟩
  | some t =>
    obtain ⟨hn, hk, hr, hv⟩ := headO_some HBL.out.1 HT.out
    obtain ⟨rs, vs⟩ := t
    obtain ⟨s0, s1, s2, rfl⟩ := three hn
    obtain ⟨v0, v1, v2, rfl⟩ := three hk
    have Hs2 := Aside0.mk (hr s2 (by simp))
    obtain ⟨g1, c1, g4, c4, rfl, hG, hG4⟩ := hh
    obtain ⟨A3, c3, y1, hR1⟩ := rows_at hG 1 (by simp)
    obtain ⟨A5, c5, y2, hR2⟩ := rows_at hG 2 (by simp)
    have z0 := nums_at hG4 0 (by simp)
    have z1 := nums_at hG4 1 (by simp)
    have z2 := nums_at hG4 2 (by simp)
    simp only [List.getElem_cons_zero, List.getElem_cons_succ] at y1 y2 hR1 hR2 z0 z1 z2
    have HB1 := Aside0.mk (below_then HB0.out HB0.out.size hG.keep)
    have HR1 := Aside0.mk (Kd.R_mono (Kd.R_lower hR1 HB0.out.size) (fun k hk => Nat.le_trans HB0.out.size hk))
    have HR5 := Aside0.mk hR2
    have HZ1 := Aside0.mk (And.intro z0 (And.intro z1 (And.intro z2 y1)))
    have HBX1 := Aside0.mk ((hG.keep.block _ (blk_lt2 HX0.out)).trans HX0.out)
    have ho2 : ((splitO s2).bind fun ts => if goodLetter ⟨⟨v0, v1⟩, v2, s1, ts⟩ then some ⟨⟨v0, v1⟩, v2, s1, ts⟩ else none) = o := ho
    clear hG hG4 z0 z1 z2 y1 hR1 hR2 hr hv hn hk ho HT
    go_wp2_with (fail)
    obtain ⟨ts, u, hts⟩ : ∃ ts u, splitP s2 = (ts, u) := ⟨_, _, rfl⟩
    refine (refSplit_calls A5 c5 s2 ts u w1 (Kd.R_reads' HR5.out).2.2 (Kd.R_reads' HR5.out).2.1 Hs2.out.1 (by have := Hs2.out.2; omega) hts).mono ?_
    rintro e w2 ⟨A6, c6, rfl, hG⟩
    have HB2 := Aside0.mk (below_then HB1.out HB1.out.size hG.keep)
    have HR2 := Aside0.mk (Kd.R_below HR1.out hG.keep)
    have HR6 := Aside0.mk (Kd.R_mono (Kd.R_lower hG.own HB1.out.size) (fun k hk => Nat.le_trans HB1.out.size hk))
    have HZ := Aside0.mk (And.intro (cell_step HZ1.out.1 hG.keep) (And.intro (cell_step HZ1.out.2.1 hG.keep) (And.intro (cell_step HZ1.out.2.2.1 hG.keep) (cell_step HZ1.out.2.2.2 hG.keep))))
    have HBX2 := Aside0.mk ((hG.keep.block _ (blk_lt2 HBX1.out)).trans HBX1.out)
    have HTS := Aside0.mk hts
    clear hG y2 HZ1 HBX1 HR1 hts
    go_upto_region 5 with (fail)
    refine start_ (n := 17) (S := At4 ⟨g4, 0, none⟩ ⟨g4, 1, none⟩ ⟨g4, 2, none⟩ ⟨g1, 1, none⟩ (.int .i64 v0) (.int .i64 v1) (.int .i64 v2) (.slice A3 s1.length c3) w2) (ds := []) #[false, false, false, false, false, false, false, false, false, false, false, false, false, false, false, false, false] (by kernel_rfl) rfl rfl
      ⟨HZ.out.1, HZ.out.2.1, HZ.out.2.2.1, HZ.out.2.2.2, below_drew1 (Below.refl _ _)⟩ (fun hHeld => ?_)
    generalize w2.drew = w3 at hHeld ⊢
    refine with_tabW reL_tab5 reL_bits5 (fun HT_ HW_ => ?_)
    refine pure_ (i := 0) (N := some 26) (v := ?_) (a' := ?_) #[true, false, false, false, false, false, false, false, false, false, false, false, false, false, false, false, false] rfl rfl (any_of HT_.out (by kernel_rfl)) (fun _ _ _ h => h) (Or.inl ⟨by rfl, ?_⟩) ?_ ?_
    rotate_left
    · intro w'
      go_simp
      with_reducible rfl
    rotate_left
    · simp only [Act.put, List.setIfInBounds_toArray, List.set_cons_zero, List.set_cons_succ, i64_w, i32_w]
      rfl
    refine pure_ (i := 1) (N := some 27) (v := ?_) (a' := ?_) #[true, true, false, false, false, false, false, false, false, false, false, false, false, false, false, false, false] rfl rfl (any_of HT_.out (by kernel_rfl)) (fun _ _ _ h => h) (Or.inl ⟨by rfl, ?_⟩) ?_ ?_
    rotate_left
    · intro w'
      go_simp
      with_reducible rfl
    rotate_left
    · simp only [Act.put, List.setIfInBounds_toArray, List.set_cons_zero, List.set_cons_succ, i64_w, i32_w]
      rfl
    refine take_ (i := 2) (N := some 28) (v := ?_) (a' := ?_) #[true, true, true, false, false, false, false, false, false, false, false, false, false, false, false, false, false] rfl rfl (take_ofW HT_.out HW_.out (by kernel_rfl)) (fun _ _ _ h => h) (Or.inl ⟨by rfl, ?_⟩) hHeld ?_ ?_
    rotate_left
    · rintro w' ⟨s0, s1, s2, s3, s4⟩
      go_simp
      with_reducible rfl
    rotate_left
    · simp only [Act.put, List.setIfInBounds_toArray, List.set_cons_zero, List.set_cons_succ, i64_w, i32_w]
      rfl
    refine pure_ (i := 3) (N := some 29) (v := ?_) (a' := ?_) #[true, true, true, true, false, false, false, false, false, false, false, false, false, false, false, false, false] rfl rfl (any_of HT_.out (by kernel_rfl)) (fun _ _ _ h => h) (Or.inl ⟨by rfl, ?_⟩) ?_ ?_
    rotate_left
    · intro w'
      go_simp
      with_reducible rfl
    rotate_left
    · simp only [Act.put, List.setIfInBounds_toArray, List.set_cons_zero, List.set_cons_succ, i64_w, i32_w]
      rfl
    refine pure_ (i := 4) (N := some 30) (v := ?_) (a' := ?_) #[true, true, true, true, true, false, false, false, false, false, false, false, false, false, false, false, false] rfl rfl (any_of HT_.out (by kernel_rfl)) (fun _ _ _ h => h) (Or.inl ⟨by rfl, ?_⟩) ?_ ?_
    rotate_left
    · intro w'
      go_simp
      with_reducible rfl
    rotate_left
    · simp only [Act.put, List.setIfInBounds_toArray, List.set_cons_zero, List.set_cons_succ, i64_w, i32_w]
      rfl
    refine take_ (i := 5) (N := some 31) (v := ?_) (a' := ?_) #[true, true, true, true, true, true, false, false, false, false, false, false, false, false, false, false, false] rfl rfl (take_ofW HT_.out HW_.out (by kernel_rfl)) (fun _ _ _ h => h) (Or.inl ⟨by rfl, ?_⟩) hHeld ?_ ?_
    rotate_left
    · rintro w' ⟨s0, s1, s2, s3, s4⟩
      go_simp
      with_reducible rfl
    rotate_left
    · simp only [Act.put, List.setIfInBounds_toArray, List.set_cons_zero, List.set_cons_succ, i64_w, i32_w]
      rfl
    refine pure_ (i := 6) (N := some 32) (v := ?_) (a' := ?_) #[true, true, true, true, true, true, true, false, false, false, false, false, false, false, false, false, false] rfl rfl (any_of HT_.out (by kernel_rfl)) (fun _ _ _ h => h) (Or.inl ⟨by rfl, ?_⟩) ?_ ?_
    rotate_left
    · intro w'
      go_simp
      with_reducible rfl
    rotate_left
    · simp only [Act.put, List.setIfInBounds_toArray, List.set_cons_zero, List.set_cons_succ, i64_w, i32_w]
      rfl
    refine pure_ (i := 7) (N := some 33) (v := ?_) (a' := ?_) #[true, true, true, true, true, true, true, true, false, false, false, false, false, false, false, false, false] rfl rfl (any_of HT_.out (by kernel_rfl)) (fun _ _ _ h => h) (Or.inl ⟨by rfl, ?_⟩) ?_ ?_
    rotate_left
    · intro w'
      go_simp
      with_reducible rfl
    rotate_left
    · simp only [Act.put, List.setIfInBounds_toArray, List.set_cons_zero, List.set_cons_succ, i64_w, i32_w]
      rfl
    refine pure_ (i := 8) (N := some 34) (v := ?_) (a' := ?_) #[true, true, true, true, true, true, true, true, true, false, false, false, false, false, false, false, false] rfl rfl (any_of HT_.out (by kernel_rfl)) (fun _ _ _ h => h) (Or.inl ⟨by rfl, ?_⟩) ?_ ?_
    rotate_left
    · intro w'
      go_simp
      with_reducible rfl
    rotate_left
    · simp only [Act.put, List.setIfInBounds_toArray, List.set_cons_zero, List.set_cons_succ, i64_w, i32_w]
      rfl
    refine take_ (i := 9) (N := some 35) (v := ?_) (a' := ?_) #[true, true, true, true, true, true, true, true, true, true, false, false, false, false, false, false, false] rfl rfl (take_ofW HT_.out HW_.out (by kernel_rfl)) (fun _ _ _ h => h) (Or.inl ⟨by rfl, ?_⟩) hHeld ?_ ?_
    rotate_left
    · rintro w' ⟨s0, s1, s2, s3, s4⟩
      go_simp
      with_reducible rfl
    rotate_left
    · simp only [Act.put, List.setIfInBounds_toArray, List.set_cons_zero, List.set_cons_succ, i64_w, i32_w]
      rfl
    refine pure_ (i := 10) (N := some 36) (v := ?_) (a' := ?_) #[true, true, true, true, true, true, true, true, true, true, true, false, false, false, false, false, false] rfl rfl (any_of HT_.out (by kernel_rfl)) (fun _ _ _ h => h) (Or.inl ⟨by rfl, ?_⟩) ?_ ?_
    rotate_left
    · intro w'
      go_simp
      with_reducible rfl
    rotate_left
    · simp only [Act.put, List.setIfInBounds_toArray, List.set_cons_zero, List.set_cons_succ, i64_w, i32_w]
      rfl
    refine pure_ (i := 11) (N := some 37) (v := ?_) (a' := ?_) #[true, true, true, true, true, true, true, true, true, true, true, true, false, false, false, false, false] rfl rfl (any_of HT_.out (by kernel_rfl)) (fun _ _ _ h => h) (Or.inl ⟨by rfl, ?_⟩) ?_ ?_
    rotate_left
    · intro w'
      go_simp
      with_reducible rfl
    rotate_left
    · simp only [Act.put, List.setIfInBounds_toArray, List.set_cons_zero, List.set_cons_succ, i64_w, i32_w]
      rfl
    refine take_ (i := 12) (N := some 38) (v := ?_) (a' := ?_) #[true, true, true, true, true, true, true, true, true, true, true, true, true, false, false, false, false] rfl rfl (take_ofW HT_.out HW_.out (by kernel_rfl)) (fun _ _ _ h => h) (Or.inl ⟨by rfl, ?_⟩) hHeld ?_ ?_
    rotate_left
    · rintro w' ⟨s0, s1, s2, s3, s4⟩
      go_simp
      with_reducible rfl
    rotate_left
    · simp only [Act.put, List.setIfInBounds_toArray, List.set_cons_zero, List.set_cons_succ, i64_w, i32_w]
      rfl
    refine pure_ (i := 13) (N := some 39) (v := ?_) (a' := ?_) #[true, true, true, true, true, true, true, true, true, true, true, true, true, true, false, false, false] rfl rfl (any_of HT_.out (by kernel_rfl)) (fun _ _ _ h => h) (Or.inl ⟨by rfl, ?_⟩) ?_ ?_
    rotate_left
    · intro w'
      go_simp
      with_reducible rfl
    rotate_left
    · simp only [Act.put, List.setIfInBounds_toArray, List.set_cons_zero, List.set_cons_succ, i64_w, i32_w]
      rfl
    refine pure_ (i := 14) (N := some 40) (v := ?_) (a' := ?_) #[true, true, true, true, true, true, true, true, true, true, true, true, true, true, true, false, false] rfl rfl (any_of HT_.out (by kernel_rfl)) (fun _ _ _ h => h) (Or.inl ⟨by rfl, ?_⟩) ?_ ?_
    rotate_left
    · intro w'
      go_simp
      with_reducible rfl
    rotate_left
    · simp only [Act.put, List.setIfInBounds_toArray, List.set_cons_zero, List.set_cons_succ, i64_w, i32_w]
      rfl
    refine one_ (i := 15) (N := some 9) #[true, true, true, true, true, true, true, true, true, true, true, true, true, true, true, true, false] rfl rfl (one_of HT_.out (by kernel_rfl)) (by decide) (fun K hK => ?_)
    go_simp
    have hHeld3 := hHeld
    refine hK.out _ _ (hHeld.step (below_alloc (Below.refl _ _) _)) (fun hHeld => ?_)
    clear hK K
    refine one_ (i := 16) (N := none) #[true, true, true, true, true, true, true, true, true, true, true, true, true, true, true, true, true] rfl rfl (one_of HT_.out (by kernel_rfl)) (by decide) (fun K hK => ?_)
    go_simp
    refine hK.out _ _ (hHeld3.step (below_alloc (Below.refl _ _) _)) (fun hHeld => ?_)
    clear hK K
    refine done_ (done_of HT_.out (by kernel_rfl)) ?_
    have HX := Aside0.mk (blk_new w3 (.cells #[.int .i64 v0, .int .i64 v1, .int .i64 v2, .slice A3 s1.length c3, .slice A6 ts.length c6] 72))
    have HB5 := Aside0.mk (below_then HB2.out HB2.out.size hHeld.2.2.2.2)
    have HRa := Aside0.mk (Kd.R_below HR2.out hHeld.2.2.2.2)
    have HRb := Aside0.mk (Kd.R_below HR6.out hHeld.2.2.2.2)
    have HBX := Aside0.mk ((hHeld.2.2.2.2.block _ (blk_lt2 HBX2.out)).trans HBX2.out)
    obtain ⟨g5, hg5⟩ : ∃ g5, g5 = w3.heap.size := ⟨_, rfl⟩
    rw [← hg5] at HX ⊢
    clear hg5 hHeld hHeld3 HR2 HB2 HZ HBX2 HR6
    generalize w3.alloc (.cells #[.int .i64 v0, .int .i64 v1, .int .i64 v2, .slice A3 s1.length c3, .slice A6 ts.length c6] 72) = w5 at HX HB5 HRa HRb HBX ⊢
    by_cases hu : u = 0
    · subst hu
      have ho3 : (if goodLetter ⟨⟨v0, v1⟩, v2, s1, ts⟩ then some (⟨⟨v0, v1⟩, v2, s1, ts⟩ : S72) else none) = o := by rw [splitO, HTS.out, if_pos rfl] at ho2; exact ho2
      clear ho2
      have x0 : w5.cell? ⟨g5, 0, none⟩ = some (.int .i64 v0) := (blk_cell HX.out 0).trans rfl
      have x1 : w5.cell? ⟨g5, 1, none⟩ = some (.int .i64 v1) := (blk_cell HX.out 1).trans rfl
      have x2 : w5.cell? ⟨g5, 2, none⟩ = some (.int .i64 v2) := (blk_cell HX.out 2).trans rfl
      have x3 : w5.cell? ⟨g5, 3, none⟩ = some (.slice A3 s1.length c3) := (blk_cell HX.out 3).trans rfl
      have x4 : w5.cell? ⟨g5, 4, none⟩ = some (.slice A6 ts.length c6) := (blk_cell HX.out 4).trans rfl
      go_wp2_with (fail)
      have hE := letter116_calls ⟨⟨v0, v1⟩, v2, s1, ts⟩ A3 c3 A6 c6 w5 (Kd.R_reads' HRb.out).2.2
      with_reducible refine hE.mono ?_
      clear hE
      rintro e w6 ⟨rfl, hB⟩
      have HX6 := Aside0.mk ((hB.block _ (blk_lt2 HX.out)).trans HX.out)
      have HBX6 := Aside0.mk ((hB.block _ (blk_lt2 HBX.out)).trans HBX.out)
      have HB6 := Aside0.mk (below_then HB5.out HB5.out.size hB)
      have HRa6 := Aside0.mk (Kd.R_below HRa.out hB)
      have HRb6 := Aside0.mk (Kd.R_below HRb.out hB)
      clear hB x0 x1 x2 x3 x4 HX HBX HB5 HRa HRb
      obtain ⟨q, hq⟩ : ∃ q, q = goodLetter ⟨⟨v0, v1⟩, v2, s1, ts⟩ := ⟨_, rfl⟩
      rw [← hq] at ho3 ⊢
      cases q with
      | false =>
        have : o = none := ho3.symm
        subst this
        clear ho3 hq
        go_wp2_with (refine wpList_store_row rfl 72 (.tmp 2) (.tmp 48) rfl w.heap.size #[.int .i64 0, .int .i64 0, .int .i64 0, .slice none 0 0, .slice none 0 0] rfl rfl 72 _ HBX6.out size72 rfl (by simp [Value.oneCell']) ?_; have HX9 := Aside0.mk (setRow_heap _ _ _ #[.int .i64 0, .int .i64 0, .int .i64 0, .slice none 0 0, .slice none 0 0] _ _ HBX6.out); have HB9 := Aside0.mk (below_setRow HB6.out (Nat.le_refl _) #[.int .i64 0, .int .i64 0, .int .i64 0, .slice none 0 0, .slice none 0 0]))
        exact bodyPost_ret (v := .tuple #[.agg #[.int .i64 0, .int .i64 0, .int .i64 0, .slice none 0 0, .slice none 0 0], .int .i64 12]) (results_row_tmp (p := 2) (u := 3) (ty := 72) rfl _ _ w.heap.size 72 _ _ _ rfl HX9.out hu72 rfl size72) rfl ⟨HB9.out, rfl⟩
      | true =>
        have : o = some ⟨⟨v0, v1⟩, v2, s1, ts⟩ := ho3.symm
        subst this
        clear ho3 hq
        have x0 : w6.cell? ⟨g5, 0, none⟩ = some (.int .i64 v0) := (blk_cell HX6.out 0).trans rfl
        have x1 : w6.cell? ⟨g5, 1, none⟩ = some (.int .i64 v1) := (blk_cell HX6.out 1).trans rfl
        have x2 : w6.cell? ⟨g5, 2, none⟩ = some (.int .i64 v2) := (blk_cell HX6.out 2).trans rfl
        have x3 : w6.cell? ⟨g5, 3, none⟩ = some (.slice A3 s1.length c3) := (blk_cell HX6.out 3).trans rfl
        have x4 : w6.cell? ⟨g5, 4, none⟩ = some (.slice A6 ts.length c6) := (blk_cell HX6.out 4).trans rfl
        go_wp2_with (refine wpList_store_row rfl 72 (.tmp 2) (.tmp 49) rfl w.heap.size #[.int .i64 v0, .int .i64 v1, .int .i64 v2, .slice A3 s1.length c3, .slice A6 ts.length c6] rfl rfl 72 _ HBX6.out size72 rfl (by simp [Value.oneCell']) ?_; have HRa8 := Aside0.mk (R_row HRa6.out HBX6.out (by simp [Kd.int, Kd.scalar]) #[.int .i64 v0, .int .i64 v1, .int .i64 v2, .slice A3 s1.length c3, .slice A6 ts.length c6]); have HRb8 := Aside0.mk (R_row HRb6.out HBX6.out (by simp [Kd.slice, Kd.int, Kd.scalar]) #[.int .i64 v0, .int .i64 v1, .int .i64 v2, .slice A3 s1.length c3, .slice A6 ts.length c6]); have HBX8 := Aside0.mk (setRow_heap _ _ _ #[.int .i64 v0, .int .i64 v1, .int .i64 v2, .slice A3 s1.length c3, .slice A6 ts.length c6] _ _ HBX6.out); have HB8 := Aside0.mk (below_setRow HB6.out (Nat.le_refl _) #[.int .i64 v0, .int .i64 v1, .int .i64 v2, .slice A3 s1.length c3, .slice A6 ts.length c6]))
        exact bodyPost_ret (v := .tuple #[.agg #[.int .i64 v0, .int .i64 v1, .int .i64 v2, .slice A3 s1.length c3, .slice A6 ts.length c6], .int .i64 0]) (results_row_tmp (p := 2) (u := 3) (ty := 72) rfl _ _ w.heap.size 72 _ _ _ rfl HBX8.out hu72 rfl size72) rfl ⟨HB8.out, A3, c3, A6, c6, rfl, HRa8.out, HRb8.out⟩
    · have b0 : (u != 0) = true := bne_iff_ne.mpr hu
      have : o = none := by rw [splitO, HTS.out, if_neg hu] at ho2; exact ho2.symm
      subst this
      clear ho2 hu
      go_wp2_with (refine wpList_store_row rfl 72 (.tmp 2) (.tmp 48) rfl w.heap.size #[.int .i64 0, .int .i64 0, .int .i64 0, .slice none 0 0, .slice none 0 0] rfl rfl 72 _ HBX.out size72 rfl (by simp [Value.oneCell']) ?_; have HX9 := Aside0.mk (setRow_heap _ _ _ #[.int .i64 0, .int .i64 0, .int .i64 0, .slice none 0 0, .slice none 0 0] _ _ HBX.out); have HB9 := Aside0.mk (below_setRow HB5.out (Nat.le_refl _) #[.int .i64 0, .int .i64 0, .int .i64 0, .slice none 0 0, .slice none 0 0]))
      exact bodyPost_ret (v := .tuple #[.agg #[.int .i64 0, .int .i64 0, .int .i64 0, .slice none 0 0, .slice none 0 0], .int .i64 12]) (results_row_tmp (p := 2) (u := 3) (ty := 72) rfl _ _ w.heap.size 72 _ _ _ rfl HX9.out hu72 rfl size72) rfl ⟨HB9.out, rfl⟩
end Go.Proofs.Ytijccobeljoikaa.Ms
