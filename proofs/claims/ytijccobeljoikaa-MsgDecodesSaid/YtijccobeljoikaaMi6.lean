/- Put together of my texts: MsW, MsY, MsZ, MtA, MtB, MtC, MtD. -/
import Derived.Test.YtijccobeljoikaaMi5
import Derived.Test.YtijccobeljoikaaMi4
/- msg: the letters of bytes. -/
namespace Go.Proofs.Ytijccobeljoikaa.Ms
open Go.RowKit Go.Proofs.YtijccobeljoikaaW.PrintWords Go.Proofs.YtijccobeljoikaaW.PrintLast
open Go.Proofs.Ytijccobeljoikaa.Plain Go.Proofs.Ytijccobeljoikaa.Walks
set_option linter.unusedVariables false
set_option linter.unusedSimpArgs false

/-- What reading a list comes to. -/
def ListPost {α : Type} (d : Kd α) (e0 : Nat) (w : World) (o : Option (List α)) (e : Ending) (w' : World) : Prop :=
  Below w.heap.size w w' ∧ match o with
    | some xs => ∃ A c, e = .returned (.slice A xs.length c) ∧ d.R e0 w' w.heap.size (fun k => w.heap.size ≤ k) (.slice A xs.length c) xs
    | none => ∃ y, y ≠ 0 ∧ e = .panicked (fault y)
/-- Element i of rows. -/
theorem rows_any {w w' : World} {A : Option Addr} {c : Nat} {rs : List (List Int)} (h : Got (Kd.slice 5 (Kd.int .u8)) 22 w w' A c rs) (i : Nat) (hi : i < rs.length) :
    ∃ g Ai ci, A = some ⟨g, 0, none⟩ ∧ w'.cell? ⟨g, i, none⟩ = some (.slice Ai rs[i].length ci) ∧ rs[i].length ≤ ci ∧ Kd.C (Kd.int .u8) w' Ai rs[i].length rs[i] := by
  obtain ⟨g, rfl, _⟩ := got_head h (by rintro rfl; simp at hi)
  obtain ⟨Ai, ci, h1, h2⟩ := rows_at h i hi
  exact ⟨g, Ai, ci, rfl, h1, (Kd.R_reads' h2).2.1, (Kd.R_reads' h2).2.2⟩
theorem mapO_step {α : Type} {f : List Int → Option α} {s : List (List Int)} {i : Nat} (hi : i < s.length) : mapO f (s.drop i) = (f s[i]).bind fun x => (mapO f (s.drop (i + 1))).bind fun xs => some (x :: xs) := by
  rw [drop_step hi, mapO]
theorem Kd.M_lower_ {α : Type} (d : Kd α) {w : World} {b b1 : Nat} {x : α} {cs : List Value} (hb : b1 ≤ b) (h : d.M w b (fun k => b ≤ k) x cs) : d.M w b1 (fun k => b ≤ k) x cs := d.M_lower hb h
theorem Kd.R_lt_ {α : Type} {d : Kd α} {e base : Nat} {w : World} {ok : Nat → Prop} {v : Value} {xs : List α} (h : d.R e w base ok v xs) (k : Nat) (hk : v.ownBlock = some k) : k < w.heap.size := own_lt h.2.choose_spec.1 k hk
set_option maxHeartbeats 8000000 in
set_option maxRecDepth 100000 in
theorem allLetters_calls (A : Option Addr) (c : Nat) (l : List Int) (o : Option (List S72)) (w : World) (hC : Kd.C (Kd.int .u8) w A l.length l) (hc : l.length ≤ c) (hb : Byte l) (hl : l.length < 17592186044416) (ho : allO letterO l = o) :
    Calls Try.prog 144 #[.slice A l.length c, .func (.func 121) #[] #[]] w fun e w' => ListPost k72 72 w o e w' := by
  have hu72 := Try.underlying72
  have HC := Aside0.mk hC
  have Hc := Aside0.mk hc
  have HBy := Aside0.mk hb
  have HL := Aside0.mk hl
  rcases splitO_cases l with ⟨rs, x, hs, hx, hf⟩ | ⟨rs, hs, hf⟩
  · have HS := Aside0.mk hs
    have HX := Aside0.mk hx
    have : o = none := by rw [← ho, allO, hf]; rfl
    subst this
    clear hC hc hb hl ho hf hs hx
    go_enter Try.func144, Try.ntmps144
    go_wp2_with (go_at_call 107; refine (split_bad A c l rs x _ HC.out Hc.out HBy.out (by have := HL.out; omega) HS.out HX.out).mono ?_; rintro e w1 ⟨rfl, hB⟩; have HB1 := Aside0.mk hB; clear hB)
    exact ⟨rfl, HB1.out, x, HX.out, rfl⟩
  · obtain ⟨hj, hbs⟩ := splitO_some hb hf
    have hls := (joinP_some hj).2.1
    have hln := (joinP_some hj).2.2
    have HS := Aside0.mk hs
    have HBs := Aside0.mk hbs
    have HLs := Aside0.mk hls
    have hoo : mapO letterO rs = o := by rw [← ho, allO, hf]; rfl
    have HO := Aside0.mk hoo
    clear hC hc hb hl ho hf hs hj hbs hls hoo
    go_enter Try.func144, Try.ntmps144
    go_wp2_with (go_at_call 107; refine (split_ok A c l rs _ HC.out Hc.out HBy.out (by have := HL.out; omega) HS.out).mono ?_; rintro e w1 ⟨A1, c1, rfl, hG⟩; have HG := Aside0.mk hG; clear hG)
    go_loopw [5, 11] (fun u t wr => ∃ (i : Nat) (xs : List S72), t = .int .i64 (i : Int) ∧ i ≤ rs.length ∧ Aside0 (xs.length = i) ∧ Aside0 (Kd.R k72 72 wr w1.heap.size (fun k_ => w1.heap.size ≤ k_) u xs) ∧ Aside0 ((mapO letterO (rs.drop i)).bind (fun ys => some (xs ++ ys)) = o) ∧ Aside0 (Below w1.heap.size w1 wr)) (fun _ t _ => rs.length - (intOf t).toNat)
    case atStart => exact ⟨0, [], rfl, Nat.zero_le _, ⟨rfl⟩, ⟨Kd.R_nil _ _ _ _ _⟩, ⟨by rw [List.drop_zero, HO.out]; cases o <;> rfl⟩, ⟨Below.refl _ _⟩⟩
    case round =>
      clear HO
      obtain ⟨i, xs, rfl, hi, HV, HR, HO, HB⟩ := hrel
      obtain ⟨Av, cv, ev⟩ := Kd.R_slice HR.out
      subst ev
      by_cases hlt : i < rs.length
      · have b0 : decide ((i : Int) < (rs.length : Int)) = true := decide_eq_true (by omega)
        have b1 : (0 ≤ (i : Int)) = True := eq_true (by omega)
        have b2 : ((i : Int) < (rs.length : Int)) = True := eq_true (by omega)
        obtain ⟨g1, Ai, ci, hA, hx0, hci, hCi⟩ := rows_any HG.out i hlt
        subst hA
        have hx0 := cell_step hx0 HB.out
        have hCi := Kd.C_below hCi HB.out
        obtain ⟨r, hr⟩ : ∃ r, r = rs[i] := ⟨_, rfl⟩
        rw [← hr] at hx0 hci hCi
        have HCi := Aside0.mk hCi
        have Hci := Aside0.mk hci
        have HBi := Aside0.mk (show Byte r from hr ▸ HBs.out _ (List.getElem_mem hlt))
        have HLi := Aside0.mk (show r.length < 17592186044416 by have := HLs.out _ (List.getElem_mem hlt); rw [← hr] at this; omega)
        have hoo := HO.out
        rw [mapO_step hlt, ← hr] at hoo
        have hxl : xs.length ≤ 1024 := by rw [HV.out]; omega
        have HBw := Aside0.mk (below_then HG.out.keep HG.out.keep.size HB.out)
        clear hr hci hCi HO
        obtain ⟨q, hq⟩ : ∃ q, q = letterO r := ⟨_, rfl⟩
        rw [← hq] at hoo
        have HQ := Aside0.mk hq.symm
        clear hq
        cases q with
        | none =>
          have : o = none := hoo.symm
          subst this
          clear hoo
          go_wp2_with (go_at_call 121; refine (readLetter_calls Ai ci r none _ HCi.out Hci.out HBi.out HLi.out HQ.out).mono ?_; rintro e w2 ⟨hB, y, hy, rfl⟩; have HB2 := Aside0.mk (And.intro hy (below_then HBw.out HBw.out.size hB)); clear hB hy)
          exact ⟨rfl, HB2.out.2, _, HB2.out.1, rfl⟩
        | some x =>
          have hoo2 : (mapO letterO (rs.drop (i + 1))).bind (fun ys => some (xs ++ [x] ++ ys)) = o := by
            rw [← hoo]
            cases mapO letterO (rs.drop (i + 1)) <;> simp
          have HO := Aside0.mk hoo2
          clear hoo hoo2
          go_wp2_with (first
            | (go_at_call 121; refine (readLetter_calls Ai ci r (some x) _ HCi.out Hci.out HBi.out HLi.out HQ.out).mono ?_; rintro e w2 ⟨hB, A3, c3, A4, c4, rfl, hM⟩; have HM := Aside0.mk (Kd.M_lower_ k72 HB.out.size hM); have HB2 := Aside0.mk (below_then HB.out HB.out.size hB); have hs2 := HB2.out.size; have HR2 := Aside0.mk (Kd.R_below HR.out hB); clear hB hM)
            | (at_builtin; refine Kd.R_append k72 (w0 := w1) w1.heap.size rfl (.tmp 15) (.tmp 19) 88 72 (.agg #[(.int .i64 0), (.int .i64 0), (.int .i64 0), (.slice none 0 0), (.slice none 0 0)]) 72 rfl Try.underlying88 info72 rfl (by decide) (by omega) (.slice Av xs.length cv) xs x [.int .i64 x.f0.f0, .int .i64 x.f0.f1, .int .i64 x.f1, .slice A3 x.f2.length c3, .slice A4 x.f3.length c4] (fun k_ => w1.heap.size ≤ k_) (fun k_ => wr.heap.size ≤ k_) rfl rfl HM.out (fun k hk => ⟨Nat.le_trans HB.out.size hk, fun e => by have := Kd.R_lt_ HR.out k e.symm; omega⟩) (fun k hk => by omega) HR2.out HB2.out hs2 (by omega) ?_; intro v3 w3 hR3 hB3 hg3 hat3; have HR3 := Aside0.mk hR3; have HB3 := Aside0.mk hB3; clear hR3 hB3 hg3 hat3))
          exact ⟨⟨i + 1, xs ++ [x], by simp, by omega, ⟨by rw [List.length_append, HV.out]; rfl⟩, HR3, HO, HB3⟩, by simp only [intOf]; omega⟩
      · have b0 : decide ((i : Int) < (rs.length : Int)) = false := decide_eq_false (by omega)
        have hil : i = rs.length := by omega
        have hoo := HO.out
        rw [List.drop_eq_nil_of_le (by omega)] at hoo
        have : o = some xs := by rw [← hoo]; simp [mapO]
        subst this
        clear hoo HO
        go_wp2_with (fail)
        go_ret
        exact ⟨below_then HG.out.keep HG.out.keep.size HB.out, Av, cv, rfl, Kd.R_mono (Kd.R_lower HR.out HG.out.keep.size) (fun k hk => Nat.le_trans HG.out.keep.size hk)⟩
end Go.Proofs.Ytijccobeljoikaa.Ms

/- msg: what is proven, of bytes. -/
namespace Go.Proofs.Ytijccobeljoikaa.Ms
open Go.RowKit Go.Proofs.YtijccobeljoikaaW.PrintWords Go.Proofs.YtijccobeljoikaaW.PrintLast
open Go.Proofs.Ytijccobeljoikaa.Plain Go.Proofs.Ytijccobeljoikaa.Walks
set_option linter.unusedVariables false
set_option linter.unusedSimpArgs false

/-- What reading what is proven comes to. -/
def ProvenPost (w : World) (o : Option S101) (e : Ending) (w' : World) : Prop :=
  Below w.heap.size w w' ∧ match o with
    | some x => ∃ A5 c5 A6 c6, e = .returned (.agg #[.int .i64 x.f0, .int .i64 x.f1, .int .i64 x.f2.f0, .int .i64 x.f2.f1, .int .i64 x.f2.f2, .slice A5 x.f2.f3.length c5, .slice A6 x.f3.length c6]) ∧ k101.M w' w.heap.size (fun k => w.heap.size ≤ k) x [.int .i64 x.f0, .int .i64 x.f1, .int .i64 x.f2.f0, .int .i64 x.f2.f1, .int .i64 x.f2.f2, .slice A5 x.f2.f3.length c5, .slice A6 x.f3.length c6]
    | none => ∃ y, y ≠ 0 ∧ e = .panicked (fault y)
/-- Four cells, and what was there but block b is as it was. -/
def At4g (b : Nat) (p0 p1 p2 p3 : Addr) (v0 v1 v2 v3 : Value) (w0 w' : World) : Prop := w'.cell? p0 = some v0 ∧ w'.cell? p1 = some v1 ∧ w'.cell? p2 = some v2 ∧ w'.cell? p3 = some v3 ∧ w0.grownBy w' (some b)
theorem At4g.step {b : Nat} {p0 p1 p2 p3 : Addr} {v0 v1 v2 v3 : Value} {w0 w1 w2 : World} (h : At4g b p0 p1 p2 p3 v0 v1 v2 v3 w0 w1) (hB : Below w1.heap.size w1 w2) : At4g b p0 p1 p2 p3 v0 v1 v2 v3 w0 w2 :=
  ⟨cell_step h.1 hB, cell_step h.2.1 hB, cell_step h.2.2.1 hB, cell_step h.2.2.2.1 hB, h.2.2.2.2.trans (grown_of_below hB _)⟩
theorem grown_row (w : World) (g : Nat) (cs : Array Value) : w.grownBy (w.setRow g cs) (some g) := ⟨rfl, rfl, rfl, by simp, fun i _ hi => setRow_other w g i cs (fun e => hi (by rw [e]))⟩
theorem At4g.row {b : Nat} {p0 p1 p2 p3 : Addr} {v0 v1 v2 v3 : Value} {w0 w1 : World} (h : At4g b p0 p1 p2 p3 v0 v1 v2 v3 w0 w1) (h0 : p0.block ≠ b) (h1 : p1.block ≠ b) (h2 : p2.block ≠ b) (h3 : p3.block ≠ b) (cs : Array Value) : At4g b p0 p1 p2 p3 v0 v1 v2 v3 w0 (w1.setRow b cs) :=
  ⟨by rw [cell_setRow_other _ _ _ _ h0]; exact h.1, by rw [cell_setRow_other _ _ _ _ h1]; exact h.2.1, by rw [cell_setRow_other _ _ _ _ h2]; exact h.2.2.1, by rw [cell_setRow_other _ _ _ _ h3]; exact h.2.2.2.1, h.2.2.2.2.trans (grown_row _ _ _)⟩
def rdP_T3 : Bool × List (List Nat × List Nat) := (true, [([], []), ([0], [0]), ([1], [1]), ([], []), ([3], [3]), ([4], [4]), ([], []), ([6], [6]), ([7], [7]), ([8], [8]), ([], []), ([10], [10]), ([11], [11]), ([12, 9], [12]), ([2, 5, 9, 13], [2, 5, 9, 13]), ([14, 13, 0, 1, 2, 3, 4, 5, 6, 7, 8, 9, 10, 11, 12, 13, 14], [14])])
def rdP_B3 : List Nat := [0, 1, 3, 0, 8, 24, 0, 64, 192, 448, 0, 1024, 3072, 8128, 16383, 32767]
theorem rdP_tab3 : rtab .any (opsOf Try.f146 3) = rdP_T3 := by kernel_rfl
theorem rdP_bits3 : waitsOk rdP_T3.2 rdP_B3 = true := by kernel_rfl
set_option maxHeartbeats 8000000 in
set_option maxRecDepth 100000 in
theorem readProven_calls (A : Option Addr) (c : Nat) (l : List Int) (o : Option S101) (w : World) (hC : Kd.C (Kd.int .u8) w A l.length l) (hc : l.length ≤ c) (hb : Byte l) (hl : l.length < 17592186044416) (ho : provenO l = o) :
    Calls Try.prog 146 #[.slice A l.length c] w fun e w' => ProvenPost w o e w' := by
  have hu101 := Try.underlying101
  have hu87 := Try.underlying87
  have HC := Aside0.mk (Kd.C_alloc hC (.cells #[.int .i64 0, .int .i64 0, .int .i64 0, .int .i64 0, .int .i64 0, .slice none 0 0, .slice none 0 0] 101))
  have HB0 := Aside0.mk (below_alloc (Below.refl w.heap.size w) (.cells #[.int .i64 0, .int .i64 0, .int .i64 0, .int .i64 0, .int .i64 0, .slice none 0 0, .slice none 0 0] 101))
  have Hc := Aside0.mk hc
  have HBy := Aside0.mk hb
  have HL := Aside0.mk hl
  rcases split_cases l 3 with ⟨rs, x, hs, hbad, hf⟩ | ⟨rs, hs, hn, hf⟩
  · have HS := Aside0.mk hs
    have HX := Aside0.mk hbad
    have : o = none := by rw [← ho, provenO, hf]; rfl
    subst this
    clear hC hc hb hl ho hf hs hbad
    go_enter Try.func146, Try.ntmps146
    go_wp2_with (go_at_call 148; refine (fields_bad A c 3 l rs x _ HC.out Hc.out HBy.out (by have := HL.out; omega) HS.out HX.out).mono ?_; rintro e w1 ⟨⟨y, hy, rfl⟩, hB⟩; have HB1 := Aside0.mk (And.intro hy (below_then HB0.out (below_size HB0.out) hB)); clear hB hy)
    exact ⟨rfl, HB1.out.2, y, HB1.out.1, rfl⟩
  · obtain ⟨s0, s1, s2, rfl⟩ := three hn
    obtain ⟨hj, hbs, _⟩ := fieldsO_some hb hf
    have hls := (joinP_some hj).2.1
    have HS := Aside0.mk hs
    have Hb0 := Aside0.mk (hbs s0 (by simp))
    have Hl0 := Aside0.mk (hls s0 (by simp))
    have Hb1 := Aside0.mk (hbs s1 (by simp))
    have Hl1 := Aside0.mk (hls s1 (by simp))
    have Hb2 := Aside0.mk (hbs s2 (by simp))
    have Hl2 := Aside0.mk (hls s2 (by simp))
    have hoo : o = (intsO s0 2).bind fun v => (entryO s1).bind fun e => (allO letterO s2).bind fun l => some ⟨v.getD 0 0, v.getD 1 0, e, l⟩ := by rw [← ho, provenO, hf]; rfl
    clear hC hc hb hl ho hf hs hj hbs hls hn
    go_enter Try.func146, Try.ntmps146
    go_wp2_with (fail)
    refine (fields_ok A c 3 l [s0, s1, s2] _ HC.out Hc.out HBy.out (by have := HL.out; omega) HS.out rfl).mono ?_
    rintro e w1 ⟨A1, c1, rfl, hG⟩
    obtain ⟨g1, rfl, hg1⟩ := got_head hG (by simp)
    obtain ⟨A2, c2, y0, hR0⟩ := rows_at hG 0 (by simp)
    obtain ⟨A3, c3, y1, hR1⟩ := rows_at hG 1 (by simp)
    obtain ⟨A5, c5, y2, hR2⟩ := rows_at hG 2 (by simp)
    simp only [List.getElem_cons_zero, List.getElem_cons_succ] at y0 hR0 y1 hR1 y2 hR2
    have hw0 : (w.alloc (.cells #[.int .i64 0, .int .i64 0, .int .i64 0, .int .i64 0, .int .i64 0, .slice none 0 0, .slice none 0 0] 101)).heap.size = w.heap.size + 1 := by simp
    rw [hw0] at hR0 hR1 hR2 hg1
    have HB1 := Aside0.mk (below_then HB0.out (below_size HB0.out) hG.keep)
    have HR0 := Aside0.mk hR0
    have HR1 := Aside0.mk (Kd.R_mono (Kd.R_lower hR1 (Nat.le_succ w.heap.size)) (fun k hk => (show w.heap.size < k from hk)))
    have HR2a := Aside0.mk (Kd.R_mono (Kd.R_lower hR2 (Nat.le_succ w.heap.size)) (fun k hk => (show w.heap.size < k from hk)))
    have HY1 := Aside0.mk (And.intro y1 y2)
    have HN1 := Aside0.mk (show g1 ≠ w.heap.size by omega)
    have HBX1 := Aside0.mk ((hG.keep.block w.heap.size (by simp)).trans (blk_new w _))
    clear hG hR0 hR1 hR2 hg1 y1 y2 hw0
    rcases ints_cases s0 2 with ⟨vs, x, hi, hbad, hf⟩ | ⟨vs, hi, hn, hf⟩
    · rw [hf] at hoo
      have : o = none := hoo
      subst this
      have HI := Aside0.mk hi
      have HX := Aside0.mk hbad
      clear hoo hf hi hbad
      go_wp2_with (go_at_call 108; refine (ints_bad A2 c2 2 s0 vs x w1 (Kd.R_reads' HR0.out).2.2 (Kd.R_reads' HR0.out).2.1 Hb0.out (by have := Hl0.out; omega) HI.out HX.out).mono ?_; rintro e w2 ⟨rfl, hB⟩; have HB2 := Aside0.mk (below_then HB1.out HB1.out.size hB); clear hB)
      exact ⟨rfl, HB2.out, 12, by decide, rfl⟩
    · obtain ⟨v0, v1, rfl⟩ := two hn
      rw [hf] at hoo
      have HI := Aside0.mk hi
      have hoo2 : o = (entryO s1).bind fun e => (allO letterO s2).bind fun l => some ⟨v0, v1, e, l⟩ := hoo
      clear hoo hf hi hn
      go_wp2_with (fail)
      refine (ints_ok A2 c2 2 s0 [v0, v1] w1 (Kd.R_reads' HR0.out).2.2 (Kd.R_reads' HR0.out).2.1 Hb0.out (by have := Hl0.out; omega) HI.out rfl).mono ?_
      rintro e w2 ⟨A4, c4, rfl, hG⟩
      obtain ⟨g4, rfl, hg4⟩ := got_head hG (by simp)
      have z0 := nums_at hG 0 (by simp)
      have z1 := nums_at hG 1 (by simp)
      simp only [List.getElem_cons_zero, List.getElem_cons_succ] at z0 z1
      have HB2 := Aside0.mk (below_then HB1.out HB1.out.size hG.keep)
      have HR3 := Aside0.mk (Kd.R_below HR1.out hG.keep)
      have HR2 := Aside0.mk (Kd.R_below HR2a.out hG.keep)
      have HZ := Aside0.mk (And.intro z0 (And.intro z1 (And.intro (cell_step HY1.out.1 hG.keep) (cell_step HY1.out.2 hG.keep))))
      have HBX2 := Aside0.mk ((hG.keep.block _ (blk_lt2 HBX1.out)).trans HBX1.out)
      have HNE := Aside0.mk (And.intro (show g4 ≠ w.heap.size by have := blk_lt2 HBX1.out; omega) HN1.out)
      clear hG hg4 z0 z1 HR1 HB1 HY1 y0 HBX1 HR2a HN1
      obtain ⟨qe, hqe⟩ : ∃ q, entryO s1 = q := ⟨_, rfl⟩
      rw [hqe] at hoo2
      have HE := Aside0.mk hqe
      clear hqe
      cases qe with
      | none =>
        have : o = none := hoo2
        subst this
        clear hoo2
        go_upto_region 3 with (fail)
        refine start_ (n := 16) (S := At4g w.heap.size ⟨g4, 0, none⟩ ⟨g4, 1, none⟩ ⟨g1, 1, none⟩ ⟨g1, 2, none⟩ (.int .i64 v0) (.int .i64 v1) (.slice A3 s1.length c3) (.slice A5 s2.length c5) w2) (ds := []) #[false, false, false, false, false, false, false, false, false, false, false, false, false, false, false, false] (by kernel_rfl) rfl rfl
          ⟨HZ.out.1, HZ.out.2.1, HZ.out.2.2.1, HZ.out.2.2.2, grown_of_below (below_drew1 (Below.refl _ _)) _⟩ (fun hHeld => ?_)
        have HBX3 := Aside0.mk (show w2.drew.heap[w.heap.size]? = _ from HBX2.out)
        generalize w2.drew = w3 at hHeld HBX3 ⊢
        refine with_tabW rdP_tab3 rdP_bits3 (fun HT_ HW_ => ?_)
        refine pure_ (i := 0) (N := some 11) (v := ?_) (a' := ?_) #[true, false, false, false, false, false, false, false, false, false, false, false, false, false, false, false] rfl rfl (any_of HT_.out (by kernel_rfl)) (fun _ _ _ h => h) (Or.inl ⟨by rfl, ?_⟩) ?_ ?_
        rotate_left
        · intro w'
          go_simp
          with_reducible rfl
        rotate_left
        · simp only [Act.put, List.setIfInBounds_toArray, List.set_cons_zero, List.set_cons_succ, i64_w, i32_w]
          rfl
        refine pure_ (i := 1) (N := some 12) (v := ?_) (a' := ?_) #[true, true, false, false, false, false, false, false, false, false, false, false, false, false, false, false] rfl rfl (any_of HT_.out (by kernel_rfl)) (fun _ _ _ h => h) (Or.inl ⟨by rfl, ?_⟩) ?_ ?_
        rotate_left
        · intro w'
          go_simp
          with_reducible rfl
        rotate_left
        · simp only [Act.put, List.setIfInBounds_toArray, List.set_cons_zero, List.set_cons_succ, i64_w, i32_w]
          rfl
        refine take_ (i := 2) (N := some 13) (v := ?_) (a' := ?_) #[true, true, true, false, false, false, false, false, false, false, false, false, false, false, false, false] rfl rfl (take_ofW HT_.out HW_.out (by kernel_rfl)) (fun _ _ _ h => h) (Or.inl ⟨by rfl, ?_⟩) hHeld ?_ ?_
        rotate_left
        · rintro w' ⟨s0, s1, s2, s3, s4⟩
          go_simp
          with_reducible rfl
        rotate_left
        · simp only [Act.put, List.setIfInBounds_toArray, List.set_cons_zero, List.set_cons_succ, i64_w, i32_w]
          rfl
        refine pure_ (i := 3) (N := some 14) (v := ?_) (a' := ?_) #[true, true, true, true, false, false, false, false, false, false, false, false, false, false, false, false] rfl rfl (any_of HT_.out (by kernel_rfl)) (fun _ _ _ h => h) (Or.inl ⟨by rfl, ?_⟩) ?_ ?_
        rotate_left
        · intro w'
          go_simp
          with_reducible rfl
        rotate_left
        · simp only [Act.put, List.setIfInBounds_toArray, List.set_cons_zero, List.set_cons_succ, i64_w, i32_w]
          rfl
        refine pure_ (i := 4) (N := some 15) (v := ?_) (a' := ?_) #[true, true, true, true, true, false, false, false, false, false, false, false, false, false, false, false] rfl rfl (any_of HT_.out (by kernel_rfl)) (fun _ _ _ h => h) (Or.inl ⟨by rfl, ?_⟩) ?_ ?_
        rotate_left
        · intro w'
          go_simp
          with_reducible rfl
        rotate_left
        · simp only [Act.put, List.setIfInBounds_toArray, List.set_cons_zero, List.set_cons_succ, i64_w, i32_w]
          rfl
        refine take_ (i := 5) (N := some 16) (v := ?_) (a' := ?_) #[true, true, true, true, true, true, false, false, false, false, false, false, false, false, false, false] rfl rfl (take_ofW HT_.out HW_.out (by kernel_rfl)) (fun _ _ _ h => h) (Or.inl ⟨by rfl, ?_⟩) hHeld ?_ ?_
        rotate_left
        · rintro w' ⟨s0, s1, s2, s3, s4⟩
          go_simp
          with_reducible rfl
        rotate_left
        · simp only [Act.put, List.setIfInBounds_toArray, List.set_cons_zero, List.set_cons_succ, i64_w, i32_w]
          rfl
        refine pure_ (i := 6) (N := some 17) (v := ?_) (a' := ?_) #[true, true, true, true, true, true, true, false, false, false, false, false, false, false, false, false] rfl rfl (any_of HT_.out (by kernel_rfl)) (fun _ _ _ h => h) (Or.inl ⟨by rfl, ?_⟩) ?_ ?_
        rotate_left
        · intro w'
          go_simp
          with_reducible rfl
        rotate_left
        · simp only [Act.put, List.setIfInBounds_toArray, List.set_cons_zero, List.set_cons_succ, i64_w, i32_w]
          rfl
        refine pure_ (i := 7) (N := some 18) (v := ?_) (a' := ?_) #[true, true, true, true, true, true, true, true, false, false, false, false, false, false, false, false] rfl rfl (any_of HT_.out (by kernel_rfl)) (fun _ _ _ h => h) (Or.inl ⟨by rfl, ?_⟩) ?_ ?_
        rotate_left
        · intro w'
          go_simp
          with_reducible rfl
        rotate_left
        · simp only [Act.put, List.setIfInBounds_toArray, List.set_cons_zero, List.set_cons_succ, i64_w, i32_w]
          rfl
        refine take_ (i := 8) (N := some 19) (v := ?_) (a' := ?_) #[true, true, true, true, true, true, true, true, true, false, false, false, false, false, false, false] rfl rfl (take_ofW HT_.out HW_.out (by kernel_rfl)) (fun _ _ _ h => h) (Or.inl ⟨by rfl, ?_⟩) hHeld ?_ ?_
        rotate_left
        · rintro w' ⟨s0, s1, s2, s3, s4⟩
          go_simp
          with_reducible rfl
        rotate_left
        · simp only [Act.put, List.setIfInBounds_toArray, List.set_cons_zero, List.set_cons_succ, i64_w, i32_w]
          rfl
        refine pure_ (i := 10) (N := some 21) (v := ?_) (a' := ?_) #[true, true, true, true, true, true, true, true, true, false, true, false, false, false, false, false] rfl rfl (any_of HT_.out (by kernel_rfl)) (fun _ _ _ h => h) (Or.inl ⟨by rfl, ?_⟩) ?_ ?_
        rotate_left
        · intro w'
          go_simp
          with_reducible rfl
        rotate_left
        · simp only [Act.put, List.setIfInBounds_toArray, List.set_cons_zero, List.set_cons_succ, i64_w, i32_w]
          rfl
        refine pure_ (i := 11) (N := some 22) (v := ?_) (a' := ?_) #[true, true, true, true, true, true, true, true, true, false, true, true, false, false, false, false] rfl rfl (any_of HT_.out (by kernel_rfl)) (fun _ _ _ h => h) (Or.inl ⟨by rfl, ?_⟩) ?_ ?_
        rotate_left
        · intro w'
          go_simp
          with_reducible rfl
        rotate_left
        · simp only [Act.put, List.setIfInBounds_toArray, List.set_cons_zero, List.set_cons_succ, i64_w, i32_w]
          rfl
        refine take_ (i := 12) (N := some 23) (v := ?_) (a' := ?_) #[true, true, true, true, true, true, true, true, true, false, true, true, true, false, false, false] rfl rfl (take_ofW HT_.out HW_.out (by kernel_rfl)) (fun _ _ _ h => h) (Or.inl ⟨by rfl, ?_⟩) hHeld ?_ ?_
        rotate_left
        · rintro w' ⟨s0, s1, s2, s3, s4⟩
          go_simp
          with_reducible rfl
        rotate_left
        · simp only [Act.put, List.setIfInBounds_toArray, List.set_cons_zero, List.set_cons_succ, i64_w, i32_w]
          rfl
        refine one_ (i := 9) (N := some 20) #[true, true, true, true, true, true, true, true, true, true, true, true, true, false, false, false] rfl rfl (one_of HT_.out (by kernel_rfl)) (by decide) (fun K hK => ?_)
        go_simp
        go_at_call 124
        refine (readEntry_calls A3 c3 s1 none _ (Kd.R_reads' (Kd.R_grown HR3.out hHeld.2.2.2.2 (fun k hk e => by injection e with e; omega))).2.2 (Kd.R_reads' HR3.out).2.1 Hb1.out (by have := Hl1.out; omega) HE.out).mono ?_
        rintro e w7 ⟨hB, y, hy, rfl⟩
        have HBW := (HB2.out.grown hHeld.2.2.2.2 HB2.out.size (fun k hk => by injection hk with hk; omega))
        exact ⟨rfl, below_then HBW HBW.size hB, y, hy, rfl⟩
      | some x =>
        obtain ⟨qa, hqa⟩ : ∃ q, allO letterO s2 = q := ⟨_, rfl⟩
        simp only [Option.bind_some] at hoo2
        rw [hqa] at hoo2
        have HA := Aside0.mk hqa
        clear hqa
        cases qa with
        | none =>
          have : o = none := hoo2
          subst this
          clear hoo2
          go_upto_region 3 with (fail)
          refine start_ (n := 16) (S := At4g w.heap.size ⟨g4, 0, none⟩ ⟨g4, 1, none⟩ ⟨g1, 1, none⟩ ⟨g1, 2, none⟩ (.int .i64 v0) (.int .i64 v1) (.slice A3 s1.length c3) (.slice A5 s2.length c5) w2) (ds := []) #[false, false, false, false, false, false, false, false, false, false, false, false, false, false, false, false] (by kernel_rfl) rfl rfl
            ⟨HZ.out.1, HZ.out.2.1, HZ.out.2.2.1, HZ.out.2.2.2, grown_of_below (below_drew1 (Below.refl _ _)) _⟩ (fun hHeld => ?_)
          have HBX3 := Aside0.mk (show w2.drew.heap[w.heap.size]? = _ from HBX2.out)
          generalize w2.drew = w3 at hHeld HBX3 ⊢
          refine with_tabW rdP_tab3 rdP_bits3 (fun HT_ HW_ => ?_)
          refine pure_ (i := 0) (N := some 11) (v := ?_) (a' := ?_) #[true, false, false, false, false, false, false, false, false, false, false, false, false, false, false, false] rfl rfl (any_of HT_.out (by kernel_rfl)) (fun _ _ _ h => h) (Or.inl ⟨by rfl, ?_⟩) ?_ ?_
          rotate_left
          · intro w'
            go_simp
            with_reducible rfl
          rotate_left
          · simp only [Act.put, List.setIfInBounds_toArray, List.set_cons_zero, List.set_cons_succ, i64_w, i32_w]
            rfl
          refine pure_ (i := 1) (N := some 12) (v := ?_) (a' := ?_) #[true, true, false, false, false, false, false, false, false, false, false, false, false, false, false, false] rfl rfl (any_of HT_.out (by kernel_rfl)) (fun _ _ _ h => h) (Or.inl ⟨by rfl, ?_⟩) ?_ ?_
          rotate_left
          · intro w'
            go_simp
            with_reducible rfl
          rotate_left
          · simp only [Act.put, List.setIfInBounds_toArray, List.set_cons_zero, List.set_cons_succ, i64_w, i32_w]
            rfl
          refine take_ (i := 2) (N := some 13) (v := ?_) (a' := ?_) #[true, true, true, false, false, false, false, false, false, false, false, false, false, false, false, false] rfl rfl (take_ofW HT_.out HW_.out (by kernel_rfl)) (fun _ _ _ h => h) (Or.inl ⟨by rfl, ?_⟩) hHeld ?_ ?_
          rotate_left
          · rintro w' ⟨s0, s1, s2, s3, s4⟩
            go_simp
            with_reducible rfl
          rotate_left
          · simp only [Act.put, List.setIfInBounds_toArray, List.set_cons_zero, List.set_cons_succ, i64_w, i32_w]
            rfl
          refine pure_ (i := 3) (N := some 14) (v := ?_) (a' := ?_) #[true, true, true, true, false, false, false, false, false, false, false, false, false, false, false, false] rfl rfl (any_of HT_.out (by kernel_rfl)) (fun _ _ _ h => h) (Or.inl ⟨by rfl, ?_⟩) ?_ ?_
          rotate_left
          · intro w'
            go_simp
            with_reducible rfl
          rotate_left
          · simp only [Act.put, List.setIfInBounds_toArray, List.set_cons_zero, List.set_cons_succ, i64_w, i32_w]
            rfl
          refine pure_ (i := 4) (N := some 15) (v := ?_) (a' := ?_) #[true, true, true, true, true, false, false, false, false, false, false, false, false, false, false, false] rfl rfl (any_of HT_.out (by kernel_rfl)) (fun _ _ _ h => h) (Or.inl ⟨by rfl, ?_⟩) ?_ ?_
          rotate_left
          · intro w'
            go_simp
            with_reducible rfl
          rotate_left
          · simp only [Act.put, List.setIfInBounds_toArray, List.set_cons_zero, List.set_cons_succ, i64_w, i32_w]
            rfl
          refine take_ (i := 5) (N := some 16) (v := ?_) (a' := ?_) #[true, true, true, true, true, true, false, false, false, false, false, false, false, false, false, false] rfl rfl (take_ofW HT_.out HW_.out (by kernel_rfl)) (fun _ _ _ h => h) (Or.inl ⟨by rfl, ?_⟩) hHeld ?_ ?_
          rotate_left
          · rintro w' ⟨s0, s1, s2, s3, s4⟩
            go_simp
            with_reducible rfl
          rotate_left
          · simp only [Act.put, List.setIfInBounds_toArray, List.set_cons_zero, List.set_cons_succ, i64_w, i32_w]
            rfl
          refine pure_ (i := 6) (N := some 17) (v := ?_) (a' := ?_) #[true, true, true, true, true, true, true, false, false, false, false, false, false, false, false, false] rfl rfl (any_of HT_.out (by kernel_rfl)) (fun _ _ _ h => h) (Or.inl ⟨by rfl, ?_⟩) ?_ ?_
          rotate_left
          · intro w'
            go_simp
            with_reducible rfl
          rotate_left
          · simp only [Act.put, List.setIfInBounds_toArray, List.set_cons_zero, List.set_cons_succ, i64_w, i32_w]
            rfl
          refine pure_ (i := 7) (N := some 18) (v := ?_) (a' := ?_) #[true, true, true, true, true, true, true, true, false, false, false, false, false, false, false, false] rfl rfl (any_of HT_.out (by kernel_rfl)) (fun _ _ _ h => h) (Or.inl ⟨by rfl, ?_⟩) ?_ ?_
          rotate_left
          · intro w'
            go_simp
            with_reducible rfl
          rotate_left
          · simp only [Act.put, List.setIfInBounds_toArray, List.set_cons_zero, List.set_cons_succ, i64_w, i32_w]
            rfl
          refine take_ (i := 8) (N := some 19) (v := ?_) (a' := ?_) #[true, true, true, true, true, true, true, true, true, false, false, false, false, false, false, false] rfl rfl (take_ofW HT_.out HW_.out (by kernel_rfl)) (fun _ _ _ h => h) (Or.inl ⟨by rfl, ?_⟩) hHeld ?_ ?_
          rotate_left
          · rintro w' ⟨s0, s1, s2, s3, s4⟩
            go_simp
            with_reducible rfl
          rotate_left
          · simp only [Act.put, List.setIfInBounds_toArray, List.set_cons_zero, List.set_cons_succ, i64_w, i32_w]
            rfl
          refine pure_ (i := 10) (N := some 21) (v := ?_) (a' := ?_) #[true, true, true, true, true, true, true, true, true, false, true, false, false, false, false, false] rfl rfl (any_of HT_.out (by kernel_rfl)) (fun _ _ _ h => h) (Or.inl ⟨by rfl, ?_⟩) ?_ ?_
          rotate_left
          · intro w'
            go_simp
            with_reducible rfl
          rotate_left
          · simp only [Act.put, List.setIfInBounds_toArray, List.set_cons_zero, List.set_cons_succ, i64_w, i32_w]
            rfl
          refine pure_ (i := 11) (N := some 22) (v := ?_) (a' := ?_) #[true, true, true, true, true, true, true, true, true, false, true, true, false, false, false, false] rfl rfl (any_of HT_.out (by kernel_rfl)) (fun _ _ _ h => h) (Or.inl ⟨by rfl, ?_⟩) ?_ ?_
          rotate_left
          · intro w'
            go_simp
            with_reducible rfl
          rotate_left
          · simp only [Act.put, List.setIfInBounds_toArray, List.set_cons_zero, List.set_cons_succ, i64_w, i32_w]
            rfl
          refine take_ (i := 12) (N := some 23) (v := ?_) (a' := ?_) #[true, true, true, true, true, true, true, true, true, false, true, true, true, false, false, false] rfl rfl (take_ofW HT_.out HW_.out (by kernel_rfl)) (fun _ _ _ h => h) (Or.inl ⟨by rfl, ?_⟩) hHeld ?_ ?_
          rotate_left
          · rintro w' ⟨s0, s1, s2, s3, s4⟩
            go_simp
            with_reducible rfl
          rotate_left
          · simp only [Act.put, List.setIfInBounds_toArray, List.set_cons_zero, List.set_cons_succ, i64_w, i32_w]
            rfl
          refine one_ (i := 9) (N := some 20) #[true, true, true, true, true, true, true, true, true, true, true, true, true, false, false, false] rfl rfl (one_of HT_.out (by kernel_rfl)) (by decide) (fun K hK => ?_)
          refine goes_ Try.func124 (by kernel_rfl) rfl #[.slice A3 s1.length c3] (by rfl) rfl rfl (by (try simp only [List.map_toArray, List.map_cons, List.map_nil]); first | done | rfl) ?_
          refine (readEntry_calls A3 c3 s1 (some x) _ (Kd.R_reads' (Kd.R_grown HR3.out hHeld.2.2.2.2 (fun k hk e => by injection e with e; omega))).2.2 (Kd.R_reads' HR3.out).2.1 Hb1.out (by have := Hl1.out; omega) HE.out).mono ?_
          rintro e w7 ⟨hB, A6, c6, rfl, hR⟩
          refine ⟨_, rfl, ?_⟩
          have HBX7 := Aside0.mk ((hB.block _ (blk_lt2 HBX3.out)).trans HBX3.out)
          have HS7 := Aside0.mk (Kd.R_mono (Kd.R_lower hR (HB2.out.grown hHeld.2.2.2.2 HB2.out.size (fun k hk => by injection hk with hk; omega)).size) (fun k hk => (show w.heap.size < k by have := hHeld.2.2.2.2.size; have := blk_lt2 HBX2.out; omega)))
          refine hK.out _ _ (hHeld.step hB) (fun hHeld => ?_)
          clear hK K hR hB
          refine norm_ (a' := ?_) ?_ ?_
          rotate_left
          · show Act.put _ (some 20) _ = _
            simp only [Act.put, List.setIfInBounds_toArray, List.set_cons_zero, List.set_cons_succ, i64_w, i32_w]
            rfl
          refine one_ (i := 13) (N := some 24) #[true, true, true, true, true, true, true, true, true, true, true, true, true, true, false, false] rfl rfl (one_of HT_.out (by kernel_rfl)) (by decide) (fun K hK => ?_)
          go_simp
          go_at_call 144
          refine (allLetters_calls A5 c5 s2 none _ (Kd.R_reads' (Kd.R_grown HR2.out hHeld.2.2.2.2 (fun k hk e => by injection e with e; omega))).2.2 (Kd.R_reads' HR2.out).2.1 Hb2.out (by have := Hl2.out; omega) HA.out).mono ?_
          rintro e w8 ⟨hB, y, hy, rfl⟩
          have HBW := (HB2.out.grown hHeld.2.2.2.2 HB2.out.size (fun k hk => by injection hk with hk; omega))
          exact ⟨rfl, below_then HBW HBW.size hB, y, hy, rfl⟩
        | some ys =>
          have : o = some ⟨v0, v1, x, ys⟩ := hoo2
          subst this
          clear hoo2
          go_upto_region 3 with (fail)
          refine start_ (n := 16) (S := At4g w.heap.size ⟨g4, 0, none⟩ ⟨g4, 1, none⟩ ⟨g1, 1, none⟩ ⟨g1, 2, none⟩ (.int .i64 v0) (.int .i64 v1) (.slice A3 s1.length c3) (.slice A5 s2.length c5) w2) (ds := []) #[false, false, false, false, false, false, false, false, false, false, false, false, false, false, false, false] (by kernel_rfl) rfl rfl
            ⟨HZ.out.1, HZ.out.2.1, HZ.out.2.2.1, HZ.out.2.2.2, grown_of_below (below_drew1 (Below.refl _ _)) _⟩ (fun hHeld => ?_)
          have HBX3 := Aside0.mk (show w2.drew.heap[w.heap.size]? = _ from HBX2.out)
          generalize w2.drew = w3 at hHeld HBX3 ⊢
          refine with_tabW rdP_tab3 rdP_bits3 (fun HT_ HW_ => ?_)
          refine pure_ (i := 0) (N := some 11) (v := ?_) (a' := ?_) #[true, false, false, false, false, false, false, false, false, false, false, false, false, false, false, false] rfl rfl (any_of HT_.out (by kernel_rfl)) (fun _ _ _ h => h) (Or.inl ⟨by rfl, ?_⟩) ?_ ?_
          rotate_left
          · intro w'
            go_simp
            with_reducible rfl
          rotate_left
          · simp only [Act.put, List.setIfInBounds_toArray, List.set_cons_zero, List.set_cons_succ, i64_w, i32_w]
            rfl
          refine pure_ (i := 1) (N := some 12) (v := ?_) (a' := ?_) #[true, true, false, false, false, false, false, false, false, false, false, false, false, false, false, false] rfl rfl (any_of HT_.out (by kernel_rfl)) (fun _ _ _ h => h) (Or.inl ⟨by rfl, ?_⟩) ?_ ?_
          rotate_left
          · intro w'
            go_simp
            with_reducible rfl
          rotate_left
          · simp only [Act.put, List.setIfInBounds_toArray, List.set_cons_zero, List.set_cons_succ, i64_w, i32_w]
            rfl
          refine take_ (i := 2) (N := some 13) (v := ?_) (a' := ?_) #[true, true, true, false, false, false, false, false, false, false, false, false, false, false, false, false] rfl rfl (take_ofW HT_.out HW_.out (by kernel_rfl)) (fun _ _ _ h => h) (Or.inl ⟨by rfl, ?_⟩) hHeld ?_ ?_
          rotate_left
          · rintro w' ⟨s0, s1, s2, s3, s4⟩
            go_simp
            with_reducible rfl
          rotate_left
          · simp only [Act.put, List.setIfInBounds_toArray, List.set_cons_zero, List.set_cons_succ, i64_w, i32_w]
            rfl
          refine pure_ (i := 3) (N := some 14) (v := ?_) (a' := ?_) #[true, true, true, true, false, false, false, false, false, false, false, false, false, false, false, false] rfl rfl (any_of HT_.out (by kernel_rfl)) (fun _ _ _ h => h) (Or.inl ⟨by rfl, ?_⟩) ?_ ?_
          rotate_left
          · intro w'
            go_simp
            with_reducible rfl
          rotate_left
          · simp only [Act.put, List.setIfInBounds_toArray, List.set_cons_zero, List.set_cons_succ, i64_w, i32_w]
            rfl
          refine pure_ (i := 4) (N := some 15) (v := ?_) (a' := ?_) #[true, true, true, true, true, false, false, false, false, false, false, false, false, false, false, false] rfl rfl (any_of HT_.out (by kernel_rfl)) (fun _ _ _ h => h) (Or.inl ⟨by rfl, ?_⟩) ?_ ?_
          rotate_left
          · intro w'
            go_simp
            with_reducible rfl
          rotate_left
          · simp only [Act.put, List.setIfInBounds_toArray, List.set_cons_zero, List.set_cons_succ, i64_w, i32_w]
            rfl
          refine take_ (i := 5) (N := some 16) (v := ?_) (a' := ?_) #[true, true, true, true, true, true, false, false, false, false, false, false, false, false, false, false] rfl rfl (take_ofW HT_.out HW_.out (by kernel_rfl)) (fun _ _ _ h => h) (Or.inl ⟨by rfl, ?_⟩) hHeld ?_ ?_
          rotate_left
          · rintro w' ⟨s0, s1, s2, s3, s4⟩
            go_simp
            with_reducible rfl
          rotate_left
          · simp only [Act.put, List.setIfInBounds_toArray, List.set_cons_zero, List.set_cons_succ, i64_w, i32_w]
            rfl
          refine pure_ (i := 6) (N := some 17) (v := ?_) (a' := ?_) #[true, true, true, true, true, true, true, false, false, false, false, false, false, false, false, false] rfl rfl (any_of HT_.out (by kernel_rfl)) (fun _ _ _ h => h) (Or.inl ⟨by rfl, ?_⟩) ?_ ?_
          rotate_left
          · intro w'
            go_simp
            with_reducible rfl
          rotate_left
          · simp only [Act.put, List.setIfInBounds_toArray, List.set_cons_zero, List.set_cons_succ, i64_w, i32_w]
            rfl
          refine pure_ (i := 7) (N := some 18) (v := ?_) (a' := ?_) #[true, true, true, true, true, true, true, true, false, false, false, false, false, false, false, false] rfl rfl (any_of HT_.out (by kernel_rfl)) (fun _ _ _ h => h) (Or.inl ⟨by rfl, ?_⟩) ?_ ?_
          rotate_left
          · intro w'
            go_simp
            with_reducible rfl
          rotate_left
          · simp only [Act.put, List.setIfInBounds_toArray, List.set_cons_zero, List.set_cons_succ, i64_w, i32_w]
            rfl
          refine take_ (i := 8) (N := some 19) (v := ?_) (a' := ?_) #[true, true, true, true, true, true, true, true, true, false, false, false, false, false, false, false] rfl rfl (take_ofW HT_.out HW_.out (by kernel_rfl)) (fun _ _ _ h => h) (Or.inl ⟨by rfl, ?_⟩) hHeld ?_ ?_
          rotate_left
          · rintro w' ⟨s0, s1, s2, s3, s4⟩
            go_simp
            with_reducible rfl
          rotate_left
          · simp only [Act.put, List.setIfInBounds_toArray, List.set_cons_zero, List.set_cons_succ, i64_w, i32_w]
            rfl
          refine pure_ (i := 10) (N := some 21) (v := ?_) (a' := ?_) #[true, true, true, true, true, true, true, true, true, false, true, false, false, false, false, false] rfl rfl (any_of HT_.out (by kernel_rfl)) (fun _ _ _ h => h) (Or.inl ⟨by rfl, ?_⟩) ?_ ?_
          rotate_left
          · intro w'
            go_simp
            with_reducible rfl
          rotate_left
          · simp only [Act.put, List.setIfInBounds_toArray, List.set_cons_zero, List.set_cons_succ, i64_w, i32_w]
            rfl
          refine pure_ (i := 11) (N := some 22) (v := ?_) (a' := ?_) #[true, true, true, true, true, true, true, true, true, false, true, true, false, false, false, false] rfl rfl (any_of HT_.out (by kernel_rfl)) (fun _ _ _ h => h) (Or.inl ⟨by rfl, ?_⟩) ?_ ?_
          rotate_left
          · intro w'
            go_simp
            with_reducible rfl
          rotate_left
          · simp only [Act.put, List.setIfInBounds_toArray, List.set_cons_zero, List.set_cons_succ, i64_w, i32_w]
            rfl
          refine take_ (i := 12) (N := some 23) (v := ?_) (a' := ?_) #[true, true, true, true, true, true, true, true, true, false, true, true, true, false, false, false] rfl rfl (take_ofW HT_.out HW_.out (by kernel_rfl)) (fun _ _ _ h => h) (Or.inl ⟨by rfl, ?_⟩) hHeld ?_ ?_
          rotate_left
          · rintro w' ⟨s0, s1, s2, s3, s4⟩
            go_simp
            with_reducible rfl
          rotate_left
          · simp only [Act.put, List.setIfInBounds_toArray, List.set_cons_zero, List.set_cons_succ, i64_w, i32_w]
            rfl
          refine one_ (i := 9) (N := some 20) #[true, true, true, true, true, true, true, true, true, true, true, true, true, false, false, false] rfl rfl (one_of HT_.out (by kernel_rfl)) (by decide) (fun K hK => ?_)
          refine goes_ Try.func124 (by kernel_rfl) rfl #[.slice A3 s1.length c3] (by rfl) rfl rfl (by (try simp only [List.map_toArray, List.map_cons, List.map_nil]); first | done | rfl) ?_
          refine (readEntry_calls A3 c3 s1 (some x) _ (Kd.R_reads' (Kd.R_grown HR3.out hHeld.2.2.2.2 (fun k hk e => by injection e with e; omega))).2.2 (Kd.R_reads' HR3.out).2.1 Hb1.out (by have := Hl1.out; omega) HE.out).mono ?_
          rintro e w7 ⟨hB, A6, c6, rfl, hR⟩
          refine ⟨_, rfl, ?_⟩
          have HBX7 := Aside0.mk ((hB.block _ (blk_lt2 HBX3.out)).trans HBX3.out)
          have HS7 := Aside0.mk (Kd.R_mono (Kd.R_lower hR (HB2.out.grown hHeld.2.2.2.2 HB2.out.size (fun k hk => by injection hk with hk; omega)).size) (fun k hk => (show w.heap.size < k by have := hHeld.2.2.2.2.size; have := blk_lt2 HBX2.out; omega)))
          refine hK.out _ _ (hHeld.step hB) (fun hHeld => ?_)
          clear hK K hR hB
          refine norm_ (a' := ?_) ?_ ?_
          rotate_left
          · show Act.put _ (some 20) _ = _
            simp only [Act.put, List.setIfInBounds_toArray, List.set_cons_zero, List.set_cons_succ, i64_w, i32_w]
            rfl
          refine one_ (i := 13) (N := some 24) #[true, true, true, true, true, true, true, true, true, true, true, true, true, true, false, false] rfl rfl (one_of HT_.out (by kernel_rfl)) (by decide) (fun K hK => ?_)
          refine goes_ Try.func144 (by kernel_rfl) rfl #[.slice A5 s2.length c5, .func (.func 121) #[] #[]] (by rfl) rfl rfl (by (try simp only [List.map_toArray, List.map_cons, List.map_nil]); first | done | rfl) ?_
          refine (allLetters_calls A5 c5 s2 (some ys) _ (Kd.R_reads' (Kd.R_grown HR2.out hHeld.2.2.2.2 (fun k hk e => by injection e with e; omega))).2.2 (Kd.R_reads' HR2.out).2.1 Hb2.out (by have := Hl2.out; omega) HA.out).mono ?_
          rintro e w8 ⟨hB, A7, c7, rfl, hR⟩
          refine ⟨_, rfl, ?_⟩
          have HX8 := Aside0.mk ((hB.block _ (blk_lt2 HBX7.out)).trans HBX7.out)
          have HS8 := Aside0.mk (Kd.R_below HS7.out hB)
          have HT8 := Aside0.mk (Kd.R_mono (Kd.R_lower hR (HB2.out.grown hHeld.2.2.2.2 HB2.out.size (fun k hk => by injection hk with hk; omega)).size) (fun k hk => (show w.heap.size < k by have := hHeld.2.2.2.2.size; have := blk_lt2 HBX2.out; omega)))
          refine hK.out _ _ (hHeld.step hB) (fun hHeld => ?_)
          clear hK K hR hB
          refine norm_ (a' := ?_) ?_ ?_
          rotate_left
          · show Act.put _ (some 24) _ = _
            simp only [Act.put, List.setIfInBounds_toArray, List.set_cons_zero, List.set_cons_succ, i64_w, i32_w]
            rfl
          refine pure_ (i := 14) (N := some 25) (v := ?_) (a' := ?_) #[true, true, true, true, true, true, true, true, true, true, true, true, true, true, true, false] rfl rfl (any_of HT_.out (by kernel_rfl)) (fun _ _ _ h => h) (Or.inl ⟨by rfl, ?_⟩) ?_ ?_
          rotate_left
          · intro w'
            go_simp
            with_reducible rfl
          rotate_left
          · simp only [Act.put, List.setIfInBounds_toArray, List.set_cons_zero, List.set_cons_succ, i64_w, i32_w]
            rfl
          refine one_ (i := 15) (N := none) #[true, true, true, true, true, true, true, true, true, true, true, true, true, true, true, true] rfl rfl (one_of HT_.out (by kernel_rfl)) (by decide) (fun K hK => ?_)
          rw [if_pos (by rfl)]
          refine wp_store_row 101 (.tmp 2) (.tmp 25) rfl w.heap.size #[.int .i64 v0, .int .i64 v1, .int .i64 x.f0, .int .i64 x.f1, .int .i64 x.f2, .slice A6 x.f3.length c6, .slice A7 ys.length c7] rfl rfl 101 _ HX8.out size101 rfl (by simp [Value.oneCell']) ?_
          have HB9 := Aside0.mk (below_setRow (HB2.out.grown hHeld.2.2.2.2 HB2.out.size (fun k hk => by injection hk with hk; omega)) (Nat.le_refl _) #[.int .i64 v0, .int .i64 v1, .int .i64 x.f0, .int .i64 x.f1, .int .i64 x.f2, .slice A6 x.f3.length c6, .slice A7 ys.length c7])
          refine hK.out _ _ (hHeld.row HNE.out.1 HNE.out.1 HNE.out.2 HNE.out.2 #[.int .i64 v0, .int .i64 v1, .int .i64 x.f0, .int .i64 x.f1, .int .i64 x.f2, .slice A6 x.f3.length c6, .slice A7 ys.length c7]) (fun hHeld => ?_)
          clear hK K
          refine norm_ (a' := ?_) ?_ ?_
          rotate_left
          · show Act.put _ (none) _ = _
            simp only [Act.put, List.setIfInBounds_toArray, List.set_cons_zero, List.set_cons_succ, i64_w, i32_w]
            rfl
          refine done_ (done_of HT_.out (by kernel_rfl)) ?_
          have HX9 := Aside0.mk (setRow_heap _ _ _ #[.int .i64 v0, .int .i64 v1, .int .i64 x.f0, .int .i64 x.f1, .int .i64 x.f2, .slice A6 x.f3.length c6, .slice A7 ys.length c7] _ _ HX8.out)
          have HS9 := Aside0.mk (R_row HS8.out HX8.out (by simp [Kd.int, Kd.scalar]) #[.int .i64 v0, .int .i64 v1, .int .i64 x.f0, .int .i64 x.f1, .int .i64 x.f2, .slice A6 x.f3.length c6, .slice A7 ys.length c7])
          have HT9 := Aside0.mk (R_row HT8.out HX8.out (by simp [k72, k70, Kd.iso, Kd.pair, Kd.slice, Kd.int, Kd.scalar]) #[.int .i64 v0, .int .i64 v1, .int .i64 x.f0, .int .i64 x.f1, .int .i64 x.f2, .slice A6 x.f3.length c6, .slice A7 ys.length c7])
          go_wp2_with (fail)
          exact bodyPost_ret (v := .agg #[.int .i64 v0, .int .i64 v1, .int .i64 x.f0, .int .i64 x.f1, .int .i64 x.f2, .slice A6 x.f3.length c6, .slice A7 ys.length c7]) (results_cell_row rfl _ _ w.heap.size 101 _ _ _ rfl HX9.out hu101 rfl size101) rfl ⟨HB9.out, A6, c6, A7, c7, rfl, k101_mkM _ _ _ ⟨v0, v1, x, ys⟩ (Kd.R_mono HS9.out (fun k hk => Nat.le_of_lt hk)) (Kd.R_mono HT9.out (fun k hk => Nat.le_of_lt hk))⟩
end Go.Proofs.Ytijccobeljoikaa.Ms

/- msg: all that is proven; a field read into a message. -/
namespace Go.Proofs.Ytijccobeljoikaa.Ms
open Go.RowKit Go.Proofs.YtijccobeljoikaaW.PrintWords Go.Proofs.YtijccobeljoikaaW.PrintLast
open Go.Proofs.Ytijccobeljoikaa.Plain Go.Proofs.Ytijccobeljoikaa.Walks
set_option linter.unusedVariables false
set_option linter.unusedSimpArgs false
set_option maxHeartbeats 8000000 in
set_option maxRecDepth 100000 in
theorem allProvens_calls (A : Option Addr) (c : Nat) (l : List Int) (o : Option (List S101)) (w : World) (hC : Kd.C (Kd.int .u8) w A l.length l) (hc : l.length ≤ c) (hb : Byte l) (hl : l.length < 17592186044416) (ho : allO provenO l = o) :
    Calls Try.prog 145 #[.slice A l.length c, .func (.func 146) #[] #[]] w fun e w' => ListPost k101 101 w o e w' := by
  have hu101 := Try.underlying101
  have HC := Aside0.mk hC
  have Hc := Aside0.mk hc
  have HBy := Aside0.mk hb
  have HL := Aside0.mk hl
  rcases splitO_cases l with ⟨rs, x, hs, hx, hf⟩ | ⟨rs, hs, hf⟩
  · have HS := Aside0.mk hs
    have HX := Aside0.mk hx
    have : o = none := by rw [← ho, allO, hf]; rfl
    subst this
    clear hC hc hb hl ho hf hs hx
    go_enter Try.func145, Try.ntmps145
    go_wp2_with (go_at_call 107; refine (split_bad A c l rs x _ HC.out Hc.out HBy.out (by have := HL.out; omega) HS.out HX.out).mono ?_; rintro e w1 ⟨rfl, hB⟩; have HB1 := Aside0.mk hB; clear hB)
    exact ⟨rfl, HB1.out, x, HX.out, rfl⟩
  · obtain ⟨hj, hbs⟩ := splitO_some hb hf
    have hls := (joinP_some hj).2.1
    have hln := (joinP_some hj).2.2
    have HS := Aside0.mk hs
    have HBs := Aside0.mk hbs
    have HLs := Aside0.mk hls
    have hoo : mapO provenO rs = o := by rw [← ho, allO, hf]; rfl
    have HO := Aside0.mk hoo
    clear hC hc hb hl ho hf hs hj hbs hls hoo
    go_enter Try.func145, Try.ntmps145
    go_wp2_with (go_at_call 107; refine (split_ok A c l rs _ HC.out Hc.out HBy.out (by have := HL.out; omega) HS.out).mono ?_; rintro e w1 ⟨A1, c1, rfl, hG⟩; have HG := Aside0.mk hG; clear hG)
    go_loopw [5, 11] (fun u t wr => ∃ (i : Nat) (xs : List S101), t = .int .i64 (i : Int) ∧ i ≤ rs.length ∧ Aside0 (xs.length = i) ∧ Aside0 (Kd.R k101 101 wr w1.heap.size (fun k_ => w1.heap.size ≤ k_) u xs) ∧ Aside0 ((mapO provenO (rs.drop i)).bind (fun ys => some (xs ++ ys)) = o) ∧ Aside0 (Below w1.heap.size w1 wr)) (fun _ t _ => rs.length - (intOf t).toNat)
    case atStart => exact ⟨0, [], rfl, Nat.zero_le _, ⟨rfl⟩, ⟨Kd.R_nil _ _ _ _ _⟩, ⟨by rw [List.drop_zero, HO.out]; cases o <;> rfl⟩, ⟨Below.refl _ _⟩⟩
    case round =>
      clear HO
      obtain ⟨i, xs, rfl, hi, HV, HR, HO, HB⟩ := hrel
      obtain ⟨Av, cv, ev⟩ := Kd.R_slice HR.out
      subst ev
      by_cases hlt : i < rs.length
      · have b0 : decide ((i : Int) < (rs.length : Int)) = true := decide_eq_true (by omega)
        have b1 : (0 ≤ (i : Int)) = True := eq_true (by omega)
        have b2 : ((i : Int) < (rs.length : Int)) = True := eq_true (by omega)
        obtain ⟨g1, Ai, ci, hA, hx0, hci, hCi⟩ := rows_any HG.out i hlt
        subst hA
        have hx0 := cell_step hx0 HB.out
        have hCi := Kd.C_below hCi HB.out
        obtain ⟨r, hr⟩ : ∃ r, r = rs[i] := ⟨_, rfl⟩
        rw [← hr] at hx0 hci hCi
        have HCi := Aside0.mk hCi
        have Hci := Aside0.mk hci
        have HBi := Aside0.mk (show Byte r from hr ▸ HBs.out _ (List.getElem_mem hlt))
        have HLi := Aside0.mk (show r.length < 17592186044416 by have := HLs.out _ (List.getElem_mem hlt); rw [← hr] at this; omega)
        have hoo := HO.out
        rw [mapO_step hlt, ← hr] at hoo
        have hxl : xs.length ≤ 1024 := by rw [HV.out]; omega
        have HBw := Aside0.mk (below_then HG.out.keep HG.out.keep.size HB.out)
        clear hr hci hCi HO
        obtain ⟨q, hq⟩ : ∃ q, q = provenO r := ⟨_, rfl⟩
        rw [← hq] at hoo
        have HQ := Aside0.mk hq.symm
        clear hq
        cases q with
        | none =>
          have : o = none := hoo.symm
          subst this
          clear hoo
          go_wp2_with (go_at_call 146; refine (readProven_calls Ai ci r none _ HCi.out Hci.out HBi.out HLi.out HQ.out).mono ?_; rintro e w2 ⟨hB, y, hy, rfl⟩; have HB2 := Aside0.mk (And.intro hy (below_then HBw.out HBw.out.size hB)); clear hB hy)
          exact ⟨rfl, HB2.out.2, _, HB2.out.1, rfl⟩
        | some x =>
          have hoo2 : (mapO provenO (rs.drop (i + 1))).bind (fun ys => some (xs ++ [x] ++ ys)) = o := by
            rw [← hoo]
            cases mapO provenO (rs.drop (i + 1)) <;> simp
          have HO := Aside0.mk hoo2
          clear hoo hoo2
          go_wp2_with (first
            | (go_at_call 146; refine (readProven_calls Ai ci r (some x) _ HCi.out Hci.out HBi.out HLi.out HQ.out).mono ?_; rintro e w2 ⟨hB, A5, c5, A6, c6, rfl, hM⟩; have HM := Aside0.mk (Kd.M_lower_ k101 HB.out.size hM); have HB2 := Aside0.mk (below_then HB.out HB.out.size hB); have hs2 := HB2.out.size; have HR2 := Aside0.mk (Kd.R_below HR.out hB); clear hB hM)
            | (at_builtin; refine Kd.R_append k101 (w0 := w1) w1.heap.size rfl (.tmp 15) (.tmp 19) 89 101 (.agg #[(.int .i64 0), (.int .i64 0), (.int .i64 0), (.int .i64 0), (.int .i64 0), (.slice none 0 0), (.slice none 0 0)]) 88 rfl Try.underlying89 info101 rfl (by decide) (by omega) (.slice Av xs.length cv) xs x [.int .i64 x.f0, .int .i64 x.f1, .int .i64 x.f2.f0, .int .i64 x.f2.f1, .int .i64 x.f2.f2, .slice A5 x.f2.f3.length c5, .slice A6 x.f3.length c6] (fun k_ => w1.heap.size ≤ k_) (fun k_ => wr.heap.size ≤ k_) rfl rfl HM.out (fun k hk => ⟨Nat.le_trans HB.out.size hk, fun e => by have := Kd.R_lt_ HR.out k e.symm; omega⟩) (fun k hk => by omega) HR2.out HB2.out hs2 (by omega) ?_; intro v3 w3 hR3 hB3 hg3 hat3; have HR3 := Aside0.mk hR3; have HB3 := Aside0.mk hB3; clear hR3 hB3 hg3 hat3))
          exact ⟨⟨i + 1, xs ++ [x], by simp, by omega, ⟨by rw [List.length_append, HV.out]; rfl⟩, HR3, HO, HB3⟩, by simp only [intOf]; omega⟩
      · have b0 : decide ((i : Int) < (rs.length : Int)) = false := decide_eq_false (by omega)
        have hil : i = rs.length := by omega
        have hoo := HO.out
        rw [List.drop_eq_nil_of_le (by omega)] at hoo
        have : o = some xs := by rw [← hoo]; simp [mapO]
        subst this
        clear hoo HO
        go_wp2_with (fail)
        go_ret
        exact ⟨below_then HG.out.keep HG.out.keep.size HB.out, Av, cv, rfl, Kd.R_mono (Kd.R_lower HR.out HG.out.keep.size) (fun k hk => Nat.le_trans HG.out.keep.size hk)⟩
end Go.Proofs.Ytijccobeljoikaa.Ms

/- msg: a field read into a message. -/
namespace Go.Proofs.Ytijccobeljoikaa.Ms
open Go.RowKit Go.Proofs.YtijccobeljoikaaW.PrintWords Go.Proofs.YtijccobeljoikaaW.PrintLast
open Go.Proofs.Ytijccobeljoikaa.Plain Go.Proofs.Ytijccobeljoikaa.Walks
set_option linter.unusedVariables false
set_option linter.unusedSimpArgs false

/-- A message under way: its slices are the call's own. -/
structure MsgO (w : World) (base : Nat) (m : S91) (v : Nat → Value) : Prop where
  r0 : Kd.R (Kd.int .u8) 5 w base (fun k => base ≤ k) (v 0) m.entry.f3
  r1 : Kd.R (Kd.int .u8) 5 w base (fun k => base ≤ k) (v 1) m.digest
  r2 : Kd.R (Kd.int .u8) 5 w base (fun k => base ≤ k) (v 2) m.data
  r3 : Kd.R k72 72 w base (fun k => base ≤ k) (v 3) m.proof
  r4 : Kd.R k101 101 w base (fun k => base ≤ k) (v 4) m.proven
theorem MsgO.below {w w1 : World} {base : Nat} {m : S91} {v : Nat → Value} (h : MsgO w base m v) (hb : Below w.heap.size w w1) : MsgO w1 base m v :=
  ⟨Kd.R_below h.r0 hb, Kd.R_below h.r1 hb, Kd.R_below h.r2 hb, Kd.R_below h.r3 hb, Kd.R_below h.r4 hb⟩
theorem MsgO.set {w : World} {base : Nat} {m : S91} {v : Nat → Value} (h : MsgO w base m v) {bm : Nat} {cs : Array Value} (hb : w.heap[bm]? = some (.cells cs 91 (0, 0))) (j : Nat) (u : Value) : MsgO (w.setCell ⟨bm, j, none⟩ u) base m v :=
  ⟨Kd.R_set h.r0 hb (by simp [Kd.int, Kd.scalar]) j u, Kd.R_set h.r1 hb (by simp [Kd.int, Kd.scalar]) j u, Kd.R_set h.r2 hb (by simp [Kd.int, Kd.scalar]) j u, Kd.R_set h.r3 hb (by simp [k72, k70, Kd.iso, Kd.pair, Kd.slice, Kd.int, Kd.scalar]) j u, Kd.R_set h.r4 hb (by simp [k101, k87, k72, k70, Kd.iso, Kd.pair, Kd.slice, Kd.int, Kd.scalar]) j u⟩
/-- What reading a field comes to. -/
def ReadPost (bm base : Nat) (w : World) (o : Option S91) (e : Ending) (w' : World) : Prop :=
  w.grownBy w' (some bm) ∧ match o with
    | some m => ∃ v : Nat → Value, e = .returned (.tuple #[]) ∧ w'.heap[bm]? = some (.cells #[.int .i64 m.kind, .int .i64 m.view, .int .i64 m.seq, .int .i64 m.client, .int .i64 m.stamp, .int .i64 m.entry.f0, .int .i64 m.entry.f1, .int .i64 m.entry.f2, v 0, v 1, v 2, v 3, v 4] 91) ∧ MsgO w' base m v
    | none => ∃ y, y ≠ 0 ∧ e = .panicked (fault y) ∧ ∃ (m : S91) (v : Nat → Value), w'.heap[bm]? = some (.cells #[.int .i64 m.kind, .int .i64 m.view, .int .i64 m.seq, .int .i64 m.client, .int .i64 m.stamp, .int .i64 m.entry.f0, .int .i64 m.entry.f1, .int .i64 m.entry.f2, v 0, v 1, v 2, v 3, v 4] 91)
theorem grown_set2 (w : World) (g j : Nat) (u : Value) : w.grownBy (w.setCell ⟨g, j, none⟩ u) (some g) :=
  ⟨rfl, rfl, rfl, by simp [World.setCell], fun i _ hi => Below.heap_setCell w ⟨g, j, none⟩ u i (fun e => hi (by rw [e]))⟩
set_option maxHeartbeats 4000000 in
set_option maxRecDepth 100000 in
theorem read_v (m : S91) (v : Nat → Value) (l : List Int) (A : Option Addr) (c : Nat) (o : Option S91) (bm base : Nat) (w : World) (hbox : w.heap[bm]? = some (.cells #[.int .i64 m.kind, .int .i64 m.view, .int .i64 m.seq, .int .i64 m.client, .int .i64 m.stamp, .int .i64 m.entry.f0, .int .i64 m.entry.f1, .int .i64 m.entry.f2, v 0, v 1, v 2, v 3, v 4] 91)) (hm : MsgO w base m v) (hR : Kd.R (Kd.int .u8) 5 w base (fun k => base ≤ k) (.slice A l.length c) l) (hb : Byte l) (hl : l.length < 17592186044416) (hbs : base ≤ w.heap.size) (ho : readO m 118 l = o) :
    Calls Try.prog 109 #[.pointer (some ⟨bm, 0, none⟩), .int .i32 118, .slice A l.length c] w fun e w' => ReadPost bm base w o e w' := by
  have hu91 := Try.underlying91
  have hu87 := Try.underlying87
  have HBOX := Aside0.mk hbox
  have HM := Aside0.mk hm
  have HR := Aside0.mk hR
  have HBy := Aside0.mk hb
  have HL := Aside0.mk hl
  have HBS := Aside0.mk hbs
  simp (config := { decide := true }) only [readO, if_true, if_false] at ho
  have HO := Aside0.mk ho
  clear hbox hm hR hb hl hbs ho
  rcases ints_cases l 1 with ⟨vs, x, hi, hbad, hf⟩ | ⟨vs, hi, hn, hf⟩
  · have : o = none := by rw [← HO.out, hf]; rfl
    subst this
    have HI := Aside0.mk hi
    have HX := Aside0.mk hbad
    clear hi hbad hf HO
    go_enter Try.func109, Try.ntmps109
    go_wp2_with (go_at_call 108; refine (ints_bad A c 1 l vs x _ (Kd.R_reads' HR.out).2.2 (Kd.R_reads' HR.out).2.1 HBy.out HL.out HI.out HX.out).mono ?_; rintro e w1 ⟨rfl, hB⟩; have HB1 := Aside0.mk hB; clear hB)
    exact ⟨rfl, grown_of_below HB1.out _, 12, by decide, rfl, m, v, (HB1.out.block _ (blk_lt2 HBOX.out)).trans HBOX.out⟩
  · obtain ⟨x, rfl⟩ := one hn
    have : o = some { m with view := x } := by rw [← HO.out, hf]; rfl
    subst this
    have HI := Aside0.mk hi
    clear hi hf hn HO
    go_enter Try.func109, Try.ntmps109
    go_wp2_with (fail)
    refine (ints_ok A c 1 l [x] _ (Kd.R_reads' HR.out).2.2 (Kd.R_reads' HR.out).2.1 HBy.out HL.out HI.out rfl).mono ?_
    rintro e w1 ⟨A1, c1, rfl, hG⟩
    obtain ⟨g1, rfl, hg1⟩ := got_head hG (by simp)
    have z0 := nums_at hG 0 (by simp)
    simp only [List.getElem_cons_zero] at z0
    have HBOX1 := Aside0.mk ((hG.keep.block _ (blk_lt2 HBOX.out)).trans HBOX.out)
    have HM1 := Aside0.mk (HM.out.below hG.keep)
    have HB1 := Aside0.mk hG.keep
    have x1 : w1.cell? ⟨bm, 1, none⟩ = some (.int .i64 m.view) := (blk_cell HBOX1.out 1).trans rfl
    have f1 : w1.frozen? ⟨bm, 1, none⟩ = false := blk_frozen HBOX1.out 1
    clear hG hg1
    go_wp2_with (fail)
    go_end0
    exact ⟨(grown_of_below HB1.out (some bm)).trans (grown_set2 _ _ _ _), v, rfl, blk_put HBOX1.out 1 (.int .i64 x) rfl, have h := HM1.out.set HBOX1.out 1 (.int .i64 x); ⟨h.r0, h.r1, h.r2, h.r3, h.r4⟩⟩
set_option maxHeartbeats 4000000 in
set_option maxRecDepth 100000 in
theorem read_s (m : S91) (v : Nat → Value) (l : List Int) (A : Option Addr) (c : Nat) (o : Option S91) (bm base : Nat) (w : World) (hbox : w.heap[bm]? = some (.cells #[.int .i64 m.kind, .int .i64 m.view, .int .i64 m.seq, .int .i64 m.client, .int .i64 m.stamp, .int .i64 m.entry.f0, .int .i64 m.entry.f1, .int .i64 m.entry.f2, v 0, v 1, v 2, v 3, v 4] 91)) (hm : MsgO w base m v) (hR : Kd.R (Kd.int .u8) 5 w base (fun k => base ≤ k) (.slice A l.length c) l) (hb : Byte l) (hl : l.length < 17592186044416) (hbs : base ≤ w.heap.size) (ho : readO m 115 l = o) :
    Calls Try.prog 109 #[.pointer (some ⟨bm, 0, none⟩), .int .i32 115, .slice A l.length c] w fun e w' => ReadPost bm base w o e w' := by
  have hu91 := Try.underlying91
  have hu87 := Try.underlying87
  have HBOX := Aside0.mk hbox
  have HM := Aside0.mk hm
  have HR := Aside0.mk hR
  have HBy := Aside0.mk hb
  have HL := Aside0.mk hl
  have HBS := Aside0.mk hbs
  simp (config := { decide := true }) only [readO, if_true, if_false] at ho
  have HO := Aside0.mk ho
  clear hbox hm hR hb hl hbs ho
  rcases ints_cases l 1 with ⟨vs, x, hi, hbad, hf⟩ | ⟨vs, hi, hn, hf⟩
  · have : o = none := by rw [← HO.out, hf]; rfl
    subst this
    have HI := Aside0.mk hi
    have HX := Aside0.mk hbad
    clear hi hbad hf HO
    go_enter Try.func109, Try.ntmps109
    go_wp2_with (go_at_call 108; refine (ints_bad A c 1 l vs x _ (Kd.R_reads' HR.out).2.2 (Kd.R_reads' HR.out).2.1 HBy.out HL.out HI.out HX.out).mono ?_; rintro e w1 ⟨rfl, hB⟩; have HB1 := Aside0.mk hB; clear hB)
    exact ⟨rfl, grown_of_below HB1.out _, 12, by decide, rfl, m, v, (HB1.out.block _ (blk_lt2 HBOX.out)).trans HBOX.out⟩
  · obtain ⟨x, rfl⟩ := one hn
    have : o = some { m with seq := x } := by rw [← HO.out, hf]; rfl
    subst this
    have HI := Aside0.mk hi
    clear hi hf hn HO
    go_enter Try.func109, Try.ntmps109
    go_wp2_with (fail)
    refine (ints_ok A c 1 l [x] _ (Kd.R_reads' HR.out).2.2 (Kd.R_reads' HR.out).2.1 HBy.out HL.out HI.out rfl).mono ?_
    rintro e w1 ⟨A1, c1, rfl, hG⟩
    obtain ⟨g1, rfl, hg1⟩ := got_head hG (by simp)
    have z0 := nums_at hG 0 (by simp)
    simp only [List.getElem_cons_zero] at z0
    have HBOX1 := Aside0.mk ((hG.keep.block _ (blk_lt2 HBOX.out)).trans HBOX.out)
    have HM1 := Aside0.mk (HM.out.below hG.keep)
    have HB1 := Aside0.mk hG.keep
    have x2 : w1.cell? ⟨bm, 2, none⟩ = some (.int .i64 m.seq) := (blk_cell HBOX1.out 2).trans rfl
    have f2 : w1.frozen? ⟨bm, 2, none⟩ = false := blk_frozen HBOX1.out 2
    clear hG hg1
    go_wp2_with (fail)
    go_end0
    exact ⟨(grown_of_below HB1.out (some bm)).trans (grown_set2 _ _ _ _), v, rfl, blk_put HBOX1.out 2 (.int .i64 x) rfl, have h := HM1.out.set HBOX1.out 2 (.int .i64 x); ⟨h.r0, h.r1, h.r2, h.r3, h.r4⟩⟩
set_option maxHeartbeats 4000000 in
set_option maxRecDepth 100000 in
theorem read_c (m : S91) (v : Nat → Value) (l : List Int) (A : Option Addr) (c : Nat) (o : Option S91) (bm base : Nat) (w : World) (hbox : w.heap[bm]? = some (.cells #[.int .i64 m.kind, .int .i64 m.view, .int .i64 m.seq, .int .i64 m.client, .int .i64 m.stamp, .int .i64 m.entry.f0, .int .i64 m.entry.f1, .int .i64 m.entry.f2, v 0, v 1, v 2, v 3, v 4] 91)) (hm : MsgO w base m v) (hR : Kd.R (Kd.int .u8) 5 w base (fun k => base ≤ k) (.slice A l.length c) l) (hb : Byte l) (hl : l.length < 17592186044416) (hbs : base ≤ w.heap.size) (ho : readO m 99 l = o) :
    Calls Try.prog 109 #[.pointer (some ⟨bm, 0, none⟩), .int .i32 99, .slice A l.length c] w fun e w' => ReadPost bm base w o e w' := by
  have hu91 := Try.underlying91
  have hu87 := Try.underlying87
  have HBOX := Aside0.mk hbox
  have HM := Aside0.mk hm
  have HR := Aside0.mk hR
  have HBy := Aside0.mk hb
  have HL := Aside0.mk hl
  have HBS := Aside0.mk hbs
  simp (config := { decide := true }) only [readO, if_true, if_false] at ho
  have HO := Aside0.mk ho
  clear hbox hm hR hb hl hbs ho
  rcases ints_cases l 1 with ⟨vs, x, hi, hbad, hf⟩ | ⟨vs, hi, hn, hf⟩
  · have : o = none := by rw [← HO.out, hf]; rfl
    subst this
    have HI := Aside0.mk hi
    have HX := Aside0.mk hbad
    clear hi hbad hf HO
    go_enter Try.func109, Try.ntmps109
    go_wp2_with (go_at_call 108; refine (ints_bad A c 1 l vs x _ (Kd.R_reads' HR.out).2.2 (Kd.R_reads' HR.out).2.1 HBy.out HL.out HI.out HX.out).mono ?_; rintro e w1 ⟨rfl, hB⟩; have HB1 := Aside0.mk hB; clear hB)
    exact ⟨rfl, grown_of_below HB1.out _, 12, by decide, rfl, m, v, (HB1.out.block _ (blk_lt2 HBOX.out)).trans HBOX.out⟩
  · obtain ⟨x, rfl⟩ := one hn
    have : o = some { m with client := x } := by rw [← HO.out, hf]; rfl
    subst this
    have HI := Aside0.mk hi
    clear hi hf hn HO
    go_enter Try.func109, Try.ntmps109
    go_wp2_with (fail)
    refine (ints_ok A c 1 l [x] _ (Kd.R_reads' HR.out).2.2 (Kd.R_reads' HR.out).2.1 HBy.out HL.out HI.out rfl).mono ?_
    rintro e w1 ⟨A1, c1, rfl, hG⟩
    obtain ⟨g1, rfl, hg1⟩ := got_head hG (by simp)
    have z0 := nums_at hG 0 (by simp)
    simp only [List.getElem_cons_zero] at z0
    have HBOX1 := Aside0.mk ((hG.keep.block _ (blk_lt2 HBOX.out)).trans HBOX.out)
    have HM1 := Aside0.mk (HM.out.below hG.keep)
    have HB1 := Aside0.mk hG.keep
    have x3 : w1.cell? ⟨bm, 3, none⟩ = some (.int .i64 m.client) := (blk_cell HBOX1.out 3).trans rfl
    have f3 : w1.frozen? ⟨bm, 3, none⟩ = false := blk_frozen HBOX1.out 3
    clear hG hg1
    go_wp2_with (fail)
    go_end0
    exact ⟨(grown_of_below HB1.out (some bm)).trans (grown_set2 _ _ _ _), v, rfl, blk_put HBOX1.out 3 (.int .i64 x) rfl, have h := HM1.out.set HBOX1.out 3 (.int .i64 x); ⟨h.r0, h.r1, h.r2, h.r3, h.r4⟩⟩
set_option maxHeartbeats 4000000 in
set_option maxRecDepth 100000 in
theorem read_t (m : S91) (v : Nat → Value) (l : List Int) (A : Option Addr) (c : Nat) (o : Option S91) (bm base : Nat) (w : World) (hbox : w.heap[bm]? = some (.cells #[.int .i64 m.kind, .int .i64 m.view, .int .i64 m.seq, .int .i64 m.client, .int .i64 m.stamp, .int .i64 m.entry.f0, .int .i64 m.entry.f1, .int .i64 m.entry.f2, v 0, v 1, v 2, v 3, v 4] 91)) (hm : MsgO w base m v) (hR : Kd.R (Kd.int .u8) 5 w base (fun k => base ≤ k) (.slice A l.length c) l) (hb : Byte l) (hl : l.length < 17592186044416) (hbs : base ≤ w.heap.size) (ho : readO m 116 l = o) :
    Calls Try.prog 109 #[.pointer (some ⟨bm, 0, none⟩), .int .i32 116, .slice A l.length c] w fun e w' => ReadPost bm base w o e w' := by
  have hu91 := Try.underlying91
  have hu87 := Try.underlying87
  have HBOX := Aside0.mk hbox
  have HM := Aside0.mk hm
  have HR := Aside0.mk hR
  have HBy := Aside0.mk hb
  have HL := Aside0.mk hl
  have HBS := Aside0.mk hbs
  simp (config := { decide := true }) only [readO, if_true, if_false] at ho
  have HO := Aside0.mk ho
  clear hbox hm hR hb hl hbs ho
  rcases ints_cases l 1 with ⟨vs, x, hi, hbad, hf⟩ | ⟨vs, hi, hn, hf⟩
  · have : o = none := by rw [← HO.out, hf]; rfl
    subst this
    have HI := Aside0.mk hi
    have HX := Aside0.mk hbad
    clear hi hbad hf HO
    go_enter Try.func109, Try.ntmps109
    go_wp2_with (go_at_call 108; refine (ints_bad A c 1 l vs x _ (Kd.R_reads' HR.out).2.2 (Kd.R_reads' HR.out).2.1 HBy.out HL.out HI.out HX.out).mono ?_; rintro e w1 ⟨rfl, hB⟩; have HB1 := Aside0.mk hB; clear hB)
    exact ⟨rfl, grown_of_below HB1.out _, 12, by decide, rfl, m, v, (HB1.out.block _ (blk_lt2 HBOX.out)).trans HBOX.out⟩
  · obtain ⟨x, rfl⟩ := one hn
    have : o = some { m with stamp := x } := by rw [← HO.out, hf]; rfl
    subst this
    have HI := Aside0.mk hi
    clear hi hf hn HO
    go_enter Try.func109, Try.ntmps109
    go_wp2_with (fail)
    refine (ints_ok A c 1 l [x] _ (Kd.R_reads' HR.out).2.2 (Kd.R_reads' HR.out).2.1 HBy.out HL.out HI.out rfl).mono ?_
    rintro e w1 ⟨A1, c1, rfl, hG⟩
    obtain ⟨g1, rfl, hg1⟩ := got_head hG (by simp)
    have z0 := nums_at hG 0 (by simp)
    simp only [List.getElem_cons_zero] at z0
    have HBOX1 := Aside0.mk ((hG.keep.block _ (blk_lt2 HBOX.out)).trans HBOX.out)
    have HM1 := Aside0.mk (HM.out.below hG.keep)
    have HB1 := Aside0.mk hG.keep
    have x4 : w1.cell? ⟨bm, 4, none⟩ = some (.int .i64 m.stamp) := (blk_cell HBOX1.out 4).trans rfl
    have f4 : w1.frozen? ⟨bm, 4, none⟩ = false := blk_frozen HBOX1.out 4
    clear hG hg1
    go_wp2_with (fail)
    go_end0
    exact ⟨(grown_of_below HB1.out (some bm)).trans (grown_set2 _ _ _ _), v, rfl, blk_put HBOX1.out 4 (.int .i64 x) rfl, have h := HM1.out.set HBOX1.out 4 (.int .i64 x); ⟨h.r0, h.r1, h.r2, h.r3, h.r4⟩⟩
set_option maxHeartbeats 4000000 in
set_option maxRecDepth 100000 in
theorem read_d (m : S91) (v : Nat → Value) (l : List Int) (A : Option Addr) (c : Nat) (o : Option S91) (bm base : Nat) (w : World) (hbox : w.heap[bm]? = some (.cells #[.int .i64 m.kind, .int .i64 m.view, .int .i64 m.seq, .int .i64 m.client, .int .i64 m.stamp, .int .i64 m.entry.f0, .int .i64 m.entry.f1, .int .i64 m.entry.f2, v 0, v 1, v 2, v 3, v 4] 91)) (hm : MsgO w base m v) (hR : Kd.R (Kd.int .u8) 5 w base (fun k => base ≤ k) (.slice A l.length c) l) (hb : Byte l) (hl : l.length < 17592186044416) (hbs : base ≤ w.heap.size) (ho : readO m 100 l = o) :
    Calls Try.prog 109 #[.pointer (some ⟨bm, 0, none⟩), .int .i32 100, .slice A l.length c] w fun e w' => ReadPost bm base w o e w' := by
  have hu91 := Try.underlying91
  have hu87 := Try.underlying87
  have HBOX := Aside0.mk hbox
  have HM := Aside0.mk hm
  have HR := Aside0.mk hR
  have HBy := Aside0.mk hb
  have HL := Aside0.mk hl
  have HBS := Aside0.mk hbs
  simp (config := { decide := true }) only [readO, if_true, if_false] at ho
  have HO := Aside0.mk ho
  clear hbox hm hR hb hl hbs ho
  have : o = some { m with digest := l } := HO.out.symm
  subst this
  clear HO
  have x9 : w.cell? ⟨bm, 9, none⟩ = some (v 1) := (blk_cell HBOX.out 9).trans rfl
  have f9 : w.frozen? ⟨bm, 9, none⟩ = false := blk_frozen HBOX.out 9
  go_enter Try.func109, Try.ntmps109
  go_wp2_with (fail)
  go_end0
  exact ⟨grown_set2 _ _ _ _, (fun n => if n = 1 then .slice A l.length c else v n), rfl, blk_put HBOX.out 9 (.slice A l.length c) rfl, have h := HM.out.set HBOX.out 9 (.slice A l.length c); ⟨h.r0, Kd.R_set HR.out HBOX.out (by simp [Kd.int, Kd.scalar]) 9 (.slice A l.length c), h.r2, h.r3, h.r4⟩⟩
set_option maxHeartbeats 4000000 in
set_option maxRecDepth 100000 in
theorem read_b (m : S91) (v : Nat → Value) (l : List Int) (A : Option Addr) (c : Nat) (o : Option S91) (bm base : Nat) (w : World) (hbox : w.heap[bm]? = some (.cells #[.int .i64 m.kind, .int .i64 m.view, .int .i64 m.seq, .int .i64 m.client, .int .i64 m.stamp, .int .i64 m.entry.f0, .int .i64 m.entry.f1, .int .i64 m.entry.f2, v 0, v 1, v 2, v 3, v 4] 91)) (hm : MsgO w base m v) (hR : Kd.R (Kd.int .u8) 5 w base (fun k => base ≤ k) (.slice A l.length c) l) (hb : Byte l) (hl : l.length < 17592186044416) (hbs : base ≤ w.heap.size) (ho : readO m 98 l = o) :
    Calls Try.prog 109 #[.pointer (some ⟨bm, 0, none⟩), .int .i32 98, .slice A l.length c] w fun e w' => ReadPost bm base w o e w' := by
  have hu91 := Try.underlying91
  have hu87 := Try.underlying87
  have HBOX := Aside0.mk hbox
  have HM := Aside0.mk hm
  have HR := Aside0.mk hR
  have HBy := Aside0.mk hb
  have HL := Aside0.mk hl
  have HBS := Aside0.mk hbs
  simp (config := { decide := true }) only [readO, if_true, if_false] at ho
  have HO := Aside0.mk ho
  clear hbox hm hR hb hl hbs ho
  have : o = some { m with data := l } := HO.out.symm
  subst this
  clear HO
  have x10 : w.cell? ⟨bm, 10, none⟩ = some (v 2) := (blk_cell HBOX.out 10).trans rfl
  have f10 : w.frozen? ⟨bm, 10, none⟩ = false := blk_frozen HBOX.out 10
  go_enter Try.func109, Try.ntmps109
  go_wp2_with (fail)
  go_end0
  exact ⟨grown_set2 _ _ _ _, (fun n => if n = 2 then .slice A l.length c else v n), rfl, blk_put HBOX.out 10 (.slice A l.length c) rfl, have h := HM.out.set HBOX.out 10 (.slice A l.length c); ⟨h.r0, h.r1, Kd.R_set HR.out HBOX.out (by simp [Kd.int, Kd.scalar]) 10 (.slice A l.length c), h.r3, h.r4⟩⟩
set_option maxHeartbeats 4000000 in
set_option maxRecDepth 100000 in
theorem read_l (m : S91) (v : Nat → Value) (l : List Int) (A : Option Addr) (c : Nat) (o : Option S91) (bm base : Nat) (w : World) (hbox : w.heap[bm]? = some (.cells #[.int .i64 m.kind, .int .i64 m.view, .int .i64 m.seq, .int .i64 m.client, .int .i64 m.stamp, .int .i64 m.entry.f0, .int .i64 m.entry.f1, .int .i64 m.entry.f2, v 0, v 1, v 2, v 3, v 4] 91)) (hm : MsgO w base m v) (hR : Kd.R (Kd.int .u8) 5 w base (fun k => base ≤ k) (.slice A l.length c) l) (hb : Byte l) (hl : l.length < 17592186044416) (hbs : base ≤ w.heap.size) (ho : readO m 108 l = o) :
    Calls Try.prog 109 #[.pointer (some ⟨bm, 0, none⟩), .int .i32 108, .slice A l.length c] w fun e w' => ReadPost bm base w o e w' := by
  have hu91 := Try.underlying91
  have hu87 := Try.underlying87
  have HBOX := Aside0.mk hbox
  have HM := Aside0.mk hm
  have HR := Aside0.mk hR
  have HBy := Aside0.mk hb
  have HL := Aside0.mk hl
  have HBS := Aside0.mk hbs
  simp (config := { decide := true }) only [readO, if_true, if_false] at ho
  have HO := Aside0.mk ho
  clear hbox hm hR hb hl hbs ho
  obtain ⟨q, hq⟩ : ∃ q, allO letterO l = q := ⟨_, rfl⟩
  have HQ := Aside0.mk hq
  have hoo := HO.out
  rw [hq] at hoo
  clear hq HO
  cases q with
  | none =>
    have : o = none := hoo.symm
    subst this
    clear hoo
    go_enter Try.func109, Try.ntmps109
    go_wp2_with (go_at_call 144; refine (allLetters_calls A c l none _ (Kd.R_reads' HR.out).2.2 (Kd.R_reads' HR.out).2.1 HBy.out HL.out HQ.out).mono ?_; rintro e w1 ⟨hB, y, hy, rfl⟩; have HB1 := Aside0.mk hB; have HY := Aside0.mk hy; clear hB hy)
    exact ⟨rfl, grown_of_below HB1.out _, _, HY.out, rfl, m, v, (HB1.out.block _ (blk_lt2 HBOX.out)).trans HBOX.out⟩
  | some xs =>
    have : o = some { m with proof := xs } := hoo.symm
    subst this
    clear hoo
    go_enter Try.func109, Try.ntmps109
    go_wp2_with (fail)
    refine (allLetters_calls A c l (some xs) _ (Kd.R_reads' HR.out).2.2 (Kd.R_reads' HR.out).2.1 HBy.out HL.out HQ.out).mono ?_
    rintro e w1 ⟨hB, A1, c1, rfl, hX⟩
    have HBOX1 := Aside0.mk ((hB.block _ (blk_lt2 HBOX.out)).trans HBOX.out)
    have HM1 := Aside0.mk (HM.out.below hB)
    have HB1 := Aside0.mk hB
    have HX1 := Aside0.mk (Kd.R_mono (Kd.R_lower hX HBS.out) (fun k hk => Nat.le_trans HBS.out hk))
    have x11 : w1.cell? ⟨bm, 11, none⟩ = some (v 3) := (blk_cell HBOX1.out 11).trans rfl
    have f11 : w1.frozen? ⟨bm, 11, none⟩ = false := blk_frozen HBOX1.out 11
    clear hB hX
    go_wp2_with (fail)
    go_end0
    exact ⟨(grown_of_below HB1.out (some bm)).trans (grown_set2 _ _ _ _), (fun n => if n = 3 then .slice A1 xs.length c1 else v n), rfl, blk_put HBOX1.out 11 (.slice A1 xs.length c1) rfl, have h := HM1.out.set HBOX1.out 11 (.slice A1 xs.length c1); have hx := Kd.R_set HX1.out HBOX1.out (by simp [k101, k87, k72, k70, Kd.iso, Kd.pair, Kd.slice, Kd.int, Kd.scalar]) 11 (.slice A1 xs.length c1); ⟨h.r0, h.r1, h.r2, hx, h.r4⟩⟩
set_option maxHeartbeats 4000000 in
set_option maxRecDepth 100000 in
theorem read_p (m : S91) (v : Nat → Value) (l : List Int) (A : Option Addr) (c : Nat) (o : Option S91) (bm base : Nat) (w : World) (hbox : w.heap[bm]? = some (.cells #[.int .i64 m.kind, .int .i64 m.view, .int .i64 m.seq, .int .i64 m.client, .int .i64 m.stamp, .int .i64 m.entry.f0, .int .i64 m.entry.f1, .int .i64 m.entry.f2, v 0, v 1, v 2, v 3, v 4] 91)) (hm : MsgO w base m v) (hR : Kd.R (Kd.int .u8) 5 w base (fun k => base ≤ k) (.slice A l.length c) l) (hb : Byte l) (hl : l.length < 17592186044416) (hbs : base ≤ w.heap.size) (ho : readO m 112 l = o) :
    Calls Try.prog 109 #[.pointer (some ⟨bm, 0, none⟩), .int .i32 112, .slice A l.length c] w fun e w' => ReadPost bm base w o e w' := by
  have hu91 := Try.underlying91
  have hu87 := Try.underlying87
  have HBOX := Aside0.mk hbox
  have HM := Aside0.mk hm
  have HR := Aside0.mk hR
  have HBy := Aside0.mk hb
  have HL := Aside0.mk hl
  have HBS := Aside0.mk hbs
  simp (config := { decide := true }) only [readO, if_true, if_false] at ho
  have HO := Aside0.mk ho
  clear hbox hm hR hb hl hbs ho
  obtain ⟨q, hq⟩ : ∃ q, allO provenO l = q := ⟨_, rfl⟩
  have HQ := Aside0.mk hq
  have hoo := HO.out
  rw [hq] at hoo
  clear hq HO
  cases q with
  | none =>
    have : o = none := hoo.symm
    subst this
    clear hoo
    go_enter Try.func109, Try.ntmps109
    go_wp2_with (go_at_call 145; refine (allProvens_calls A c l none _ (Kd.R_reads' HR.out).2.2 (Kd.R_reads' HR.out).2.1 HBy.out HL.out HQ.out).mono ?_; rintro e w1 ⟨hB, y, hy, rfl⟩; have HB1 := Aside0.mk hB; have HY := Aside0.mk hy; clear hB hy)
    exact ⟨rfl, grown_of_below HB1.out _, _, HY.out, rfl, m, v, (HB1.out.block _ (blk_lt2 HBOX.out)).trans HBOX.out⟩
  | some xs =>
    have : o = some { m with proven := xs } := hoo.symm
    subst this
    clear hoo
    go_enter Try.func109, Try.ntmps109
    go_wp2_with (fail)
    refine (allProvens_calls A c l (some xs) _ (Kd.R_reads' HR.out).2.2 (Kd.R_reads' HR.out).2.1 HBy.out HL.out HQ.out).mono ?_
    rintro e w1 ⟨hB, A1, c1, rfl, hX⟩
    have HBOX1 := Aside0.mk ((hB.block _ (blk_lt2 HBOX.out)).trans HBOX.out)
    have HM1 := Aside0.mk (HM.out.below hB)
    have HB1 := Aside0.mk hB
    have HX1 := Aside0.mk (Kd.R_mono (Kd.R_lower hX HBS.out) (fun k hk => Nat.le_trans HBS.out hk))
    have x12 : w1.cell? ⟨bm, 12, none⟩ = some (v 4) := (blk_cell HBOX1.out 12).trans rfl
    have f12 : w1.frozen? ⟨bm, 12, none⟩ = false := blk_frozen HBOX1.out 12
    clear hB hX
    go_wp2_with (fail)
    go_end0
    exact ⟨(grown_of_below HB1.out (some bm)).trans (grown_set2 _ _ _ _), (fun n => if n = 4 then .slice A1 xs.length c1 else v n), rfl, blk_put HBOX1.out 12 (.slice A1 xs.length c1) rfl, have h := HM1.out.set HBOX1.out 12 (.slice A1 xs.length c1); have hx := Kd.R_set HX1.out HBOX1.out (by simp [k101, k87, k72, k70, Kd.iso, Kd.pair, Kd.slice, Kd.int, Kd.scalar]) 12 (.slice A1 xs.length c1); ⟨h.r0, h.r1, h.r2, h.r3, hx⟩⟩
end Go.Proofs.Ytijccobeljoikaa.Ms

/- msg: an entry read into a message; any field. -/
namespace Go.Proofs.Ytijccobeljoikaa.Ms
open Go.RowKit Go.Proofs.YtijccobeljoikaaW.PrintWords Go.Proofs.YtijccobeljoikaaW.PrintLast
open Go.Proofs.Ytijccobeljoikaa.Plain Go.Proofs.Ytijccobeljoikaa.Walks
set_option linter.unusedVariables false
set_option linter.unusedSimpArgs false
set_option maxHeartbeats 4000000 in
set_option maxRecDepth 100000 in
theorem read_e (m : S91) (v : Nat → Value) (l : List Int) (A : Option Addr) (c : Nat) (o : Option S91) (bm base : Nat) (w : World) (hbox : w.heap[bm]? = some (.cells #[.int .i64 m.kind, .int .i64 m.view, .int .i64 m.seq, .int .i64 m.client, .int .i64 m.stamp, .int .i64 m.entry.f0, .int .i64 m.entry.f1, .int .i64 m.entry.f2, v 0, v 1, v 2, v 3, v 4] 91)) (hm : MsgO w base m v) (hR : Kd.R (Kd.int .u8) 5 w base (fun k => base ≤ k) (.slice A l.length c) l) (hb : Byte l) (hl : l.length < 17592186044416) (hbs : base ≤ w.heap.size) (ho : readO m 101 l = o) :
    Calls Try.prog 109 #[.pointer (some ⟨bm, 0, none⟩), .int .i32 101, .slice A l.length c] w fun e w' => ReadPost bm base w o e w' := by
  have hu91 := Try.underlying91
  have hu87 := Try.underlying87
  have HBOX := Aside0.mk hbox
  have HM := Aside0.mk hm
  have HR := Aside0.mk hR
  have HBy := Aside0.mk hb
  have HL := Aside0.mk hl
  have HBS := Aside0.mk hbs
  simp (config := { decide := true }) only [readO, if_true, if_false] at ho
  have HO := Aside0.mk ho
  clear hbox hm hR hb hl hbs ho
  obtain ⟨q, hq⟩ : ∃ q, entryO l = q := ⟨_, rfl⟩
  have HQ := Aside0.mk hq
  have hoo := HO.out
  rw [hq] at hoo
  clear hq HO
  cases q with
  | none =>
    have : o = none := hoo.symm
    subst this
    clear hoo
    go_enter Try.func109, Try.ntmps109
    go_wp2_with (go_at_call 124; refine (readEntry_calls A c l none _ (Kd.R_reads' HR.out).2.2 (Kd.R_reads' HR.out).2.1 HBy.out HL.out HQ.out).mono ?_; rintro e w1 ⟨hB, y, hy, rfl⟩; have HB1 := Aside0.mk hB; have HY := Aside0.mk hy; clear hB hy)
    exact ⟨rfl, grown_of_below HB1.out _, _, HY.out, rfl, m, v, (HB1.out.block _ (blk_lt2 HBOX.out)).trans HBOX.out⟩
  | some x =>
    have : o = some { m with entry := x } := hoo.symm
    subst this
    clear hoo
    go_enter Try.func109, Try.ntmps109
    go_wp2_with (fail)
    refine (readEntry_calls A c l (some x) _ (Kd.R_reads' HR.out).2.2 (Kd.R_reads' HR.out).2.1 HBy.out HL.out HQ.out).mono ?_
    rintro e w1 ⟨hB, A1, c1, rfl, hX⟩
    have HBOX1 := Aside0.mk ((hB.block _ (blk_lt2 HBOX.out)).trans HBOX.out)
    have HM1 := Aside0.mk (HM.out.below hB)
    have HB1 := Aside0.mk hB
    have HX1 := Aside0.mk (Kd.R_mono (Kd.R_lower hX HBS.out) (fun k hk => Nat.le_trans HBS.out hk))
    have HBOX2 := Aside0.mk (blk_put HBOX1.out 5 (.int .i64 x.f0) rfl)
    have HBOX3 := Aside0.mk (blk_put HBOX2.out 6 (.int .i64 x.f1) rfl)
    have HBOX4 := Aside0.mk (blk_put HBOX3.out 7 (.int .i64 x.f2) rfl)
    have HBOX5 := Aside0.mk (blk_put HBOX4.out 8 (.slice A1 x.f3.length c1) rfl)
    have x5 : w1.cell? ⟨bm, 5, none⟩ = some (.int .i64 m.entry.f0) := (blk_cell HBOX1.out 5).trans rfl
    have f5 : w1.frozen? ⟨bm, 5, none⟩ = false := blk_frozen HBOX1.out 5
    have x6 : (w1.setCell ⟨bm, 5, none⟩ (.int .i64 x.f0)).cell? ⟨bm, 6, none⟩ = some (.int .i64 m.entry.f1) := (blk_cell HBOX2.out 6).trans rfl
    have f6 : (w1.setCell ⟨bm, 5, none⟩ (.int .i64 x.f0)).frozen? ⟨bm, 6, none⟩ = false := blk_frozen HBOX2.out 6
    have x7 : ((w1.setCell ⟨bm, 5, none⟩ (.int .i64 x.f0)).setCell ⟨bm, 6, none⟩ (.int .i64 x.f1)).cell? ⟨bm, 7, none⟩ = some (.int .i64 m.entry.f2) := (blk_cell HBOX3.out 7).trans rfl
    have f7 : ((w1.setCell ⟨bm, 5, none⟩ (.int .i64 x.f0)).setCell ⟨bm, 6, none⟩ (.int .i64 x.f1)).frozen? ⟨bm, 7, none⟩ = false := blk_frozen HBOX3.out 7
    have x8 : (((w1.setCell ⟨bm, 5, none⟩ (.int .i64 x.f0)).setCell ⟨bm, 6, none⟩ (.int .i64 x.f1)).setCell ⟨bm, 7, none⟩ (.int .i64 x.f2)).cell? ⟨bm, 8, none⟩ = some (v 0) := (blk_cell HBOX4.out 8).trans rfl
    have f8 : (((w1.setCell ⟨bm, 5, none⟩ (.int .i64 x.f0)).setCell ⟨bm, 6, none⟩ (.int .i64 x.f1)).setCell ⟨bm, 7, none⟩ (.int .i64 x.f2)).frozen? ⟨bm, 8, none⟩ = false := blk_frozen HBOX4.out 8
    have HG := Aside0.mk ((((grown_set2 w1 bm 5 (.int .i64 x.f0)).trans (grown_set2 _ bm 6 (.int .i64 x.f1))).trans (grown_set2 _ bm 7 (.int .i64 x.f2))).trans (grown_set2 _ bm 8 (.slice A1 x.f3.length c1)))
    have HM5 := Aside0.mk ((((HM1.out.set HBOX1.out 5 (.int .i64 x.f0)).set HBOX2.out 6 (.int .i64 x.f1)).set HBOX3.out 7 (.int .i64 x.f2)).set HBOX4.out 8 (.slice A1 x.f3.length c1))
    have HX5 := Aside0.mk (Kd.R_set (Kd.R_set (Kd.R_set (Kd.R_set HX1.out HBOX1.out (by simp [Kd.int, Kd.scalar]) 5 (.int .i64 x.f0)) HBOX2.out (by simp [Kd.int, Kd.scalar]) 6 (.int .i64 x.f1)) HBOX3.out (by simp [Kd.int, Kd.scalar]) 7 (.int .i64 x.f2)) HBOX4.out (by simp [Kd.int, Kd.scalar]) 8 (.slice A1 x.f3.length c1))
    clear hB hX
    go_wp2_with (fail)
    go_end0
    exact ⟨(grown_of_below HB1.out (some bm)).trans HG.out, (fun n => if n = 0 then .slice A1 x.f3.length c1 else v n), rfl, HBOX5.out, ⟨HX5.out, HM5.out.r1, HM5.out.r2, HM5.out.r3, HM5.out.r4⟩⟩
/-- Any field. -/
theorem read_calls (m : S91) (v : Nat → Value) (b : UInt8) (h9 : b ∈ letters9) (l : List Int) (A : Option Addr) (c : Nat) (o : Option S91) (bm base : Nat) (w : World) (hbox : w.heap[bm]? = some (.cells #[.int .i64 m.kind, .int .i64 m.view, .int .i64 m.seq, .int .i64 m.client, .int .i64 m.stamp, .int .i64 m.entry.f0, .int .i64 m.entry.f1, .int .i64 m.entry.f2, v 0, v 1, v 2, v 3, v 4] 91)) (hm : MsgO w base m v) (hR : Kd.R (Kd.int .u8) 5 w base (fun k => base ≤ k) (.slice A l.length c) l) (hb : Byte l) (hl : l.length < 17592186044416) (hbs : base ≤ w.heap.size) (ho : readO m b l = o) :
    Calls Try.prog 109 #[.pointer (some ⟨bm, 0, none⟩), .int .i32 (b.toNat : Int), .slice A l.length c] w fun e w' => ReadPost bm base w o e w' := by
  simp only [letters9, List.mem_cons, List.not_mem_nil, or_false] at h9
  rcases h9 with rfl | rfl | rfl | rfl | rfl | rfl | rfl | rfl | rfl
  · exact read_v m v l A c o bm base w hbox hm hR hb hl hbs ho
  · exact read_s m v l A c o bm base w hbox hm hR hb hl hbs ho
  · exact read_c m v l A c o bm base w hbox hm hR hb hl hbs ho
  · exact read_t m v l A c o bm base w hbox hm hR hb hl hbs ho
  · exact read_e m v l A c o bm base w hbox hm hR hb hl hbs ho
  · exact read_d m v l A c o bm base w hbox hm hR hb hl hbs ho
  · exact read_b m v l A c o bm base w hbox hm hR hb hl hbs ho
  · exact read_l m v l A c o bm base w hbox hm hR hb hl hbs ho
  · exact read_p m v l A c o bm base w hbox hm hR hb hl hbs ho
end Go.Proofs.Ytijccobeljoikaa.Ms

/- msg: Decode. -/
namespace Go.Proofs.Ytijccobeljoikaa.Ms
open Go.RowKit Go.Proofs.YtijccobeljoikaaW.PrintWords Go.Proofs.YtijccobeljoikaaW.PrintLast
open Go.Proofs.Ytijccobeljoikaa.Plain Go.Proofs.Ytijccobeljoikaa.Walks
set_option linter.unusedVariables false
set_option linter.unusedSimpArgs false

theorem MsgO.opened {w : World} {base : Nat} {m : S91} {v : Nat → Value} (h : MsgO w base m v) : ∃ (a : Nat → Option Addr) (c : Nat → Nat), v 0 = .slice (a 0) m.entry.f3.length (c 0) ∧ v 1 = .slice (a 1) m.digest.length (c 1) ∧ v 2 = .slice (a 2) m.data.length (c 2) ∧ v 3 = .slice (a 3) m.proof.length (c 3) ∧ v 4 = .slice (a 4) m.proven.length (c 4) ∧ Msg w m a c := by
  obtain ⟨A0, c0, e0, l0, k0⟩ := Kd.R_reads h.r0
  obtain ⟨A1, c1, e1, l1, k1⟩ := Kd.R_reads h.r1
  obtain ⟨A2, c2, e2, l2, k2⟩ := Kd.R_reads h.r2
  obtain ⟨A3, c3, e3, l3, k3⟩ := Kd.R_reads h.r3
  obtain ⟨A4, c4, e4, l4, k4⟩ := Kd.R_reads h.r4
  exact ⟨fun n => if n = 0 then A0 else if n = 1 then A1 else if n = 2 then A2 else if n = 3 then A3 else A4, fun n => if n = 0 then c0 else if n = 1 then c1 else if n = 2 then c2 else if n = 3 then c3 else c4, e0, e1, e2, e3, e4, ⟨k0, l0, k1, l1, k2, l2, k3, l3, k4, l4⟩⟩
theorem msgO_zero (w : World) (base : Nat) (k : Int) : MsgO w base { z91 with kind := k } (fun _ => .slice none 0 0) :=
  ⟨Kd.R_nil _ _ _ _ _, Kd.R_nil _ _ _ _ _, Kd.R_nil _ _ _ _ _, Kd.R_nil _ _ _ _ _, Kd.R_nil _ _ _ _ _⟩
set_option maxHeartbeats 8000000 in
set_option maxRecDepth 100000 in
theorem decode1_calls (l : List Int) (A : Option Addr) (c : Nat) (o : Option S91) (bb bm : Nat) (w : World) (hbb : w.heap[bb]? = some (.cells #[.slice A l.length c] 22)) (hbm : w.heap[bm]? = some (.cells #[.int .i64 0, .int .i64 0, .int .i64 0, .int .i64 0, .int .i64 0, .int .i64 0, .int .i64 0, .int .i64 0, .slice none 0 0, .slice none 0 0, .slice none 0 0, .slice none 0 0, .slice none 0 0] 91)) (hC : Kd.C (Kd.int .u8) w A l.length l) (hc : l.length ≤ c) (hb : Byte l) (hl : l.length < 17592186044416) (ho : decO l = o) :
    Calls Try.prog 106 #[.pointer (some ⟨bb, 0, none⟩), .pointer (some ⟨bm, 0, none⟩)] w fun e w' => ReadPost bm w.heap.size w o e w' := by
  have hu91 := Try.underlying91
  have HBM := Aside0.mk hbm
  have HC := Aside0.mk hC
  have Hc := Aside0.mk hc
  have HBy := Aside0.mk hb
  have HL := Aside0.mk hl
  have xb : w.cell? ⟨bb, 0, none⟩ = some (.slice A l.length c) := (blk_cell hbb 0).trans rfl
  have hbmlt := blk_lt2 hbm
  rcases splitO_cases l with ⟨rs, x, hs, hx, hf⟩ | ⟨s, hs, hf⟩
  · have HS := Aside0.mk hs
    have HX := Aside0.mk hx
    have : o = none := by rw [← ho, decO, hf]; rfl
    subst this
    clear hbb hbm hC hc hb hl ho hf hs hx
    go_enter Try.func106, Try.ntmps106
    go_wp2_with (go_at_call 107; refine (split_bad A c l rs x _ HC.out Hc.out HBy.out (by have := HL.out; omega) HS.out HX.out).mono ?_; rintro e w1 ⟨rfl, hB⟩; have HB1 := Aside0.mk hB; clear hB)
    exact ⟨rfl, grown_of_below HB1.out _, x, HX.out, rfl, z91, fun _ => .slice none 0 0, (HB1.out.block _ (blk_lt2 HBM.out)).trans HBM.out⟩
  · obtain ⟨hj, hbs⟩ := splitO_some hb hf
    have hls := (joinP_some hj).2.1
    have hln := (joinP_some hj).2.2
    have HS := Aside0.mk hs
    have HBs := Aside0.mk hbs
    have HLs := Aside0.mk hls
    have ho' := ho
    unfold decO at ho'
    rw [hf] at ho'
    simp only [Option.bind_some] at ho'
    clear hbb hbm hC hc hb hl ho hf hs hj hbs hls
    go_enter Try.func106, Try.ntmps106
    go_wp2_with (fail)
    refine (split_ok A c l s _ HC.out Hc.out HBy.out (by have := HL.out; omega) HS.out).mono ?_
    rintro e w1 ⟨A1, c1, rfl, hG⟩
    have HG := Aside0.mk hG
    have HBM1 := Aside0.mk ((hG.keep.block _ (blk_lt2 HBM.out)).trans HBM.out)
    clear hG xb
    cases s with
    | nil =>
      have : o = none := ho'.symm
      subst this
      clear ho'
      go_wp2_with (go_at_call 94; refine (need_bad 12 _).mono ?_; rintro e w2 ⟨rfl, rfl⟩)
      exact ⟨rfl, grown_of_below HG.out.keep _, 12, by decide, rfl, z91, fun _ => .slice none 0 0, HBM1.out⟩
    | cons s0 st =>
      rw [if_neg (by simp)] at ho'
      simp only [List.getD_cons_zero, List.drop_succ_cons, List.drop_zero] at ho'
      obtain ⟨g1, rfl, hg1⟩ := got_head HG.out (by simp)
      have Hg1 := Aside0.mk hg1
      obtain ⟨A2, c2, y0, hR0⟩ := rows_at HG.out 0 (by simp)
      simp only [List.getElem_cons_zero] at y0 hR0
      have HR0 := Aside0.mk hR0
      have Hb0 := Aside0.mk (HBs.out s0 (by simp))
      have Hl0 := Aside0.mk (HLs.out s0 (by simp))
      have HLN := Aside0.mk hln
      clear hg1 hR0 hln
      rcases ints_cases s0 1 with ⟨vs, x, hi, hbad, hf⟩ | ⟨vs, hi, hn, hf⟩
      · rw [hf] at ho'
        have : o = none := ho'.symm
        subst this
        have HI := Aside0.mk hi
        have HX := Aside0.mk hbad
        clear ho' hf hi hbad
        go_wp2_with (first
          | (go_at_call 94; refine (need_ok 12 _).mono ?_; rintro e w2 ⟨rfl, rfl⟩)
          | (go_at_call 108; refine (ints_bad A2 c2 1 s0 vs x _ (Kd.R_reads' HR0.out).2.2 (Kd.R_reads' HR0.out).2.1 Hb0.out (by have := Hl0.out; omega) HI.out HX.out).mono ?_; rintro e w3 ⟨rfl, hB⟩; have HB3 := Aside0.mk (below_then HG.out.keep HG.out.keep.size hB); clear hB))
        exact ⟨rfl, grown_of_below HB3.out _, 12, by decide, rfl, z91, fun _ => .slice none 0 0, (HB3.out.block _ (blk_lt2 HBM.out)).trans HBM.out⟩
      · obtain ⟨k, rfl⟩ := one hn
        rw [hf] at ho'
        simp only [Option.bind_some, List.getD_cons_zero] at ho'
        have HI := Aside0.mk hi
        clear hf hi hn
        go_wp2_with (go_at_call 94; refine (need_ok 12 _).mono ?_; rintro e w2 ⟨rfl, rfl⟩)
        refine (ints_ok A2 c2 1 s0 [k] _ (Kd.R_reads' HR0.out).2.2 (Kd.R_reads' HR0.out).2.1 Hb0.out (by have := Hl0.out; omega) HI.out rfl).mono ?_
        rintro e w3 ⟨A4, c4, rfl, hG⟩
        obtain ⟨g4, rfl, hg4⟩ := got_head hG (by simp)
        have z0 := nums_at hG 0 (by simp)
        simp only [List.getElem_cons_zero] at z0
        have HBM3 := Aside0.mk ((hG.keep.block _ (blk_lt2 HBM1.out)).trans HBM1.out)
        have HGR3 := Aside0.mk (grown_of_below hG.keep (some bm))
        have x0 : w3.cell? ⟨bm, 0, none⟩ = some (.int .i64 0) := (blk_cell HBM3.out 0).trans rfl
        have f0 : w3.frozen? ⟨bm, 0, none⟩ = false := blk_frozen HBM3.out 0
        have HBM4 := Aside0.mk (blk_put HBM3.out 0 (.int .i64 k) rfl)
        have HGR4 := Aside0.mk (HGR3.out.trans (grown_set2 w3 bm 0 (.int .i64 k)))
        have x1 : (w3.setCell ⟨bm, 0, none⟩ (.int .i64 k)).cell? ⟨bm, 0, none⟩ = some (.int .i64 k) := (blk_cell HBM4.out 0).trans rfl
        clear hG hg4 y0
        go_wp2_with (fail)
        clear x0 f0 x1 z0 HGR3 HBM3
        generalize w3.setCell ⟨bm, 0, none⟩ (.int .i64 k) = w4 at HBM4 HGR4 ⊢
        refine (parts_calls k w4).mono ?_
        rintro e w5 ⟨rfl, hB⟩
        have HBM5 := Aside0.mk ((hB.block _ (blk_lt2 HBM4.out)).trans HBM4.out)
        have HGR5 := Aside0.mk (HGR4.out.trans (grown_of_below hB _))
        have HP9 := Aside0.mk (parts_nine k).2
        have HPS := Aside0.mk (parts_small k)
        obtain ⟨p, hp⟩ : ∃ p, p = partsS k := ⟨_, rfl⟩
        rw [← hp] at ho' HP9 HPS ⊢
        clear hB hp HBM4 HGR4
        by_cases hp0 : p = ⟨#[]⟩
        · subst hp0
          rw [if_neg (by simp)] at ho'
          have : o = none := ho'.symm
          subst this
          clear ho'
          go_wp2_with (go_at_call 94; refine (need_bad 12 _).mono ?_; rintro e w6 ⟨rfl, rfl⟩)
          exact ⟨rfl, (grown_of_below HG.out.keep (some bm)).trans HGR5.out, 12, by decide, rfl, { z91 with kind := k }, fun _ => .slice none 0 0, HBM5.out⟩
        · have hne : p.toList.isEmpty = false := by
            rw [List.isEmpty_eq_false_iff, ByteArray.toList_eq]
            intro e
            apply hp0
            obtain ⟨d⟩ := p
            have : d = #[] := by rw [← Array.toList_inj]; exact e
            rw [this]
          have hps := HPS.out
          have hst : st.length + 1 ≤ 1024 := HLN.out
          by_cases hlen : st.length = p.size
          · rw [if_pos ⟨hp0, by rw [List.length_cons]; omega⟩] at ho'
            obtain ⟨qb, hqb⟩ : ∃ q, q = ((st.length : Int) + 1 == 1 + (p.size : Int)) := ⟨_, rfl⟩
            have HQB := Aside0.mk (show qb = true by rw [hqb]; exact beq_iff_eq.mpr (by omega))
            have e1 := hqb.symm
            clear hqb
            have HLEN := Aside0.mk hlen
            have HO := Aside0.mk ho'
            clear hlen ho'
            go_wp2_with (go_at_call 94; rw [HQB.out]; refine (need_ok 12 _).mono ?_; rintro e w6 ⟨rfl, rfl⟩)
            have HI := Aside0.mk (World.iter_heap w6 p 0)
            have hbi := below_alloc (Below.refl w6.heap.size w6) (.stringIter p 0)
            have HBM6 : Aside0 ((w6.iter p 0).heap[bm]? = some (.cells #[.int .i64 k, .int .i64 0, .int .i64 0, .int .i64 0, .int .i64 0, .int .i64 0, .int .i64 0, .int .i64 0, .slice none 0 0, .slice none 0 0, .slice none 0 0, .slice none 0 0, .slice none 0 0] 91)) := ⟨(hbi.block _ (blk_lt2 HBM5.out)).trans HBM5.out⟩
            have HGR6 : Aside0 (w2.grownBy (w6.iter p 0) (some bm)) := ⟨HGR5.out.trans (grown_of_below hbi _)⟩
            have HRL := Aside0.mk (show w2.heap.size ≤ w6.heap.size from HGR5.out.size)
            obtain ⟨r, hr⟩ : ∃ r, r = w6.heap.size := ⟨_, rfl⟩
            rw [← hr] at HI HRL ⊢
            clear hr hbi hne e1 HBM5 HGR5
            generalize w6.iter p 0 = w7 at HI HBM6 HGR6 ⊢
            go_loopw [4, 5] (fun _ _ wr => ∃ (i : Nat) (m : S91) (v : Nat → Value), Aside0 (wr.heap[r]? = some (.stringIter p i)) ∧ Aside0 (i ≤ p.size) ∧ Aside0 (wr.heap[bm]? = some (.cells #[.int .i64 m.kind, .int .i64 m.view, .int .i64 m.seq, .int .i64 m.client, .int .i64 m.stamp, .int .i64 m.entry.f0, .int .i64 m.entry.f1, .int .i64 m.entry.f2, v 0, v 1, v 2, v 3, v 4] 91)) ∧ Aside0 (MsgO wr w.heap.size m v) ∧ Aside0 ((decGo m (p.data.toList.drop i) (st.drop i)).bind (fun m => if rightB m p then some m else none) = o) ∧ Aside0 (w2.grownBy wr (some bm))) (fun _ _ wr => p.size - wr.iterPos r)
            case atStart => exact ⟨0, { z91 with kind := k }, fun _ => .slice none 0 0, HI, ⟨Nat.zero_le _⟩, HBM6, ⟨msgO_zero _ _ _⟩, HO, HGR6⟩
            case round =>
              clear HI HBM6 HGR6 HO
              obtain ⟨i, m, v, HI, HIL, HBX, HM, HO, HGR⟩ := hrel
              have HNE := Aside0.mk (show bm ≠ r by intro e; rw [e] at HBX; exact ne_iter HI.out HBX.out rfl)
              by_cases hi : i < p.size
              · obtain ⟨b, hb⟩ : ∃ b, b = p[i]'hi := ⟨_, rfl⟩
                have hil : i < p.data.toList.length := by rw [← psize]; exact hi
                have hbl : p.data.toList[i]'hil = b := by rw [hb]; simp [ByteArray.getElem_eq_getElem_data]
                have hdr : p.data.toList.drop i = b :: p.data.toList.drop (i + 1) := by rw [← hbl]; exact drop_step hil
                have hmem : b ∈ p.data.toList := by rw [← hbl]; exact List.getElem_mem hil
                have h9 := HP9.out b hmem
                have hnx : ∀ ty, (Instr.next (.pointer (some ⟨r, 0, none⟩)) true ty).run Try.prog wr = .ok (.tuple #[.bool true, .int .i64 i, .int .i32 (b.toNat : Int)]) (wr.iterAt r p (i + 1)) := fun ty => by rw [Lib.run_next_ascii_at wr r p i ty HI.out hi (by rw [← hb]; exact letter_small h9), hb]
                have H9 := Aside0.mk h9
                have his : i < st.length := by rw [HLEN.out]; exact hi
                have hds : st.drop i = st[i] :: st.drop (i + 1) := drop_step his
                have hoo := HO.out
                rw [hdr, hds, decGo] at hoo
                simp only [List.getD_cons_zero, List.drop_succ_cons, List.drop_zero] at hoo
                obtain ⟨Ai, ci, y1, hR1⟩ := rows_at HG.out (i + 1) (by rw [List.length_cons]; omega)
                rw [List.getElem_cons_succ] at y1 hR1
                obtain ⟨q, hq⟩ : ∃ q, q = st[i] := ⟨_, rfl⟩
                have HBq := Aside0.mk (show Byte q from hq ▸ HBs.out _ (List.mem_cons_of_mem _ (List.getElem_mem his)))
                have HLq := Aside0.mk (show q.length < 17592186044416 by have := HLs.out _ (List.mem_cons_of_mem _ (List.getElem_mem his)); rw [← hq] at this; omega)
                rw [← hq] at y1 hR1 hoo
                have HGR1 := Aside0.mk (show w2.grownBy (wr.iterAt r p (i + 1)) (some bm) from ⟨HGR.out.os, HGR.out.tape, HGR.out.output, by rw [Lib.iterAt_size]; exact HGR.out.size, fun j hj hne => (Lib.iterAt_other wr r j p (i + 1) (by have := HRL.out; omega)).trans (HGR.out.block j hj hne)⟩)
                have HI1 := Aside0.mk (Lib.iterAt_heap wr r p i (i + 1) HI.out)
                have HBX1 := Aside0.mk ((Lib.iterAt_other wr r bm p (i + 1) HNE.out).trans HBX.out)
                have HM1 := Aside0.mk (show MsgO (wr.iterAt r p (i + 1)) w.heap.size m v from ⟨R_iter HM.out.r0 HI.out _, R_iter HM.out.r1 HI.out _, R_iter HM.out.r2 HI.out _, R_iter HM.out.r3 HI.out _, R_iter HM.out.r4 HI.out _⟩)
                have hms := Aside0.mk (show p.size - (i + 1) < p.size - wr.iterPos r by rw [pos_of HI.out]; omega)
                have HL1 := Aside0.mk (show i + 1 ≤ p.size by omega)
                obtain ⟨W1, hW1⟩ : ∃ W1, W1 = wr.iterAt r p (i + 1) := ⟨_, rfl⟩
                rw [← hW1] at hnx HGR1 HI1 HBX1 HM1
                have HR1 := Aside0.mk (Kd.R_grown hR1 HGR1.out (fun k hk e => by injection e with e; omega))
                have y2 : W1.cell? ⟨g1, i + 1, none⟩ = some (.slice Ai q.length ci) := HGR1.out.cell y1 (fun e => by have e2 : g1 = bm := Option.some.inj e; have := Hg1.out; omega)
                have HRB := Aside0.mk (show W1.heap[r]? = some (.stringIter p (i + 1)) from HI1.out)
                have HS1 := Aside0.mk (show w.heap.size ≤ W1.heap.size from Nat.le_trans HG.out.keep.size HGR1.out.size)
                clear hW1 HI HIL HBX HM HO HGR hb hil hbl hdr hmem h9 hds hR1 y1 hq hi
                have b1 : (0 ≤ (i : Int) + 1) = True := eq_true (by omega)
                have b2 : ((i : Int) + 1 < (st.length : Int) + 1) = True := eq_true (by omega)
                obtain ⟨o1, ho1⟩ : ∃ o1, readO m b q = o1 := ⟨_, rfl⟩
                rw [ho1] at hoo
                have HO1 := Aside0.mk ho1
                clear ho1
                go_wp2_with (fail)
                refine (read_calls m v b H9.out q Ai ci o1 bm w.heap.size W1 HBX1.out HM1.out HR1.out HBq.out HLq.out HS1.out HO1.out).mono ?_
                rintro e w8 ⟨hg, hh⟩
                have HGR8 := Aside0.mk (HGR1.out.trans hg)
                cases o1 with
                | none =>
                  obtain ⟨y, hy, rfl, m9, v9, hb9⟩ := hh
                  have HB9 := Aside0.mk hb9
                  have : o = none := hoo.symm
                  subst this
                  have HY := Aside0.mk hy
                  clear hoo hg hy hb9
                  go_wp2_with (fail)
                  exact ⟨rfl, (grown_of_below HG.out.keep (some bm)).trans HGR8.out, y, HY.out, rfl, m9, v9, HB9.out⟩
                | some m1 =>
                  obtain ⟨v1, rfl, hbx, hm⟩ := hh
                  have HI8 := Aside0.mk ((hg.block r (blk_lt2 HI1.out) (fun e => HNE.out (by injection e with e; exact e.symm))).trans HI1.out)
                  have HBX8 := Aside0.mk hbx
                  have HM8 := Aside0.mk hm
                  have HO8 := Aside0.mk hoo
                  clear hg hbx hm hoo
                  go_wp2_with (fail)
                  refine ⟨⟨i + 1, m1, v1, HI8, HL1, HBX8, HM8, HO8, HGR8⟩, ?_⟩
                  rw [pos_of HI8.out]
                  exact hms.out
              · have hnx : ∀ ty, (Instr.next (.pointer (some ⟨r, 0, none⟩)) true ty).run Try.prog wr = .ok (.tuple #[.bool false]) wr := fun ty => Lib.run_next_end_at wr r p i ty HI.out hi
                have hoo := HO.out
                rw [List.drop_eq_nil_of_le (by rw [← psize]; omega), decGo] at hoo
                simp only [Option.bind_some] at hoo
                obtain ⟨a, d, e0, e1, e2, e3, e4, hMsg⟩ := HM.out.opened
                have HBX2 := Aside0.mk (show wr.heap[bm]? = some (.cells #[.int .i64 m.kind, .int .i64 m.view, .int .i64 m.seq, .int .i64 m.client, .int .i64 m.stamp, .int .i64 m.entry.f0, .int .i64 m.entry.f1, .int .i64 m.entry.f2, .slice (a 0) m.entry.f3.length (d 0), .slice (a 1) m.digest.length (d 1), .slice (a 2) m.data.length (d 2), .slice (a 3) m.proof.length (d 3), .slice (a 4) m.proven.length (d 4)] 91) by rw [← e0, ← e1, ← e2, ← e3, ← e4]; exact HBX.out)
                have HMS := Aside0.mk hMsg
                have x0 : wr.cell? ⟨bm, 0, none⟩ = some (.int .i64 m.kind) := (blk_cell HBX2.out 0).trans rfl
                have x1 : wr.cell? ⟨bm, 1, none⟩ = some (.int .i64 m.view) := (blk_cell HBX2.out 1).trans rfl
                have x2 : wr.cell? ⟨bm, 2, none⟩ = some (.int .i64 m.seq) := (blk_cell HBX2.out 2).trans rfl
                have x3 : wr.cell? ⟨bm, 3, none⟩ = some (.int .i64 m.client) := (blk_cell HBX2.out 3).trans rfl
                have x4 : wr.cell? ⟨bm, 4, none⟩ = some (.int .i64 m.stamp) := (blk_cell HBX2.out 4).trans rfl
                have x5 : wr.cell? ⟨bm, 5, none⟩ = some (.int .i64 m.entry.f0) := (blk_cell HBX2.out 5).trans rfl
                have x6 : wr.cell? ⟨bm, 6, none⟩ = some (.int .i64 m.entry.f1) := (blk_cell HBX2.out 6).trans rfl
                have x7 : wr.cell? ⟨bm, 7, none⟩ = some (.int .i64 m.entry.f2) := (blk_cell HBX2.out 7).trans rfl
                have x8 : wr.cell? ⟨bm, 8, none⟩ = some (.slice (a 0) m.entry.f3.length (d 0)) := (blk_cell HBX2.out 8).trans rfl
                have x9 : wr.cell? ⟨bm, 9, none⟩ = some (.slice (a 1) m.digest.length (d 1)) := (blk_cell HBX2.out 9).trans rfl
                have x10 : wr.cell? ⟨bm, 10, none⟩ = some (.slice (a 2) m.data.length (d 2)) := (blk_cell HBX2.out 10).trans rfl
                have x11 : wr.cell? ⟨bm, 11, none⟩ = some (.slice (a 3) m.proof.length (d 3)) := (blk_cell HBX2.out 11).trans rfl
                have x12 : wr.cell? ⟨bm, 12, none⟩ = some (.slice (a 4) m.proven.length (d 4)) := (blk_cell HBX2.out 12).trans rfl
                clear e0 e1 e2 e3 e4 hMsg hi HIL
                go_wp2_with (fail)
                have hE := right_calls empty_calls m a d p wr HMS.out
                with_reducible refine hE.mono ?_
                clear hE
                rintro e w9 ⟨rfl, hB⟩
                obtain ⟨qr, hqr⟩ : ∃ q, q = rightB m p := ⟨_, rfl⟩
                rw [← hqr] at hoo ⊢
                have HB9 := Aside0.mk hB
                clear hqr hB
                cases qr with
                | false =>
                  have : o = none := hoo.symm
                  subst this
                  clear hoo
                  go_wp2_with (go_at_call 94; refine (need_bad 12 _).mono ?_; rintro e w10 ⟨rfl, rfl⟩)
                  exact ⟨rfl, ((grown_of_below HG.out.keep (some bm)).trans HGR.out).trans (grown_of_below HB9.out _), 12, by decide, rfl, m, v, (HB9.out.block _ (blk_lt2 HBX.out)).trans HBX.out⟩
                | true =>
                  have : o = some m := hoo.symm
                  subst this
                  clear hoo
                  go_wp2_with (go_at_call 94; refine (need_ok 12 _).mono ?_; rintro e w10 ⟨rfl, rfl⟩)
                  go_end0
                  exact ⟨((grown_of_below HG.out.keep (some bm)).trans HGR.out).trans (grown_of_below HB9.out _), v, rfl, (HB9.out.block _ (blk_lt2 HBX.out)).trans HBX.out, HM.out.below HB9.out⟩
          · rw [if_neg (by rw [List.length_cons]; omega)] at ho'
            have : o = none := ho'.symm
            subst this
            clear ho'
            have e1 : ((st.length : Int) + 1 == 1 + (p.size : Int)) = false := beq_eq_false_iff_ne.mpr (by omega)
            go_wp2_with (go_at_call 94; refine (need_bad 12 _).mono ?_; rintro e w6 ⟨rfl, rfl⟩)
            exact ⟨rfl, (grown_of_below HG.out.keep (some bm)).trans HGR5.out, 12, by decide, rfl, { z91 with kind := k }, fun _ => .slice none 0 0, HBM5.out⟩
end Go.Proofs.Ytijccobeljoikaa.Ms

/- msg: Decode. -/
namespace Go.Proofs.Ytijccobeljoikaa.Ms
open Go.RowKit Go.Proofs.YtijccobeljoikaaW.PrintWords Go.Proofs.YtijccobeljoikaaW.PrintLast
open Go.Proofs.Ytijccobeljoikaa.Plain Go.Proofs.Ytijccobeljoikaa.Walks
set_option linter.unusedVariables false
set_option linter.unusedSimpArgs false

theorem results_row_tmp {P : Program} {fn : Func} {p u : Tmp} {ty : TypeId} (h : fn.results = #[.cell p ty, .tmp u]) (tmps : Array Value) (w : World) (g : Nat) (t : TypeId) (cs : Array Value) (fr : Nat × Nat) (d : TypeDesc)
    (hp : tmps.getD p undef = .pointer (some ⟨g, 0, none⟩)) (hg : w.heap[g]? = some (.cells cs t fr))
    (hu : P.underlying ty = some d) (hd : (match d with | .struct _ | .array _ _ => true | _ => false) = true) (hi : (P.info? ty).map (·.size) = some cs.size) :
    (results fn tmps).run P w = .ok (.tuple #[.agg cs, tmps.getD u undef]) w := by
  rw [results_cell_tmp h, hp]
  simp [asAddr, Result.andThen, run_loadVar_row w g t ty cs fr d hg hu hd hi]
set_option maxHeartbeats 8000000 in
set_option maxRecDepth 100000 in
theorem told_ok (m : S91) (a : Nat → Option Addr) (d : Nat → Nat) (w : World) :
    Calls Try.prog 110 #[.agg #[.int .i64 m.kind, .int .i64 m.view, .int .i64 m.seq, .int .i64 m.client, .int .i64 m.stamp, .int .i64 m.entry.f0, .int .i64 m.entry.f1, .int .i64 m.entry.f2, .slice (a 0) m.entry.f3.length (d 0), .slice (a 1) m.digest.length (d 1), .slice (a 2) m.data.length (d 2), .slice (a 3) m.proof.length (d 3), .slice (a 4) m.proven.length (d 4)], .int .i64 0] w fun e w' => e = .returned (.tuple #[.agg #[.int .i64 m.kind, .int .i64 m.view, .int .i64 m.seq, .int .i64 m.client, .int .i64 m.stamp, .int .i64 m.entry.f0, .int .i64 m.entry.f1, .int .i64 m.entry.f2, .slice (a 0) m.entry.f3.length (d 0), .slice (a 1) m.digest.length (d 1), .slice (a 2) m.data.length (d 2), .slice (a 3) m.proof.length (d 3), .slice (a 4) m.proven.length (d 4)], .int .i64 0]) ∧ Below w.heap.size w w' := by
  have hu91 := Try.underlying91
  have HB0 := Aside0.mk (below_alloc (below_alloc (Below.refl w.heap.size w) (.cells #[.int .i64 m.kind, .int .i64 m.view, .int .i64 m.seq, .int .i64 m.client, .int .i64 m.stamp, .int .i64 m.entry.f0, .int .i64 m.entry.f1, .int .i64 m.entry.f2, .slice (a 0) m.entry.f3.length (d 0), .slice (a 1) m.digest.length (d 1), .slice (a 2) m.data.length (d 2), .slice (a 3) m.proof.length (d 3), .slice (a 4) m.proven.length (d 4)] 91)) (.cells #[.int .i64 0, .int .i64 0, .int .i64 0, .int .i64 0, .int .i64 0, .int .i64 0, .int .i64 0, .int .i64 0, .slice none 0 0, .slice none 0 0, .slice none 0 0, .slice none 0 0, .slice none 0 0] 91))
  have HX0 := Aside0.mk (blk_new (w.alloc (.cells #[.int .i64 m.kind, .int .i64 m.view, .int .i64 m.seq, .int .i64 m.client, .int .i64 m.stamp, .int .i64 m.entry.f0, .int .i64 m.entry.f1, .int .i64 m.entry.f2, .slice (a 0) m.entry.f3.length (d 0), .slice (a 1) m.digest.length (d 1), .slice (a 2) m.data.length (d 2), .slice (a 3) m.proof.length (d 3), .slice (a 4) m.proven.length (d 4)] 91)) (.cells #[.int .i64 0, .int .i64 0, .int .i64 0, .int .i64 0, .int .i64 0, .int .i64 0, .int .i64 0, .int .i64 0, .slice none 0 0, .slice none 0 0, .slice none 0 0, .slice none 0 0, .slice none 0 0] 91))
  rw [show (w.alloc (.cells #[.int .i64 m.kind, .int .i64 m.view, .int .i64 m.seq, .int .i64 m.client, .int .i64 m.stamp, .int .i64 m.entry.f0, .int .i64 m.entry.f1, .int .i64 m.entry.f2, .slice (a 0) m.entry.f3.length (d 0), .slice (a 1) m.digest.length (d 1), .slice (a 2) m.data.length (d 2), .slice (a 3) m.proof.length (d 3), .slice (a 4) m.proven.length (d 4)] 91)).heap.size = w.heap.size + 1 by simp] at HX0
  go_enter Try.func110, Try.ntmps110
  go_wp2_with (refine wpList_store_row rfl 91 (.tmp 4) (.tmp 10) rfl (w.heap.size + 1) #[.int .i64 m.kind, .int .i64 m.view, .int .i64 m.seq, .int .i64 m.client, .int .i64 m.stamp, .int .i64 m.entry.f0, .int .i64 m.entry.f1, .int .i64 m.entry.f2, .slice (a 0) m.entry.f3.length (d 0), .slice (a 1) m.digest.length (d 1), .slice (a 2) m.data.length (d 2), .slice (a 3) m.proof.length (d 3), .slice (a 4) m.proven.length (d 4)] rfl rfl 91 _ HX0.out size91 rfl (by simp [Value.oneCell']) ?_; have HX1 := Aside0.mk (setRow_heap _ _ _ #[.int .i64 m.kind, .int .i64 m.view, .int .i64 m.seq, .int .i64 m.client, .int .i64 m.stamp, .int .i64 m.entry.f0, .int .i64 m.entry.f1, .int .i64 m.entry.f2, .slice (a 0) m.entry.f3.length (d 0), .slice (a 1) m.digest.length (d 1), .slice (a 2) m.data.length (d 2), .slice (a 3) m.proof.length (d 3), .slice (a 4) m.proven.length (d 4)] _ _ HX0.out); have HB1 := Aside0.mk (below_setRow HB0.out (Nat.le_succ _) #[.int .i64 m.kind, .int .i64 m.view, .int .i64 m.seq, .int .i64 m.client, .int .i64 m.stamp, .int .i64 m.entry.f0, .int .i64 m.entry.f1, .int .i64 m.entry.f2, .slice (a 0) m.entry.f3.length (d 0), .slice (a 1) m.digest.length (d 1), .slice (a 2) m.data.length (d 2), .slice (a 3) m.proof.length (d 3), .slice (a 4) m.proven.length (d 4)]))
  exact bodyPost_ret (v := .tuple #[.agg #[.int .i64 m.kind, .int .i64 m.view, .int .i64 m.seq, .int .i64 m.client, .int .i64 m.stamp, .int .i64 m.entry.f0, .int .i64 m.entry.f1, .int .i64 m.entry.f2, .slice (a 0) m.entry.f3.length (d 0), .slice (a 1) m.digest.length (d 1), .slice (a 2) m.data.length (d 2), .slice (a 3) m.proof.length (d 3), .slice (a 4) m.proven.length (d 4)], .int .i64 0]) (results_row_tmp (p := 4) (u := 5) (ty := 91) rfl _ _ (w.heap.size + 1) 91 _ _ _ rfl HX1.out hu91 rfl size91) rfl ⟨rfl, HB1.out⟩
set_option maxHeartbeats 8000000 in
set_option maxRecDepth 100000 in
theorem told_bad (m : S91) (v : Nat → Value) (x : Int) (hx : x ≠ 0) (w : World) :
    Calls Try.prog 110 #[.agg #[.int .i64 m.kind, .int .i64 m.view, .int .i64 m.seq, .int .i64 m.client, .int .i64 m.stamp, .int .i64 m.entry.f0, .int .i64 m.entry.f1, .int .i64 m.entry.f2, v 0, v 1, v 2, v 3, v 4], .int .i64 x] w fun e w' => e = .returned (.tuple #[.agg #[.int .i64 0, .int .i64 0, .int .i64 0, .int .i64 0, .int .i64 0, .int .i64 0, .int .i64 0, .int .i64 0, .slice none 0 0, .slice none 0 0, .slice none 0 0, .slice none 0 0, .slice none 0 0], .int .i64 12]) ∧ Below w.heap.size w w' := by
  have hu91 := Try.underlying91
  have b0 : (x != 0) = true := bne_iff_ne.mpr hx
  clear hx
  have HB0 := Aside0.mk (below_alloc (below_alloc (below_alloc (Below.refl w.heap.size w) (.cells #[.int .i64 m.kind, .int .i64 m.view, .int .i64 m.seq, .int .i64 m.client, .int .i64 m.stamp, .int .i64 m.entry.f0, .int .i64 m.entry.f1, .int .i64 m.entry.f2, v 0, v 1, v 2, v 3, v 4] 91)) (.cells #[.int .i64 0, .int .i64 0, .int .i64 0, .int .i64 0, .int .i64 0, .int .i64 0, .int .i64 0, .int .i64 0, .slice none 0 0, .slice none 0 0, .slice none 0 0, .slice none 0 0, .slice none 0 0] 91)) (.cells #[.int .i64 0, .int .i64 0, .int .i64 0, .int .i64 0, .int .i64 0, .int .i64 0, .int .i64 0, .int .i64 0, .slice none 0 0, .slice none 0 0, .slice none 0 0, .slice none 0 0, .slice none 0 0] 91))
  have HX0 := Aside0.mk ((Below.heap_alloc ((w.alloc (.cells #[.int .i64 m.kind, .int .i64 m.view, .int .i64 m.seq, .int .i64 m.client, .int .i64 m.stamp, .int .i64 m.entry.f0, .int .i64 m.entry.f1, .int .i64 m.entry.f2, v 0, v 1, v 2, v 3, v 4] 91)).alloc (.cells #[.int .i64 0, .int .i64 0, .int .i64 0, .int .i64 0, .int .i64 0, .int .i64 0, .int .i64 0, .int .i64 0, .slice none 0 0, .slice none 0 0, .slice none 0 0, .slice none 0 0, .slice none 0 0] 91)) (.cells #[.int .i64 0, .int .i64 0, .int .i64 0, .int .i64 0, .int .i64 0, .int .i64 0, .int .i64 0, .int .i64 0, .slice none 0 0, .slice none 0 0, .slice none 0 0, .slice none 0 0, .slice none 0 0] 91) _ (by simp)).trans (blk_new (w.alloc (.cells #[.int .i64 m.kind, .int .i64 m.view, .int .i64 m.seq, .int .i64 m.client, .int .i64 m.stamp, .int .i64 m.entry.f0, .int .i64 m.entry.f1, .int .i64 m.entry.f2, v 0, v 1, v 2, v 3, v 4] 91)) (.cells #[.int .i64 0, .int .i64 0, .int .i64 0, .int .i64 0, .int .i64 0, .int .i64 0, .int .i64 0, .int .i64 0, .slice none 0 0, .slice none 0 0, .slice none 0 0, .slice none 0 0, .slice none 0 0] 91)))
  rw [show (w.alloc (.cells #[.int .i64 m.kind, .int .i64 m.view, .int .i64 m.seq, .int .i64 m.client, .int .i64 m.stamp, .int .i64 m.entry.f0, .int .i64 m.entry.f1, .int .i64 m.entry.f2, v 0, v 1, v 2, v 3, v 4] 91)).heap.size = w.heap.size + 1 by simp] at HX0
  go_enter Try.func110, Try.ntmps110
  go_wp2_with (refine wpList_store_row rfl 91 (.tmp 4) (.tmp 9) rfl (w.heap.size + 1) #[.int .i64 0, .int .i64 0, .int .i64 0, .int .i64 0, .int .i64 0, .int .i64 0, .int .i64 0, .int .i64 0, .slice none 0 0, .slice none 0 0, .slice none 0 0, .slice none 0 0, .slice none 0 0] rfl rfl 91 _ HX0.out size91 rfl (by simp [Value.oneCell']) ?_; have HX1 := Aside0.mk (setRow_heap _ _ _ #[.int .i64 0, .int .i64 0, .int .i64 0, .int .i64 0, .int .i64 0, .int .i64 0, .int .i64 0, .int .i64 0, .slice none 0 0, .slice none 0 0, .slice none 0 0, .slice none 0 0, .slice none 0 0] _ _ HX0.out); have HB1 := Aside0.mk (below_setRow HB0.out (Nat.le_succ _) #[.int .i64 0, .int .i64 0, .int .i64 0, .int .i64 0, .int .i64 0, .int .i64 0, .int .i64 0, .int .i64 0, .slice none 0 0, .slice none 0 0, .slice none 0 0, .slice none 0 0, .slice none 0 0]))
  exact bodyPost_ret (v := .tuple #[.agg #[.int .i64 0, .int .i64 0, .int .i64 0, .int .i64 0, .int .i64 0, .int .i64 0, .int .i64 0, .int .i64 0, .slice none 0 0, .slice none 0 0, .slice none 0 0, .slice none 0 0, .slice none 0 0], .int .i64 12]) (results_row_tmp (p := 4) (u := 5) (ty := 91) rfl _ _ (w.heap.size + 1) 91 _ _ _ rfl HX1.out hu91 rfl size91) rfl ⟨rfl, HB1.out⟩
theorem MsgO.set23 {w : World} {base : Nat} {m : S91} {v : Nat → Value} (h : MsgO w base m v) {bm : Nat} {cs : Array Value} (hb : w.heap[bm]? = some (.cells cs 23 (0, 0))) (j : Nat) (u : Value) : MsgO (w.setCell ⟨bm, j, none⟩ u) base m v :=
  ⟨Kd.R_set h.r0 hb (by simp [Kd.int, Kd.scalar]) j u, Kd.R_set h.r1 hb (by simp [Kd.int, Kd.scalar]) j u, Kd.R_set h.r2 hb (by simp [Kd.int, Kd.scalar]) j u, Kd.R_set h.r3 hb (by simp [k72, k70, Kd.iso, Kd.pair, Kd.slice, Kd.int, Kd.scalar]) j u, Kd.R_set h.r4 hb (by simp [k101, k87, k72, k70, Kd.iso, Kd.pair, Kd.slice, Kd.int, Kd.scalar]) j u⟩
theorem MsgO.row {w : World} {base : Nat} {m : S91} {v : Nat → Value} (h : MsgO w base m v) {bm : Nat} {cs : Array Value} (hb : w.heap[bm]? = some (.cells cs 91 (0, 0))) (cs' : Array Value) : MsgO (w.setRow bm cs') base m v :=
  ⟨R_row h.r0 hb (by simp [Kd.int, Kd.scalar]) cs', R_row h.r1 hb (by simp [Kd.int, Kd.scalar]) cs', R_row h.r2 hb (by simp [Kd.int, Kd.scalar]) cs', R_row h.r3 hb (by simp [k72, k70, Kd.iso, Kd.pair, Kd.slice, Kd.int, Kd.scalar]) cs', R_row h.r4 hb (by simp [k101, k87, k72, k70, Kd.iso, Kd.pair, Kd.slice, Kd.int, Kd.scalar]) cs'⟩
theorem MsgO.msg {w : World} {base : Nat} {m : S91} {v : Nat → Value} {a : Nat → Option Addr} {d : Nat → Nat} (h : MsgO w base m v) (e0 : v 0 = .slice (a 0) m.entry.f3.length (d 0)) (e1 : v 1 = .slice (a 1) m.digest.length (d 1)) (e2 : v 2 = .slice (a 2) m.data.length (d 2)) (e3 : v 3 = .slice (a 3) m.proof.length (d 3)) (e4 : v 4 = .slice (a 4) m.proven.length (d 4)) : Msg w m a d := by
  have r0 := h.r0; have r1 := h.r1; have r2 := h.r2; have r3 := h.r3; have r4 := h.r4
  rw [e0] at r0; rw [e1] at r1; rw [e2] at r2; rw [e3] at r3; rw [e4] at r4
  exact ⟨(Kd.R_reads' r0).2.2, (Kd.R_reads' r0).2.1, (Kd.R_reads' r1).2.2, (Kd.R_reads' r1).2.1, (Kd.R_reads' r2).2.2, (Kd.R_reads' r2).2.1, (Kd.R_reads' r3).2.2, (Kd.R_reads' r3).2.1, (Kd.R_reads' r4).2.2, (Kd.R_reads' r4).2.1⟩
/-- What Decode comes to. -/
def DecPost (w : World) (o : Option S91) (e : Ending) (w' : World) : Prop :=
  Below w.heap.size w w' ∧ match o with
    | some m => ∃ (a : Nat → Option Addr) (d : Nat → Nat), e = .returned (.tuple #[.agg #[.int .i64 m.kind, .int .i64 m.view, .int .i64 m.seq, .int .i64 m.client, .int .i64 m.stamp, .int .i64 m.entry.f0, .int .i64 m.entry.f1, .int .i64 m.entry.f2, .slice (a 0) m.entry.f3.length (d 0), .slice (a 1) m.digest.length (d 1), .slice (a 2) m.data.length (d 2), .slice (a 3) m.proof.length (d 3), .slice (a 4) m.proven.length (d 4)], .int .i64 0]) ∧ Msg w' m a d
    | none => e = .returned (.tuple #[.agg #[.int .i64 0, .int .i64 0, .int .i64 0, .int .i64 0, .int .i64 0, .int .i64 0, .int .i64 0, .int .i64 0, .slice none 0 0, .slice none 0 0, .slice none 0 0, .slice none 0 0, .slice none 0 0], .int .i64 12])
set_option maxHeartbeats 8000000 in
set_option maxRecDepth 100000 in
/-- Decode. -/
theorem decode_calls (A : Option Addr) (c : Nat) (l : List Int) (o : Option S91) (w : World) (hC : Kd.C (Kd.int .u8) w A l.length l) (hc : l.length ≤ c) (hb : Byte l) (hl : l.length < 17592186044416) (ho : decO l = o) :
    Calls Try.prog 68 #[.slice A l.length c] w fun e w' => DecPost w o e w' := by
  have hu91 := Try.underlying91
  have HC := Aside0.mk hC
  have Hc := Aside0.mk hc
  have HBy := Aside0.mk hb
  have HL := Aside0.mk hl
  have HO := Aside0.mk ho
  clear hC hc hb hl ho
  have hmf : ∀ (fn : Fn) (first cap : Array Value) (w : World), (Instr.makeFunc fn first cap).run Try.prog w = .ok (.func fn first cap) w := fun _ _ _ _ => rfl
  have HB0 := Aside0.mk (below_alloc (below_alloc (below_alloc (Below.refl w.heap.size w) (.cells #[.slice A l.length c] 22)) (.cells #[.int .i64 0, .int .i64 0, .int .i64 0, .int .i64 0, .int .i64 0, .int .i64 0, .int .i64 0, .int .i64 0, .slice none 0 0, .slice none 0 0, .slice none 0 0, .slice none 0 0, .slice none 0 0] 91)) (.cells #[.int .i64 0, .int .i64 0, .int .i64 0, .int .i64 0, .int .i64 0, .int .i64 0, .int .i64 0, .int .i64 0, .slice none 0 0, .slice none 0 0, .slice none 0 0, .slice none 0 0, .slice none 0 0] 91))
  have e1 : (w.alloc (.cells #[.slice A l.length c] 22)).heap.size = w.heap.size + 1 := by simp
  have e2 : ((w.alloc (.cells #[.slice A l.length c] 22)).alloc (.cells #[.int .i64 0, .int .i64 0, .int .i64 0, .int .i64 0, .int .i64 0, .int .i64 0, .int .i64 0, .int .i64 0, .slice none 0 0, .slice none 0 0, .slice none 0 0, .slice none 0 0, .slice none 0 0] 91)).heap.size = w.heap.size + 2 := by simp
  have hX0 := blk_new w (.cells #[.slice A l.length c] 22)
  have hX1 := (Below.heap_alloc (w.alloc (.cells #[.slice A l.length c] 22)) (.cells #[.int .i64 0, .int .i64 0, .int .i64 0, .int .i64 0, .int .i64 0, .int .i64 0, .int .i64 0, .int .i64 0, .slice none 0 0, .slice none 0 0, .slice none 0 0, .slice none 0 0, .slice none 0 0] 91) _ (blk_lt2 hX0)).trans hX0
  have hX2 := (Below.heap_alloc ((w.alloc (.cells #[.slice A l.length c] 22)).alloc (.cells #[.int .i64 0, .int .i64 0, .int .i64 0, .int .i64 0, .int .i64 0, .int .i64 0, .int .i64 0, .int .i64 0, .slice none 0 0, .slice none 0 0, .slice none 0 0, .slice none 0 0, .slice none 0 0] 91)) (.cells #[.int .i64 0, .int .i64 0, .int .i64 0, .int .i64 0, .int .i64 0, .int .i64 0, .int .i64 0, .int .i64 0, .slice none 0 0, .slice none 0 0, .slice none 0 0, .slice none 0 0, .slice none 0 0] 91) _ (blk_lt2 hX1)).trans hX1
  have hY1 := blk_new (w.alloc (.cells #[.slice A l.length c] 22)) (.cells #[.int .i64 0, .int .i64 0, .int .i64 0, .int .i64 0, .int .i64 0, .int .i64 0, .int .i64 0, .int .i64 0, .slice none 0 0, .slice none 0 0, .slice none 0 0, .slice none 0 0, .slice none 0 0] 91)
  have hY2 := (Below.heap_alloc ((w.alloc (.cells #[.slice A l.length c] 22)).alloc (.cells #[.int .i64 0, .int .i64 0, .int .i64 0, .int .i64 0, .int .i64 0, .int .i64 0, .int .i64 0, .int .i64 0, .slice none 0 0, .slice none 0 0, .slice none 0 0, .slice none 0 0, .slice none 0 0] 91)) (.cells #[.int .i64 0, .int .i64 0, .int .i64 0, .int .i64 0, .int .i64 0, .int .i64 0, .int .i64 0, .int .i64 0, .slice none 0 0, .slice none 0 0, .slice none 0 0, .slice none 0 0, .slice none 0 0] 91) _ (blk_lt2 hY1)).trans hY1
  have hZ2 := blk_new ((w.alloc (.cells #[.slice A l.length c] 22)).alloc (.cells #[.int .i64 0, .int .i64 0, .int .i64 0, .int .i64 0, .int .i64 0, .int .i64 0, .int .i64 0, .int .i64 0, .slice none 0 0, .slice none 0 0, .slice none 0 0, .slice none 0 0, .slice none 0 0] 91)) (.cells #[.int .i64 0, .int .i64 0, .int .i64 0, .int .i64 0, .int .i64 0, .int .i64 0, .int .i64 0, .int .i64 0, .slice none 0 0, .slice none 0 0, .slice none 0 0, .slice none 0 0, .slice none 0 0] 91)
  rw [e1] at hY2
  rw [e2] at hZ2
  have HX := Aside0.mk hX2
  have HY := Aside0.mk hY2
  have HZ := Aside0.mk hZ2
  clear hX0 hX1 hX2 hY1 hY2 hZ2 e1 e2
  go_enter Try.func68, Try.ntmps68
  go_wp2_with (fail)
  generalize ((w.alloc (.cells #[.slice A l.length c] 22)).alloc (.cells #[.int .i64 0, .int .i64 0, .int .i64 0, .int .i64 0, .int .i64 0, .int .i64 0, .int .i64 0, .int .i64 0, .slice none 0 0, .slice none 0 0, .slice none 0 0, .slice none 0 0, .slice none 0 0] 91)).alloc (.cells #[.int .i64 0, .int .i64 0, .int .i64 0, .int .i64 0, .int .i64 0, .int .i64 0, .int .i64 0, .int .i64 0, .slice none 0 0, .slice none 0 0, .slice none 0 0, .slice none 0 0, .slice none 0 0] 91) = w2 at HX HY HZ HB0 ⊢
  refine (caught_calls 106 #[.pointer (some ⟨w.heap.size, 0, none⟩), .pointer (some ⟨w.heap.size + 2, 0, none⟩)] w2 (fun r w3 => w2.grownBy w3 (some (w.heap.size + 2)) ∧ w3.heap[w2.heap.size]? = some (.cells #[.int .i64 0] 23) ∧ match o with | some m => r = none ∧ ∃ (base : Nat) (v : Nat → Value), w3.heap[w.heap.size + 2]? = some (.cells #[.int .i64 m.kind, .int .i64 m.view, .int .i64 m.seq, .int .i64 m.client, .int .i64 m.stamp, .int .i64 m.entry.f0, .int .i64 m.entry.f1, .int .i64 m.entry.f2, v 0, v 1, v 2, v 3, v 4] 91) ∧ MsgO w3 base m v | none => ∃ y, y ≠ 0 ∧ r = some y ∧ ∃ (m : S91) (v : Nat → Value), w3.heap[w.heap.size + 2]? = some (.cells #[.int .i64 m.kind, .int .i64 m.view, .int .i64 m.seq, .int .i64 m.client, .int .i64 m.stamp, .int .i64 m.entry.f0, .int .i64 m.entry.f1, .int .i64 m.entry.f2, v 0, v 1, v 2, v 3, v 4] 91)) (fun _ => by kernel_rfl) ?_).mono ?_
  · intro W hW
    have hg0 := World.grownBy_alloc w2 (.cells #[.int .i64 0] 23) (some (w.heap.size + 2))
    have hbW := below_alloc (Below.refl w2.heap.size w2) (.cells #[.int .i64 0] 23)
    have hnW := blk_new w2 (.cells #[.int .i64 0] 23)
    rw [← hW] at hg0 hbW hnW
    have hne : w2.heap.size ≠ w.heap.size + 2 := fun e => by have := blk_lt2 HZ.out; omega
    refine (decode1_calls l A c o w.heap.size (w.heap.size + 2) W ((hbW.block _ (blk_lt2 HX.out)).trans HX.out) ((hbW.block _ (blk_lt2 HZ.out)).trans HZ.out) (Kd.C_below HC.out (below_then HB0.out HB0.out.size hbW)) Hc.out HBy.out HL.out HO.out).mono ?_
    rintro e w3 ⟨hg, hh⟩
    have hbk := (hg.block _ (blk_lt2 hnW) (by intro e; injection e with e; exact hne e)).trans hnW
    cases o with
    | some m =>
      obtain ⟨v, rfl, hbx, hm⟩ := hh
      exact ⟨⟨none, ⟨hg0.trans hg, hbk, rfl, _, v, hbx, hm⟩, rfl⟩, (blk_cell hbk 0).trans rfl, blk_frozen hbk 0, hbk⟩
    | none =>
      obtain ⟨y, hy, rfl, m, v, hbx⟩ := hh
      exact ⟨⟨some y, ⟨hg0.trans hg, hbk, y, hy, rfl, m, v, hbx⟩, rfl⟩, (blk_cell hbk 0).trans rfl, blk_frozen hbk 0, hbk⟩
  rintro e w4 ⟨r, w3, ⟨hg, hbk, hh⟩, rfl, rfl⟩
  have hne : w.heap.size + 2 ≠ w2.heap.size := fun e => by have := blk_lt2 HZ.out; omega
  have hne1 : w.heap.size + 1 ≠ w2.heap.size := fun e => by have := blk_lt2 HZ.out; omega
  have HB3 := Aside0.mk (HB0.out.grown hg HB0.out.size (fun k hk => by injection hk with hk; omega))
  have HB4 := Aside0.mk (below_set (j := 0) (v := .int .i64 (r.getD 0)) HB3.out (show w.heap.size ≤ w2.heap.size from HB0.out.size))
  have HY4 := Aside0.mk ((Below.heap_setCell w3 ⟨w2.heap.size, 0, none⟩ (.int .i64 (r.getD 0)) _ hne1).trans ((hg.block _ (blk_lt2 HY.out) (by intro e; injection e with e; omega)).trans HY.out))
  cases o with
  | none =>
    obtain ⟨y, hy, rfl, m, v, hbx⟩ := hh
    have HZ4 := Aside0.mk ((Below.heap_setCell w3 ⟨w2.heap.size, 0, none⟩ (.int .i64 ((some y).getD 0)) _ hne).trans hbx)
    have HYY := Aside0.mk hy
    generalize w3.setCell ⟨w2.heap.size, 0, none⟩ (.int .i64 ((some y).getD 0)) = w4 at HB4 HY4 HZ4 ⊢
    clear hg hbk hbx hne hne1 hy HB3 HX HY HZ
    have x0 : w4.cell? ⟨w.heap.size + 2, 0, none⟩ = some (.int .i64 m.kind) := (blk_cell HZ4.out 0).trans rfl
    have x1 : w4.cell? ⟨w.heap.size + 2, 1, none⟩ = some (.int .i64 m.view) := (blk_cell HZ4.out 1).trans rfl
    have x2 : w4.cell? ⟨w.heap.size + 2, 2, none⟩ = some (.int .i64 m.seq) := (blk_cell HZ4.out 2).trans rfl
    have x3 : w4.cell? ⟨w.heap.size + 2, 3, none⟩ = some (.int .i64 m.client) := (blk_cell HZ4.out 3).trans rfl
    have x4 : w4.cell? ⟨w.heap.size + 2, 4, none⟩ = some (.int .i64 m.stamp) := (blk_cell HZ4.out 4).trans rfl
    have x5 : w4.cell? ⟨w.heap.size + 2, 5, none⟩ = some (.int .i64 m.entry.f0) := (blk_cell HZ4.out 5).trans rfl
    have x6 : w4.cell? ⟨w.heap.size + 2, 6, none⟩ = some (.int .i64 m.entry.f1) := (blk_cell HZ4.out 6).trans rfl
    have x7 : w4.cell? ⟨w.heap.size + 2, 7, none⟩ = some (.int .i64 m.entry.f2) := (blk_cell HZ4.out 7).trans rfl
    have x8 : w4.cell? ⟨w.heap.size + 2, 8, none⟩ = some (v 0) := (blk_cell HZ4.out 8).trans rfl
    have x9 : w4.cell? ⟨w.heap.size + 2, 9, none⟩ = some (v 1) := (blk_cell HZ4.out 9).trans rfl
    have x10 : w4.cell? ⟨w.heap.size + 2, 10, none⟩ = some (v 2) := (blk_cell HZ4.out 10).trans rfl
    have x11 : w4.cell? ⟨w.heap.size + 2, 11, none⟩ = some (v 3) := (blk_cell HZ4.out 11).trans rfl
    have x12 : w4.cell? ⟨w.heap.size + 2, 12, none⟩ = some (v 4) := (blk_cell HZ4.out 12).trans rfl
    go_wp2_with (fail)
    have hE := told_bad m v y HYY.out w4
    with_reducible refine hE.mono ?_
    clear hE
    rintro e w5 ⟨rfl, hB⟩
    have HY5 := Aside0.mk ((hB.block _ (blk_lt2 HY4.out)).trans HY4.out)
    have HB5 := Aside0.mk (below_then HB4.out HB4.out.size hB)
    clear hB
    go_wp2_with (refine wpList_store_row rfl 91 (.tmp 2) (.tmp 11) rfl (w.heap.size + 1) #[.int .i64 0, .int .i64 0, .int .i64 0, .int .i64 0, .int .i64 0, .int .i64 0, .int .i64 0, .int .i64 0, .slice none 0 0, .slice none 0 0, .slice none 0 0, .slice none 0 0, .slice none 0 0] rfl rfl 91 _ HY5.out size91 rfl (by simp [Value.oneCell']) ?_; have HY6 := Aside0.mk (setRow_heap _ _ _ #[.int .i64 0, .int .i64 0, .int .i64 0, .int .i64 0, .int .i64 0, .int .i64 0, .int .i64 0, .int .i64 0, .slice none 0 0, .slice none 0 0, .slice none 0 0, .slice none 0 0, .slice none 0 0] _ _ HY5.out); have HB6 := Aside0.mk (below_setRow HB5.out (Nat.le_succ _) #[.int .i64 0, .int .i64 0, .int .i64 0, .int .i64 0, .int .i64 0, .int .i64 0, .int .i64 0, .int .i64 0, .slice none 0 0, .slice none 0 0, .slice none 0 0, .slice none 0 0, .slice none 0 0]))
    exact bodyPost_ret (v := .tuple #[.agg #[.int .i64 0, .int .i64 0, .int .i64 0, .int .i64 0, .int .i64 0, .int .i64 0, .int .i64 0, .int .i64 0, .slice none 0 0, .slice none 0 0, .slice none 0 0, .slice none 0 0, .slice none 0 0], .int .i64 12]) (results_row_tmp (p := 2) (u := 3) (ty := 91) rfl _ _ (w.heap.size + 1) 91 _ _ _ rfl HY6.out hu91 rfl size91) rfl ⟨HB6.out, rfl⟩
  | some m =>
    obtain ⟨rfl, base, v, hbx, hm⟩ := hh
    have HZ4 := Aside0.mk ((Below.heap_setCell w3 ⟨w2.heap.size, 0, none⟩ (.int .i64 ((none : Option Int).getD 0)) _ hne).trans hbx)
    have HM4 := Aside0.mk (hm.set23 hbk 0 (.int .i64 ((none : Option Int).getD 0)))
    generalize w3.setCell ⟨w2.heap.size, 0, none⟩ (.int .i64 ((none : Option Int).getD 0)) = w4 at HB4 HY4 HZ4 HM4 ⊢
    clear hg hbk hbx hne hne1 hm HB3 HX HY HZ
    obtain ⟨a, d, e0, e1, e2, e3, e4, hMsg⟩ := HM4.out.opened
    have HBX2 := Aside0.mk (show w4.heap[w.heap.size + 2]? = some (.cells #[.int .i64 m.kind, .int .i64 m.view, .int .i64 m.seq, .int .i64 m.client, .int .i64 m.stamp, .int .i64 m.entry.f0, .int .i64 m.entry.f1, .int .i64 m.entry.f2, .slice (a 0) m.entry.f3.length (d 0), .slice (a 1) m.digest.length (d 1), .slice (a 2) m.data.length (d 2), .slice (a 3) m.proof.length (d 3), .slice (a 4) m.proven.length (d 4)] 91) by rw [← e0, ← e1, ← e2, ← e3, ← e4]; exact HZ4.out)
    have HE := Aside0.mk (And.intro e0 (And.intro e1 (And.intro e2 (And.intro e3 e4))))
    clear e0 e1 e2 e3 e4 hMsg
    have x0 : w4.cell? ⟨w.heap.size + 2, 0, none⟩ = some (.int .i64 m.kind) := (blk_cell HBX2.out 0).trans rfl
    have x1 : w4.cell? ⟨w.heap.size + 2, 1, none⟩ = some (.int .i64 m.view) := (blk_cell HBX2.out 1).trans rfl
    have x2 : w4.cell? ⟨w.heap.size + 2, 2, none⟩ = some (.int .i64 m.seq) := (blk_cell HBX2.out 2).trans rfl
    have x3 : w4.cell? ⟨w.heap.size + 2, 3, none⟩ = some (.int .i64 m.client) := (blk_cell HBX2.out 3).trans rfl
    have x4 : w4.cell? ⟨w.heap.size + 2, 4, none⟩ = some (.int .i64 m.stamp) := (blk_cell HBX2.out 4).trans rfl
    have x5 : w4.cell? ⟨w.heap.size + 2, 5, none⟩ = some (.int .i64 m.entry.f0) := (blk_cell HBX2.out 5).trans rfl
    have x6 : w4.cell? ⟨w.heap.size + 2, 6, none⟩ = some (.int .i64 m.entry.f1) := (blk_cell HBX2.out 6).trans rfl
    have x7 : w4.cell? ⟨w.heap.size + 2, 7, none⟩ = some (.int .i64 m.entry.f2) := (blk_cell HBX2.out 7).trans rfl
    have x8 : w4.cell? ⟨w.heap.size + 2, 8, none⟩ = some (.slice (a 0) m.entry.f3.length (d 0)) := (blk_cell HBX2.out 8).trans rfl
    have x9 : w4.cell? ⟨w.heap.size + 2, 9, none⟩ = some (.slice (a 1) m.digest.length (d 1)) := (blk_cell HBX2.out 9).trans rfl
    have x10 : w4.cell? ⟨w.heap.size + 2, 10, none⟩ = some (.slice (a 2) m.data.length (d 2)) := (blk_cell HBX2.out 10).trans rfl
    have x11 : w4.cell? ⟨w.heap.size + 2, 11, none⟩ = some (.slice (a 3) m.proof.length (d 3)) := (blk_cell HBX2.out 11).trans rfl
    have x12 : w4.cell? ⟨w.heap.size + 2, 12, none⟩ = some (.slice (a 4) m.proven.length (d 4)) := (blk_cell HBX2.out 12).trans rfl
    go_wp2_with (fail)
    have hE := told_ok m a d w4
    with_reducible refine hE.mono ?_
    clear hE
    rintro e w5 ⟨rfl, hB⟩
    have HY5 := Aside0.mk ((hB.block _ (blk_lt2 HY4.out)).trans HY4.out)
    have HB5 := Aside0.mk (below_then HB4.out HB4.out.size hB)
    have HM5 := Aside0.mk (HM4.out.below hB)
    clear hB
    go_wp2_with (refine wpList_store_row rfl 91 (.tmp 2) (.tmp 11) rfl (w.heap.size + 1) #[.int .i64 m.kind, .int .i64 m.view, .int .i64 m.seq, .int .i64 m.client, .int .i64 m.stamp, .int .i64 m.entry.f0, .int .i64 m.entry.f1, .int .i64 m.entry.f2, .slice (a 0) m.entry.f3.length (d 0), .slice (a 1) m.digest.length (d 1), .slice (a 2) m.data.length (d 2), .slice (a 3) m.proof.length (d 3), .slice (a 4) m.proven.length (d 4)] rfl rfl 91 _ HY5.out size91 rfl (by simp [Value.oneCell']) ?_; have HY6 := Aside0.mk (setRow_heap _ _ _ #[.int .i64 m.kind, .int .i64 m.view, .int .i64 m.seq, .int .i64 m.client, .int .i64 m.stamp, .int .i64 m.entry.f0, .int .i64 m.entry.f1, .int .i64 m.entry.f2, .slice (a 0) m.entry.f3.length (d 0), .slice (a 1) m.digest.length (d 1), .slice (a 2) m.data.length (d 2), .slice (a 3) m.proof.length (d 3), .slice (a 4) m.proven.length (d 4)] _ _ HY5.out); have HB6 := Aside0.mk (below_setRow HB5.out (Nat.le_succ _) #[.int .i64 m.kind, .int .i64 m.view, .int .i64 m.seq, .int .i64 m.client, .int .i64 m.stamp, .int .i64 m.entry.f0, .int .i64 m.entry.f1, .int .i64 m.entry.f2, .slice (a 0) m.entry.f3.length (d 0), .slice (a 1) m.digest.length (d 1), .slice (a 2) m.data.length (d 2), .slice (a 3) m.proof.length (d 3), .slice (a 4) m.proven.length (d 4)]); have HM6 := Aside0.mk (HM5.out.row HY5.out #[.int .i64 m.kind, .int .i64 m.view, .int .i64 m.seq, .int .i64 m.client, .int .i64 m.stamp, .int .i64 m.entry.f0, .int .i64 m.entry.f1, .int .i64 m.entry.f2, .slice (a 0) m.entry.f3.length (d 0), .slice (a 1) m.digest.length (d 1), .slice (a 2) m.data.length (d 2), .slice (a 3) m.proof.length (d 3), .slice (a 4) m.proven.length (d 4)]))
    exact bodyPost_ret (v := .tuple #[.agg #[.int .i64 m.kind, .int .i64 m.view, .int .i64 m.seq, .int .i64 m.client, .int .i64 m.stamp, .int .i64 m.entry.f0, .int .i64 m.entry.f1, .int .i64 m.entry.f2, .slice (a 0) m.entry.f3.length (d 0), .slice (a 1) m.digest.length (d 1), .slice (a 2) m.data.length (d 2), .slice (a 3) m.proof.length (d 3), .slice (a 4) m.proven.length (d 4)], .int .i64 0]) (results_row_tmp (p := 2) (u := 3) (ty := 91) rfl _ _ (w.heap.size + 1) 91 _ _ _ rfl HY6.out hu91 rfl size91) rfl ⟨HB6.out, a, d, rfl, HM6.out.msg HE.out.1 HE.out.2.1 HE.out.2.2.1 HE.out.2.2.2.1 HE.out.2.2.2.2⟩
end Go.Proofs.Ytijccobeljoikaa.Ms
