/- Put together of my texts: MuK, MuP. -/
import Derived.Test.YtijccobeljoikaaMi16
import Derived.Test.YtijccobeljoikaaMi19
import Derived.Test.YtijccobeljoikaaMi6
/- msg: the document: one number, the letters of bytes; the statements' helper: bytes with marks behind them. -/
namespace Go.Proofs.Ytijccobeljoikaa.Ms
open Go.RowKit Go.Proofs.YtijccobeljoikaaW.PrintWords Go.Proofs.YtijccobeljoikaaW.PrintLast
open Go.Proofs.Ytijccobeljoikaa.Plain Go.Proofs.Ytijccobeljoikaa.Walks
set_option linter.unusedVariables false
set_option linter.unusedSimpArgs false
set_option maxHeartbeats 8000000 in
set_option maxRecDepth 100000 in
theorem one111_calls (A : Option Addr) (c : Nat) (l : List Int) (o : Option (List Int)) (w : World) (hC : Kd.C (Kd.int .u8) w A l.length l) (hc : l.length ≤ c) (hb : Byte l) (hl : l.length < 17592186044416) (ho : intsO l 1 = o) :
    Calls Try.prog 111 #[.slice A l.length c] w fun e w' => e = .returned (.tuple #[.int .i64 ((o.getD []).getD 0 0), .bool o.isSome]) ∧ Below w.heap.size w w' := by
  rcases ints_cases l 1 with ⟨vs, x, hi, hbad, hf⟩ | ⟨vs, hi, hn, hf⟩
  · have : o = none := by rw [← ho, hf]
    subst this
    have hE := refInts_calls A c l vs x w hC hc hb hl hi
    clear hC hc hb hl ho hf hi
    go_enter Try.func111, Try.ntmps111
    go_wp2_with (fail)
    refine hE.mono ?_
    clear hE
    rintro e w1 ⟨A4, c4, rfl, hG⟩
    have HB1 := Aside0.mk hG.keep
    clear hG
    by_cases hx : x = 0
    · subst hx
      have hn : ¬ vs.length = 1 := by rcases hbad with h | h; exact absurd rfl h; exact h
      have b0 : ((vs.length : Int) != 1) = true := bne_iff_ne.mpr (by omega)
      have b1 : (vs.length == 1) = false := beq_eq_false_iff_ne.mpr hn
      clear hbad hn
      go_wp2_with (fail)
      go_ret2
      exact ⟨rfl, HB1.out⟩
    · have b0 : (x != 0) = true := bne_iff_ne.mpr hx
      clear hbad hx
      go_wp2_with (fail)
      go_ret2
      exact ⟨rfl, HB1.out⟩
  · obtain ⟨v, rfl⟩ := one hn
    have : o = some [v] := by rw [← ho, hf]
    subst this
    have hE := refInts_calls A c l [v] 0 w hC hc hb hl hi
    clear hC hc hb hl ho hf hi hn
    go_enter Try.func111, Try.ntmps111
    go_wp2_with (fail)
    refine hE.mono ?_
    clear hE
    rintro e w1 ⟨A4, c4, rfl, hG⟩
    obtain ⟨g4, rfl, hg4⟩ := got_head hG (by simp)
    have z0 := nums_at hG 0 (by simp)
    simp only [List.getElem_cons_zero] at z0
    have HB1 := Aside0.mk hG.keep
    clear hG hg4
    go_wp2_with (fail)
    go_ret2
    exact ⟨rfl, HB1.out⟩
set_option maxHeartbeats 8000000 in
set_option maxRecDepth 100000 in
theorem reads112_calls (A : Option Addr) (c : Nat) (l : List Int) (o : Option (List S72)) (w : World) (hC : Kd.C (Kd.int .u8) w A l.length l) (hc : l.length ≤ c) (hb : Byte l) (hl : l.length < 17592186044416) (ho : allO letterO l = o) :
    Calls Try.prog 112 #[.slice A l.length c] w fun e w' => Below w.heap.size w w' ∧ match (generalizing := false) o with
      | some xs => ∃ A1 c1, e = .returned (.tuple #[.slice A1 xs.length c1, .bool true]) ∧ k72.R 72 w' w.heap.size (fun k => w.heap.size ≤ k) (.slice A1 xs.length c1) xs
      | none => e = .returned (.tuple #[.slice none 0 0, .bool false]) := by
  have hu72 := Try.underlying72
  rcases splitO_cases l with ⟨rs, x, hs, hx, hf⟩ | ⟨rs, hs, hf⟩
  · have : o = none := by rw [← ho, allO, hf]; rfl
    subst this
    have hE := refSplit_calls A c l rs x w hC hc hb (by omega) hs
    have b0 : (x != 0) = true := bne_iff_ne.mpr hx
    clear hC hc hb hl ho hf hs hx
    go_enter Try.func112, Try.ntmps112
    go_wp2_with (fail)
    refine hE.mono ?_
    clear hE
    rintro e w1 ⟨A1, c1, rfl, hG⟩
    have HB1 := Aside0.mk hG.keep
    clear hG
    go_wp2_with (fail)
    go_ret2
    exact ⟨HB1.out, rfl⟩
  · obtain ⟨hj, hbs⟩ := splitO_some hb hf
    have hls := (joinP_some hj).2.1
    have hln := (joinP_some hj).2.2
    have HBs := Aside0.mk hbs
    have HLs := Aside0.mk hls
    have HO := Aside0.mk (show mapO letterO rs = o by rw [← ho, allO, hf]; rfl)
    have hE := refSplit_calls A c l rs 0 w hC hc hb (by omega) hs
    clear hC hc hb hl ho hf hs hj hbs hls
    go_enter Try.func112, Try.ntmps112
    go_wp2_with (fail)
    refine hE.mono ?_
    clear hE
    rintro e w1 ⟨A1, c1, rfl, hG⟩
    have HG := Aside0.mk hG
    clear hG
    have HR0 := Aside0.mk (new_R k72 72 w1 w1.heap.size (fun k => w1.heap.size ≤ k) (Nat.le_refl _) (Nat.le_refl _))
    have HB0 := Aside0.mk (below_alloc (Below.refl w1.heap.size w1) (.cells #[] 72))
    go_wp2_with (fail)
    go_loopw [6, 7] (fun u t wr => ∃ (i : Nat) (xs : List S72), t = .int .i64 (i : Int) ∧ i ≤ rs.length ∧ Aside0 (xs.length = i) ∧ Aside0 (k72.R 72 wr w1.heap.size (fun k_ => w1.heap.size ≤ k_) u xs) ∧ Aside0 ((mapO letterO (rs.drop i)).bind (fun ys => some (xs ++ ys)) = o) ∧ Aside0 (Below w1.heap.size w1 wr)) (fun _ t _ => rs.length - (intOf t).toNat)
    case atStart => exact ⟨0, [], rfl, Nat.zero_le _, ⟨rfl⟩, HR0, ⟨by rw [List.drop_zero, HO.out]; cases o <;> rfl⟩, HB0⟩
    case round =>
      clear HO HR0 HB0
      obtain ⟨i, xs, rfl, hi, HV, HR, HO, HB⟩ := hrel
      obtain ⟨Av, cv, ev⟩ := Kd.R_slice HR.out
      subst ev
      by_cases hlt : i < rs.length
      · have b0 : decide ((i : Int) < (rs.length : Int)) = true := decide_eq_true (by omega)
        have b0' : decide (i < rs.length) = true := decide_eq_true hlt
        have b1 : (0 ≤ (i : Int)) = True := eq_true (by omega)
        have b2 : ((i : Int) < (rs.length : Int)) = True := eq_true (by omega)
        obtain ⟨g1, Ai, ci, hA, hx0, hci, hCi⟩ := rows_any HG.out i hlt
        subst hA
        have hx0 := cell_step hx0 HB.out
        have hCi := Kd.C_below hCi HB.out
        obtain ⟨r, hr⟩ : ∃ r, r = rs[i] := ⟨_, rfl⟩
        rw [← hr] at hx0 hci hCi
        have HCi := Aside0.mk hCi
        have Hci := Aside0.mk hci
        have HBi := Aside0.mk (show Byte r from hr ▸ HBs.out _ (List.getElem_mem hlt))
        have HLi := Aside0.mk (show r.length < 140737488355328 by have := HLs.out _ (List.getElem_mem hlt); rw [← hr] at this; omega)
        have hoo := HO.out
        rw [mapO_step hlt, ← hr] at hoo
        have hxl : xs.length ≤ 1024 := by rw [HV.out]; omega
        have HBw := Aside0.mk (below_then HG.out.keep HG.out.keep.size HB.out)
        clear hr hci hCi HO
        obtain ⟨q, hq⟩ : ∃ q, q = letterO r := ⟨_, rfl⟩
        rw [← hq] at hoo
        have HQ := Aside0.mk hq.symm
        clear hq
        go_wp2_with (fail)
        refine (refRead78_calls Ai ci r q wr HCi.out Hci.out HBi.out HLi.out HQ.out).mono ?_
        rintro e w2 ⟨hB, hh⟩
        have HB2 := Aside0.mk (below_then HB.out HB.out.size hB)
        have HKB := Aside0.mk hB
        have HN0 := Aside0.mk (blk_new w2 (.cells #[.int .i64 0, .int .i64 0, .int .i64 0, .slice none 0 0, .slice none 0 0] 72))
        have HK0 := Aside0.mk (below_alloc (Below.refl w2.heap.size w2) (.cells #[.int .i64 0, .int .i64 0, .int .i64 0, .slice none 0 0, .slice none 0 0] 72))
        clear hB hx0
        cases q with
        | none =>
          have : o = none := hoo.symm
          subst this
          subst hh
          clear hoo
          go_upto_region 9 with (refine wpList_store_row rfl 72 (.tmp 8) (.tmp 30) rfl w2.heap.size #[.int .i64 0, .int .i64 0, .int .i64 0, .slice none 0 0, .slice none 0 0] rfl rfl 72 _ HN0.out size72 rfl (by simp [Value.oneCell']) ?_; have HK1 := Aside0.mk (below_setRow HK0.out (Nat.le_refl _) #[.int .i64 0, .int .i64 0, .int .i64 0, .slice none 0 0, .slice none 0 0]))
          generalize (w2.alloc (.cells #[.int .i64 0, .int .i64 0, .int .i64 0, .slice none 0 0, .slice none 0 0] 72)).setRow w2.heap.size #[.int .i64 0, .int .i64 0, .int .i64 0, .slice none 0 0, .slice none 0 0] = w4 at HK1 ⊢
          have HB4 := Aside0.mk (below_then (below_then HBw.out HBw.out.size HKB.out) (by have := (below_then HBw.out HBw.out.size HKB.out).size; omega) HK1.out)
          go_wp2_with (fail)
          go_ret2
          exact ⟨HB4.out, rfl⟩
        | some x =>
          obtain ⟨A3, c3, A4, c4, rfl, hR3, hR4⟩ := hh
          have hoo2 : (mapO letterO (rs.drop (i + 1))).bind (fun ys => some (xs ++ [x] ++ ys)) = o := by
            rw [← hoo]
            cases mapO letterO (rs.drop (i + 1)) <;> simp
          have HO := Aside0.mk hoo2
          have HRa := Aside0.mk hR3
          have HRb := Aside0.mk hR4
          clear hoo hoo2 hR3 hR4
          go_upto_region 9 with (refine wpList_store_row rfl 72 (.tmp 8) (.tmp 30) rfl w2.heap.size #[.int .i64 x.f0.f0, .int .i64 x.f0.f1, .int .i64 x.f1, .slice A3 x.f2.length c3, .slice A4 x.f3.length c4] rfl rfl 72 _ HN0.out size72 rfl (by simp [Value.oneCell']) ?_; have HN1 := Aside0.mk (setRow_heap _ _ _ #[.int .i64 x.f0.f0, .int .i64 x.f0.f1, .int .i64 x.f1, .slice A3 x.f2.length c3, .slice A4 x.f3.length c4] _ _ HN0.out); have HK1 := Aside0.mk (below_setRow HK0.out (Nat.le_refl _) #[.int .i64 x.f0.f0, .int .i64 x.f0.f1, .int .i64 x.f1, .slice A3 x.f2.length c3, .slice A4 x.f3.length c4]))
          generalize (w2.alloc (.cells #[.int .i64 0, .int .i64 0, .int .i64 0, .slice none 0 0, .slice none 0 0] 72)).setRow w2.heap.size #[.int .i64 x.f0.f0, .int .i64 x.f0.f1, .int .i64 x.f1, .slice A3 x.f2.length c3, .slice A4 x.f3.length c4] = w4 at HN1 HK1 ⊢
          have HB4 := Aside0.mk (below_then HB2.out HB2.out.size HK1.out)
          have hs2 := HB4.out.size
          have HR2 := Aside0.mk (Kd.R_below HR.out (below_then HKB.out HKB.out.size HK1.out))
          have HM := Aside0.mk (Kd.M_lower_ k72 HB.out.size (k72_mkM _ _ _ x (Kd.R_below HRa.out HK1.out) (Kd.R_below HRb.out HK1.out)))
          have n0 : w4.cell? ⟨w2.heap.size, 0, none⟩ = some (.int .i64 x.f0.f0) := (blk_cell HN1.out 0).trans rfl
          have n1 : w4.cell? ⟨w2.heap.size, 1, none⟩ = some (.int .i64 x.f0.f1) := (blk_cell HN1.out 1).trans rfl
          have n2 : w4.cell? ⟨w2.heap.size, 2, none⟩ = some (.int .i64 x.f1) := (blk_cell HN1.out 2).trans rfl
          have n3 : w4.cell? ⟨w2.heap.size, 3, none⟩ = some (.slice A3 x.f2.length c3) := (blk_cell HN1.out 3).trans rfl
          have n4 : w4.cell? ⟨w2.heap.size, 4, none⟩ = some (.slice A4 x.f3.length c4) := (blk_cell HN1.out 4).trans rfl
          clear HN0 HK0 HRa HRb
          go_wp2_with (at_builtin; refine Kd.R_append k72 (w0 := w1) w1.heap.size rfl (.tmp 34) (.tmp 36) 88 72 (.agg #[.int .i64 0, .int .i64 0, .int .i64 0, .slice none 0 0, .slice none 0 0]) 72 rfl Try.underlying88 info72 rfl (by decide) (by omega) (.slice Av xs.length cv) xs x [.int .i64 x.f0.f0, .int .i64 x.f0.f1, .int .i64 x.f1, .slice A3 x.f2.length c3, .slice A4 x.f3.length c4] (fun k_ => w1.heap.size ≤ k_) (fun k_ => wr.heap.size ≤ k_) rfl rfl HM.out (fun k hk => ⟨Nat.le_trans HB.out.size hk, fun e => by have := Kd.R_lt_ HR.out k e.symm; omega⟩) (fun k hk => by omega) HR2.out HB4.out hs2 (by omega) ?_; intro v3 w3 hR3 hB3 hg3 hat3; have HR3 := Aside0.mk hR3; have HB3 := Aside0.mk hB3; clear hR3 hB3 hg3 hat3)
          exact ⟨⟨i + 1, xs ++ [x], by simp, by omega, ⟨by rw [List.length_append, HV.out]; rfl⟩, HR3, HO, HB3⟩, by simp only [intOf]; omega⟩
      · have b0 : decide ((i : Int) < (rs.length : Int)) = false := decide_eq_false (by omega)
        have b0' : decide (i < rs.length) = false := decide_eq_false hlt
        have hoo := HO.out
        rw [List.drop_eq_nil_of_le (by omega)] at hoo
        have : o = some xs := by rw [← hoo]; simp [mapO]
        subst this
        clear hoo HO
        go_wp2_with (fail)
        go_ret2
        exact ⟨below_then HG.out.keep HG.out.keep.size HB.out, Av, cv, rfl, Kd.R_mono (Kd.R_lower HR.out HG.out.keep.size) (fun k hk => Nat.le_trans HG.out.keep.size hk)⟩
end Go.Proofs.Ytijccobeljoikaa.Ms

/- msg: the document's Decode: what is proven, read one by one (plain facts and carryings). -/
namespace Go.Proofs.Ytijccobeljoikaa.Ms
open Go.RowKit Go.Proofs.YtijccobeljoikaaW.PrintWords Go.Proofs.YtijccobeljoikaaW.PrintLast
open Go.Proofs.Ytijccobeljoikaa.Plain Go.Proofs.Ytijccobeljoikaa.Walks
set_option linter.unusedVariables false
set_option linter.unusedSimpArgs false
theorem Got.set {α : Type} {d : Kd α} {e : Nat} {w0 w : World} {A : Option Addr} {c : Nat} {zs : List α} (h : Got d e w0 w A c zs) {g t : Nat} {cs : Array Value} (hb : w.heap[g]? = some (.cells cs t (0, 0))) (hE : ∀ q, q ∈ e :: d.E → q ≠ t) (hg : w0.heap.size ≤ g) (j : Nat) (u : Value) : Got d e w0 (w.setCell ⟨g, j, none⟩ u) A c zs :=
  ⟨Kd.R_set h.own hb hE j u, below_set h.keep hg⟩
theorem Got.grown {α : Type} {d : Kd α} {e t : Nat} {w0 W w3 : World} {A : Option Addr} {c : Nat} {zs : List α} {u : Value} (h : Got d e w0 W A c zs) (hty : ∀ k, u.ownBlock = some k → ∃ cells, W.heap[k]? = some (.cells cells t (0, 0))) (hE : ∀ q, q ∈ e :: d.E → q ≠ t) (hg : W.grownBy w3 u.ownBlock) (hB : Below w0.heap.size w0 w3) : Got d e w0 w3 A c zs :=
  ⟨Kd.R_mono (Kd.R_grown (Kd.R_apart' h.own hty hE) hg (fun k hk => hk.2)) (fun k hk => hk.1), hB⟩
theorem blk_apart {W w3 : World} {g t s : Nat} {cs : Array Value} {u : Value} (h : W.heap[g]? = some (.cells cs t (0, 0))) (hty : ∀ k, u.ownBlock = some k → ∃ cells, W.heap[k]? = some (.cells cells s (0, 0))) (hE : t ≠ s) (hg : W.grownBy w3 u.ownBlock) : w3.heap[g]? = some (.cells cs t (0, 0)) := by
  refine blk_grown h hg (fun e => ?_)
  obtain ⟨cells, hc⟩ := hty g e.symm
  rw [h] at hc
  injection hc with hc
  injection hc with _ hc
  exact hE hc
theorem MsgO.push {W w3 : World} {base : Nat} {m1 : S91} {v : Nat → Value} {xs ys : List S101} (h : MsgO W base { m1 with proven := xs } v) {u : Value} (hty : ∀ k, u.ownBlock = some k → ∃ cells, W.heap[k]? = some (.cells cells 101 (0, 0))) (hg : W.grownBy w3 u.ownBlock) {u3 : Value} (hR : Kd.R k101 101 w3 base (fun k => base ≤ k) u3 ys) {g : Nat} {cs : Array Value} (hb : w3.heap[g]? = some (.cells cs 91 (0, 0))) (j : Nat) :
    MsgO (w3.setCell ⟨g, j, none⟩ u3) base { m1 with proven := ys } (fun n => if n = 4 then u3 else v n) := by
  have a0 : MsgO w3 base { m1 with proven := ys } (fun n => if n = 4 then u3 else v n) :=
    ⟨Kd.R_mono (Kd.R_grown (Kd.R_apart' h.r0 hty (by simp [Kd.int, Kd.scalar])) hg (fun k hk => hk.2)) (fun k hk => hk.1), Kd.R_mono (Kd.R_grown (Kd.R_apart' h.r1 hty (by simp [Kd.int, Kd.scalar])) hg (fun k hk => hk.2)) (fun k hk => hk.1), Kd.R_mono (Kd.R_grown (Kd.R_apart' h.r2 hty (by simp [Kd.int, Kd.scalar])) hg (fun k hk => hk.2)) (fun k hk => hk.1), Kd.R_mono (Kd.R_grown (Kd.R_apart' h.r3 hty (by simp [k72, k70, Kd.iso, Kd.pair, Kd.slice, Kd.int, Kd.scalar])) hg (fun k hk => hk.2)) (fun k hk => hk.1), hR⟩
  exact a0.set hb j u3
theorem provenO_head (l : List Int) : provenO l = (headO l 3 2).bind fun t => (entryO (t.1.getD 1 [])).bind fun e => (allO letterO (t.1.getD 2 [])).bind fun ls => some ⟨t.2.getD 0 0, t.2.getD 1 0, e, ls⟩ := by
  unfold provenO headO
  cases fieldsO l 3 with
  | none => rfl
  | some s => show (intsO (s.getD 0 []) 2).bind _ = ((intsO (s.getD 0 []) 2).map _).bind _; cases intsO (s.getD 0 []) 2 <;> rfl
theorem proven_step {s1 s2 : List Int} {v0 v1 : Int} {y : S87} {ye : Int} {zs : List S72} {zb : Bool} {M : Option (List S101)} {xs : List S101} {t : Option (List S101)} (hy : (entryO s1).getD z87 = y) (hye : (if (entryO s1).isSome then (0 : Int) else 12) = ye) (hz : (allO letterO s2).getD [] = zs) (hzb : (allO letterO s2).isSome = zb)
    (h : (((entryO s1).bind fun e => (allO letterO s2).bind fun l => some (⟨v0, v1, e, l⟩ : S101)).bind fun x => M.bind fun xs => some (x :: xs)).bind (fun ys => some (xs ++ ys)) = t) :
    ((zb && (ye == 0)) = true → M.bind (fun ys => some (xs ++ [⟨v0, v1, y, zs⟩] ++ ys)) = t) ∧ ((zb && (ye == 0)) = false → t = none) := by
  cases he : entryO s1 with
  | none =>
    rw [he] at hye h
    have e1 : ye = 12 := hye.symm
    have e2 : t = none := h.symm
    subst e1; subst e2
    exact ⟨fun e => by rw [Bool.and_eq_true] at e; exact absurd e.2 (by decide), fun _ => rfl⟩
  | some y0 =>
    rw [he] at hy hye h
    have e1 : ye = 0 := hye.symm
    have e2 : y0 = y := hy
    subst e1; subst e2
    cases ha : allO letterO s2 with
    | none =>
      rw [ha] at hzb h
      have e3 : zb = false := hzb.symm
      have e2 : t = none := h.symm
      subst e3; subst e2
      exact ⟨fun e => (by cases e), fun _ => rfl⟩
    | some z0 =>
      rw [ha] at hz hzb h
      have e3 : zb = true := hzb.symm
      have e4 : z0 = zs := hz
      subst e3; subst e4
      refine ⟨fun _ => ?_, fun e => by cases e⟩
      rw [← h]
      cases M <;> simp
theorem split_any (q : List Int) (t : Option (List S101)) (ht : allO provenO q = t) (hb : Byte q) : ∃ rs x, splitP q = (rs, x) ∧ (x = 0 → (∀ r ∈ rs, Byte r ∧ r.length ≤ 65536) ∧ rs.length ≤ 1024 ∧ mapO provenO rs = t) ∧ (x ≠ 0 → t = none) := by
  rcases splitO_cases q with ⟨rs, x, hs, hx, hf⟩ | ⟨rs, hs, hf⟩
  · exact ⟨rs, x, hs, fun e => absurd e hx, fun _ => by rw [← ht, allO, hf]; rfl⟩
  · obtain ⟨hj, hbs⟩ := splitO_some hb hf
    exact ⟨rs, 0, hs, fun _ => ⟨fun r hr => ⟨hbs r hr, (joinP_some hj).2.1 r hr⟩, (joinP_some hj).2.2, by rw [← ht, allO, hf]; rfl⟩, fun e => absurd rfl e⟩
theorem refRead80_own (A : Option Addr) (c : Nat) (l : List Int) (x : S87) (y : Int) (w : World) (hC : Kd.C (Kd.int .u8) w A l.length l) (hc : l.length ≤ c) (hb : Byte l) (hl : l.length < 17592186044416) (hx : (entryO l).getD z87 = x) (hy : (if (entryO l).isSome then (0 : Int) else 12) = y) :
    Calls Try.prog 80 #[.slice A l.length c] w fun e w' => Below w.heap.size w w' ∧ ∃ A2 c2, e = .returned (.tuple #[.agg #[.int .i64 x.f0, .int .i64 x.f1, .int .i64 x.f2, .slice A2 x.f3.length c2], .int .i64 y]) ∧ Kd.R (Kd.int .u8) 5 w' w.heap.size (fun k => w.heap.size ≤ k) (.slice A2 x.f3.length c2) x.f3 := by
  cases ho : entryO l with
  | none =>
    rw [ho] at hx hy; subst hx; subst hy
    refine (refRead80_calls A c l none w hC hc hb (by omega) ho).mono ?_
    rintro e w' ⟨hB, rfl⟩
    exact ⟨hB, none, 0, rfl, Kd.R_nil _ _ _ _ _⟩
  | some x0 =>
    rw [ho] at hx hy; obtain rfl : x0 = x := hx; obtain rfl : 0 = y := hy
    refine (refRead80_calls A c l (some x0) w hC hc hb (by omega) ho).mono ?_
    rintro e w' ⟨hB, A2, c2, rfl, h2⟩
    exact ⟨hB, A2, c2, rfl, h2⟩
theorem reads112_own (A : Option Addr) (c : Nat) (l : List Int) (xs : List S72) (b : Bool) (w : World) (hC : Kd.C (Kd.int .u8) w A l.length l) (hc : l.length ≤ c) (hb : Byte l) (hl : l.length < 17592186044416) (hx : (allO letterO l).getD [] = xs) (hy : (allO letterO l).isSome = b) :
    Calls Try.prog 112 #[.slice A l.length c] w fun e w' => Below w.heap.size w w' ∧ ∃ A2 c2, e = .returned (.tuple #[.slice A2 xs.length c2, .bool b]) ∧ k72.R 72 w' w.heap.size (fun k => w.heap.size ≤ k) (.slice A2 xs.length c2) xs := by
  cases ho : allO letterO l with
  | none =>
    rw [ho] at hx hy; subst hx; subst hy
    refine (reads112_calls A c l none w hC hc hb hl ho).mono ?_
    rintro e w' ⟨hB, rfl⟩
    exact ⟨hB, none, 0, rfl, Kd.R_nil _ _ _ _ _⟩
  | some x0 =>
    rw [ho] at hx hy; obtain rfl : x0 = xs := hx; obtain rfl : true = b := hy
    refine (reads112_calls A c l (some x0) w hC hc hb hl ho).mono ?_
    rintro e w' ⟨hB, A2, c2, rfl, h2⟩
    exact ⟨hB, A2, c2, rfl, h2⟩
end Go.Proofs.Ytijccobeljoikaa.Ms
