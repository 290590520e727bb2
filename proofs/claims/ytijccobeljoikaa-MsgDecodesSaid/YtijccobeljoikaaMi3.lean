/- Put together of my texts: MsG, MsH, MsI, MsJ, MsK. -/
import Derived.Test.YtijccobeljoikaaMi2
import Derived.Lib.Bytealg
/- msg: a letter's and an entry's bytes. -/
namespace Go.Proofs.Ytijccobeljoikaa.Ms
open Go.RowKit Go.Proofs.YtijccobeljoikaaW.PrintWords Go.Proofs.YtijccobeljoikaaW.PrintLast
open Go.Proofs.Ytijccobeljoikaa.Plain Go.Proofs.Ytijccobeljoikaa.Walks
set_option linter.unusedVariables false
set_option linter.unusedSimpArgs false
def pkL_T2 : Bool × List (List Nat × List Nat) := (true, [([], []), ([0], [0]), ([1], [1]), ([], []), ([3], [3]), ([4], [4]), ([], []), ([6], [6]), ([2, 5, 7], [2, 5, 7]), ([8], [8]), ([], []), ([10], [10]), ([], []), ([12], [12]), ([13, 9], [13]), ([9, 11, 14], [9, 11, 14]), ([15, 14], [15]), ([16, 16, 0, 1, 2, 3, 4, 5, 6, 7, 8, 9, 10, 11, 12, 13, 14, 15, 16], [16])])
def pkL_B2 : List Nat := [0, 1, 3, 0, 8, 24, 0, 64, 255, 511, 0, 1024, 0, 4096, 13311, 32767, 65535, 131071]
theorem pkL_tab2 : rtab .any (opsOf Try.f115 2) = pkL_T2 := by kernel_rfl
theorem pkL_bits2 : waitsOk pkL_T2.2 pkL_B2 = true := by kernel_rfl

/-- A letter in its box, and what was there is as it was. -/
def Held5 (b : Nat) (v0 v1 v2 v3 v4 : Value) (w0 w' : World) : Prop := w'.cell? ⟨b, 0, none⟩ = some v0 ∧ w'.cell? ⟨b, 1, none⟩ = some v1 ∧ w'.cell? ⟨b, 2, none⟩ = some v2 ∧ w'.cell? ⟨b, 3, none⟩ = some v3 ∧ w'.cell? ⟨b, 4, none⟩ = some v4 ∧ Below w0.heap.size w0 w'
theorem cell_step {w1 w2 : World} {p : Addr} {v : Value} (h : w1.cell? p = some v) (hB : Below w1.heap.size w1 w2) : w2.cell? p = some v := (hB.cell (World.block_lt_of_cell? _ _ h)).trans h
theorem Held5.step {b : Nat} {v0 v1 v2 v3 v4 : Value} {w0 w1 w2 : World} (h : Held5 b v0 v1 v2 v3 v4 w0 w1) (hB : Below w1.heap.size w1 w2) : Held5 b v0 v1 v2 v3 v4 w0 w2 :=
  ⟨cell_step h.1 hB, cell_step h.2.1 hB, cell_step h.2.2.1 hB, cell_step h.2.2.2.1 hB, cell_step h.2.2.2.2.1 hB, below_step h.2.2.2.2.2 hB⟩

theorem rows_of_block {W : World} {g t : Nat} {fr : Nat × Nat} {vs : List (Option Addr × Nat × Nat)} {zs : List (List Int)} (h : W.heap[g]? = some (.cells (vs.map (fun t => Value.slice t.1 t.2.1 t.2.2)).toArray t fr)) (hb : Bys W vs zs) (hl : zs.length ≤ 9223372036854775807) : Kd.C (Kd.slice 5 (Kd.int .u8)) W (some ⟨g, 0, none⟩) zs.length zs :=
  C_rows_block h hl (fun j p hp => by
    have hj : j < vs.length := by rw [hb.1]; exact (List.getElem?_eq_some_iff.1 hp).1
    obtain ⟨k1, k2, k3⟩ := hb.2 j _ p (List.getElem?_eq_getElem hj) hp
    exact ⟨vs[j].1, vs[j].2.2, by simp [hj, k1], k2, k3⟩)

set_option maxHeartbeats 4000000 in
set_option maxRecDepth 100000 in
theorem packLetter_ok (m : S72) (A3 : Option Addr) (c3 : Nat) (A4 : Option Addr) (c4 : Nat) (w : World) (hC3 : Kd.C (Kd.int .u8) w A3 m.f2.length m.f2) (hc3 : m.f2.length ≤ c3) (hC4 : Kd.C (Kd.slice 5 (Kd.int .u8)) w A4 m.f3.length m.f3) (hc4 : m.f3.length ≤ c4) (hg : Good72 m) :
    Calls Try.prog 115 #[.agg #[.int .i64 m.f0.f0, .int .i64 m.f0.f1, .int .i64 m.f1, .slice A3 m.f2.length c3, .slice A4 m.f3.length c4]] w fun e w' => ∃ A1 c1, e = .returned (.slice A1 (letterZ m).length c1) ∧ Got (Kd.int .u8) 5 w w' A1 c1 (letterZ m) := by
  have hu72 := Try.underlying72
  have HC3 := Aside0.mk hC3
  have Hc3 := Aside0.mk hc3
  have HC := Aside0.mk hC4
  have Hc := Aside0.mk hc4
  obtain ⟨n3, h3⟩ : ∃ n3, n3 = encI [m.f0.f0, m.f0.f1, m.f1] := ⟨_, rfl⟩
  obtain ⟨t4, h4⟩ : ∃ t4, t4 = encL m.f3 := ⟨_, rfl⟩
  obtain ⟨z, hz⟩ : ∃ z, z = letterZ m := ⟨_, rfl⟩
  have HNUM := Aside0.mk (show numsP [m.f0.f0, m.f0.f1, m.f1] = (n3, 0) by rw [h3]; exact letter_nums hg)
  have HTAG := Aside0.mk (show joinP m.f3 = (t4, 0) by rw [h4]; exact letter_tags hg)
  have HJ := Aside0.mk (show joinP [n3, m.f2, t4] = (z, 0) by rw [h3, h4, hz]; exact letter_join hg)
  rw [← hz]
  clear h3 h4 hz
  have HG := Aside0.mk (good72.2 hg)
  clear hC3 hc3 hC4 hc4 hg
  have HB0 := Aside0.mk (below_alloc (Below.refl w.heap.size w) (.cells #[.int .i64 m.f0.f0, .int .i64 m.f0.f1, .int .i64 m.f1, .slice A3 m.f2.length c3, .slice A4 m.f3.length c4] 72))
  go_enter Try.func115, Try.ntmps115
  go_upto_region 2 with (first
    | (go_at_call 147; with_reducible refine (rightLetter_calls m A3 c3 A4 c4 _ (Kd.C_alloc HC.out _) Hc.out).mono ?_; rintro e w1 ⟨rfl, hB⟩; have HB1 := Aside0.mk (HB0.out.trans (hB.mono (by simp))); have HK := Aside0.mk ((hB.block w.heap.size (by simp)).trans (blk_new w _)); clear hB; rw [HG.out])
    | (go_at_call 94; refine (need_ok 81 _).mono ?_; rintro e w2 ⟨rfl, rfl⟩))
  refine start_ (n := 18) (S := Held5 w.heap.size (.int .i64 m.f0.f0) (.int .i64 m.f0.f1) (.int .i64 m.f1) (.slice A3 m.f2.length c3) (.slice A4 m.f3.length c4) w2) (ds := []) #[false, false, false, false, false, false, false, false, false, false, false, false, false, false, false, false, false, false] (by kernel_rfl) rfl rfl
    ⟨(blk_cell HK.out 0).trans rfl, (blk_cell HK.out 1).trans rfl, (blk_cell HK.out 2).trans rfl, (blk_cell HK.out 3).trans rfl, (blk_cell HK.out 4).trans rfl, below_drew1 (Below.refl _ _)⟩ (fun hHeld => ?_)
  generalize w2.drew = w3 at hHeld ⊢
  refine with_tabW pkL_tab2 pkL_bits2 (fun HT_ HW_ => ?_)
  refine pure_ (i := 0) (N := some 6) (v := ?_) (a' := ?_) #[true, false, false, false, false, false, false, false, false, false, false, false, false, false, false, false, false, false] rfl rfl (any_of HT_.out (by kernel_rfl)) (fun _ _ _ h => h) (Or.inl ⟨by rfl, ?_⟩) ?_ ?_
  rotate_left
  · intro w'
    go_simp
    with_reducible rfl
  rotate_left
  · simp only [Act.put, List.setIfInBounds_toArray, List.set_cons_zero, List.set_cons_succ, i64_w, i32_w]
    rfl
  refine pure_ (i := 1) (N := some 7) (v := ?_) (a' := ?_) #[true, true, false, false, false, false, false, false, false, false, false, false, false, false, false, false, false, false] rfl rfl (any_of HT_.out (by kernel_rfl)) (fun _ _ _ h => h) (Or.inl ⟨by rfl, ?_⟩) ?_ ?_
  rotate_left
  · intro w'
    go_simp
    with_reducible rfl
  rotate_left
  · simp only [Act.put, List.setIfInBounds_toArray, List.set_cons_zero, List.set_cons_succ, i64_w, i32_w]
    rfl
  refine take_ (i := 2) (N := some 8) (v := ?_) (a' := ?_) #[true, true, true, false, false, false, false, false, false, false, false, false, false, false, false, false, false, false] rfl rfl (take_ofW HT_.out HW_.out (by kernel_rfl)) (fun _ _ _ h => h) (Or.inl ⟨by rfl, ?_⟩) hHeld ?_ ?_
  rotate_left
  · rintro w' ⟨s0, s1, s2, s3, s4, s5⟩
    go_simp
    with_reducible rfl
  rotate_left
  · simp only [Act.put, List.setIfInBounds_toArray, List.set_cons_zero, List.set_cons_succ, i64_w, i32_w]
    rfl
  refine pure_ (i := 3) (N := some 9) (v := ?_) (a' := ?_) #[true, true, true, true, false, false, false, false, false, false, false, false, false, false, false, false, false, false] rfl rfl (any_of HT_.out (by kernel_rfl)) (fun _ _ _ h => h) (Or.inl ⟨by rfl, ?_⟩) ?_ ?_
  rotate_left
  · intro w'
    go_simp
    with_reducible rfl
  rotate_left
  · simp only [Act.put, List.setIfInBounds_toArray, List.set_cons_zero, List.set_cons_succ, i64_w, i32_w]
    rfl
  refine pure_ (i := 4) (N := some 10) (v := ?_) (a' := ?_) #[true, true, true, true, true, false, false, false, false, false, false, false, false, false, false, false, false, false] rfl rfl (any_of HT_.out (by kernel_rfl)) (fun _ _ _ h => h) (Or.inl ⟨by rfl, ?_⟩) ?_ ?_
  rotate_left
  · intro w'
    go_simp
    with_reducible rfl
  rotate_left
  · simp only [Act.put, List.setIfInBounds_toArray, List.set_cons_zero, List.set_cons_succ, i64_w, i32_w]
    rfl
  refine take_ (i := 5) (N := some 11) (v := ?_) (a' := ?_) #[true, true, true, true, true, true, false, false, false, false, false, false, false, false, false, false, false, false] rfl rfl (take_ofW HT_.out HW_.out (by kernel_rfl)) (fun _ _ _ h => h) (Or.inl ⟨by rfl, ?_⟩) hHeld ?_ ?_
  rotate_left
  · rintro w' ⟨s0, s1, s2, s3, s4, s5⟩
    go_simp
    with_reducible rfl
  rotate_left
  · simp only [Act.put, List.setIfInBounds_toArray, List.set_cons_zero, List.set_cons_succ, i64_w, i32_w]
    rfl
  refine pure_ (i := 6) (N := some 12) (v := ?_) (a' := ?_) #[true, true, true, true, true, true, true, false, false, false, false, false, false, false, false, false, false, false] rfl rfl (any_of HT_.out (by kernel_rfl)) (fun _ _ _ h => h) (Or.inl ⟨by rfl, ?_⟩) ?_ ?_
  rotate_left
  · intro w'
    go_simp
    with_reducible rfl
  rotate_left
  · simp only [Act.put, List.setIfInBounds_toArray, List.set_cons_zero, List.set_cons_succ, i64_w, i32_w]
    rfl
  refine take_ (i := 7) (N := some 13) (v := ?_) (a' := ?_) #[true, true, true, true, true, true, true, true, false, false, false, false, false, false, false, false, false, false] rfl rfl (take_ofW HT_.out HW_.out (by kernel_rfl)) (fun _ _ _ h => h) (Or.inl ⟨by rfl, ?_⟩) hHeld ?_ ?_
  rotate_left
  · rintro w' ⟨s0, s1, s2, s3, s4, s5⟩
    go_simp
    with_reducible rfl
  rotate_left
  · simp only [Act.put, List.setIfInBounds_toArray, List.set_cons_zero, List.set_cons_succ, i64_w, i32_w]
    rfl
  refine pure_ (i := 10) (N := some 16) (v := ?_) (a' := ?_) #[true, true, true, true, true, true, true, true, false, false, true, false, false, false, false, false, false, false] rfl rfl (any_of HT_.out (by kernel_rfl)) (fun _ _ _ h => h) (Or.inl ⟨by rfl, ?_⟩) ?_ ?_
  rotate_left
  · intro w'
    go_simp
    with_reducible rfl
  rotate_left
  · simp only [Act.put, List.setIfInBounds_toArray, List.set_cons_zero, List.set_cons_succ, i64_w, i32_w]
    rfl
  refine take_ (i := 11) (N := some 17) (v := ?_) (a' := ?_) #[true, true, true, true, true, true, true, true, false, false, true, true, false, false, false, false, false, false] rfl rfl (take_ofW HT_.out HW_.out (by kernel_rfl)) (fun _ _ _ h => h) (Or.inl ⟨by rfl, ?_⟩) hHeld ?_ ?_
  rotate_left
  · rintro w' ⟨s0, s1, s2, s3, s4, s5⟩
    go_simp
    with_reducible rfl
  rotate_left
  · simp only [Act.put, List.setIfInBounds_toArray, List.set_cons_zero, List.set_cons_succ, i64_w, i32_w]
    rfl
  refine pure_ (i := 12) (N := some 18) (v := ?_) (a' := ?_) #[true, true, true, true, true, true, true, true, false, false, true, true, true, false, false, false, false, false] rfl rfl (any_of HT_.out (by kernel_rfl)) (fun _ _ _ h => h) (Or.inl ⟨by rfl, ?_⟩) ?_ ?_
  rotate_left
  · intro w'
    go_simp
    with_reducible rfl
  rotate_left
  · simp only [Act.put, List.setIfInBounds_toArray, List.set_cons_zero, List.set_cons_succ, i64_w, i32_w]
    rfl
  refine take_ (i := 13) (N := some 19) (v := ?_) (a' := ?_) #[true, true, true, true, true, true, true, true, false, false, true, true, true, true, false, false, false, false] rfl rfl (take_ofW HT_.out HW_.out (by kernel_rfl)) (fun _ _ _ h => h) (Or.inl ⟨by rfl, ?_⟩) hHeld ?_ ?_
  rotate_left
  · rintro w' ⟨s0, s1, s2, s3, s4, s5⟩
    go_simp
    with_reducible rfl
  rotate_left
  · simp only [Act.put, List.setIfInBounds_toArray, List.set_cons_zero, List.set_cons_succ, i64_w, i32_w]
    rfl
  refine one_ (i := 8) (N := some 14) #[true, true, true, true, true, true, true, true, true, false, true, true, true, true, false, false, false, false] rfl rfl (one_of HT_.out (by kernel_rfl)) (by decide) (fun K hK => ?_)
  go_simp
  refine hK.out _ _ (hHeld.step (below_alloc (Below.refl _ _) _)) (fun hHeld => ?_)
  clear hK K
  have HN1 := Aside0.mk (C_ints_block (l := [m.f0.f0, m.f0.f1, m.f1]) (t := 3) (fr := (0, 0)) (blk_new w3 (.cells #[.int .i64 m.f0.f0, .int .i64 m.f0.f1, .int .i64 m.f1] 3)) (by simp))
  obtain ⟨g3, hg3⟩ : ∃ g3, g3 = w3.heap.size := ⟨_, rfl⟩
  rw [← hg3] at HN1 ⊢
  clear hg3
  generalize w3.alloc (.cells #[.int .i64 m.f0.f0, .int .i64 m.f0.f1, .int .i64 m.f1] 3) = w4 at hHeld HN1 ⊢
  refine one_ (i := 9) (N := some 15) #[true, true, true, true, true, true, true, true, true, true, true, true, true, true, false, false, false, false] rfl rfl (one_of HT_.out (by kernel_rfl)) (by decide) (fun K hK => ?_)
  refine goes_ Try.func96 (by kernel_rfl) rfl #[.slice (some ⟨g3, 0, none⟩) 3 3] (by rfl) rfl rfl (by (try simp only [List.map_toArray, List.map_cons, List.map_nil]); first | done | rfl) ?_
  refine (nums_ok (some _) 3 [m.f0.f0, m.f0.f1, m.f1] n3 _ HN1.out (by simp) (by simp) HNUM.out).mono ?_
  rintro e w5 ⟨A15, c15, rfl, hG⟩
  refine ⟨_, rfl, ?_⟩
  have HG15 := Aside0.mk hG
  refine hK.out _ _ (hHeld.step hG.keep) (fun hHeld => ?_)
  clear hK K hG HN1
  refine norm_ (a' := ?_) ?_ ?_
  rotate_left
  · show Act.put _ (some 15) _ = _
    simp only [Act.put, List.setIfInBounds_toArray, List.set_cons_zero, List.set_cons_succ, i64_w, i32_w]
    rfl
  refine one_ (i := 14) (N := some 20) #[true, true, true, true, true, true, true, true, true, true, true, true, true, true, true, false, false, false] rfl rfl (one_of HT_.out (by kernel_rfl)) (by decide) (fun K hK => ?_)
  refine goes_ Try.func98 (by kernel_rfl) rfl #[.slice A4 m.f3.length c4] (by rfl) rfl rfl (by (try simp only [List.map_toArray, List.map_cons, List.map_nil]); first | done | rfl) ?_
  refine (join_ok A4 c4 m.f3 t4 _ (Kd.C_below HC.out (below_then HB1.out HB1.out.size hHeld.2.2.2.2.2)) Hc.out HTAG.out).mono ?_
  rintro e w6 ⟨A20, c20, rfl, hG⟩
  refine ⟨_, rfl, ?_⟩
  have HG20 := Aside0.mk hG
  refine hK.out _ _ (hHeld.step hG.keep) (fun hHeld => ?_)
  clear hK K hG
  refine norm_ (a' := ?_) ?_ ?_
  rotate_left
  · show Act.put _ (some 20) _ = _
    simp only [Act.put, List.setIfInBounds_toArray, List.set_cons_zero, List.set_cons_succ, i64_w, i32_w]
    rfl
  refine one_ (i := 15) (N := some 21) #[true, true, true, true, true, true, true, true, true, true, true, true, true, true, true, true, false, false] rfl rfl (one_of HT_.out (by kernel_rfl)) (by decide) (fun K hK => ?_)
  go_simp
  refine hK.out _ _ (hHeld.step (below_alloc (Below.refl _ _) _)) (fun hHeld => ?_)
  clear hK K
  have HR := Aside0.mk (rows_of_block (vs := [(A15, n3.length, c15), (A3, m.f2.length, c3), (A20, t4.length, c20)]) (zs := [n3, m.f2, t4]) (blk_new w6 (.cells #[.slice A15 n3.length c15, .slice A3 m.f2.length c3, .slice A20 t4.length c20] 22)) (bys_cons HG15.out.cap (Kd.C_alloc (Kd.C_below HG15.out.row HG20.out.keep) _) (bys_cons Hc3.out (Kd.C_below HC3.out (below_then HB1.out HB1.out.size hHeld.2.2.2.2.2)) (bys_cons HG20.out.cap (Kd.C_alloc HG20.out.row _) (bys_nil _)))) (by simp))
  obtain ⟨g6, hg6⟩ : ∃ g6, g6 = w6.heap.size := ⟨_, rfl⟩
  rw [← hg6] at HR ⊢
  clear hg6 HG15 HG20
  generalize w6.alloc (.cells #[.slice A15 n3.length c15, .slice A3 m.f2.length c3, .slice A20 t4.length c20] 22) = w7 at hHeld HR ⊢
  refine one_ (i := 16) (N := some 22) #[true, true, true, true, true, true, true, true, true, true, true, true, true, true, true, true, true, false] rfl rfl (one_of HT_.out (by kernel_rfl)) (by decide) (fun K hK => ?_)
  refine goes_ Try.func98 (by kernel_rfl) rfl #[.slice (some ⟨g6, 0, none⟩) 3 3] (by rfl) rfl rfl (by (try simp only [List.map_toArray, List.map_cons, List.map_nil]); first | done | rfl) ?_
  refine (join_ok (some _) 3 [n3, m.f2, t4] z _ HR.out (by simp) HJ.out).mono ?_
  rintro e w8 ⟨A22, c22, rfl, hG⟩
  refine ⟨_, rfl, ?_⟩
  have HG22 := Aside0.mk hG
  have HB7 := Aside0.mk (below_then HB1.out HB1.out.size hHeld.2.2.2.2.2)
  refine hK.out _ _ (hHeld.step hG.keep) (fun hHeld => ?_)
  clear hK K hG HR
  refine norm_ (a' := ?_) ?_ ?_
  rotate_left
  · show Act.put _ (some 22) _ = _
    simp only [Act.put, List.setIfInBounds_toArray, List.set_cons_zero, List.set_cons_succ, i64_w, i32_w]
    rfl
  refine pure_ (i := 17) (N := some 2) (v := ?_) (a' := ?_) #[true, true, true, true, true, true, true, true, true, true, true, true, true, true, true, true, true, true] rfl rfl (any_of HT_.out (by kernel_rfl)) (fun _ _ _ h => h) (Or.inl ⟨by rfl, ?_⟩) ?_ ?_
  rotate_left
  · intro w'
    go_simp
    with_reducible rfl
  rotate_left
  · simp only [Act.put, List.setIfInBounds_toArray, List.set_cons_zero, List.set_cons_succ, i64_w, i32_w]
    rfl
  refine done_ (done_of HT_.out (by kernel_rfl)) ?_
  go_wp2_with (fail)
  go_ret
  exact ⟨_, _, rfl, HG22.out.lift HB7.out⟩
def pkE_T2 : Bool × List (List Nat × List Nat) := (true, [([], []), ([0], [0]), ([1], [1]), ([], []), ([3], [3]), ([], []), ([5], [5]), ([2, 4, 6], [2, 4, 6]), ([7], [7]), ([], []), ([9], [9]), ([8, 10], [8, 10]), ([11, 8], [11]), ([12, 12, 0, 1, 2, 3, 4, 5, 6, 7, 8, 9, 10, 11, 12], [12])])
def pkE_B2 : List Nat := [0, 1, 3, 0, 8, 0, 32, 127, 255, 0, 512, 2047, 4095, 8191]
theorem pkE_tab2 : rtab .any (opsOf Try.f118 2) = pkE_T2 := by kernel_rfl
theorem pkE_bits2 : waitsOk pkE_T2.2 pkE_B2 = true := by kernel_rfl

/-- An entry in its box, and what was there is as it was. -/
def Held4 (b : Nat) (v0 v1 v2 v3 : Value) (w0 w' : World) : Prop := w'.cell? ⟨b, 0, none⟩ = some v0 ∧ w'.cell? ⟨b, 1, none⟩ = some v1 ∧ w'.cell? ⟨b, 2, none⟩ = some v2 ∧ w'.cell? ⟨b, 3, none⟩ = some v3 ∧ Below w0.heap.size w0 w'
theorem Held4.step {b : Nat} {v0 v1 v2 v3 : Value} {w0 w1 w2 : World} (h : Held4 b v0 v1 v2 v3 w0 w1) (hB : Below w1.heap.size w1 w2) : Held4 b v0 v1 v2 v3 w0 w2 :=
  ⟨cell_step h.1 hB, cell_step h.2.1 hB, cell_step h.2.2.1 hB, cell_step h.2.2.2.1 hB, below_step h.2.2.2.2 hB⟩

set_option maxHeartbeats 4000000 in
set_option maxRecDepth 100000 in
theorem packEntry_bad (x : S87) (A3 : Option Addr) (c3 : Nat) (w : World) (hg : goodEntry x = false) :
    Calls Try.prog 118 #[.agg #[.int .i64 x.f0, .int .i64 x.f1, .int .i64 x.f2, .slice A3 x.f3.length c3]] w fun e w' => e = .panicked (fault 81) ∧ Below w.heap.size w w' := by
  have hu87 := Try.underlying87
  have HG := Aside0.mk hg
  clear hg
  have HB0 := Aside0.mk (below_alloc (Below.refl w.heap.size w) (.cells #[.int .i64 x.f0, .int .i64 x.f1, .int .i64 x.f2, .slice A3 x.f3.length c3] 87))
  go_enter Try.func118, Try.ntmps118
  go_wp2_with (first
    | (go_at_call 131; with_reducible refine (rightEntry_calls x A3 c3 _).mono ?_; rintro e w1 ⟨rfl, hB⟩; have HB1 := Aside0.mk (HB0.out.trans (hB.mono (by simp))); clear hB; rw [HG.out])
    | (go_at_call 94; refine (need_bad 81 _).mono ?_; rintro e w2 ⟨rfl, rfl⟩))
  exact ⟨rfl, rfl, HB1.out⟩

set_option maxHeartbeats 4000000 in
set_option maxRecDepth 100000 in
theorem packEntry_ok (x : S87) (A3 : Option Addr) (c3 : Nat) (w : World) (hC3 : Kd.C (Kd.int .u8) w A3 x.f3.length x.f3) (hc3 : x.f3.length ≤ c3) (hg : goodEntry x = true) :
    Calls Try.prog 118 #[.agg #[.int .i64 x.f0, .int .i64 x.f1, .int .i64 x.f2, .slice A3 x.f3.length c3]] w fun e w' => ∃ A1 c1, e = .returned (.slice A1 (entryZ x).length c1) ∧ Got (Kd.int .u8) 5 w w' A1 c1 (entryZ x) := by
  have hu87 := Try.underlying87
  have HC3 := Aside0.mk hC3
  have Hc3 := Aside0.mk hc3
  have hgood := good87 hg
  obtain ⟨n3, h3⟩ : ∃ n3, n3 = encI [x.f0 + 1, x.f1, x.f2] := ⟨_, rfl⟩
  obtain ⟨z, hz⟩ : ∃ z, z = entryZ x := ⟨_, rfl⟩
  have HNUM := Aside0.mk (show numsP [x.f0 + 1, x.f1, x.f2] = (n3, 0) by rw [h3]; exact entry_nums hgood)
  have HJ := Aside0.mk (show joinP [n3, x.f3] = (z, 0) by rw [h3, hz]; exact entry_join hgood)
  obtain ⟨hx0, hx7⟩ := hgood.c
  rw [← hz]
  clear h3 hz hgood
  have HG := Aside0.mk hg
  clear hC3 hc3 hg
  have HB0 := Aside0.mk (below_alloc (Below.refl w.heap.size w) (.cells #[.int .i64 x.f0, .int .i64 x.f1, .int .i64 x.f2, .slice A3 x.f3.length c3] 87))
  go_enter Try.func118, Try.ntmps118
  go_upto_region 2 with (first
    | (go_at_call 131; with_reducible refine (rightEntry_calls x A3 c3 _).mono ?_; rintro e w1 ⟨rfl, hB⟩; have HB1 := Aside0.mk (HB0.out.trans (hB.mono (by simp))); have HK := Aside0.mk ((hB.block w.heap.size (by simp)).trans (blk_new w _)); clear hB; rw [HG.out])
    | (go_at_call 94; refine (need_ok 81 _).mono ?_; rintro e w2 ⟨rfl, rfl⟩))
  refine start_ (n := 14) (S := Held4 w.heap.size (.int .i64 x.f0) (.int .i64 x.f1) (.int .i64 x.f2) (.slice A3 x.f3.length c3) w2) (ds := []) #[false, false, false, false, false, false, false, false, false, false, false, false, false, false] (by kernel_rfl) rfl rfl
    ⟨(blk_cell HK.out 0).trans rfl, (blk_cell HK.out 1).trans rfl, (blk_cell HK.out 2).trans rfl, (blk_cell HK.out 3).trans rfl, below_drew1 (Below.refl _ _)⟩ (fun hHeld => ?_)
  generalize w2.drew = w3 at hHeld ⊢
  refine with_tabW pkE_tab2 pkE_bits2 (fun HT_ HW_ => ?_)
  refine pure_ (i := 0) (N := some 6) (v := ?_) (a' := ?_) #[true, false, false, false, false, false, false, false, false, false, false, false, false, false] rfl rfl (any_of HT_.out (by kernel_rfl)) (fun _ _ _ h => h) (Or.inl ⟨by rfl, ?_⟩) ?_ ?_
  rotate_left
  · intro w'
    go_simp
    with_reducible rfl
  rotate_left
  · simp only [Act.put, List.setIfInBounds_toArray, List.set_cons_zero, List.set_cons_succ, i64_w, i32_w]
    rfl
  refine take_ (i := 1) (N := some 7) (v := ?_) (a' := ?_) #[true, true, false, false, false, false, false, false, false, false, false, false, false, false] rfl rfl (take_ofW HT_.out HW_.out (by kernel_rfl)) (fun _ _ _ h => h) (Or.inl ⟨by rfl, ?_⟩) hHeld ?_ ?_
  rotate_left
  · rintro w' ⟨s0, s1, s2, s3, s4⟩
    go_simp
    with_reducible rfl
  rotate_left
  · simp only [Act.put, List.setIfInBounds_toArray, List.set_cons_zero, List.set_cons_succ, i64_w, i32_w]
    rfl
  refine pure_ (i := 2) (N := some 8) (v := ?_) (a' := ?_) #[true, true, true, false, false, false, false, false, false, false, false, false, false, false] rfl rfl (any_of HT_.out (by kernel_rfl)) (fun _ _ _ h => h) (Or.inl ⟨by rfl, ?_⟩) ?_ ?_
  rotate_left
  · intro w'
    go_simp
    with_reducible rfl
  rotate_left
  · simp only [Act.put, List.setIfInBounds_toArray, List.set_cons_zero, List.set_cons_succ, i64_w, i32_w]
    rfl
  refine pure_ (i := 3) (N := some 9) (v := ?_) (a' := ?_) #[true, true, true, true, false, false, false, false, false, false, false, false, false, false] rfl rfl (any_of HT_.out (by kernel_rfl)) (fun _ _ _ h => h) (Or.inl ⟨by rfl, ?_⟩) ?_ ?_
  rotate_left
  · intro w'
    go_simp
    with_reducible rfl
  rotate_left
  · simp only [Act.put, List.setIfInBounds_toArray, List.set_cons_zero, List.set_cons_succ, i64_w, i32_w]
    rfl
  refine take_ (i := 4) (N := some 10) (v := ?_) (a' := ?_) #[true, true, true, true, true, false, false, false, false, false, false, false, false, false] rfl rfl (take_ofW HT_.out HW_.out (by kernel_rfl)) (fun _ _ _ h => h) (Or.inl ⟨by rfl, ?_⟩) hHeld ?_ ?_
  rotate_left
  · rintro w' ⟨s0, s1, s2, s3, s4⟩
    go_simp
    with_reducible rfl
  rotate_left
  · simp only [Act.put, List.setIfInBounds_toArray, List.set_cons_zero, List.set_cons_succ, i64_w, i32_w]
    rfl
  refine pure_ (i := 5) (N := some 11) (v := ?_) (a' := ?_) #[true, true, true, true, true, true, false, false, false, false, false, false, false, false] rfl rfl (any_of HT_.out (by kernel_rfl)) (fun _ _ _ h => h) (Or.inl ⟨by rfl, ?_⟩) ?_ ?_
  rotate_left
  · intro w'
    go_simp
    with_reducible rfl
  rotate_left
  · simp only [Act.put, List.setIfInBounds_toArray, List.set_cons_zero, List.set_cons_succ, i64_w, i32_w]
    rfl
  refine take_ (i := 6) (N := some 12) (v := ?_) (a' := ?_) #[true, true, true, true, true, true, true, false, false, false, false, false, false, false] rfl rfl (take_ofW HT_.out HW_.out (by kernel_rfl)) (fun _ _ _ h => h) (Or.inl ⟨by rfl, ?_⟩) hHeld ?_ ?_
  rotate_left
  · rintro w' ⟨s0, s1, s2, s3, s4⟩
    go_simp
    with_reducible rfl
  rotate_left
  · simp only [Act.put, List.setIfInBounds_toArray, List.set_cons_zero, List.set_cons_succ, i64_w, i32_w]
    rfl
  refine pure_ (i := 9) (N := some 15) (v := ?_) (a' := ?_) #[true, true, true, true, true, true, true, false, false, true, false, false, false, false] rfl rfl (any_of HT_.out (by kernel_rfl)) (fun _ _ _ h => h) (Or.inl ⟨by rfl, ?_⟩) ?_ ?_
  rotate_left
  · intro w'
    go_simp
    with_reducible rfl
  rotate_left
  · simp only [Act.put, List.setIfInBounds_toArray, List.set_cons_zero, List.set_cons_succ, i64_w, i32_w]
    rfl
  refine take_ (i := 10) (N := some 16) (v := ?_) (a' := ?_) #[true, true, true, true, true, true, true, false, false, true, true, false, false, false] rfl rfl (take_ofW HT_.out HW_.out (by kernel_rfl)) (fun _ _ _ h => h) (Or.inl ⟨by rfl, ?_⟩) hHeld ?_ ?_
  rotate_left
  · rintro w' ⟨s0, s1, s2, s3, s4⟩
    go_simp
    with_reducible rfl
  rotate_left
  · simp only [Act.put, List.setIfInBounds_toArray, List.set_cons_zero, List.set_cons_succ, i64_w, i32_w]
    rfl
  refine one_ (i := 7) (N := some 13) #[true, true, true, true, true, true, true, true, false, true, true, false, false, false] rfl rfl (one_of HT_.out (by kernel_rfl)) (by decide) (fun K hK => ?_)
  go_simp
  rw [show wrap64 (x.f0 + 1) = x.f0 + 1 by unfold wrap64; omega]
  refine hK.out _ _ (hHeld.step (below_alloc (Below.refl _ _) _)) (fun hHeld => ?_)
  clear hK K
  have HN1 := Aside0.mk (C_ints_block (l := [x.f0 + 1, x.f1, x.f2]) (t := 3) (fr := (0, 0)) (blk_new w3 (.cells #[.int .i64 (x.f0 + 1), .int .i64 x.f1, .int .i64 x.f2] 3)) (by simp))
  obtain ⟨g3, hg3⟩ : ∃ g3, g3 = w3.heap.size := ⟨_, rfl⟩
  rw [← hg3] at HN1 ⊢
  clear hg3
  generalize w3.alloc (.cells #[.int .i64 (x.f0 + 1), .int .i64 x.f1, .int .i64 x.f2] 3) = w4 at hHeld HN1 ⊢
  refine one_ (i := 8) (N := some 14) #[true, true, true, true, true, true, true, true, true, true, true, false, false, false] rfl rfl (one_of HT_.out (by kernel_rfl)) (by decide) (fun K hK => ?_)
  refine goes_ Try.func96 (by kernel_rfl) rfl #[.slice (some ⟨g3, 0, none⟩) 3 3] (by rfl) rfl rfl (by (try simp only [List.map_toArray, List.map_cons, List.map_nil]); first | done | rfl) ?_
  refine (nums_ok (some _) 3 [x.f0 + 1, x.f1, x.f2] n3 _ HN1.out (by simp) (by simp) HNUM.out).mono ?_
  rintro e w5 ⟨A15, c15, rfl, hG⟩
  refine ⟨_, rfl, ?_⟩
  have HG15 := Aside0.mk hG
  refine hK.out _ _ (hHeld.step hG.keep) (fun hHeld => ?_)
  clear hK K hG HN1
  refine norm_ (a' := ?_) ?_ ?_
  rotate_left
  · show Act.put _ (some 14) _ = _
    simp only [Act.put, List.setIfInBounds_toArray, List.set_cons_zero, List.set_cons_succ, i64_w, i32_w]
    rfl
  refine one_ (i := 11) (N := some 17) #[true, true, true, true, true, true, true, true, true, true, true, true, false, false] rfl rfl (one_of HT_.out (by kernel_rfl)) (by decide) (fun K hK => ?_)
  go_simp
  refine hK.out _ _ (hHeld.step (below_alloc (Below.refl _ _) _)) (fun hHeld => ?_)
  clear hK K
  have HR := Aside0.mk (rows_of_block (vs := [(A15, n3.length, c15), (A3, x.f3.length, c3)]) (zs := [n3, x.f3]) (blk_new w5 (.cells #[.slice A15 n3.length c15, .slice A3 x.f3.length c3] 22)) (bys_cons HG15.out.cap (Kd.C_alloc HG15.out.row _) (bys_cons Hc3.out (Kd.C_below HC3.out (below_then HB1.out HB1.out.size hHeld.2.2.2.2)) (bys_nil _))) (by simp))
  obtain ⟨g6, hg6⟩ : ∃ g6, g6 = w5.heap.size := ⟨_, rfl⟩
  rw [← hg6] at HR ⊢
  clear hg6 HG15
  generalize w5.alloc (.cells #[.slice A15 n3.length c15, .slice A3 x.f3.length c3] 22) = w7 at hHeld HR ⊢
  refine one_ (i := 12) (N := some 18) #[true, true, true, true, true, true, true, true, true, true, true, true, true, false] rfl rfl (one_of HT_.out (by kernel_rfl)) (by decide) (fun K hK => ?_)
  refine goes_ Try.func98 (by kernel_rfl) rfl #[.slice (some ⟨g6, 0, none⟩) 2 2] (by rfl) rfl rfl (by (try simp only [List.map_toArray, List.map_cons, List.map_nil]); first | done | rfl) ?_
  refine (join_ok (some _) 2 [n3, x.f3] z _ HR.out (by simp) HJ.out).mono ?_
  rintro e w8 ⟨A22, c22, rfl, hG⟩
  refine ⟨_, rfl, ?_⟩
  have HG22 := Aside0.mk hG
  have HB7 := Aside0.mk (below_then HB1.out HB1.out.size hHeld.2.2.2.2)
  refine hK.out _ _ (hHeld.step hG.keep) (fun hHeld => ?_)
  clear hK K hG HR
  refine norm_ (a' := ?_) ?_ ?_
  rotate_left
  · show Act.put _ (some 18) _ = _
    simp only [Act.put, List.setIfInBounds_toArray, List.set_cons_zero, List.set_cons_succ, i64_w, i32_w]
    rfl
  refine pure_ (i := 13) (N := some 2) (v := ?_) (a' := ?_) #[true, true, true, true, true, true, true, true, true, true, true, true, true, true] rfl rfl (any_of HT_.out (by kernel_rfl)) (fun _ _ _ h => h) (Or.inl ⟨by rfl, ?_⟩) ?_ ?_
  rotate_left
  · intro w'
    go_simp
    with_reducible rfl
  rotate_left
  · simp only [Act.put, List.setIfInBounds_toArray, List.set_cons_zero, List.set_cons_succ, i64_w, i32_w]
    rfl
  refine done_ (done_of HT_.out (by kernel_rfl)) ?_
  go_wp2_with (fail)
  go_ret
  exact ⟨_, _, rfl, HG22.out.lift HB7.out⟩
end Go.Proofs.Ytijccobeljoikaa.Ms

/- msg: a list's letters as bytes. -/
namespace Go.Proofs.Ytijccobeljoikaa.Ms
open Go.RowKit Go.Proofs.YtijccobeljoikaaW.PrintWords Go.Proofs.YtijccobeljoikaaW.PrintLast
open Go.Proofs.Ytijccobeljoikaa.Plain Go.Proofs.Ytijccobeljoikaa.Walks
set_option linter.unusedVariables false
set_option linter.unusedSimpArgs false

set_option maxHeartbeats 4000000 in
set_option maxRecDepth 100000 in
theorem each_letters (A : Option Addr) (c : Nat) (l : List S72) (z : List Int) (x : Int) (w : World) (hC : Kd.C k72 w A l.length l) (hc : l.length ≤ c) (hn : l.length ≤ 64) (hg : ∀ m ∈ l, Good72 m) (hj : joinP (l.map letterZ) = (z, x)) :
    Calls Try.prog 137 #[.slice A l.length c, .func (.func 115) #[] #[]] w fun e w' =>
      if x = 0 then ∃ A1 c1, e = .returned (.slice A1 z.length c1) ∧ Got (Kd.int .u8) 5 w w' A1 c1 z else e = .panicked (fault x) ∧ Below w.heap.size w w' := by
  have HC := Aside0.mk hC
  have HG := Aside0.mk hg
  have HJ := Aside0.mk hj
  have hu72 := Try.underlying72
  clear hC hg hj
  go_enter Try.func137, Try.ntmps137
  go_wp2_with (fail)
  go_loopw [5, 10] (fun u t wr => ∃ (i : Nat) (vs : List (Option Addr × Nat × Nat)), t = .int .i64 (i : Int) ∧ i ≤ l.length ∧ Aside0 (vs.length = i) ∧ Aside0 (Kd.R kv 22 wr w.heap.size (fun k_ => w.heap.size ≤ k_) u vs) ∧ Aside0 (Byts w wr vs ((l.take i).map letterZ)) ∧ Aside0 (Below w.heap.size w wr)) (fun _ t _ => l.length - (intOf t).toNat)
  case atStart => exact ⟨0, [], rfl, Nat.zero_le _, ⟨rfl⟩, ⟨Kd.R_nil _ _ _ _ _⟩, ⟨byts_nil _ _⟩, ⟨Below.refl _ _⟩⟩
  case round =>
    obtain ⟨i, vs, rfl, hi, HV, HR, HY, HB⟩ := hrel
    obtain ⟨Av, cv, ev⟩ := Kd.R_slice HR.out
    subst ev
    by_cases hlt : i < l.length
    · have b0 : decide ((i : Int) < (l.length : Int)) = true := decide_eq_true (by omega)
      have b1 : (0 ≤ (i : Int)) = True := eq_true (by omega)
      have b2 : ((i : Int) < (l.length : Int)) = True := eq_true (by omega)
      obtain ⟨ad, A3, c3, A4, c4, e, hx0, hx1, hx2, hx3, hx4, hl3, hi3, hl4, hi4⟩ := at_T72 (Kd.C_below HC.out HB.out) (i : Int) (by omega) (by omega)
      subst e
      obtain ⟨m, hm⟩ : ∃ m, m = rd_T72 l (i : Int) := ⟨_, rfl⟩
      rw [← hm] at hx0 hx1 hx2 hx3 hx4 hl3 hi3 hl4 hi4
      rw [Int.toNat_natCast] at hx0 hx1 hx2 hx3 hx4
      have hmi : m = l[i] := by rw [hm]; simp [rd_T72, List.getD_eq_getElem?_getD, hlt]
      have Hmi := Aside0.mk hmi
      have HGm := Aside0.mk (HG.out m (by rw [hmi]; exact List.getElem_mem hlt))
      have Hl3 := Aside0.mk hl3
      have Hi3 := Aside0.mk hi3
      have Hl4 := Aside0.mk hl4
      have Hi4 := Aside0.mk hi4
      have hvl : vs.length ≤ 64 := by rw [HV.out]; omega
      clear hm hmi hl3 hi3 hl4 hi4
      go_wp2_with (first
        | (go_at_call 115; refine (packLetter_ok m A3 c3 A4 c4 _ (Kd.C_alloc Hi3.out _) Hl3.out (Kd.C_alloc Hi4.out _) Hl4.out HGm.out).mono ?_; rintro e w1 ⟨A1, c1, rfl, hG⟩; have HG1 := Aside0.mk hG; have HBq := Aside0.mk (below_then (below_alloc HB.out _) (below_size (below_alloc HB.out _)) hG.keep); have hs1 := HBq.out.size; have HR1 := Aside0.mk (Kd.R_below (Kd.R_alloc HR.out _) hG.keep); have HY1 := Aside0.mk ((HY.out.below (below_alloc (Below.refl _ _) _)).below hG.keep); have HT1 := Aside0.mk (hG.byt (w0 := w) (by have := HB.out.size; simp; omega)); clear hG)
        | (at_builtin; refine Kd.R_append kv (w0 := w) w.heap.size rfl (.tmp 14) (.tmp 18) 32 22 (.slice none 0 0) 24 rfl Try.underlying32 Walks.info22 rfl (by decide) (by omega) (.slice Av vs.length cv) vs (A1, (letterZ m).length, c1) [.slice A1 (letterZ m).length c1] (fun k_ => w.heap.size ≤ k_) (fun k_ => w.heap.size ≤ k_ ∧ some k_ ≠ (Value.slice Av vs.length cv).ownBlock) rfl rfl rfl (fun _ h => h) (fun k hk => by omega) HR1.out HBq.out hs1 (by omega) ?_; intro v3 w3 hR3 hB3 hg3 hat3; have HR3 := Aside0.mk hR3; have HB3 := Aside0.mk hB3; have HY3 := Aside0.mk ((HY1.out.snoc HT1.out).grown (Kd.R_typed HR1.out) hg3); clear hR3 hB3 hg3 hat3))
      exact ⟨⟨i + 1, vs ++ [(A1, (letterZ m).length, c1)], by simp, by omega, ⟨by rw [List.length_append, HV.out]; rfl⟩, HR3, ⟨by have := HY3.out; rw [Hmi.out] at this; rw [← List.take_append_getElem hlt, List.map_append]; rw [← Hmi.out] at this ⊢; exact this⟩, HB3⟩, by simp only [intOf]; omega⟩
    · have b0 : decide ((i : Int) < (l.length : Int)) = false := decide_eq_false (by omega)
      have hil : i = l.length := by omega
      subst hil
      have hrow := (Kd.R_reads' HR.out)
      have HRW := Aside0.mk (show Kd.C (Kd.slice 5 (Kd.int .u8)) wr Av (l.map letterZ).length (l.map letterZ) by
        have := rows_of_vals hrow.2.2 (HY.out.bys HB.out)
        rwa [List.take_length] at this)
      have hll : vs.length = (l.map letterZ).length := by rw [HV.out, List.length_map]
      have HCP := Aside0.mk (show (l.map letterZ).length ≤ cv by rw [← hll]; exact hrow.2.1)
      clear hrow
      obtain ⟨rs, hrs⟩ : ∃ rs, rs = l.map letterZ := ⟨_, rfl⟩
      rw [← hrs] at HRW HCP HJ hll
      rw [hll]
      clear hrs hll
      by_cases hx : x = 0
      · subst hx
        go_wp2_with (go_at_call 98; refine (join_ok Av cv rs z _ HRW.out HCP.out HJ.out).mono ?_; rintro e w2 ⟨A1, c1, rfl, hG⟩; have HG1 := Aside0.mk hG; clear hG)
        go_ret
        exact ⟨_, _, rfl, HG1.out.lift HB.out⟩
      · have HX := Aside0.mk hx
        go_wp2_with (go_at_call 98; refine (join_bad Av cv rs z x _ HRW.out HCP.out HJ.out HX.out).mono ?_; rintro e w2 ⟨rfl, hB⟩; have HB1 := Aside0.mk hB; clear hB)
        exact ⟨rfl, rfl, below_then HB.out HB.out.size HB1.out⟩
end Go.Proofs.Ytijccobeljoikaa.Ms

/- msg: what is proven as bytes. -/
namespace Go.Proofs.Ytijccobeljoikaa.Ms
open Go.RowKit Go.Proofs.YtijccobeljoikaaW.PrintWords Go.Proofs.YtijccobeljoikaaW.PrintLast
open Go.Proofs.Ytijccobeljoikaa.Plain Go.Proofs.Ytijccobeljoikaa.Walks
set_option linter.unusedVariables false
set_option linter.unusedSimpArgs false
def pkP_T1 : Bool × List (List Nat × List Nat) := (true, [([], []), ([0], [0]), ([], []), ([2], [2]), ([1, 3], [1, 3]), ([4], [4]), ([], []), ([6], [6]), ([7, 5], [7]), ([], []), ([9], [9]), ([10, 8], [10]), ([5, 8, 11], [5, 8, 11]), ([12, 11], [12]), ([13, 13, 0, 1, 2, 3, 4, 5, 6, 7, 8, 9, 10, 11, 12, 13], [13])])
def pkP_B1 : List Nat := [0, 1, 0, 4, 15, 31, 0, 64, 255, 0, 512, 2047, 4095, 8191, 16383]
theorem pkP_tab1 : rtab .any (opsOf Try.f139 1) = pkP_T1 := by kernel_rfl
theorem pkP_bits1 : waitsOk pkP_T1.2 pkP_B1 = true := by kernel_rfl

structure Good101 (p : S101) : Prop where
  s : 0 ≤ p.f0 ∧ p.f0 < 1099511627776
  v : 0 ≤ p.f1 ∧ p.f1 < 1099511627776
  e : goodEntry p.f2 = true
  n : p.f3.length ≤ 64
  l : ∀ m ∈ p.f3, Good72 m
theorem goodLetters_iff {l : List S72} : goodLetters l = true ↔ l.length ≤ 64 ∧ ∀ m ∈ l, Good72 m := by
  simp only [goodLetters, Bool.and_eq_true, decide_eq_true_eq, Bool.not_eq_true', List.any_eq_false, badLetter, Bool.not_eq_eq_eq_not, Bool.not_true]
  constructor
  · rintro ⟨h1, h2⟩; exact ⟨h1, fun m hm => good72.1 (by simpa using h2 m hm)⟩
  · rintro ⟨h1, h2⟩; exact ⟨h1, fun m hm => by simpa using good72.2 (h2 m hm)⟩
theorem good101 {p : S101} : badProven p = false ↔ Good101 p := by
  simp only [badProven, Bool.or_eq_false_iff, Bool.not_eq_false', List.any_cons, List.any_nil, Bool.or_false, not_narrow, goodLetters_iff]
  constructor
  · rintro ⟨⟨⟨h1, h2⟩, h3⟩, h4, h5⟩; exact ⟨h1, h2, h3, h4, h5⟩
  · intro h; exact ⟨⟨⟨h.s, h.v⟩, h.e⟩, h.n, h.l⟩
/-- What is proven as bytes, or the error. -/
def provenP (p : S101) : List Int × Int := if (joinP (p.f3.map letterZ)).2 = 0 then joinP [encI [p.f0, p.f1], entryZ p.f2, (joinP (p.f3.map letterZ)).1] else ([], (joinP (p.f3.map letterZ)).2)
theorem proven_wide {p : S101} (h : Good101 p) : ∀ v ∈ [p.f0, p.f1], 0 ≤ v ∧ v < 4611686018427387904 := by
  have h1 := h.s; have h2 := h.v
  intro v hv
  simp only [List.mem_cons, List.not_mem_nil, or_false] at hv
  rcases hv with rfl | rfl <;> omega
theorem proven_nums {p : S101} (h : Good101 p) : numsP [p.f0, p.f1] = (encI [p.f0, p.f1], 0) := by
  rw [numsP, numsGo_ok (proven_wide h)]; rfl

/-- What is proven in its box, and what was there is as it was. -/
def Held7 (b : Nat) (v0 v1 v2 v3 v4 v5 v6 : Value) (w0 w' : World) : Prop := w'.cell? ⟨b, 0, none⟩ = some v0 ∧ w'.cell? ⟨b, 1, none⟩ = some v1 ∧ w'.cell? ⟨b, 2, none⟩ = some v2 ∧ w'.cell? ⟨b, 3, none⟩ = some v3 ∧ w'.cell? ⟨b, 4, none⟩ = some v4 ∧ w'.cell? ⟨b, 5, none⟩ = some v5 ∧ w'.cell? ⟨b, 6, none⟩ = some v6 ∧ Below w0.heap.size w0 w'
theorem Held7.step {b : Nat} {v0 v1 v2 v3 v4 v5 v6 : Value} {w0 w1 w2 : World} (h : Held7 b v0 v1 v2 v3 v4 v5 v6 w0 w1) (hB : Below w1.heap.size w1 w2) : Held7 b v0 v1 v2 v3 v4 v5 v6 w0 w2 :=
  ⟨cell_step h.1 hB, cell_step h.2.1 hB, cell_step h.2.2.1 hB, cell_step h.2.2.2.1 hB, cell_step h.2.2.2.2.1 hB, cell_step h.2.2.2.2.2.1 hB, cell_step h.2.2.2.2.2.2.1 hB, below_step h.2.2.2.2.2.2.2 hB⟩

set_option maxHeartbeats 8000000 in
set_option maxRecDepth 100000 in
theorem packProven_calls (p : S101) (A5 : Option Addr) (c5 : Nat) (A6 : Option Addr) (c6 : Nat) (z : List Int) (x : Int) (w : World) (hC5 : Kd.C (Kd.int .u8) w A5 p.f2.f3.length p.f2.f3) (hc5 : p.f2.f3.length ≤ c5) (hC6 : Kd.C k72 w A6 p.f3.length p.f3) (hc6 : p.f3.length ≤ c6) (hg : Good101 p) (hj : provenP p = (z, x)) :
    Calls Try.prog 139 #[.agg #[.int .i64 p.f0, .int .i64 p.f1, .int .i64 p.f2.f0, .int .i64 p.f2.f1, .int .i64 p.f2.f2, .slice A5 p.f2.f3.length c5, .slice A6 p.f3.length c6]] w fun e w' =>
      if x = 0 then ∃ A1 c1, e = .returned (.slice A1 z.length c1) ∧ Got (Kd.int .u8) 5 w w' A1 c1 z else e = .panicked (fault x) ∧ Below w.heap.size w w' := by
  have hu101 := Try.underlying101
  have hu87 := Try.underlying87
  have HC5 := Aside0.mk hC5
  have Hc5 := Aside0.mk hc5
  have HC6 := Aside0.mk hC6
  have Hc6 := Aside0.mk hc6
  have HGE := Aside0.mk hg.e
  have HGN := Aside0.mk hg.n
  have HGL := Aside0.mk hg.l
  obtain ⟨n3, h3⟩ : ∃ n3, n3 = encI [p.f0, p.f1] := ⟨_, rfl⟩
  obtain ⟨z5, h5⟩ : ∃ z5, z5 = entryZ p.f2 := ⟨_, rfl⟩
  have HZE := Aside0.mk h5
  have HNUM := Aside0.mk (show numsP [p.f0, p.f1] = (n3, 0) by rw [h3]; exact proven_nums hg)
  rw [provenP, ← h3, ← h5] at hj
  obtain ⟨t4, x4, hv⟩ : ∃ t4 x4, joinP (p.f3.map letterZ) = (t4, x4) := ⟨_, _, rfl⟩
  rw [hv] at hj
  simp only at hj
  have HB0 := Aside0.mk (below_alloc (Below.refl w.heap.size w) (.cells #[.int .i64 p.f0, .int .i64 p.f1, .int .i64 p.f2.f0, .int .i64 p.f2.f1, .int .i64 p.f2.f2, .slice A5 p.f2.f3.length c5, .slice A6 p.f3.length c6] 101))
  have HK := Aside0.mk (blk_new w (.cells #[.int .i64 p.f0, .int .i64 p.f1, .int .i64 p.f2.f0, .int .i64 p.f2.f1, .int .i64 p.f2.f2, .slice A5 p.f2.f3.length c5, .slice A6 p.f3.length c6] 101))
  clear hC5 hc5 hC6 hc6 hg h3 h5
  go_enter Try.func139, Try.ntmps139
  go_upto_region 1 with (fail)
  generalize w.alloc (.cells #[.int .i64 p.f0, .int .i64 p.f1, .int .i64 p.f2.f0, .int .i64 p.f2.f1, .int .i64 p.f2.f2, .slice A5 p.f2.f3.length c5, .slice A6 p.f3.length c6] 101) = w2 at HB0 HK ⊢
  refine start_ (n := 15) (S := Held7 w.heap.size (.int .i64 p.f0) (.int .i64 p.f1) (.int .i64 p.f2.f0) (.int .i64 p.f2.f1) (.int .i64 p.f2.f2) (.slice A5 p.f2.f3.length c5) (.slice A6 p.f3.length c6) w2) (ds := []) #[false, false, false, false, false, false, false, false, false, false, false, false, false, false, false] (by kernel_rfl) rfl rfl
    ⟨(blk_cell HK.out 0).trans rfl, (blk_cell HK.out 1).trans rfl, (blk_cell HK.out 2).trans rfl, (blk_cell HK.out 3).trans rfl, (blk_cell HK.out 4).trans rfl, (blk_cell HK.out 5).trans rfl, (blk_cell HK.out 6).trans rfl, below_drew1 (Below.refl _ _)⟩ (fun hHeld => ?_)
  generalize w2.drew = w3 at hHeld ⊢
  by_cases hx4 : x4 = 0
  · subst hx4
    have HV := Aside0.mk hv
    rw [if_pos rfl] at hj
    have HJ := Aside0.mk hj
    clear hv hj
    by_cases hx : x = 0
    · subst hx
      refine with_tabW pkP_tab1 pkP_bits1 (fun HT_ HW_ => ?_)
      refine pure_ (i := 0) (N := some 3) (v := ?_) (a' := ?_) #[true, false, false, false, false, false, false, false, false, false, false, false, false, false, false] rfl rfl (any_of HT_.out (by kernel_rfl)) (fun _ _ _ h => h) (Or.inl ⟨by rfl, ?_⟩) ?_ ?_
      rotate_left
      · intro w'
        go_simp
        with_reducible rfl
      rotate_left
      · simp only [Act.put, List.setIfInBounds_toArray, List.set_cons_zero, List.set_cons_succ, i64_w, i32_w]
        rfl
      refine take_ (i := 1) (N := some 4) (v := ?_) (a' := ?_) #[true, true, false, false, false, false, false, false, false, false, false, false, false, false, false] rfl rfl (take_ofW HT_.out HW_.out (by kernel_rfl)) (fun _ _ _ h => h) (Or.inl ⟨by rfl, ?_⟩) hHeld ?_ ?_
      rotate_left
      · rintro w' ⟨s0, s1, s2, s3, s4, s5, s6, s7⟩
        go_simp
        with_reducible rfl
      rotate_left
      · simp only [Act.put, List.setIfInBounds_toArray, List.set_cons_zero, List.set_cons_succ, i64_w, i32_w]
        rfl
      refine pure_ (i := 2) (N := some 5) (v := ?_) (a' := ?_) #[true, true, true, false, false, false, false, false, false, false, false, false, false, false, false] rfl rfl (any_of HT_.out (by kernel_rfl)) (fun _ _ _ h => h) (Or.inl ⟨by rfl, ?_⟩) ?_ ?_
      rotate_left
      · intro w'
        go_simp
        with_reducible rfl
      rotate_left
      · simp only [Act.put, List.setIfInBounds_toArray, List.set_cons_zero, List.set_cons_succ, i64_w, i32_w]
        rfl
      refine take_ (i := 3) (N := some 6) (v := ?_) (a' := ?_) #[true, true, true, true, false, false, false, false, false, false, false, false, false, false, false] rfl rfl (take_ofW HT_.out HW_.out (by kernel_rfl)) (fun _ _ _ h => h) (Or.inl ⟨by rfl, ?_⟩) hHeld ?_ ?_
      rotate_left
      · rintro w' ⟨s0, s1, s2, s3, s4, s5, s6, s7⟩
        go_simp
        with_reducible rfl
      rotate_left
      · simp only [Act.put, List.setIfInBounds_toArray, List.set_cons_zero, List.set_cons_succ, i64_w, i32_w]
        rfl
      refine pure_ (i := 6) (N := some 9) (v := ?_) (a' := ?_) #[true, true, true, true, false, false, true, false, false, false, false, false, false, false, false] rfl rfl (any_of HT_.out (by kernel_rfl)) (fun _ _ _ h => h) (Or.inl ⟨by rfl, ?_⟩) ?_ ?_
      rotate_left
      · intro w'
        go_simp
        with_reducible rfl
      rotate_left
      · simp only [Act.put, List.setIfInBounds_toArray, List.set_cons_zero, List.set_cons_succ, i64_w, i32_w]
        rfl
      refine take_ (i := 7) (N := some 10) (v := ?_) (a' := ?_) #[true, true, true, true, false, false, true, true, false, false, false, false, false, false, false] rfl rfl (take_ofW HT_.out HW_.out (by kernel_rfl)) (fun _ _ _ h => h) (Or.inl ⟨by rfl, ?_⟩) hHeld ?_ ?_
      rotate_left
      · rintro w' ⟨s0, s1, s2, s3, s4, s5, s6, s7⟩
        go_simp
        with_reducible rfl
      rotate_left
      · simp only [Act.put, List.setIfInBounds_toArray, List.set_cons_zero, List.set_cons_succ, i64_w, i32_w]
        rfl
      refine pure_ (i := 9) (N := some 12) (v := ?_) (a' := ?_) #[true, true, true, true, false, false, true, true, false, true, false, false, false, false, false] rfl rfl (any_of HT_.out (by kernel_rfl)) (fun _ _ _ h => h) (Or.inl ⟨by rfl, ?_⟩) ?_ ?_
      rotate_left
      · intro w'
        go_simp
        with_reducible rfl
      rotate_left
      · simp only [Act.put, List.setIfInBounds_toArray, List.set_cons_zero, List.set_cons_succ, i64_w, i32_w]
        rfl
      refine take_ (i := 10) (N := some 13) (v := ?_) (a' := ?_) #[true, true, true, true, false, false, true, true, false, true, true, false, false, false, false] rfl rfl (take_ofW HT_.out HW_.out (by kernel_rfl)) (fun _ _ _ h => h) (Or.inl ⟨by rfl, ?_⟩) hHeld ?_ ?_
      rotate_left
      · rintro w' ⟨s0, s1, s2, s3, s4, s5, s6, s7⟩
        go_simp
        with_reducible rfl
      rotate_left
      · simp only [Act.put, List.setIfInBounds_toArray, List.set_cons_zero, List.set_cons_succ, i64_w, i32_w]
        rfl
      refine one_ (i := 4) (N := some 7) #[true, true, true, true, true, false, true, true, false, true, true, false, false, false, false] rfl rfl (one_of HT_.out (by kernel_rfl)) (by decide) (fun K hK => ?_)
      go_simp
      refine hK.out _ _ (hHeld.step (below_alloc (Below.refl _ _) _)) (fun hHeld => ?_)
      clear hK K
      have HN1 := Aside0.mk (C_ints_block (l := [p.f0, p.f1]) (t := 3) (fr := (0, 0)) (blk_new w3 (.cells #[.int .i64 p.f0, .int .i64 p.f1] 3)) (by simp))
      obtain ⟨g3, hg3⟩ : ∃ g3, g3 = w3.heap.size := ⟨_, rfl⟩
      rw [← hg3] at HN1 ⊢
      clear hg3
      generalize w3.alloc (.cells #[.int .i64 p.f0, .int .i64 p.f1] 3) = w4 at hHeld HN1 ⊢
      refine one_ (i := 5) (N := some 8) #[true, true, true, true, true, true, true, true, false, true, true, false, false, false, false] rfl rfl (one_of HT_.out (by kernel_rfl)) (by decide) (fun K hK => ?_)
      refine goes_ Try.func96 (by kernel_rfl) rfl #[.slice (some ⟨g3, 0, none⟩) 2 2] (by rfl) rfl rfl (by (try simp only [List.map_toArray, List.map_cons, List.map_nil]); first | done | rfl) ?_
      refine (nums_ok (some _) 2 [p.f0, p.f1] n3 _ HN1.out (by simp) (by simp) HNUM.out).mono ?_
      rintro e w5 ⟨A15, c15, rfl, hG⟩
      refine ⟨_, rfl, ?_⟩
      have HG15 := Aside0.mk hG
      refine hK.out _ _ (hHeld.step hG.keep) (fun hHeld => ?_)
      clear hK K hG HN1
      refine norm_ (a' := ?_) ?_ ?_
      rotate_left
      · show Act.put _ (some 8) _ = _
        simp only [Act.put, List.setIfInBounds_toArray, List.set_cons_zero, List.set_cons_succ, i64_w, i32_w]
        rfl
      refine one_ (i := 8) (N := some 11) #[true, true, true, true, true, true, true, true, true, true, true, false, false, false, false] rfl rfl (one_of HT_.out (by kernel_rfl)) (by decide) (fun K hK => ?_)
      refine goes_ Try.func118 (by kernel_rfl) rfl #[.agg #[.int .i64 p.f2.f0, .int .i64 p.f2.f1, .int .i64 p.f2.f2, .slice A5 p.f2.f3.length c5]] (by rfl) rfl rfl (by (try simp only [List.map_toArray, List.map_cons, List.map_nil]); first | done | rfl) ?_
      refine (packEntry_ok p.f2 A5 c5 _ (Kd.C_below HC5.out (below_then HB0.out HB0.out.size hHeld.2.2.2.2.2.2.2)) Hc5.out HGE.out).mono ?_
      rintro e w6 ⟨A18, c18, rfl, hG⟩
      refine ⟨_, rfl, ?_⟩
      have HG18 := Aside0.mk hG
      have HY15 := Aside0.mk (Kd.C_below HG15.out.row hG.keep)
      rw [← HZE.out] at HG18 ⊢
      refine hK.out _ _ (hHeld.step hG.keep) (fun hHeld => ?_)
      clear hK K hG
      refine norm_ (a' := ?_) ?_ ?_
      rotate_left
      · show Act.put _ (some 11) _ = _
        simp only [Act.put, List.setIfInBounds_toArray, List.set_cons_zero, List.set_cons_succ, i64_w, i32_w]
        rfl
      refine one_ (i := 11) (N := some 14) #[true, true, true, true, true, true, true, true, true, true, true, true, false, false, false] rfl rfl (one_of HT_.out (by kernel_rfl)) (by decide) (fun K hK => ?_)
      refine goes_ Try.func137 (by kernel_rfl) rfl #[.slice A6 p.f3.length c6, .func (.func 115) #[] #[]] (by rfl) rfl rfl (by (try simp only [List.map_toArray, List.map_cons, List.map_nil]); first | done | rfl) ?_
      refine (each_letters A6 c6 p.f3 t4 0 _ (Kd.C_below HC6.out (below_then HB0.out HB0.out.size hHeld.2.2.2.2.2.2.2)) Hc6.out HGN.out HGL.out HV.out).mono ?_
      intro e w7 hh
      rw [if_pos rfl] at hh
      obtain ⟨A20, c20, rfl, hG⟩ := hh
      refine ⟨_, rfl, ?_⟩
      have HG20 := Aside0.mk hG
      have HX15 := Aside0.mk (Kd.C_below HY15.out hG.keep)
      have HX18 := Aside0.mk (Kd.C_below HG18.out.row hG.keep)
      refine hK.out _ _ (hHeld.step hG.keep) (fun hHeld => ?_)
      clear hK K hG
      refine norm_ (a' := ?_) ?_ ?_
      rotate_left
      · show Act.put _ (some 14) _ = _
        simp only [Act.put, List.setIfInBounds_toArray, List.set_cons_zero, List.set_cons_succ, i64_w, i32_w]
        rfl
      refine one_ (i := 12) (N := some 15) #[true, true, true, true, true, true, true, true, true, true, true, true, true, false, false] rfl rfl (one_of HT_.out (by kernel_rfl)) (by decide) (fun K hK => ?_)
      go_simp
      refine hK.out _ _ (hHeld.step (below_alloc (Below.refl _ _) _)) (fun hHeld => ?_)
      clear hK K
      have HR := Aside0.mk (rows_of_block (vs := [(A15, n3.length, c15), (A18, z5.length, c18), (A20, t4.length, c20)]) (zs := [n3, z5, t4]) (blk_new w7 (.cells #[.slice A15 n3.length c15, .slice A18 z5.length c18, .slice A20 t4.length c20] 22)) (bys_cons HG15.out.cap (Kd.C_alloc HX15.out _) (bys_cons HG18.out.cap (Kd.C_alloc HX18.out _) (bys_cons HG20.out.cap (Kd.C_alloc HG20.out.row _) (bys_nil _)))) (by simp))
      obtain ⟨g6, hg6⟩ : ∃ g6, g6 = w7.heap.size := ⟨_, rfl⟩
      rw [← hg6] at HR ⊢
      clear hg6 HG15 HG18 HG20 HX15 HX18 HY15
      generalize w7.alloc (.cells #[.slice A15 n3.length c15, .slice A18 z5.length c18, .slice A20 t4.length c20] 22) = w8 at hHeld HR ⊢
      refine one_ (i := 13) (N := some 16) #[true, true, true, true, true, true, true, true, true, true, true, true, true, true, false] rfl rfl (one_of HT_.out (by kernel_rfl)) (by decide) (fun K hK => ?_)
      refine goes_ Try.func98 (by kernel_rfl) rfl #[.slice (some ⟨g6, 0, none⟩) 3 3] (by rfl) rfl rfl (by (try simp only [List.map_toArray, List.map_cons, List.map_nil]); first | done | rfl) ?_
      refine (join_ok (some _) 3 [n3, z5, t4] z _ HR.out (by simp) HJ.out).mono ?_
      rintro e w9 ⟨A22, c22, rfl, hG⟩
      refine ⟨_, rfl, ?_⟩
      have HG22 := Aside0.mk hG
      have HB7 := Aside0.mk (below_then HB0.out HB0.out.size hHeld.2.2.2.2.2.2.2)
      refine hK.out _ _ (hHeld.step hG.keep) (fun hHeld => ?_)
      clear hK K hG HR
      refine norm_ (a' := ?_) ?_ ?_
      rotate_left
      · show Act.put _ (some 16) _ = _
        simp only [Act.put, List.setIfInBounds_toArray, List.set_cons_zero, List.set_cons_succ, i64_w, i32_w]
        rfl
      refine pure_ (i := 14) (N := some 2) (v := ?_) (a' := ?_) #[true, true, true, true, true, true, true, true, true, true, true, true, true, true, true] rfl rfl (any_of HT_.out (by kernel_rfl)) (fun _ _ _ h => h) (Or.inl ⟨by rfl, ?_⟩) ?_ ?_
      rotate_left
      · intro w'
        go_simp
        with_reducible rfl
      rotate_left
      · simp only [Act.put, List.setIfInBounds_toArray, List.set_cons_zero, List.set_cons_succ, i64_w, i32_w]
        rfl
      refine done_ (done_of HT_.out (by kernel_rfl)) ?_
      go_wp2_with (fail)
      go_ret
      exact ⟨_, _, rfl, HG22.out.lift HB7.out⟩
    · have HX := Aside0.mk hx
      refine with_tabW pkP_tab1 pkP_bits1 (fun HT_ HW_ => ?_)
      refine pure_ (i := 0) (N := some 3) (v := ?_) (a' := ?_) #[true, false, false, false, false, false, false, false, false, false, false, false, false, false, false] rfl rfl (any_of HT_.out (by kernel_rfl)) (fun _ _ _ h => h) (Or.inl ⟨by rfl, ?_⟩) ?_ ?_
      rotate_left
      · intro w'
        go_simp
        with_reducible rfl
      rotate_left
      · simp only [Act.put, List.setIfInBounds_toArray, List.set_cons_zero, List.set_cons_succ, i64_w, i32_w]
        rfl
      refine take_ (i := 1) (N := some 4) (v := ?_) (a' := ?_) #[true, true, false, false, false, false, false, false, false, false, false, false, false, false, false] rfl rfl (take_ofW HT_.out HW_.out (by kernel_rfl)) (fun _ _ _ h => h) (Or.inl ⟨by rfl, ?_⟩) hHeld ?_ ?_
      rotate_left
      · rintro w' ⟨s0, s1, s2, s3, s4, s5, s6, s7⟩
        go_simp
        with_reducible rfl
      rotate_left
      · simp only [Act.put, List.setIfInBounds_toArray, List.set_cons_zero, List.set_cons_succ, i64_w, i32_w]
        rfl
      refine pure_ (i := 2) (N := some 5) (v := ?_) (a' := ?_) #[true, true, true, false, false, false, false, false, false, false, false, false, false, false, false] rfl rfl (any_of HT_.out (by kernel_rfl)) (fun _ _ _ h => h) (Or.inl ⟨by rfl, ?_⟩) ?_ ?_
      rotate_left
      · intro w'
        go_simp
        with_reducible rfl
      rotate_left
      · simp only [Act.put, List.setIfInBounds_toArray, List.set_cons_zero, List.set_cons_succ, i64_w, i32_w]
        rfl
      refine take_ (i := 3) (N := some 6) (v := ?_) (a' := ?_) #[true, true, true, true, false, false, false, false, false, false, false, false, false, false, false] rfl rfl (take_ofW HT_.out HW_.out (by kernel_rfl)) (fun _ _ _ h => h) (Or.inl ⟨by rfl, ?_⟩) hHeld ?_ ?_
      rotate_left
      · rintro w' ⟨s0, s1, s2, s3, s4, s5, s6, s7⟩
        go_simp
        with_reducible rfl
      rotate_left
      · simp only [Act.put, List.setIfInBounds_toArray, List.set_cons_zero, List.set_cons_succ, i64_w, i32_w]
        rfl
      refine pure_ (i := 6) (N := some 9) (v := ?_) (a' := ?_) #[true, true, true, true, false, false, true, false, false, false, false, false, false, false, false] rfl rfl (any_of HT_.out (by kernel_rfl)) (fun _ _ _ h => h) (Or.inl ⟨by rfl, ?_⟩) ?_ ?_
      rotate_left
      · intro w'
        go_simp
        with_reducible rfl
      rotate_left
      · simp only [Act.put, List.setIfInBounds_toArray, List.set_cons_zero, List.set_cons_succ, i64_w, i32_w]
        rfl
      refine take_ (i := 7) (N := some 10) (v := ?_) (a' := ?_) #[true, true, true, true, false, false, true, true, false, false, false, false, false, false, false] rfl rfl (take_ofW HT_.out HW_.out (by kernel_rfl)) (fun _ _ _ h => h) (Or.inl ⟨by rfl, ?_⟩) hHeld ?_ ?_
      rotate_left
      · rintro w' ⟨s0, s1, s2, s3, s4, s5, s6, s7⟩
        go_simp
        with_reducible rfl
      rotate_left
      · simp only [Act.put, List.setIfInBounds_toArray, List.set_cons_zero, List.set_cons_succ, i64_w, i32_w]
        rfl
      refine pure_ (i := 9) (N := some 12) (v := ?_) (a' := ?_) #[true, true, true, true, false, false, true, true, false, true, false, false, false, false, false] rfl rfl (any_of HT_.out (by kernel_rfl)) (fun _ _ _ h => h) (Or.inl ⟨by rfl, ?_⟩) ?_ ?_
      rotate_left
      · intro w'
        go_simp
        with_reducible rfl
      rotate_left
      · simp only [Act.put, List.setIfInBounds_toArray, List.set_cons_zero, List.set_cons_succ, i64_w, i32_w]
        rfl
      refine take_ (i := 10) (N := some 13) (v := ?_) (a' := ?_) #[true, true, true, true, false, false, true, true, false, true, true, false, false, false, false] rfl rfl (take_ofW HT_.out HW_.out (by kernel_rfl)) (fun _ _ _ h => h) (Or.inl ⟨by rfl, ?_⟩) hHeld ?_ ?_
      rotate_left
      · rintro w' ⟨s0, s1, s2, s3, s4, s5, s6, s7⟩
        go_simp
        with_reducible rfl
      rotate_left
      · simp only [Act.put, List.setIfInBounds_toArray, List.set_cons_zero, List.set_cons_succ, i64_w, i32_w]
        rfl
      refine one_ (i := 4) (N := some 7) #[true, true, true, true, true, false, true, true, false, true, true, false, false, false, false] rfl rfl (one_of HT_.out (by kernel_rfl)) (by decide) (fun K hK => ?_)
      go_simp
      refine hK.out _ _ (hHeld.step (below_alloc (Below.refl _ _) _)) (fun hHeld => ?_)
      clear hK K
      have HN1 := Aside0.mk (C_ints_block (l := [p.f0, p.f1]) (t := 3) (fr := (0, 0)) (blk_new w3 (.cells #[.int .i64 p.f0, .int .i64 p.f1] 3)) (by simp))
      obtain ⟨g3, hg3⟩ : ∃ g3, g3 = w3.heap.size := ⟨_, rfl⟩
      rw [← hg3] at HN1 ⊢
      clear hg3
      generalize w3.alloc (.cells #[.int .i64 p.f0, .int .i64 p.f1] 3) = w4 at hHeld HN1 ⊢
      refine one_ (i := 5) (N := some 8) #[true, true, true, true, true, true, true, true, false, true, true, false, false, false, false] rfl rfl (one_of HT_.out (by kernel_rfl)) (by decide) (fun K hK => ?_)
      refine goes_ Try.func96 (by kernel_rfl) rfl #[.slice (some ⟨g3, 0, none⟩) 2 2] (by rfl) rfl rfl (by (try simp only [List.map_toArray, List.map_cons, List.map_nil]); first | done | rfl) ?_
      refine (nums_ok (some _) 2 [p.f0, p.f1] n3 _ HN1.out (by simp) (by simp) HNUM.out).mono ?_
      rintro e w5 ⟨A15, c15, rfl, hG⟩
      refine ⟨_, rfl, ?_⟩
      have HG15 := Aside0.mk hG
      refine hK.out _ _ (hHeld.step hG.keep) (fun hHeld => ?_)
      clear hK K hG HN1
      refine norm_ (a' := ?_) ?_ ?_
      rotate_left
      · show Act.put _ (some 8) _ = _
        simp only [Act.put, List.setIfInBounds_toArray, List.set_cons_zero, List.set_cons_succ, i64_w, i32_w]
        rfl
      refine one_ (i := 8) (N := some 11) #[true, true, true, true, true, true, true, true, true, true, true, false, false, false, false] rfl rfl (one_of HT_.out (by kernel_rfl)) (by decide) (fun K hK => ?_)
      refine goes_ Try.func118 (by kernel_rfl) rfl #[.agg #[.int .i64 p.f2.f0, .int .i64 p.f2.f1, .int .i64 p.f2.f2, .slice A5 p.f2.f3.length c5]] (by rfl) rfl rfl (by (try simp only [List.map_toArray, List.map_cons, List.map_nil]); first | done | rfl) ?_
      refine (packEntry_ok p.f2 A5 c5 _ (Kd.C_below HC5.out (below_then HB0.out HB0.out.size hHeld.2.2.2.2.2.2.2)) Hc5.out HGE.out).mono ?_
      rintro e w6 ⟨A18, c18, rfl, hG⟩
      refine ⟨_, rfl, ?_⟩
      have HG18 := Aside0.mk hG
      have HY15 := Aside0.mk (Kd.C_below HG15.out.row hG.keep)
      rw [← HZE.out] at HG18 ⊢
      refine hK.out _ _ (hHeld.step hG.keep) (fun hHeld => ?_)
      clear hK K hG
      refine norm_ (a' := ?_) ?_ ?_
      rotate_left
      · show Act.put _ (some 11) _ = _
        simp only [Act.put, List.setIfInBounds_toArray, List.set_cons_zero, List.set_cons_succ, i64_w, i32_w]
        rfl
      refine one_ (i := 11) (N := some 14) #[true, true, true, true, true, true, true, true, true, true, true, true, false, false, false] rfl rfl (one_of HT_.out (by kernel_rfl)) (by decide) (fun K hK => ?_)
      refine goes_ Try.func137 (by kernel_rfl) rfl #[.slice A6 p.f3.length c6, .func (.func 115) #[] #[]] (by rfl) rfl rfl (by (try simp only [List.map_toArray, List.map_cons, List.map_nil]); first | done | rfl) ?_
      refine (each_letters A6 c6 p.f3 t4 0 _ (Kd.C_below HC6.out (below_then HB0.out HB0.out.size hHeld.2.2.2.2.2.2.2)) Hc6.out HGN.out HGL.out HV.out).mono ?_
      intro e w7 hh
      rw [if_pos rfl] at hh
      obtain ⟨A20, c20, rfl, hG⟩ := hh
      refine ⟨_, rfl, ?_⟩
      have HG20 := Aside0.mk hG
      have HX15 := Aside0.mk (Kd.C_below HY15.out hG.keep)
      have HX18 := Aside0.mk (Kd.C_below HG18.out.row hG.keep)
      refine hK.out _ _ (hHeld.step hG.keep) (fun hHeld => ?_)
      clear hK K hG
      refine norm_ (a' := ?_) ?_ ?_
      rotate_left
      · show Act.put _ (some 14) _ = _
        simp only [Act.put, List.setIfInBounds_toArray, List.set_cons_zero, List.set_cons_succ, i64_w, i32_w]
        rfl
      refine one_ (i := 12) (N := some 15) #[true, true, true, true, true, true, true, true, true, true, true, true, true, false, false] rfl rfl (one_of HT_.out (by kernel_rfl)) (by decide) (fun K hK => ?_)
      go_simp
      refine hK.out _ _ (hHeld.step (below_alloc (Below.refl _ _) _)) (fun hHeld => ?_)
      clear hK K
      have HR := Aside0.mk (rows_of_block (vs := [(A15, n3.length, c15), (A18, z5.length, c18), (A20, t4.length, c20)]) (zs := [n3, z5, t4]) (blk_new w7 (.cells #[.slice A15 n3.length c15, .slice A18 z5.length c18, .slice A20 t4.length c20] 22)) (bys_cons HG15.out.cap (Kd.C_alloc HX15.out _) (bys_cons HG18.out.cap (Kd.C_alloc HX18.out _) (bys_cons HG20.out.cap (Kd.C_alloc HG20.out.row _) (bys_nil _)))) (by simp))
      obtain ⟨g6, hg6⟩ : ∃ g6, g6 = w7.heap.size := ⟨_, rfl⟩
      rw [← hg6] at HR ⊢
      clear hg6 HG15 HG18 HG20 HX15 HX18 HY15
      generalize w7.alloc (.cells #[.slice A15 n3.length c15, .slice A18 z5.length c18, .slice A20 t4.length c20] 22) = w8 at hHeld HR ⊢
      refine one_ (i := 13) (N := some 16) #[true, true, true, true, true, true, true, true, true, true, true, true, true, true, false] rfl rfl (one_of HT_.out (by kernel_rfl)) (by decide) (fun K hK => ?_)
      go_simp
      go_at_call 98
      refine (join_bad (some _) 3 [n3, z5, t4] z x _ HR.out (by simp) HJ.out HX.out).mono ?_
      rintro e w9 ⟨rfl, hB⟩
      have HBZ := Aside0.mk (below_then HB0.out HB0.out.size hHeld.2.2.2.2.2.2.2)
      refine ⟨rfl, ?_⟩
      show if _ = (0 : Int) then _ else _
      rw [if_neg HX.out]
      exact ⟨rfl, below_then HBZ.out HBZ.out.size hB⟩
  · rw [if_neg hx4] at hj
    obtain ⟨rfl, rfl⟩ := Prod.mk.inj hj
    have HX := Aside0.mk hx4
    have HV := Aside0.mk hv
    clear hv hj
    refine with_tabW pkP_tab1 pkP_bits1 (fun HT_ HW_ => ?_)
    refine pure_ (i := 0) (N := some 3) (v := ?_) (a' := ?_) #[true, false, false, false, false, false, false, false, false, false, false, false, false, false, false] rfl rfl (any_of HT_.out (by kernel_rfl)) (fun _ _ _ h => h) (Or.inl ⟨by rfl, ?_⟩) ?_ ?_
    rotate_left
    · intro w'
      go_simp
      with_reducible rfl
    rotate_left
    · simp only [Act.put, List.setIfInBounds_toArray, List.set_cons_zero, List.set_cons_succ, i64_w, i32_w]
      rfl
    refine take_ (i := 1) (N := some 4) (v := ?_) (a' := ?_) #[true, true, false, false, false, false, false, false, false, false, false, false, false, false, false] rfl rfl (take_ofW HT_.out HW_.out (by kernel_rfl)) (fun _ _ _ h => h) (Or.inl ⟨by rfl, ?_⟩) hHeld ?_ ?_
    rotate_left
    · rintro w' ⟨s0, s1, s2, s3, s4, s5, s6, s7⟩
      go_simp
      with_reducible rfl
    rotate_left
    · simp only [Act.put, List.setIfInBounds_toArray, List.set_cons_zero, List.set_cons_succ, i64_w, i32_w]
      rfl
    refine pure_ (i := 2) (N := some 5) (v := ?_) (a' := ?_) #[true, true, true, false, false, false, false, false, false, false, false, false, false, false, false] rfl rfl (any_of HT_.out (by kernel_rfl)) (fun _ _ _ h => h) (Or.inl ⟨by rfl, ?_⟩) ?_ ?_
    rotate_left
    · intro w'
      go_simp
      with_reducible rfl
    rotate_left
    · simp only [Act.put, List.setIfInBounds_toArray, List.set_cons_zero, List.set_cons_succ, i64_w, i32_w]
      rfl
    refine take_ (i := 3) (N := some 6) (v := ?_) (a' := ?_) #[true, true, true, true, false, false, false, false, false, false, false, false, false, false, false] rfl rfl (take_ofW HT_.out HW_.out (by kernel_rfl)) (fun _ _ _ h => h) (Or.inl ⟨by rfl, ?_⟩) hHeld ?_ ?_
    rotate_left
    · rintro w' ⟨s0, s1, s2, s3, s4, s5, s6, s7⟩
      go_simp
      with_reducible rfl
    rotate_left
    · simp only [Act.put, List.setIfInBounds_toArray, List.set_cons_zero, List.set_cons_succ, i64_w, i32_w]
      rfl
    refine pure_ (i := 6) (N := some 9) (v := ?_) (a' := ?_) #[true, true, true, true, false, false, true, false, false, false, false, false, false, false, false] rfl rfl (any_of HT_.out (by kernel_rfl)) (fun _ _ _ h => h) (Or.inl ⟨by rfl, ?_⟩) ?_ ?_
    rotate_left
    · intro w'
      go_simp
      with_reducible rfl
    rotate_left
    · simp only [Act.put, List.setIfInBounds_toArray, List.set_cons_zero, List.set_cons_succ, i64_w, i32_w]
      rfl
    refine take_ (i := 7) (N := some 10) (v := ?_) (a' := ?_) #[true, true, true, true, false, false, true, true, false, false, false, false, false, false, false] rfl rfl (take_ofW HT_.out HW_.out (by kernel_rfl)) (fun _ _ _ h => h) (Or.inl ⟨by rfl, ?_⟩) hHeld ?_ ?_
    rotate_left
    · rintro w' ⟨s0, s1, s2, s3, s4, s5, s6, s7⟩
      go_simp
      with_reducible rfl
    rotate_left
    · simp only [Act.put, List.setIfInBounds_toArray, List.set_cons_zero, List.set_cons_succ, i64_w, i32_w]
      rfl
    refine pure_ (i := 9) (N := some 12) (v := ?_) (a' := ?_) #[true, true, true, true, false, false, true, true, false, true, false, false, false, false, false] rfl rfl (any_of HT_.out (by kernel_rfl)) (fun _ _ _ h => h) (Or.inl ⟨by rfl, ?_⟩) ?_ ?_
    rotate_left
    · intro w'
      go_simp
      with_reducible rfl
    rotate_left
    · simp only [Act.put, List.setIfInBounds_toArray, List.set_cons_zero, List.set_cons_succ, i64_w, i32_w]
      rfl
    refine take_ (i := 10) (N := some 13) (v := ?_) (a' := ?_) #[true, true, true, true, false, false, true, true, false, true, true, false, false, false, false] rfl rfl (take_ofW HT_.out HW_.out (by kernel_rfl)) (fun _ _ _ h => h) (Or.inl ⟨by rfl, ?_⟩) hHeld ?_ ?_
    rotate_left
    · rintro w' ⟨s0, s1, s2, s3, s4, s5, s6, s7⟩
      go_simp
      with_reducible rfl
    rotate_left
    · simp only [Act.put, List.setIfInBounds_toArray, List.set_cons_zero, List.set_cons_succ, i64_w, i32_w]
      rfl
    refine one_ (i := 4) (N := some 7) #[true, true, true, true, true, false, true, true, false, true, true, false, false, false, false] rfl rfl (one_of HT_.out (by kernel_rfl)) (by decide) (fun K hK => ?_)
    go_simp
    refine hK.out _ _ (hHeld.step (below_alloc (Below.refl _ _) _)) (fun hHeld => ?_)
    clear hK K
    have HN1 := Aside0.mk (C_ints_block (l := [p.f0, p.f1]) (t := 3) (fr := (0, 0)) (blk_new w3 (.cells #[.int .i64 p.f0, .int .i64 p.f1] 3)) (by simp))
    obtain ⟨g3, hg3⟩ : ∃ g3, g3 = w3.heap.size := ⟨_, rfl⟩
    rw [← hg3] at HN1 ⊢
    clear hg3
    generalize w3.alloc (.cells #[.int .i64 p.f0, .int .i64 p.f1] 3) = w4 at hHeld HN1 ⊢
    refine one_ (i := 5) (N := some 8) #[true, true, true, true, true, true, true, true, false, true, true, false, false, false, false] rfl rfl (one_of HT_.out (by kernel_rfl)) (by decide) (fun K hK => ?_)
    refine goes_ Try.func96 (by kernel_rfl) rfl #[.slice (some ⟨g3, 0, none⟩) 2 2] (by rfl) rfl rfl (by (try simp only [List.map_toArray, List.map_cons, List.map_nil]); first | done | rfl) ?_
    refine (nums_ok (some _) 2 [p.f0, p.f1] n3 _ HN1.out (by simp) (by simp) HNUM.out).mono ?_
    rintro e w5 ⟨A15, c15, rfl, hG⟩
    refine ⟨_, rfl, ?_⟩
    have HG15 := Aside0.mk hG
    refine hK.out _ _ (hHeld.step hG.keep) (fun hHeld => ?_)
    clear hK K hG HN1
    refine norm_ (a' := ?_) ?_ ?_
    rotate_left
    · show Act.put _ (some 8) _ = _
      simp only [Act.put, List.setIfInBounds_toArray, List.set_cons_zero, List.set_cons_succ, i64_w, i32_w]
      rfl
    refine one_ (i := 8) (N := some 11) #[true, true, true, true, true, true, true, true, true, true, true, false, false, false, false] rfl rfl (one_of HT_.out (by kernel_rfl)) (by decide) (fun K hK => ?_)
    refine goes_ Try.func118 (by kernel_rfl) rfl #[.agg #[.int .i64 p.f2.f0, .int .i64 p.f2.f1, .int .i64 p.f2.f2, .slice A5 p.f2.f3.length c5]] (by rfl) rfl rfl (by (try simp only [List.map_toArray, List.map_cons, List.map_nil]); first | done | rfl) ?_
    refine (packEntry_ok p.f2 A5 c5 _ (Kd.C_below HC5.out (below_then HB0.out HB0.out.size hHeld.2.2.2.2.2.2.2)) Hc5.out HGE.out).mono ?_
    rintro e w6 ⟨A18, c18, rfl, hG⟩
    refine ⟨_, rfl, ?_⟩
    have HG18 := Aside0.mk hG
    have HY15 := Aside0.mk (Kd.C_below HG15.out.row hG.keep)
    rw [← HZE.out] at HG18 ⊢
    refine hK.out _ _ (hHeld.step hG.keep) (fun hHeld => ?_)
    clear hK K hG
    refine norm_ (a' := ?_) ?_ ?_
    rotate_left
    · show Act.put _ (some 11) _ = _
      simp only [Act.put, List.setIfInBounds_toArray, List.set_cons_zero, List.set_cons_succ, i64_w, i32_w]
      rfl
    refine one_ (i := 11) (N := some 14) #[true, true, true, true, true, true, true, true, true, true, true, true, false, false, false] rfl rfl (one_of HT_.out (by kernel_rfl)) (by decide) (fun K hK => ?_)
    go_simp
    go_at_call 137
    refine (each_letters A6 c6 p.f3 t4 x4 _ (Kd.C_below HC6.out (below_then HB0.out HB0.out.size hHeld.2.2.2.2.2.2.2)) Hc6.out HGN.out HGL.out HV.out).mono ?_
    intro e w7 hh
    rw [if_neg HX.out] at hh
    obtain ⟨rfl, hB⟩ := hh
    have HBZ := Aside0.mk (below_then HB0.out HB0.out.size hHeld.2.2.2.2.2.2.2)
    refine ⟨rfl, ?_⟩
    show if _ = (0 : Int) then _ else _
    rw [if_neg HX.out]
    exact ⟨rfl, below_then HBZ.out HBZ.out.size hB⟩
end Go.Proofs.Ytijccobeljoikaa.Ms

/- msg: a list of what is proven as bytes. -/
namespace Go.Proofs.Ytijccobeljoikaa.Ms
open Go.RowKit Go.Proofs.YtijccobeljoikaaW.PrintWords Go.Proofs.YtijccobeljoikaaW.PrintLast
open Go.Proofs.Ytijccobeljoikaa.Plain Go.Proofs.Ytijccobeljoikaa.Walks
set_option linter.unusedVariables false
set_option linter.unusedSimpArgs false

/-- What is proven, behind rows, as bytes, or the error. -/
def provGo (rows : List (List Int)) : List S101 → List Int × Int
  | [] => joinP rows
  | p :: l => if (provenP p).2 = 0 then provGo (rows ++ [(provenP p).1]) l else ([], (provenP p).2)

set_option maxHeartbeats 4000000 in
set_option maxRecDepth 100000 in
theorem each_provens (A : Option Addr) (c : Nat) (l : List S101) (z : List Int) (x : Int) (w : World) (hC : Kd.C k101 w A l.length l) (hc : l.length ≤ c) (hn : l.length ≤ 8) (hg : ∀ p ∈ l, Good101 p) (hj : provGo [] l = (z, x)) :
    Calls Try.prog 138 #[.slice A l.length c, .func (.func 139) #[] #[]] w fun e w' =>
      if x = 0 then ∃ A1 c1, e = .returned (.slice A1 z.length c1) ∧ Got (Kd.int .u8) 5 w w' A1 c1 z else e = .panicked (fault x) ∧ Below w.heap.size w w' := by
  have HC := Aside0.mk hC
  have HG := Aside0.mk hg
  have HJ := Aside0.mk hj
  have hu101 := Try.underlying101
  clear hC hg hj
  go_enter Try.func138, Try.ntmps138
  go_wp2_with (fail)
  go_loopw [5, 10] (fun u t wr => ∃ (i : Nat) (vs : List (Option Addr × Nat × Nat)) (rs : List (List Int)), t = .int .i64 (i : Int) ∧ i ≤ l.length ∧ Aside0 (vs.length = i) ∧ Aside0 (Kd.R kv 22 wr w.heap.size (fun k_ => w.heap.size ≤ k_) u vs) ∧ Aside0 (Byts w wr vs rs) ∧ Aside0 (provGo rs (l.drop i) = (z, x)) ∧ Aside0 (Below w.heap.size w wr)) (fun _ t _ => l.length - (intOf t).toNat)
  case atStart => exact ⟨0, [], [], rfl, Nat.zero_le _, ⟨rfl⟩, ⟨Kd.R_nil _ _ _ _ _⟩, ⟨byts_nil _ _⟩, HJ, ⟨Below.refl _ _⟩⟩
  case round =>
    clear HJ
    obtain ⟨i, vs, rs, rfl, hi, HV, HR, HY, HJ, HB⟩ := hrel
    obtain ⟨Av, cv, ev⟩ := Kd.R_slice HR.out
    subst ev
    by_cases hlt : i < l.length
    · have b0 : decide ((i : Int) < (l.length : Int)) = true := decide_eq_true (by omega)
      have b1 : (0 ≤ (i : Int)) = True := eq_true (by omega)
      have b2 : ((i : Int) < (l.length : Int)) = True := eq_true (by omega)
      obtain ⟨ad, A5, c5, A6, c6, e, hx0, hx1, hx2, hx3, hx4, hx5, hx6, hl5, hi5, hl6, hi6⟩ := at_T101 (Kd.C_below HC.out HB.out) (i : Int) (by omega) (by omega)
      subst e
      obtain ⟨p, hm⟩ : ∃ p, p = rd_T101 l (i : Int) := ⟨_, rfl⟩
      rw [← hm] at hx0 hx1 hx2 hx3 hx4 hx5 hx6 hl5 hi5 hl6 hi6
      rw [Int.toNat_natCast] at hx0 hx1 hx2 hx3 hx4 hx5 hx6
      have hmi : p = l[i] := by rw [hm]; simp [rd_T101, List.getD_eq_getElem?_getD, hlt]
      have HGm := Aside0.mk (HG.out p (by rw [hmi]; exact List.getElem_mem hlt))
      have hj := HJ.out
      rw [drop_step hlt, ← hmi, provGo] at hj
      have Hl5 := Aside0.mk hl5
      have Hi5 := Aside0.mk hi5
      have Hl6 := Aside0.mk hl6
      have Hi6 := Aside0.mk hi6
      have hvl : vs.length ≤ 8 := by rw [HV.out]; omega
      obtain ⟨y, xy, hy⟩ : ∃ y xy, provenP p = (y, xy) := ⟨_, _, rfl⟩
      rw [hy] at hj
      have HP := Aside0.mk hy
      simp only at hj
      clear hm hmi hl5 hi5 hl6 hi6 HJ hy
      by_cases hxy : xy = 0
      · subst hxy
        rw [if_pos rfl] at hj
        have HJ := Aside0.mk hj
        clear hj
        go_wp2_with (first
          | (go_at_call 139; refine (packProven_calls p A5 c5 A6 c6 y 0 _ (Kd.C_alloc Hi5.out _) Hl5.out (Kd.C_alloc Hi6.out _) Hl6.out HGm.out HP.out).mono ?_; intro e w1 hh; rw [if_pos rfl] at hh; obtain ⟨A1, c1, rfl, hG⟩ := hh; have HG1 := Aside0.mk hG; have HBq := Aside0.mk (below_then (below_alloc HB.out _) (below_size (below_alloc HB.out _)) hG.keep); have hs1 := HBq.out.size; have HR1 := Aside0.mk (Kd.R_below (Kd.R_alloc HR.out _) hG.keep); have HY1 := Aside0.mk ((HY.out.below (below_alloc (Below.refl _ _) _)).below hG.keep); have HT1 := Aside0.mk (hG.byt (w0 := w) (by have := HB.out.size; simp; omega)); clear hG)
          | (at_builtin; refine Kd.R_append kv (w0 := w) w.heap.size rfl (.tmp 14) (.tmp 18) 32 22 (.slice none 0 0) 24 rfl Try.underlying32 Walks.info22 rfl (by decide) (by omega) (.slice Av vs.length cv) vs (A1, y.length, c1) [.slice A1 y.length c1] (fun k_ => w.heap.size ≤ k_) (fun k_ => w.heap.size ≤ k_ ∧ some k_ ≠ (Value.slice Av vs.length cv).ownBlock) rfl rfl rfl (fun _ h => h) (fun k hk => by omega) HR1.out HBq.out hs1 (by omega) ?_; intro v3 w3 hR3 hB3 hg3 hat3; have HR3 := Aside0.mk hR3; have HB3 := Aside0.mk hB3; have HY3 := Aside0.mk ((HY1.out.snoc HT1.out).grown (Kd.R_typed HR1.out) hg3); clear hR3 hB3 hg3 hat3))
        exact ⟨⟨i + 1, vs ++ [(A1, y.length, c1)], rs ++ [y], by simp, by omega, ⟨by rw [List.length_append, HV.out]; rfl⟩, HR3, HY3, HJ, HB3⟩, by simp only [intOf]; omega⟩
      · rw [if_neg hxy] at hj
        obtain ⟨rfl, rfl⟩ := Prod.mk.inj hj
        have HX := Aside0.mk hxy
        clear hj
        go_wp2_with (go_at_call 139; refine (packProven_calls p A5 c5 A6 c6 y xy _ (Kd.C_alloc Hi5.out _) Hl5.out (Kd.C_alloc Hi6.out _) Hl6.out HGm.out HP.out).mono ?_; intro e w1 hh; rw [if_neg HX.out] at hh; obtain ⟨rfl, hB⟩ := hh; have HBq := Aside0.mk (below_then (below_alloc HB.out _) (below_size (below_alloc HB.out _)) hB); clear hB)
        refine ⟨rfl, ?_⟩
        first
          | exact ⟨rfl, HBq.out⟩
          | (show if _ = (0 : Int) then _ else _; rw [if_neg HX.out]; exact ⟨rfl, HBq.out⟩)
    · have b0 : decide ((i : Int) < (l.length : Int)) = false := decide_eq_false (by omega)
      have hil : i = l.length := by omega
      subst hil
      have hj := HJ.out
      rw [List.drop_eq_nil_of_le (Nat.le_refl _), provGo] at hj
      have HJ2 := Aside0.mk hj
      have hrow := (Kd.R_reads' HR.out)
      have hll : vs.length = rs.length := HY.out.1
      have HRW := Aside0.mk (show Kd.C (Kd.slice 5 (Kd.int .u8)) wr Av rs.length rs from rows_of_vals hrow.2.2 (HY.out.bys HB.out))
      have HCP := Aside0.mk (show rs.length ≤ cv by rw [← hll]; exact hrow.2.1)
      clear hrow hj HJ
      rw [hll]
      clear hll
      by_cases hx : x = 0
      · subst hx
        go_wp2_with (go_at_call 98; refine (join_ok Av cv rs z _ HRW.out HCP.out HJ2.out).mono ?_; rintro e w2 ⟨A1, c1, rfl, hG⟩; have HG1 := Aside0.mk hG; clear hG)
        go_ret
        exact ⟨_, _, rfl, HG1.out.lift HB.out⟩
      · have HX := Aside0.mk hx
        go_wp2_with (go_at_call 98; refine (join_bad Av cv rs z x _ HRW.out HCP.out HJ2.out HX.out).mono ?_; rintro e w2 ⟨rfl, hB⟩; have HB1 := Aside0.mk hB; clear hB)
        exact ⟨rfl, rfl, below_then HB.out HB.out.size HB1.out⟩
end Go.Proofs.Ytijccobeljoikaa.Ms

/- msg: a kind's parts; strings.Contains of one byte. -/
namespace Go.Proofs.Ytijccobeljoikaa.Ms
open Go.RowKit Go.Proofs.YtijccobeljoikaaW.PrintWords Go.Proofs.YtijccobeljoikaaW.PrintLast
open Go.Proofs.Ytijccobeljoikaa.Plain Go.Proofs.Ytijccobeljoikaa.Walks
set_option linter.unusedVariables false
set_option linter.unusedSimpArgs false

theorem indexByte_pos (l : List UInt8) (c : UInt8) : decide (0 ≤ Lib.indexByte l c) = l.contains c := by
  induction l with
  | nil => rfl
  | cons b l ih =>
    unfold Lib.indexByte
    have hg := Lib.indexByte_ge l c
    by_cases h : (b == c) = true
    · have : b = c := by simpa using h
      subst this
      simp
    · have hb : ¬ (c = b) := fun e => h (by simp [e])
      rw [if_neg h, List.contains_cons]
      have : (c == b) = false := by simpa using hb
      rw [this, Bool.false_or, ← ih]
      split
      · rename_i h1
        have : Lib.indexByte l c = -1 := by simpa using h1
        rw [this]
      · rename_i h1
        have : Lib.indexByte l c ≠ -1 := by simpa using h1
        rw [decide_eq_true (by omega), decide_eq_true (by omega)]
set_option maxRecDepth 100000 in
theorem indexByte_calls (s : ByteArray) (c : Int) (w : World) : Calls Try.prog 161 #[.string s, .int .u8 c] w fun e w' => e = .returned (.int .i64 (Lib.indexByte s.data.toList c.toNat.toUInt8)) ∧ w' = w := by
  go_enter Try.func161, Try.ntmps161
  go_wp2_with (fail)
  rw [run_callFunc_extern (fn := Try.f165) (by kernel_rfl) (by kernel_rfl) (by kernel_rfl) (by kernel_rfl) (e := Extern.BytealgIndexByte.indexByte) (by kernel_rfl), Lib.run_indexByteString]
  simp only [Result.andThen]
  rw [Oper.upon_value]
  go_wp2_with (fail)
  go_ret
  exact ⟨rfl, rfl⟩
/-- Is a byte in a string? -/
def hasB (p : ByteArray) (c : UInt8) : Bool := p.data.toList.contains c
set_option maxRecDepth 100000 in
theorem indexStr_calls (s : ByteArray) (c : UInt8) (w : World) : Calls Try.prog 159 #[.string s, .string ⟨#[c]⟩] w fun e w' => e = .returned (.int .i64 (Lib.indexByte s.data.toList c)) ∧ w' = w := by
  cases hq : ([c] == s.toList) with
  | true =>
    have h0 : Lib.indexByte s.data.toList c = 0 := by
      have h1 : [c] = s.toList := by simpa using hq
      have h2 : s.data.toList = [c] := by rw [h1]; exact (ByteArray.toList_eq s).symm
      rw [h2]; simp [Lib.indexByte]
    go_enter Try.func159, Try.ntmps159
    go_wp2_with (fail)
    go_ret
    exact ⟨by rw [h0]; rfl, rfl⟩
  | false =>
    go_enter Try.func159, Try.ntmps159
    go_wp2_with (fail)
    refine (indexByte_calls s _ _).mono ?_
    rintro e w1 ⟨rfl, rfl⟩
    go_wp2_with (fail)
    go_ret

    exact ⟨by simp; rfl, rfl⟩
set_option maxRecDepth 100000 in
theorem index_calls (s : ByteArray) (c : UInt8) (w : World) : Calls Try.prog 154 #[.string s, .string ⟨#[c]⟩] w fun e w' => e = .returned (.int .i64 (Lib.indexByte s.data.toList c)) ∧ w' = w := by
  go_enter Try.func154, Try.ntmps154
  go_wp2_with (go_at_call 159; refine (indexStr_calls s c _).mono ?_; rintro e w1 ⟨rfl, rfl⟩)
  go_ret
  exact ⟨rfl, rfl⟩
set_option maxRecDepth 100000 in
theorem contains_byte (s : ByteArray) (c : UInt8) (w : World) : Calls Try.prog 135 #[.string s, .string ⟨#[c]⟩] w fun e w' => e = .returned (.bool (hasB s c)) ∧ w' = w := by
  go_enter Try.func135, Try.ntmps135
  go_wp2_with (go_at_call 154; refine (index_calls s c _).mono ?_; rintro e w1 ⟨rfl, rfl⟩)
  go_ret
  exact ⟨by rw [hasB, ← indexByte_pos]; rfl, rfl⟩
/-- What a kind has. -/
def partsS (k : Int) : ByteArray :=
  if k = 1 then ⟨#[99, 116, 98]⟩ else
  if k = 2 then ⟨#[99, 116, 100]⟩ else
  if k = 3 then ⟨#[118, 115, 101]⟩ else
  if k = 4 then ⟨#[118, 115, 101]⟩ else
  if k = 5 then ⟨#[118, 115, 101]⟩ else
  if k = 6 then ⟨#[115, 101]⟩ else
  if k = 7 then ⟨#[100]⟩ else
  if k = 8 then ⟨#[99, 116, 98]⟩ else
  if k = 9 then ⟨#[115, 99, 116, 98]⟩ else
  if k = 10 then ⟨#[115, 100]⟩ else
  if k = 11 then ⟨#[118, 115, 108, 112]⟩ else
  if k = 12 then ⟨#[118, 108]⟩ else
  if k = 13 then ⟨#[115]⟩ else
  if k = 14 then ⟨#[115, 98]⟩ else
  ⟨#[]⟩
set_option maxHeartbeats 8000000 in
set_option maxRecDepth 100000 in
theorem parts_calls (k : Int) (w : World) : Calls Try.prog 91 #[.int .i64 k] w fun e w' => e = .returned (.string (partsS k)) ∧ Below w.heap.size w w' := by
  by_cases hk : 1 ≤ k ∧ k ≤ 14
  · have : k = 1 ∨ k = 2 ∨ k = 3 ∨ k = 4 ∨ k = 5 ∨ k = 6 ∨ k = 7 ∨ k = 8 ∨ k = 9 ∨ k = 10 ∨ k = 11 ∨ k = 12 ∨ k = 13 ∨ k = 14 := by omega
    rcases this with rfl | rfl | rfl | rfl | rfl | rfl | rfl | rfl | rfl | rfl | rfl | rfl | rfl | rfl
    all_goals (
      go_enter Try.func91, Try.ntmps91
      go_wp2_with (go_at_call 127; refine (within_calls _ 1 14 _).mono ?_; rintro e w1 ⟨rfl, rfl⟩; simp only [withinB])
      go_ret
      exact ⟨rfl, by repeat (first | exact Below.refl _ _ | apply below_alloc)⟩)
  · have hw : withinB k 1 14 = false := decide_eq_false hk
    have hp : partsS k = ⟨#[]⟩ := by
      unfold partsS
      repeat rw [if_neg (by omega)]
    rw [hp]
    go_enter Try.func91, Try.ntmps91
    go_wp2_with (go_at_call 127; refine (within_calls k 1 14 _).mono ?_; rintro e w1 ⟨rfl, rfl⟩; rw [hw])
    go_ret
    exact ⟨rfl, by repeat (first | exact Below.refl _ _ | apply below_alloc)⟩
end Go.Proofs.Ytijccobeljoikaa.Ms
