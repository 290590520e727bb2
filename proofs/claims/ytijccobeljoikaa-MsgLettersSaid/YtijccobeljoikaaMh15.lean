/- Put together of my texts: MuB. -/
import Derived.Test.YtijccobeljoikaaMh14
import Derived.Test.YtijccobeljoikaaMh7
/- msg: the document: a letter's and an entry's bytes. -/
namespace Go.Proofs.Ytijccobeljoikaa.Ms
open Go.RowKit Go.Proofs.YtijccobeljoikaaW.PrintWords Go.Proofs.YtijccobeljoikaaW.PrintLast
open Go.Proofs.Ytijccobeljoikaa.Plain Go.Proofs.Ytijccobeljoikaa.Walks
set_option linter.unusedVariables false
set_option linter.unusedSimpArgs false
def rpL_T4 : Bool × List (List Nat × List Nat) := (true, [([], []), ([0], [0]), ([1], [1]), ([], []), ([3], [3]), ([4], [4]), ([], []), ([6], [6]), ([2, 5, 7], [2, 5, 7]), ([8], [8]), ([], []), ([10], [10]), ([], []), ([9, 11, 12], [9, 11, 12]), ([13, 9], [13]), ([14], [14]), ([14], [14]), ([15, 14, 0, 1, 2, 3, 4, 5, 6, 7, 8, 9, 10, 11, 12, 13, 14, 15, 16], [15]), ([16, 17, 0, 1, 2, 3, 4, 5, 6, 7, 8, 9, 10, 11, 12, 13, 14, 15, 16, 17], [16])])
def rpL_B4 : List Nat := [0, 1, 3, 0, 8, 24, 0, 64, 255, 511, 0, 1024, 0, 8191, 16383, 32767, 32767, 131071, 262143]
theorem rpL_tab4 : rtab .any (opsOf Try.f73 4) = rpL_T4 := by kernel_rfl
theorem rpL_bits4 : waitsOk rpL_T4.2 rpL_B4 = true := by kernel_rfl
def rpE_T3 : Bool × List (List Nat × List Nat) := (true, [([], []), ([0], [0]), ([1], [1]), ([], []), ([3], [3]), ([], []), ([5], [5]), ([2, 4, 6], [2, 4, 6]), ([7], [7]), ([], []), ([9], [9]), ([8, 10], [8, 10]), ([11, 8], [11]), ([12], [12]), ([12], [12]), ([13, 12, 0, 1, 2, 3, 4, 5, 6, 7, 8, 9, 10, 11, 12, 13, 14], [13]), ([14, 15, 0, 1, 2, 3, 4, 5, 6, 7, 8, 9, 10, 11, 12, 13, 14, 15], [14])])
def rpE_B3 : List Nat := [0, 1, 3, 0, 8, 0, 32, 127, 255, 0, 512, 2047, 4095, 8191, 8191, 32767, 65535]
theorem rpE_tab3 : rtab .any (opsOf Try.f76 3) = rpE_T3 := by kernel_rfl
theorem rpE_bits3 : waitsOk rpE_T3.2 rpE_B3 = true := by kernel_rfl
theorem rows_small {l : List (List Int)} {z : List Int} {x : Int} (h : joinP l = (z, x)) (hx : x = 0) : rowsSize l < 10000000000000 := by
  subst hx
  obtain ⟨_, e2, e3⟩ := joinP_some h
  have h2 := rowsSize_le e2
  have h4 : l.length * (65536 + 1) ≤ 1024 * 65537 := Nat.mul_le_mul e3 (by omega)
  omega
set_option maxHeartbeats 8000000 in
set_option maxRecDepth 100000 in
theorem refPack73_calls (m : S72) (A3 : Option Addr) (c3 : Nat) (A4 : Option Addr) (c4 : Nat) (z : List Int) (y : Int) (w : World) (hC3 : Kd.C (Kd.int .u8) w A3 m.f2.length m.f2) (hc3 : m.f2.length ≤ c3) (hC4 : Kd.C (Kd.slice 5 (Kd.int .u8)) w A4 m.f3.length m.f3) (hc4 : m.f3.length ≤ c4) (h : letterP m = (z, y)) :
    Calls Try.prog 73 #[.agg #[.int .i64 m.f0.f0, .int .i64 m.f0.f1, .int .i64 m.f1, .slice A3 m.f2.length c3, .slice A4 m.f3.length c4]] w fun e w' => ∃ A1 c1, e = .returned (.tuple #[.slice A1 z.length c1, .int .i64 y]) ∧ Got (Kd.int .u8) 5 w w' A1 c1 z := by
  have hu72 := Try.underlying72
  have hu70 := Try.underlying70
  have HC3 := Aside0.mk hC3
  have Hc3 := Aside0.mk hc3
  have HC4 := Aside0.mk hC4
  have Hc4 := Aside0.mk hc4
  have HX0 := Aside0.mk (blk_new w (.cells #[.int .i64 m.f0.f0, .int .i64 m.f0.f1, .int .i64 m.f1, .slice A3 m.f2.length c3, .slice A4 m.f3.length c4] 72))
  have HB0 := Aside0.mk (below_alloc (Below.refl w.heap.size w) (.cells #[.int .i64 m.f0.f0, .int .i64 m.f0.f1, .int .i64 m.f1, .slice A3 m.f2.length c3, .slice A4 m.f3.length c4] 72))
  unfold letterP at h
  cases hq : goodLetter m with
  | false =>
    rw [if_neg (by rw [hq]; decide)] at h
    obtain ⟨rfl, rfl⟩ := Prod.mk.inj h
    have HQ := Aside0.mk hq
    clear hC3 hc3 hC4 hc4 hq h
    go_enter Try.func73, Try.ntmps73
    go_upto_region 1 with (fail)
    generalize w.alloc (.cells #[.int .i64 m.f0.f0, .int .i64 m.f0.f1, .int .i64 m.f1, .slice A3 m.f2.length c3, .slice A4 m.f3.length c4] 72) = w0 at HX0 HB0 ⊢
    have x0 : w0.cell? ⟨w.heap.size, 0, none⟩ = some (.int .i64 m.f0.f0) := (blk_cell HX0.out 0).trans rfl
    have x1 : w0.cell? ⟨w.heap.size, 1, none⟩ = some (.int .i64 m.f0.f1) := (blk_cell HX0.out 1).trans rfl
    have x2 : w0.cell? ⟨w.heap.size, 2, none⟩ = some (.int .i64 m.f1) := (blk_cell HX0.out 2).trans rfl
    have x3 : w0.cell? ⟨w.heap.size, 3, none⟩ = some (.slice A3 m.f2.length c3) := (blk_cell HX0.out 3).trans rfl
    have x4 : w0.cell? ⟨w.heap.size, 4, none⟩ = some (.slice A4 m.f3.length c4) := (blk_cell HX0.out 4).trans rfl
    go_wp2_with (fail)
    refine (letter116_calls m A3 c3 A4 c4 w0 (Kd.C_below HC4.out HB0.out)).mono ?_
    rw [HQ.out]
    rintro e w1 ⟨rfl, hB⟩
    have HB1 := Aside0.mk (below_then HB0.out HB0.out.size hB)
    clear hB
    go_wp2_with (fail)
    go_ret2
    exact ⟨none, 0, rfl, ⟨Kd.R_nil _ _ _ _ _, HB1.out⟩⟩
  | true =>
    rw [if_pos hq] at h
    obtain ⟨hz, rfl⟩ := Prod.mk.inj h
    have hg := good72.1 hq
    obtain ⟨n3, h3⟩ : ∃ n3, n3 = encI [m.f0.f0, m.f0.f1, m.f1] := ⟨_, rfl⟩
    obtain ⟨t4, h4⟩ : ∃ t4, t4 = encL m.f3 := ⟨_, rfl⟩
    have HNUM := Aside0.mk (show numsP [m.f0.f0, m.f0.f1, m.f1] = (n3, 0) by rw [h3]; exact letter_nums hg)
    have HTAG := Aside0.mk (show joinP m.f3 = (t4, 0) by rw [h4]; exact letter_tags hg)
    have HJ := Aside0.mk (show joinP [n3, m.f2, t4] = (z, 0) by rw [h3, h4, ← hz]; exact letter_join hg)
    have HSZ := Aside0.mk (rows_small HJ.out rfl)
    have HQ := Aside0.mk hq
    clear hC3 hc3 hC4 hc4 hq h hg h3 h4 hz
    go_enter Try.func73, Try.ntmps73
    go_upto_region 1 with (fail)
    generalize w.alloc (.cells #[.int .i64 m.f0.f0, .int .i64 m.f0.f1, .int .i64 m.f1, .slice A3 m.f2.length c3, .slice A4 m.f3.length c4] 72) = w0 at HX0 HB0 ⊢
    have x0 : w0.cell? ⟨w.heap.size, 0, none⟩ = some (.int .i64 m.f0.f0) := (blk_cell HX0.out 0).trans rfl
    have x1 : w0.cell? ⟨w.heap.size, 1, none⟩ = some (.int .i64 m.f0.f1) := (blk_cell HX0.out 1).trans rfl
    have x2 : w0.cell? ⟨w.heap.size, 2, none⟩ = some (.int .i64 m.f1) := (blk_cell HX0.out 2).trans rfl
    have x3 : w0.cell? ⟨w.heap.size, 3, none⟩ = some (.slice A3 m.f2.length c3) := (blk_cell HX0.out 3).trans rfl
    have x4 : w0.cell? ⟨w.heap.size, 4, none⟩ = some (.slice A4 m.f3.length c4) := (blk_cell HX0.out 4).trans rfl
    go_wp2_with (fail)
    refine (letter116_calls m A3 c3 A4 c4 w0 (Kd.C_below HC4.out HB0.out)).mono ?_
    rw [HQ.out]
    rintro e w1 ⟨rfl, hB⟩
    have HB1 := Aside0.mk (below_then HB0.out HB0.out.size hB)
    have HX1 := Aside0.mk ((hB.block _ (blk_lt2 HX0.out)).trans HX0.out)
    clear hB x0 x1 x2 x3 x4 HX0
    have x4 : w1.cell? ⟨w.heap.size, 4, none⟩ = some (.slice A4 m.f3.length c4) := (blk_cell HX1.out 4).trans rfl
    go_wp2_with (fail)
    refine (refJoin_calls A4 c4 m.f3 t4 0 w1 (Kd.C_below HC4.out HB1.out) Hc4.out (rows_small HTAG.out rfl) HTAG.out).mono ?_
    rintro e w2 ⟨A20, c20, rfl, hG⟩
    have HG20 := Aside0.mk hG
    have HB2 := Aside0.mk (below_then HB1.out HB1.out.size hG.keep)
    have HX2 := Aside0.mk ((hG.keep.block _ (blk_lt2 HX1.out)).trans HX1.out)
    clear hG x4
    go_upto_region 4 with (fail)
    refine start_ (n := 19) (S := Held5 w.heap.size (.int .i64 m.f0.f0) (.int .i64 m.f0.f1) (.int .i64 m.f1) (.slice A3 m.f2.length c3) (.slice A4 m.f3.length c4) w2) (ds := []) #[false, false, false, false, false, false, false, false, false, false, false, false, false, false, false, false, false, false, false] (by kernel_rfl) rfl rfl
      ⟨(blk_cell HX2.out 0).trans rfl, (blk_cell HX2.out 1).trans rfl, (blk_cell HX2.out 2).trans rfl, (blk_cell HX2.out 3).trans rfl, (blk_cell HX2.out 4).trans rfl, below_drew1 (Below.refl _ _)⟩ (fun hHeld => ?_)
    generalize w2.drew = w3 at hHeld ⊢
    refine with_tabW rpL_tab4 rpL_bits4 (fun HT_ HW_ => ?_)
    refine pure_ (i := 0) (N := some 15) (v := ?_) (a' := ?_) #[true, false, false, false, false, false, false, false, false, false, false, false, false, false, false, false, false, false, false] rfl rfl (any_of HT_.out (by kernel_rfl)) (fun _ _ _ h => h) (Or.inl ⟨by rfl, ?_⟩) ?_ ?_
    rotate_left
    · intro w'
      go_simp
      with_reducible rfl
    rotate_left
    · simp only [Act.put, List.setIfInBounds_toArray, List.set_cons_zero, List.set_cons_succ, i64_w, i32_w]
      rfl
    refine pure_ (i := 1) (N := some 16) (v := ?_) (a' := ?_) #[true, true, false, false, false, false, false, false, false, false, false, false, false, false, false, false, false, false, false] rfl rfl (any_of HT_.out (by kernel_rfl)) (fun _ _ _ h => h) (Or.inl ⟨by rfl, ?_⟩) ?_ ?_
    rotate_left
    · intro w'
      go_simp
      with_reducible rfl
    rotate_left
    · simp only [Act.put, List.setIfInBounds_toArray, List.set_cons_zero, List.set_cons_succ, i64_w, i32_w]
      rfl
    refine take_ (i := 2) (N := some 17) (v := ?_) (a' := ?_) #[true, true, true, false, false, false, false, false, false, false, false, false, false, false, false, false, false, false, false] rfl rfl (take_ofW HT_.out HW_.out (by kernel_rfl)) (fun _ _ _ h => h) (Or.inl ⟨by rfl, ?_⟩) hHeld ?_ ?_
    rotate_left
    · rintro w' ⟨s0, s1, s2, s3, s4, s5⟩
      go_simp
      with_reducible rfl
    rotate_left
    · simp only [Act.put, List.setIfInBounds_toArray, List.set_cons_zero, List.set_cons_succ, i64_w, i32_w]
      rfl
    refine pure_ (i := 3) (N := some 18) (v := ?_) (a' := ?_) #[true, true, true, true, false, false, false, false, false, false, false, false, false, false, false, false, false, false, false] rfl rfl (any_of HT_.out (by kernel_rfl)) (fun _ _ _ h => h) (Or.inl ⟨by rfl, ?_⟩) ?_ ?_
    rotate_left
    · intro w'
      go_simp
      with_reducible rfl
    rotate_left
    · simp only [Act.put, List.setIfInBounds_toArray, List.set_cons_zero, List.set_cons_succ, i64_w, i32_w]
      rfl
    refine pure_ (i := 4) (N := some 19) (v := ?_) (a' := ?_) #[true, true, true, true, true, false, false, false, false, false, false, false, false, false, false, false, false, false, false] rfl rfl (any_of HT_.out (by kernel_rfl)) (fun _ _ _ h => h) (Or.inl ⟨by rfl, ?_⟩) ?_ ?_
    rotate_left
    · intro w'
      go_simp
      with_reducible rfl
    rotate_left
    · simp only [Act.put, List.setIfInBounds_toArray, List.set_cons_zero, List.set_cons_succ, i64_w, i32_w]
      rfl
    refine take_ (i := 5) (N := some 20) (v := ?_) (a' := ?_) #[true, true, true, true, true, true, false, false, false, false, false, false, false, false, false, false, false, false, false] rfl rfl (take_ofW HT_.out HW_.out (by kernel_rfl)) (fun _ _ _ h => h) (Or.inl ⟨by rfl, ?_⟩) hHeld ?_ ?_
    rotate_left
    · rintro w' ⟨s0, s1, s2, s3, s4, s5⟩
      go_simp
      with_reducible rfl
    rotate_left
    · simp only [Act.put, List.setIfInBounds_toArray, List.set_cons_zero, List.set_cons_succ, i64_w, i32_w]
      rfl
    refine pure_ (i := 6) (N := some 21) (v := ?_) (a' := ?_) #[true, true, true, true, true, true, true, false, false, false, false, false, false, false, false, false, false, false, false] rfl rfl (any_of HT_.out (by kernel_rfl)) (fun _ _ _ h => h) (Or.inl ⟨by rfl, ?_⟩) ?_ ?_
    rotate_left
    · intro w'
      go_simp
      with_reducible rfl
    rotate_left
    · simp only [Act.put, List.setIfInBounds_toArray, List.set_cons_zero, List.set_cons_succ, i64_w, i32_w]
      rfl
    refine take_ (i := 7) (N := some 22) (v := ?_) (a' := ?_) #[true, true, true, true, true, true, true, true, false, false, false, false, false, false, false, false, false, false, false] rfl rfl (take_ofW HT_.out HW_.out (by kernel_rfl)) (fun _ _ _ h => h) (Or.inl ⟨by rfl, ?_⟩) hHeld ?_ ?_
    rotate_left
    · rintro w' ⟨s0, s1, s2, s3, s4, s5⟩
      go_simp
      with_reducible rfl
    rotate_left
    · simp only [Act.put, List.setIfInBounds_toArray, List.set_cons_zero, List.set_cons_succ, i64_w, i32_w]
      rfl
    refine pure_ (i := 10) (N := some 25) (v := ?_) (a' := ?_) #[true, true, true, true, true, true, true, true, false, false, true, false, false, false, false, false, false, false, false] rfl rfl (any_of HT_.out (by kernel_rfl)) (fun _ _ _ h => h) (Or.inl ⟨by rfl, ?_⟩) ?_ ?_
    rotate_left
    · intro w'
      go_simp
      with_reducible rfl
    rotate_left
    · simp only [Act.put, List.setIfInBounds_toArray, List.set_cons_zero, List.set_cons_succ, i64_w, i32_w]
      rfl
    refine take_ (i := 11) (N := some 26) (v := ?_) (a' := ?_) #[true, true, true, true, true, true, true, true, false, false, true, true, false, false, false, false, false, false, false] rfl rfl (take_ofW HT_.out HW_.out (by kernel_rfl)) (fun _ _ _ h => h) (Or.inl ⟨by rfl, ?_⟩) hHeld ?_ ?_
    rotate_left
    · rintro w' ⟨s0, s1, s2, s3, s4, s5⟩
      go_simp
      with_reducible rfl
    rotate_left
    · simp only [Act.put, List.setIfInBounds_toArray, List.set_cons_zero, List.set_cons_succ, i64_w, i32_w]
      rfl
    refine pure_ (i := 12) (N := some 27) (v := ?_) (a' := ?_) #[true, true, true, true, true, true, true, true, false, false, true, true, true, false, false, false, false, false, false] rfl rfl (any_of HT_.out (by kernel_rfl)) (fun _ _ _ h => h) (Or.inl ⟨by rfl, ?_⟩) ?_ ?_
    rotate_left
    · intro w'
      go_simp
      with_reducible rfl
    rotate_left
    · simp only [Act.put, List.setIfInBounds_toArray, List.set_cons_zero, List.set_cons_succ, i64_w, i32_w]
      rfl
    refine one_ (i := 8) (N := some 23) #[true, true, true, true, true, true, true, true, true, false, true, true, true, false, false, false, false, false, false] rfl rfl (one_of HT_.out (by kernel_rfl)) (by decide) (fun K hK => ?_)
    go_simp
    refine hK.out _ _ (hHeld.step (below_alloc (Below.refl _ _) _)) (fun hHeld => ?_)
    clear hK K
    have HN1 := Aside0.mk (C_ints_block (l := [m.f0.f0, m.f0.f1, m.f1]) (t := 3) (fr := (0, 0)) (blk_new w3 (.cells #[.int .i64 m.f0.f0, .int .i64 m.f0.f1, .int .i64 m.f1] 3)) (by simp))
    obtain ⟨g3, hg3⟩ : ∃ g3, g3 = w3.heap.size := ⟨_, rfl⟩
    rw [← hg3] at HN1 ⊢
    clear hg3
    generalize w3.alloc (.cells #[.int .i64 m.f0.f0, .int .i64 m.f0.f1, .int .i64 m.f1] 3) = w4 at hHeld HN1 ⊢
    refine one_ (i := 9) (N := some 24) #[true, true, true, true, true, true, true, true, true, true, true, true, true, false, false, false, false, false, false] rfl rfl (one_of HT_.out (by kernel_rfl)) (by decide) (fun K hK => ?_)
    refine goes_ Try.func101 (by kernel_rfl) rfl #[.slice (some ⟨g3, 0, none⟩) 3 3] (by rfl) rfl rfl (by (try simp only [List.map_toArray, List.map_cons, List.map_nil]); first | done | rfl) ?_
    refine (refnums_calls (some _) 3 [m.f0.f0, m.f0.f1, m.f1] n3 0 _ HN1.out (by simp) (by simp) HNUM.out).mono ?_
    rintro e w5 ⟨A15, c15, rfl, hG⟩
    refine ⟨_, rfl, ?_⟩
    have HG15 := Aside0.mk hG
    refine hK.out _ _ (hHeld.step hG.keep) (fun hHeld => ?_)
    clear hK K hG HN1
    refine norm_ (a' := ?_) ?_ ?_
    rotate_left
    · show Act.put _ (some 24) _ = _
      simp only [Act.put, List.setIfInBounds_toArray, List.set_cons_zero, List.set_cons_succ, i64_w, i32_w]
      rfl
    refine one_ (i := 13) (N := some 28) #[true, true, true, true, true, true, true, true, true, true, true, true, true, true, false, false, false, false, false] rfl rfl (one_of HT_.out (by kernel_rfl)) (by decide) (fun K hK => ?_)
    go_simp
    refine hK.out _ _ (hHeld.step (below_alloc (Below.refl _ _) _)) (fun hHeld => ?_)
    clear hK K
    have HR := Aside0.mk (rows_of_block (vs := [(A15, n3.length, c15), (A3, m.f2.length, c3), (A20, t4.length, c20)]) (zs := [n3, m.f2, t4]) (blk_new w5 (.cells #[.slice A15 n3.length c15, .slice A3 m.f2.length c3, .slice A20 t4.length c20] 22)) (bys_cons HG15.out.cap (Kd.C_alloc HG15.out.row _) (bys_cons Hc3.out (Kd.C_below HC3.out (below_then HB2.out HB2.out.size hHeld.2.2.2.2.2)) (bys_cons HG20.out.cap (Kd.C_below HG20.out.row hHeld.2.2.2.2.2) (bys_nil _)))) (by simp))
    obtain ⟨g6, hg6⟩ : ∃ g6, g6 = w5.heap.size := ⟨_, rfl⟩
    rw [← hg6] at HR ⊢
    clear hg6 HG15
    generalize w5.alloc (.cells #[.slice A15 n3.length c15, .slice A3 m.f2.length c3, .slice A20 t4.length c20] 22) = w7 at hHeld HR ⊢
    refine one_ (i := 14) (N := some 29) #[true, true, true, true, true, true, true, true, true, true, true, true, true, true, true, false, false, false, false] rfl rfl (one_of HT_.out (by kernel_rfl)) (by decide) (fun K hK => ?_)
    refine goes_ Try.func32 (by kernel_rfl) rfl #[.slice (some ⟨g6, 0, none⟩) 3 3] (by rfl) rfl rfl (by (try simp only [List.map_toArray, List.map_cons, List.map_nil]); first | done | rfl) ?_
    refine (refJoin_calls (some _) 3 [n3, m.f2, t4] z 0 _ HR.out (by simp) HSZ.out HJ.out).mono ?_
    rintro e w8 ⟨A22, c22, rfl, hG⟩
    refine ⟨_, rfl, ?_⟩
    have HG22 := Aside0.mk hG
    have HB7 := Aside0.mk (below_then HB2.out HB2.out.size hHeld.2.2.2.2.2)
    refine hK.out _ _ (hHeld.step hG.keep) (fun hHeld => ?_)
    clear hK K hG HR
    refine norm_ (a' := ?_) ?_ ?_
    rotate_left
    · show Act.put _ (some 29) _ = _
      simp only [Act.put, List.setIfInBounds_toArray, List.set_cons_zero, List.set_cons_succ, i64_w, i32_w]
      rfl
    refine pure_ (i := 15) (N := some 30) (v := ?_) (a' := ?_) #[true, true, true, true, true, true, true, true, true, true, true, true, true, true, true, true, false, false, false] rfl rfl (any_of HT_.out (by kernel_rfl)) (fun _ _ _ h => h) (Or.inl ⟨by rfl, ?_⟩) ?_ ?_
    rotate_left
    · intro w'
      go_simp
      with_reducible rfl
    rotate_left
    · simp only [Act.put, List.setIfInBounds_toArray, List.set_cons_zero, List.set_cons_succ, i64_w, i32_w]
      rfl
    refine pure_ (i := 16) (N := some 31) (v := ?_) (a' := ?_) #[true, true, true, true, true, true, true, true, true, true, true, true, true, true, true, true, true, false, false] rfl rfl (any_of HT_.out (by kernel_rfl)) (fun _ _ _ h => h) (Or.inl ⟨by rfl, ?_⟩) ?_ ?_
    rotate_left
    · intro w'
      go_simp
      with_reducible rfl
    rotate_left
    · simp only [Act.put, List.setIfInBounds_toArray, List.set_cons_zero, List.set_cons_succ, i64_w, i32_w]
      rfl
    refine pure_ (i := 17) (N := some 2) (v := ?_) (a' := ?_) #[true, true, true, true, true, true, true, true, true, true, true, true, true, true, true, true, true, true, false] rfl rfl (any_of HT_.out (by kernel_rfl)) (fun _ _ _ h => h) (Or.inl ⟨by rfl, ?_⟩) ?_ ?_
    rotate_left
    · intro w'
      go_simp
      with_reducible rfl
    rotate_left
    · simp only [Act.put, List.setIfInBounds_toArray, List.set_cons_zero, List.set_cons_succ, i64_w, i32_w]
      rfl
    refine pure_ (i := 18) (N := some 3) (v := ?_) (a' := ?_) #[true, true, true, true, true, true, true, true, true, true, true, true, true, true, true, true, true, true, true] rfl rfl (any_of HT_.out (by kernel_rfl)) (fun _ _ _ h => h) (Or.inl ⟨by rfl, ?_⟩) ?_ ?_
    rotate_left
    · intro w'
      go_simp
      with_reducible rfl
    rotate_left
    · simp only [Act.put, List.setIfInBounds_toArray, List.set_cons_zero, List.set_cons_succ, i64_w, i32_w]
      rfl
    refine done_ (done_of HT_.out (by kernel_rfl)) ?_
    go_wp2_with (fail)
    go_ret2
    exact ⟨_, _, rfl, HG22.out.lift HB7.out⟩
set_option maxHeartbeats 8000000 in
set_option maxRecDepth 100000 in
theorem refPack76_calls (x : S87) (A3 : Option Addr) (c3 : Nat) (z : List Int) (y : Int) (w : World) (hC3 : Kd.C (Kd.int .u8) w A3 x.f3.length x.f3) (hc3 : x.f3.length ≤ c3) (h : entryP x = (z, y)) :
    Calls Try.prog 76 #[.agg #[.int .i64 x.f0, .int .i64 x.f1, .int .i64 x.f2, .slice A3 x.f3.length c3]] w fun e w' => ∃ A1 c1, e = .returned (.tuple #[.slice A1 z.length c1, .int .i64 y]) ∧ Got (Kd.int .u8) 5 w w' A1 c1 z := by
  have hu87 := Try.underlying87
  have HC3 := Aside0.mk hC3
  have Hc3 := Aside0.mk hc3
  have HX0 := Aside0.mk (blk_new w (.cells #[.int .i64 x.f0, .int .i64 x.f1, .int .i64 x.f2, .slice A3 x.f3.length c3] 87))
  have HB0 := Aside0.mk (below_alloc (Below.refl w.heap.size w) (.cells #[.int .i64 x.f0, .int .i64 x.f1, .int .i64 x.f2, .slice A3 x.f3.length c3] 87))
  unfold entryP at h
  cases hq : goodEntry x with
  | false =>
    rw [if_neg (by rw [hq]; decide)] at h
    obtain ⟨rfl, rfl⟩ := Prod.mk.inj h
    have HQ := Aside0.mk hq
    clear hC3 hc3 hq h
    go_enter Try.func76, Try.ntmps76
    go_upto_region 1 with (fail)
    generalize w.alloc (.cells #[.int .i64 x.f0, .int .i64 x.f1, .int .i64 x.f2, .slice A3 x.f3.length c3] 87) = w0 at HX0 HB0 ⊢
    have x0 : w0.cell? ⟨w.heap.size, 0, none⟩ = some (.int .i64 x.f0) := (blk_cell HX0.out 0).trans rfl
    have x1 : w0.cell? ⟨w.heap.size, 1, none⟩ = some (.int .i64 x.f1) := (blk_cell HX0.out 1).trans rfl
    have x2 : w0.cell? ⟨w.heap.size, 2, none⟩ = some (.int .i64 x.f2) := (blk_cell HX0.out 2).trans rfl
    have x3 : w0.cell? ⟨w.heap.size, 3, none⟩ = some (.slice A3 x.f3.length c3) := (blk_cell HX0.out 3).trans rfl
    go_wp2_with (fail)
    refine (entry119_calls x A3 c3 w0).mono ?_
    rw [HQ.out]
    rintro e w1 ⟨rfl, hB⟩
    have HB1 := Aside0.mk (below_then HB0.out HB0.out.size hB)
    clear hB
    go_wp2_with (fail)
    go_ret2
    exact ⟨none, 0, rfl, ⟨Kd.R_nil _ _ _ _ _, HB1.out⟩⟩
  | true =>
    rw [if_pos hq] at h
    obtain ⟨hz, rfl⟩ := Prod.mk.inj h
    have hg := good87 hq
    obtain ⟨n3, h3⟩ : ∃ n3, n3 = encI [x.f0 + 1, x.f1, x.f2] := ⟨_, rfl⟩
    have HNUM := Aside0.mk (show numsP [x.f0 + 1, x.f1, x.f2] = (n3, 0) by rw [h3]; exact entry_nums hg)
    have HJ := Aside0.mk (show joinP [n3, x.f3] = (z, 0) by rw [h3, ← hz]; exact entry_join hg)
    have HSZ := Aside0.mk (rows_small HJ.out rfl)
    have HQ := Aside0.mk hq
    obtain ⟨hx0, hx7⟩ := hg.c
    clear hC3 hc3 hq h hg h3 hz
    go_enter Try.func76, Try.ntmps76
    go_upto_region 1 with (fail)
    generalize w.alloc (.cells #[.int .i64 x.f0, .int .i64 x.f1, .int .i64 x.f2, .slice A3 x.f3.length c3] 87) = w0 at HX0 HB0 ⊢
    have x0 : w0.cell? ⟨w.heap.size, 0, none⟩ = some (.int .i64 x.f0) := (blk_cell HX0.out 0).trans rfl
    have x1 : w0.cell? ⟨w.heap.size, 1, none⟩ = some (.int .i64 x.f1) := (blk_cell HX0.out 1).trans rfl
    have x2 : w0.cell? ⟨w.heap.size, 2, none⟩ = some (.int .i64 x.f2) := (blk_cell HX0.out 2).trans rfl
    have x3 : w0.cell? ⟨w.heap.size, 3, none⟩ = some (.slice A3 x.f3.length c3) := (blk_cell HX0.out 3).trans rfl
    go_wp2_with (fail)
    refine (entry119_calls x A3 c3 w0).mono ?_
    rw [HQ.out]
    rintro e w2 ⟨rfl, hB⟩
    have HB2 := Aside0.mk (below_then HB0.out HB0.out.size hB)
    have HX2 := Aside0.mk ((hB.block _ (blk_lt2 HX0.out)).trans HX0.out)
    clear hB x0 x1 x2 x3 HX0
    go_upto_region 3 with (fail)
    refine start_ (n := 17) (S := Held4 w.heap.size (.int .i64 x.f0) (.int .i64 x.f1) (.int .i64 x.f2) (.slice A3 x.f3.length c3) w2) (ds := []) #[false, false, false, false, false, false, false, false, false, false, false, false, false, false, false, false, false] (by kernel_rfl) rfl rfl
      ⟨(blk_cell HX2.out 0).trans rfl, (blk_cell HX2.out 1).trans rfl, (blk_cell HX2.out 2).trans rfl, (blk_cell HX2.out 3).trans rfl, below_drew1 (Below.refl _ _)⟩ (fun hHeld => ?_)
    generalize w2.drew = w3 at hHeld ⊢
    refine with_tabW rpE_tab3 rpE_bits3 (fun HT_ HW_ => ?_)
    refine pure_ (i := 0) (N := some 7) (v := ?_) (a' := ?_) #[true, false, false, false, false, false, false, false, false, false, false, false, false, false, false, false, false] rfl rfl (any_of HT_.out (by kernel_rfl)) (fun _ _ _ h => h) (Or.inl ⟨by rfl, ?_⟩) ?_ ?_
    rotate_left
    · intro w'
      go_simp
      with_reducible rfl
    rotate_left
    · simp only [Act.put, List.setIfInBounds_toArray, List.set_cons_zero, List.set_cons_succ, i64_w, i32_w]
      rfl
    refine take_ (i := 1) (N := some 8) (v := ?_) (a' := ?_) #[true, true, false, false, false, false, false, false, false, false, false, false, false, false, false, false, false] rfl rfl (take_ofW HT_.out HW_.out (by kernel_rfl)) (fun _ _ _ h => h) (Or.inl ⟨by rfl, ?_⟩) hHeld ?_ ?_
    rotate_left
    · rintro w' ⟨s0, s1, s2, s3, s4⟩
      go_simp
      with_reducible rfl
    rotate_left
    · simp only [Act.put, List.setIfInBounds_toArray, List.set_cons_zero, List.set_cons_succ, i64_w, i32_w]
      rfl
    refine pure_ (i := 2) (N := some 9) (v := ?_) (a' := ?_) #[true, true, true, false, false, false, false, false, false, false, false, false, false, false, false, false, false] rfl rfl (any_of HT_.out (by kernel_rfl)) (fun _ _ _ h => h) (Or.inl ⟨by rfl, ?_⟩) ?_ ?_
    rotate_left
    · intro w'
      go_simp
      with_reducible rfl
    rotate_left
    · simp only [Act.put, List.setIfInBounds_toArray, List.set_cons_zero, List.set_cons_succ, i64_w, i32_w]
      rfl
    refine pure_ (i := 3) (N := some 10) (v := ?_) (a' := ?_) #[true, true, true, true, false, false, false, false, false, false, false, false, false, false, false, false, false] rfl rfl (any_of HT_.out (by kernel_rfl)) (fun _ _ _ h => h) (Or.inl ⟨by rfl, ?_⟩) ?_ ?_
    rotate_left
    · intro w'
      go_simp
      with_reducible rfl
    rotate_left
    · simp only [Act.put, List.setIfInBounds_toArray, List.set_cons_zero, List.set_cons_succ, i64_w, i32_w]
      rfl
    refine take_ (i := 4) (N := some 11) (v := ?_) (a' := ?_) #[true, true, true, true, true, false, false, false, false, false, false, false, false, false, false, false, false] rfl rfl (take_ofW HT_.out HW_.out (by kernel_rfl)) (fun _ _ _ h => h) (Or.inl ⟨by rfl, ?_⟩) hHeld ?_ ?_
    rotate_left
    · rintro w' ⟨s0, s1, s2, s3, s4⟩
      go_simp
      with_reducible rfl
    rotate_left
    · simp only [Act.put, List.setIfInBounds_toArray, List.set_cons_zero, List.set_cons_succ, i64_w, i32_w]
      rfl
    refine pure_ (i := 5) (N := some 12) (v := ?_) (a' := ?_) #[true, true, true, true, true, true, false, false, false, false, false, false, false, false, false, false, false] rfl rfl (any_of HT_.out (by kernel_rfl)) (fun _ _ _ h => h) (Or.inl ⟨by rfl, ?_⟩) ?_ ?_
    rotate_left
    · intro w'
      go_simp
      with_reducible rfl
    rotate_left
    · simp only [Act.put, List.setIfInBounds_toArray, List.set_cons_zero, List.set_cons_succ, i64_w, i32_w]
      rfl
    refine take_ (i := 6) (N := some 13) (v := ?_) (a' := ?_) #[true, true, true, true, true, true, true, false, false, false, false, false, false, false, false, false, false] rfl rfl (take_ofW HT_.out HW_.out (by kernel_rfl)) (fun _ _ _ h => h) (Or.inl ⟨by rfl, ?_⟩) hHeld ?_ ?_
    rotate_left
    · rintro w' ⟨s0, s1, s2, s3, s4⟩
      go_simp
      with_reducible rfl
    rotate_left
    · simp only [Act.put, List.setIfInBounds_toArray, List.set_cons_zero, List.set_cons_succ, i64_w, i32_w]
      rfl
    refine pure_ (i := 9) (N := some 16) (v := ?_) (a' := ?_) #[true, true, true, true, true, true, true, false, false, true, false, false, false, false, false, false, false] rfl rfl (any_of HT_.out (by kernel_rfl)) (fun _ _ _ h => h) (Or.inl ⟨by rfl, ?_⟩) ?_ ?_
    rotate_left
    · intro w'
      go_simp
      with_reducible rfl
    rotate_left
    · simp only [Act.put, List.setIfInBounds_toArray, List.set_cons_zero, List.set_cons_succ, i64_w, i32_w]
      rfl
    refine take_ (i := 10) (N := some 17) (v := ?_) (a' := ?_) #[true, true, true, true, true, true, true, false, false, true, true, false, false, false, false, false, false] rfl rfl (take_ofW HT_.out HW_.out (by kernel_rfl)) (fun _ _ _ h => h) (Or.inl ⟨by rfl, ?_⟩) hHeld ?_ ?_
    rotate_left
    · rintro w' ⟨s0, s1, s2, s3, s4⟩
      go_simp
      with_reducible rfl
    rotate_left
    · simp only [Act.put, List.setIfInBounds_toArray, List.set_cons_zero, List.set_cons_succ, i64_w, i32_w]
      rfl
    refine one_ (i := 7) (N := some 14) #[true, true, true, true, true, true, true, true, false, true, true, false, false, false, false, false, false] rfl rfl (one_of HT_.out (by kernel_rfl)) (by decide) (fun K hK => ?_)
    go_simp
    rw [show wrap64 (x.f0 + 1) = x.f0 + 1 by unfold wrap64; omega]
    refine hK.out _ _ (hHeld.step (below_alloc (Below.refl _ _) _)) (fun hHeld => ?_)
    clear hK K
    have HN1 := Aside0.mk (C_ints_block (l := [x.f0 + 1, x.f1, x.f2]) (t := 3) (fr := (0, 0)) (blk_new w3 (.cells #[.int .i64 (x.f0 + 1), .int .i64 x.f1, .int .i64 x.f2] 3)) (by simp))
    obtain ⟨g3, hg3⟩ : ∃ g3, g3 = w3.heap.size := ⟨_, rfl⟩
    rw [← hg3] at HN1 ⊢
    clear hg3
    generalize w3.alloc (.cells #[.int .i64 (x.f0 + 1), .int .i64 x.f1, .int .i64 x.f2] 3) = w4 at hHeld HN1 ⊢
    refine one_ (i := 8) (N := some 15) #[true, true, true, true, true, true, true, true, true, true, true, false, false, false, false, false, false] rfl rfl (one_of HT_.out (by kernel_rfl)) (by decide) (fun K hK => ?_)
    refine goes_ Try.func101 (by kernel_rfl) rfl #[.slice (some ⟨g3, 0, none⟩) 3 3] (by rfl) rfl rfl (by (try simp only [List.map_toArray, List.map_cons, List.map_nil]); first | done | rfl) ?_
    refine (refnums_calls (some _) 3 [x.f0 + 1, x.f1, x.f2] n3 0 _ HN1.out (by simp) (by simp) HNUM.out).mono ?_
    rintro e w5 ⟨A15, c15, rfl, hG⟩
    refine ⟨_, rfl, ?_⟩
    have HG15 := Aside0.mk hG
    refine hK.out _ _ (hHeld.step hG.keep) (fun hHeld => ?_)
    clear hK K hG HN1
    refine norm_ (a' := ?_) ?_ ?_
    rotate_left
    · show Act.put _ (some 15) _ = _
      simp only [Act.put, List.setIfInBounds_toArray, List.set_cons_zero, List.set_cons_succ, i64_w, i32_w]
      rfl
    refine one_ (i := 11) (N := some 18) #[true, true, true, true, true, true, true, true, true, true, true, true, false, false, false, false, false] rfl rfl (one_of HT_.out (by kernel_rfl)) (by decide) (fun K hK => ?_)
    go_simp
    refine hK.out _ _ (hHeld.step (below_alloc (Below.refl _ _) _)) (fun hHeld => ?_)
    clear hK K
    have HR := Aside0.mk (rows_of_block (vs := [(A15, n3.length, c15), (A3, x.f3.length, c3)]) (zs := [n3, x.f3]) (blk_new w5 (.cells #[.slice A15 n3.length c15, .slice A3 x.f3.length c3] 22)) (bys_cons HG15.out.cap (Kd.C_alloc HG15.out.row _) (bys_cons Hc3.out (Kd.C_below HC3.out (below_then HB2.out HB2.out.size hHeld.2.2.2.2)) (bys_nil _))) (by simp))
    obtain ⟨g6, hg6⟩ : ∃ g6, g6 = w5.heap.size := ⟨_, rfl⟩
    rw [← hg6] at HR ⊢
    clear hg6 HG15
    generalize w5.alloc (.cells #[.slice A15 n3.length c15, .slice A3 x.f3.length c3] 22) = w7 at hHeld HR ⊢
    refine one_ (i := 12) (N := some 19) #[true, true, true, true, true, true, true, true, true, true, true, true, true, false, false, false, false] rfl rfl (one_of HT_.out (by kernel_rfl)) (by decide) (fun K hK => ?_)
    refine goes_ Try.func32 (by kernel_rfl) rfl #[.slice (some ⟨g6, 0, none⟩) 2 2] (by rfl) rfl rfl (by (try simp only [List.map_toArray, List.map_cons, List.map_nil]); first | done | rfl) ?_
    refine (refJoin_calls (some _) 2 [n3, x.f3] z 0 _ HR.out (by simp) HSZ.out HJ.out).mono ?_
    rintro e w8 ⟨A22, c22, rfl, hG⟩
    refine ⟨_, rfl, ?_⟩
    have HG22 := Aside0.mk hG
    have HB7 := Aside0.mk (below_then HB2.out HB2.out.size hHeld.2.2.2.2)
    refine hK.out _ _ (hHeld.step hG.keep) (fun hHeld => ?_)
    clear hK K hG HR
    refine norm_ (a' := ?_) ?_ ?_
    rotate_left
    · show Act.put _ (some 19) _ = _
      simp only [Act.put, List.setIfInBounds_toArray, List.set_cons_zero, List.set_cons_succ, i64_w, i32_w]
      rfl
    refine pure_ (i := 13) (N := some 20) (v := ?_) (a' := ?_) #[true, true, true, true, true, true, true, true, true, true, true, true, true, true, false, false, false] rfl rfl (any_of HT_.out (by kernel_rfl)) (fun _ _ _ h => h) (Or.inl ⟨by rfl, ?_⟩) ?_ ?_
    rotate_left
    · intro w'
      go_simp
      with_reducible rfl
    rotate_left
    · simp only [Act.put, List.setIfInBounds_toArray, List.set_cons_zero, List.set_cons_succ, i64_w, i32_w]
      rfl
    refine pure_ (i := 14) (N := some 21) (v := ?_) (a' := ?_) #[true, true, true, true, true, true, true, true, true, true, true, true, true, true, true, false, false] rfl rfl (any_of HT_.out (by kernel_rfl)) (fun _ _ _ h => h) (Or.inl ⟨by rfl, ?_⟩) ?_ ?_
    rotate_left
    · intro w'
      go_simp
      with_reducible rfl
    rotate_left
    · simp only [Act.put, List.setIfInBounds_toArray, List.set_cons_zero, List.set_cons_succ, i64_w, i32_w]
      rfl
    refine pure_ (i := 15) (N := some 2) (v := ?_) (a' := ?_) #[true, true, true, true, true, true, true, true, true, true, true, true, true, true, true, true, false] rfl rfl (any_of HT_.out (by kernel_rfl)) (fun _ _ _ h => h) (Or.inl ⟨by rfl, ?_⟩) ?_ ?_
    rotate_left
    · intro w'
      go_simp
      with_reducible rfl
    rotate_left
    · simp only [Act.put, List.setIfInBounds_toArray, List.set_cons_zero, List.set_cons_succ, i64_w, i32_w]
      rfl
    refine pure_ (i := 16) (N := some 3) (v := ?_) (a' := ?_) #[true, true, true, true, true, true, true, true, true, true, true, true, true, true, true, true, true] rfl rfl (any_of HT_.out (by kernel_rfl)) (fun _ _ _ h => h) (Or.inl ⟨by rfl, ?_⟩) ?_ ?_
    rotate_left
    · intro w'
      go_simp
      with_reducible rfl
    rotate_left
    · simp only [Act.put, List.setIfInBounds_toArray, List.set_cons_zero, List.set_cons_succ, i64_w, i32_w]
      rfl
    refine done_ (done_of HT_.out (by kernel_rfl)) ?_
    go_wp2_with (fail)
    go_ret2
    exact ⟨_, _, rfl, HG22.out.lift HB7.out⟩
end Go.Proofs.Ytijccobeljoikaa.Ms
