/- Put together of my texts: MuB, MuF, MuH. -/
import Derived.Test.YtijccobeljoikaaMh14
import Derived.Test.YtijccobeljoikaaMh7
/- msg: the document: a letter's and an entry's bytes. -/
namespace Go.Proofs.Ytijccobeljoikaa.Ms
open Go.RowKit Go.Proofs.YtijccobeljoikaaW.PrintWords Go.Proofs.YtijccobeljoikaaW.PrintLast
open Go.Proofs.Ytijccobeljoikaa.Plain Go.Proofs.Ytijccobeljoikaa.Walks
set_option linter.unusedVariables false
set_option linter.unusedSimpArgs false
def rpL_T4 : Bool × List (List Nat × List Nat) := (true, [([], []), ([0], [0]), ([1], [1]), ([], []), ([3], [3]), ([4], [4]), ([], []), ([6], [6]), ([2, 5, 7], [2, 5, 7]), ([8], [8]), ([], []), ([10], [10]), ([], []), ([9, 11, 12], [9, 11, 12]), ([13, 9], [13]), ([14], [14]), ([14], [14]), ([15, 14, 0, 1, 2, 3, 4, 5, 6, 7, 8, 9, 10, 11, 12, 13, 14, 15, 16], [15]), ([16, 17, 0, 1, 2, 3, 4, 5, 6, 7, 8, 9, 10, 11, 12, 13, 14, 15, 16, 17], [16])])
def rpL_B4 : List Nat := [0, 1, 3, 0, 8, 24, 0, 64, 255, 511, 0, 1024, 0, 8191, 16383, 32767, 32767, 131071, 262143]
theorem rpL_tab4 : rtab .any (opsOf Try.f73 4) = rpL_T4 := by kernel_rfl
theorem rpL_bits4 : waitsOk rpL_T4.2 rpL_B4 = true := by kernel_rfl
def rpE_T3 : Bool × List (List Nat × List Nat) := (true, [([], []), ([0], [0]), ([1], [1]), ([], []), ([3], [3]), ([], []), ([5], [5]), ([2, 4, 6], [2, 4, 6]), ([7], [7]), ([], []), ([9], [9]), ([8, 10], [8, 10]), ([11, 8], [11]), ([12], [12]), ([12], [12]), ([13, 12, 0, 1, 2, 3, 4, 5, 6, 7, 8, 9, 10, 11, 12, 13, 14], [13]), ([14, 15, 0, 1, 2, 3, 4, 5, 6, 7, 8, 9, 10, 11, 12, 13, 14, 15], [14])])
def rpE_B3 : List Nat := [0, 1, 3, 0, 8, 0, 32, 127, 255, 0, 512, 2047, 4095, 8191, 8191, 32767, 65535]
theorem rpE_tab3 : rtab .any (opsOf Try.f76 3) = rpE_T3 := by kernel_rfl
theorem rpE_bits3 : waitsOk rpE_T3.2 rpE_B3 = true := by kernel_rfl
theorem rows_small {l : List (List Int)} {z : List Int} {x : Int} (h : joinP l = (z, x)) (hx : x = 0) : rowsSize l < 10000000000000 := by
  subst hx
  obtain ⟨_, e2, e3⟩ := joinP_some h
  have h2 := rowsSize_le e2
  have h4 : l.length * (65536 + 1) ≤ 1024 * 65537 := Nat.mul_le_mul e3 (by omega)
  omega
set_option maxHeartbeats 8000000 in
set_option maxRecDepth 100000 in
theorem refPack73_calls (m : S72) (A3 : Option Addr) (c3 : Nat) (A4 : Option Addr) (c4 : Nat) (z : List Int) (y : Int) (w : World) (hC3 : Kd.C (Kd.int .u8) w A3 m.f2.length m.f2) (hc3 : m.f2.length ≤ c3) (hC4 : Kd.C (Kd.slice 5 (Kd.int .u8)) w A4 m.f3.length m.f3) (hc4 : m.f3.length ≤ c4) (h : letterP m = (z, y)) :
    Calls Try.prog 73 #[.agg #[.int .i64 m.f0.f0, .int .i64 m.f0.f1, .int .i64 m.f1, .slice A3 m.f2.length c3, .slice A4 m.f3.length c4]] w fun e w' => ∃ A1 c1, e = .returned (.tuple #[.slice A1 z.length c1, .int .i64 y]) ∧ Got (Kd.int .u8) 5 w w' A1 c1 z := by
  have hu72 := Try.underlying72
  have hu70 := Try.underlying70
  have HC3 := Aside0.mk hC3
  have Hc3 := Aside0.mk hc3
  have HC4 := Aside0.mk hC4
  have Hc4 := Aside0.mk hc4
  have HX0 := Aside0.mk (blk_new w (.cells #[.int .i64 m.f0.f0, .int .i64 m.f0.f1, .int .i64 m.f1, .slice A3 m.f2.length c3, .slice A4 m.f3.length c4] 72))
  have HB0 := Aside0.mk (below_alloc (Below.refl w.heap.size w) (.cells #[.int .i64 m.f0.f0, .int .i64 m.f0.f1, .int .i64 m.f1, .slice A3 m.f2.length c3, .slice A4 m.f3.length c4] 72))
  unfold letterP at h
  cases hq : goodLetter m with
  | false =>
    rw [if_neg (by rw [hq]; decide)] at h
    obtain ⟨rfl, rfl⟩ := Prod.mk.inj h
    have HQ := Aside0.mk hq
    clear hC3 hc3 hC4 hc4 hq h
    go_enter Try.func73, Try.ntmps73
    go_upto_region 1 with (fail)
    generalize w.alloc (.cells #[.int .i64 m.f0.f0, .int .i64 m.f0.f1, .int .i64 m.f1, .slice A3 m.f2.length c3, .slice A4 m.f3.length c4] 72) = w0 at HX0 HB0 ⊢
    have x0 : w0.cell? ⟨w.heap.size, 0, none⟩ = some (.int .i64 m.f0.f0) := (blk_cell HX0.out 0).trans rfl
    have x1 : w0.cell? ⟨w.heap.size, 1, none⟩ = some (.int .i64 m.f0.f1) := (blk_cell HX0.out 1).trans rfl
    have x2 : w0.cell? ⟨w.heap.size, 2, none⟩ = some (.int .i64 m.f1) := (blk_cell HX0.out 2).trans rfl
    have x3 : w0.cell? ⟨w.heap.size, 3, none⟩ = some (.slice A3 m.f2.length c3) := (blk_cell HX0.out 3).trans rfl
    have x4 : w0.cell? ⟨w.heap.size, 4, none⟩ = some (.slice A4 m.f3.length c4) := (blk_cell HX0.out 4).trans rfl
    go_wp2_with (fail)
    refine (letter116_calls m A3 c3 A4 c4 w0 (Kd.C_below HC4.out HB0.out)).mono ?_
    rw [HQ.out]
    rintro e w1 ⟨rfl, hB⟩
    have HB1 := Aside0.mk (below_then HB0.out HB0.out.size hB)
    clear hB
    go_wp2_with (fail)
    go_ret2
    exact ⟨none, 0, rfl, ⟨Kd.R_nil _ _ _ _ _, HB1.out⟩⟩
  | true =>
    rw [if_pos hq] at h
    obtain ⟨hz, rfl⟩ := Prod.mk.inj h
    have hg := good72.1 hq
    obtain ⟨n3, h3⟩ : ∃ n3, n3 = encI [m.f0.f0, m.f0.f1, m.f1] := ⟨_, rfl⟩
    obtain ⟨t4, h4⟩ : ∃ t4, t4 = encL m.f3 := ⟨_, rfl⟩
    have HNUM := Aside0.mk (show numsP [m.f0.f0, m.f0.f1, m.f1] = (n3, 0) by rw [h3]; exact letter_nums hg)
    have HTAG := Aside0.mk (show joinP m.f3 = (t4, 0) by rw [h4]; exact letter_tags hg)
    have HJ := Aside0.mk (show joinP [n3, m.f2, t4] = (z, 0) by rw [h3, h4, ← hz]; exact letter_join hg)
    have HSZ := Aside0.mk (rows_small HJ.out rfl)
    have HQ := Aside0.mk hq
    clear hC3 hc3 hC4 hc4 hq h hg h3 h4 hz
    go_enter Try.func73, Try.ntmps73
    go_upto_region 1 with (fail)
    generalize w.alloc (.cells #[.int .i64 m.f0.f0, .int .i64 m.f0.f1, .int .i64 m.f1, .slice A3 m.f2.length c3, .slice A4 m.f3.length c4] 72) = w0 at HX0 HB0 ⊢
    have x0 : w0.cell? ⟨w.heap.size, 0, none⟩ = some (.int .i64 m.f0.f0) := (blk_cell HX0.out 0).trans rfl
    have x1 : w0.cell? ⟨w.heap.size, 1, none⟩ = some (.int .i64 m.f0.f1) := (blk_cell HX0.out 1).trans rfl
    have x2 : w0.cell? ⟨w.heap.size, 2, none⟩ = some (.int .i64 m.f1) := (blk_cell HX0.out 2).trans rfl
    have x3 : w0.cell? ⟨w.heap.size, 3, none⟩ = some (.slice A3 m.f2.length c3) := (blk_cell HX0.out 3).trans rfl
    have x4 : w0.cell? ⟨w.heap.size, 4, none⟩ = some (.slice A4 m.f3.length c4) := (blk_cell HX0.out 4).trans rfl
    go_wp2_with (fail)
    refine (letter116_calls m A3 c3 A4 c4 w0 (Kd.C_below HC4.out HB0.out)).mono ?_
    rw [HQ.out]
    rintro e w1 ⟨rfl, hB⟩
    have HB1 := Aside0.mk (below_then HB0.out HB0.out.size hB)
    have HX1 := Aside0.mk ((hB.block _ (blk_lt2 HX0.out)).trans HX0.out)
    clear hB x0 x1 x2 x3 x4 HX0
    have x4 : w1.cell? ⟨w.heap.size, 4, none⟩ = some (.slice A4 m.f3.length c4) := (blk_cell HX1.out 4).trans rfl
    go_wp2_with (fail)
    refine (refJoin_calls A4 c4 m.f3 t4 0 w1 (Kd.C_below HC4.out HB1.out) Hc4.out (rows_small HTAG.out rfl) HTAG.out).mono ?_
    rintro e w2 ⟨A20, c20, rfl, hG⟩
    have HG20 := Aside0.mk hG
    have HB2 := Aside0.mk (below_then HB1.out HB1.out.size hG.keep)
    have HX2 := Aside0.mk ((hG.keep.block _ (blk_lt2 HX1.out)).trans HX1.out)
    clear hG x4
    go_upto_region 4 with (fail)
    refine start_ (n := 19) (S := Held5 w.heap.size (.int .i64 m.f0.f0) (.int .i64 m.f0.f1) (.int .i64 m.f1) (.slice A3 m.f2.length c3) (.slice A4 m.f3.length c4) w2) (ds := []) #[false, false, false, false, false, false, false, false, false, false, false, false, false, false, false, false, false, false, false] (by kernel_rfl) rfl rfl
      ⟨(blk_cell HX2.out 0).trans rfl, (blk_cell HX2.out 1).trans rfl, (blk_cell HX2.out 2).trans rfl, (blk_cell HX2.out 3).trans rfl, (blk_cell HX2.out 4).trans rfl, below_drew1 (Below.refl _ _)⟩ (fun hHeld => ?_)
    generalize w2.drew = w3 at hHeld ⊢
    refine with_tabW rpL_tab4 rpL_bits4 (fun HT_ HW_ => ?_)
    refine pure_ (i := 0) (N := some 15) (v := ?_) (a' := ?_) #[true, false, false, false, false, false, false, false, false, false, false, false, false, false, false, false, false, false, false] rfl rfl (any_of HT_.out (by kernel_rfl)) (fun _ _ _ h => h) (Or.inl ⟨by rfl, ?_⟩) ?_ ?_
    rotate_left
    · intro w'
      go_simp
      with_reducible rfl
    rotate_left
    · simp only [Act.put, List.setIfInBounds_toArray, List.set_cons_zero, List.set_cons_succ, i64_w, i32_w]
      rfl
    refine pure_ (i := 1) (N := some 16) (v := ?_) (a' := ?_) #[true, true, false, false, false, false, false, false, false, false, false, false, false, false, false, false, false, false, false] rfl rfl (any_of HT_.out (by kernel_rfl)) (fun _ _ _ h => h) (Or.inl ⟨by rfl, ?_⟩) ?_ ?_
    rotate_left
    · intro w'
      go_simp
      with_reducible rfl
    rotate_left
    · simp only [Act.put, List.setIfInBounds_toArray, List.set_cons_zero, List.set_cons_succ, i64_w, i32_w]
      rfl
    refine take_ (i := 2) (N := some 17) (v := ?_) (a' := ?_) #[true, true, true, false, false, false, false, false, false, false, false, false, false, false, false, false, false, false, false] rfl rfl (take_ofW HT_.out HW_.out (by kernel_rfl)) (fun _ _ _ h => h) (Or.inl ⟨by rfl, ?_⟩) hHeld ?_ ?_
    rotate_left
    · rintro w' ⟨s0, s1, s2, s3, s4, s5⟩
      go_simp
      with_reducible rfl
    rotate_left
    · simp only [Act.put, List.setIfInBounds_toArray, List.set_cons_zero, List.set_cons_succ, i64_w, i32_w]
      rfl
    refine pure_ (i := 3) (N := some 18) (v := ?_) (a' := ?_) #[true, true, true, true, false, false, false, false, false, false, false, false, false, false, false, false, false, false, false] rfl rfl (any_of HT_.out (by kernel_rfl)) (fun _ _ _ h => h) (Or.inl ⟨by rfl, ?_⟩) ?_ ?_
    rotate_left
    · intro w'
      go_simp
      with_reducible rfl
    rotate_left
    · simp only [Act.put, List.setIfInBounds_toArray, List.set_cons_zero, List.set_cons_succ, i64_w, i32_w]
      rfl
    refine pure_ (i := 4) (N := some 19) (v := ?_) (a' := ?_) #[true, true, true, true, true, false, false, false, false, false, false, false, false, false, false, false, false, false, false] rfl rfl (any_of HT_.out (by kernel_rfl)) (fun _ _ _ h => h) (Or.inl ⟨by rfl, ?_⟩) ?_ ?_
    rotate_left
    · intro w'
      go_simp
      with_reducible rfl
    rotate_left
    · simp only [Act.put, List.setIfInBounds_toArray, List.set_cons_zero, List.set_cons_succ, i64_w, i32_w]
      rfl
    refine take_ (i := 5) (N := some 20) (v := ?_) (a' := ?_) #[true, true, true, true, true, true, false, false, false, false, false, false, false, false, false, false, false, false, false] rfl rfl (take_ofW HT_.out HW_.out (by kernel_rfl)) (fun _ _ _ h => h) (Or.inl ⟨by rfl, ?_⟩) hHeld ?_ ?_
    rotate_left
    · rintro w' ⟨s0, s1, s2, s3, s4, s5⟩
      go_simp
      with_reducible rfl
    rotate_left
    · simp only [Act.put, List.setIfInBounds_toArray, List.set_cons_zero, List.set_cons_succ, i64_w, i32_w]
      rfl
    refine pure_ (i := 6) (N := some 21) (v := ?_) (a' := ?_) #[true, true, true, true, true, true, true, false, false, false, false, false, false, false, false, false, false, false, false] rfl rfl (any_of HT_.out (by kernel_rfl)) (fun _ _ _ h => h) (Or.inl ⟨by rfl, ?_⟩) ?_ ?_
    rotate_left
    · intro w'
      go_simp
      with_reducible rfl
    rotate_left
    · simp only [Act.put, List.setIfInBounds_toArray, List.set_cons_zero, List.set_cons_succ, i64_w, i32_w]
      rfl
    refine take_ (i := 7) (N := some 22) (v := ?_) (a' := ?_) #[true, true, true, true, true, true, true, true, false, false, false, false, false, false, false, false, false, false, false] rfl rfl (take_ofW HT_.out HW_.out (by kernel_rfl)) (fun _ _ _ h => h) (Or.inl ⟨by rfl, ?_⟩) hHeld ?_ ?_
    rotate_left
    · rintro w' ⟨s0, s1, s2, s3, s4, s5⟩
      go_simp
      with_reducible rfl
    rotate_left
    · simp only [Act.put, List.setIfInBounds_toArray, List.set_cons_zero, List.set_cons_succ, i64_w, i32_w]
      rfl
    refine pure_ (i := 10) (N := some 25) (v := ?_) (a' := ?_) #[true, true, true, true, true, true, true, true, false, false, true, false, false, false, false, false, false, false, false] rfl rfl (any_of HT_.out (by kernel_rfl)) (fun _ _ _ h => h) (Or.inl ⟨by rfl, ?_⟩) ?_ ?_
    rotate_left
    · intro w'
      go_simp
      with_reducible rfl
    rotate_left
    · simp only [Act.put, List.setIfInBounds_toArray, List.set_cons_zero, List.set_cons_succ, i64_w, i32_w]
      rfl
    refine take_ (i := 11) (N := some 26) (v := ?_) (a' := ?_) #[true, true, true, true, true, true, true, true, false, false, true, true, false, false, false, false, false, false, false] rfl rfl (take_ofW HT_.out HW_.out (by kernel_rfl)) (fun _ _ _ h => h) (Or.inl ⟨by rfl, ?_⟩) hHeld ?_ ?_
    rotate_left
    · rintro w' ⟨s0, s1, s2, s3, s4, s5⟩
      go_simp
      with_reducible rfl
    rotate_left
    · simp only [Act.put, List.setIfInBounds_toArray, List.set_cons_zero, List.set_cons_succ, i64_w, i32_w]
      rfl
    refine pure_ (i := 12) (N := some 27) (v := ?_) (a' := ?_) #[true, true, true, true, true, true, true, true, false, false, true, true, true, false, false, false, false, false, false] rfl rfl (any_of HT_.out (by kernel_rfl)) (fun _ _ _ h => h) (Or.inl ⟨by rfl, ?_⟩) ?_ ?_
    rotate_left
    · intro w'
      go_simp
      with_reducible rfl
    rotate_left
    · simp only [Act.put, List.setIfInBounds_toArray, List.set_cons_zero, List.set_cons_succ, i64_w, i32_w]
      rfl
    refine one_ (i := 8) (N := some 23) #[true, true, true, true, true, true, true, true, true, false, true, true, true, false, false, false, false, false, false] rfl rfl (one_of HT_.out (by kernel_rfl)) (by decide) (fun K hK => ?_)
    go_simp
    refine hK.out _ _ (hHeld.step (below_alloc (Below.refl _ _) _)) (fun hHeld => ?_)
    clear hK K
    have HN1 := Aside0.mk (C_ints_block (l := [m.f0.f0, m.f0.f1, m.f1]) (t := 3) (fr := (0, 0)) (blk_new w3 (.cells #[.int .i64 m.f0.f0, .int .i64 m.f0.f1, .int .i64 m.f1] 3)) (by simp))
    obtain ⟨g3, hg3⟩ : ∃ g3, g3 = w3.heap.size := ⟨_, rfl⟩
    rw [← hg3] at HN1 ⊢
    clear hg3
    generalize w3.alloc (.cells #[.int .i64 m.f0.f0, .int .i64 m.f0.f1, .int .i64 m.f1] 3) = w4 at hHeld HN1 ⊢
    refine one_ (i := 9) (N := some 24) #[true, true, true, true, true, true, true, true, true, true, true, true, true, false, false, false, false, false, false] rfl rfl (one_of HT_.out (by kernel_rfl)) (by decide) (fun K hK => ?_)
    refine goes_ Try.func101 (by kernel_rfl) rfl #[.slice (some ⟨g3, 0, none⟩) 3 3] (by rfl) rfl rfl (by (try simp only [List.map_toArray, List.map_cons, List.map_nil]); first | done | rfl) ?_
    refine (refnums_calls (some _) 3 [m.f0.f0, m.f0.f1, m.f1] n3 0 _ HN1.out (by simp) (by simp) HNUM.out).mono ?_
    rintro e w5 ⟨A15, c15, rfl, hG⟩
    refine ⟨_, rfl, ?_⟩
    have HG15 := Aside0.mk hG
    refine hK.out _ _ (hHeld.step hG.keep) (fun hHeld => ?_)
    clear hK K hG HN1
    refine norm_ (a' := ?_) ?_ ?_
    rotate_left
    · show Act.put _ (some 24) _ = _
      simp only [Act.put, List.setIfInBounds_toArray, List.set_cons_zero, List.set_cons_succ, i64_w, i32_w]
      rfl
    refine one_ (i := 13) (N := some 28) #[true, true, true, true, true, true, true, true, true, true, true, true, true, true, false, false, false, false, false] rfl rfl (one_of HT_.out (by kernel_rfl)) (by decide) (fun K hK => ?_)
    go_simp
    refine hK.out _ _ (hHeld.step (below_alloc (Below.refl _ _) _)) (fun hHeld => ?_)
    clear hK K
    have HR := Aside0.mk (rows_of_block (vs := [(A15, n3.length, c15), (A3, m.f2.length, c3), (A20, t4.length, c20)]) (zs := [n3, m.f2, t4]) (blk_new w5 (.cells #[.slice A15 n3.length c15, .slice A3 m.f2.length c3, .slice A20 t4.length c20] 22)) (bys_cons HG15.out.cap (Kd.C_alloc HG15.out.row _) (bys_cons Hc3.out (Kd.C_below HC3.out (below_then HB2.out HB2.out.size hHeld.2.2.2.2.2)) (bys_cons HG20.out.cap (Kd.C_below HG20.out.row hHeld.2.2.2.2.2) (bys_nil _)))) (by simp))
    obtain ⟨g6, hg6⟩ : ∃ g6, g6 = w5.heap.size := ⟨_, rfl⟩
    rw [← hg6] at HR ⊢
    clear hg6 HG15
    generalize w5.alloc (.cells #[.slice A15 n3.length c15, .slice A3 m.f2.length c3, .slice A20 t4.length c20] 22) = w7 at hHeld HR ⊢
    refine one_ (i := 14) (N := some 29) #[true, true, true, true, true, true, true, true, true, true, true, true, true, true, true, false, false, false, false] rfl rfl (one_of HT_.out (by kernel_rfl)) (by decide) (fun K hK => ?_)
    refine goes_ Try.func32 (by kernel_rfl) rfl #[.slice (some ⟨g6, 0, none⟩) 3 3] (by rfl) rfl rfl (by (try simp only [List.map_toArray, List.map_cons, List.map_nil]); first | done | rfl) ?_
    refine (refJoin_calls (some _) 3 [n3, m.f2, t4] z 0 _ HR.out (by simp) HSZ.out HJ.out).mono ?_
    rintro e w8 ⟨A22, c22, rfl, hG⟩
    refine ⟨_, rfl, ?_⟩
    have HG22 := Aside0.mk hG
    have HB7 := Aside0.mk (below_then HB2.out HB2.out.size hHeld.2.2.2.2.2)
    refine hK.out _ _ (hHeld.step hG.keep) (fun hHeld => ?_)
    clear hK K hG HR
    refine norm_ (a' := ?_) ?_ ?_
    rotate_left
    · show Act.put _ (some 29) _ = _
      simp only [Act.put, List.setIfInBounds_toArray, List.set_cons_zero, List.set_cons_succ, i64_w, i32_w]
      rfl
    refine pure_ (i := 15) (N := some 30) (v := ?_) (a' := ?_) #[true, true, true, true, true, true, true, true, true, true, true, true, true, true, true, true, false, false, false] rfl rfl (any_of HT_.out (by kernel_rfl)) (fun _ _ _ h => h) (Or.inl ⟨by rfl, ?_⟩) ?_ ?_
    rotate_left
    · intro w'
      go_simp
      with_reducible rfl
    rotate_left
    · simp only [Act.put, List.setIfInBounds_toArray, List.set_cons_zero, List.set_cons_succ, i64_w, i32_w]
      rfl
    refine pure_ (i := 16) (N := some 31) (v := ?_) (a' := ?_) #[true, true, true, true, true, true, true, true, true, true, true, true, true, true, true, true, true, false, false] rfl rfl (any_of HT_.out (by kernel_rfl)) (fun _ _ _ h => h) (Or.inl ⟨by rfl, ?_⟩) ?_ ?_
    rotate_left
    · intro w'
      go_simp
      with_reducible rfl
    rotate_left
    · simp only [Act.put, List.setIfInBounds_toArray, List.set_cons_zero, List.set_cons_succ, i64_w, i32_w]
      rfl
    refine pure_ (i := 17) (N := some 2) (v := ?_) (a' := ?_) #[true, true, true, true, true, true, true, true, true, true, true, true, true, true, true, true, true, true, false] rfl rfl (any_of HT_.out (by kernel_rfl)) (fun _ _ _ h => h) (Or.inl ⟨by rfl, ?_⟩) ?_ ?_
    rotate_left
    · intro w'
      go_simp
      with_reducible rfl
    rotate_left
    · simp only [Act.put, List.setIfInBounds_toArray, List.set_cons_zero, List.set_cons_succ, i64_w, i32_w]
      rfl
    refine pure_ (i := 18) (N := some 3) (v := ?_) (a' := ?_) #[true, true, true, true, true, true, true, true, true, true, true, true, true, true, true, true, true, true, true] rfl rfl (any_of HT_.out (by kernel_rfl)) (fun _ _ _ h => h) (Or.inl ⟨by rfl, ?_⟩) ?_ ?_
    rotate_left
    · intro w'
      go_simp
      with_reducible rfl
    rotate_left
    · simp only [Act.put, List.setIfInBounds_toArray, List.set_cons_zero, List.set_cons_succ, i64_w, i32_w]
      rfl
    refine done_ (done_of HT_.out (by kernel_rfl)) ?_
    go_wp2_with (fail)
    go_ret2
    exact ⟨_, _, rfl, HG22.out.lift HB7.out⟩
set_option maxHeartbeats 8000000 in
set_option maxRecDepth 100000 in
theorem refPack76_calls (x : S87) (A3 : Option Addr) (c3 : Nat) (z : List Int) (y : Int) (w : World) (hC3 : Kd.C (Kd.int .u8) w A3 x.f3.length x.f3) (hc3 : x.f3.length ≤ c3) (h : entryP x = (z, y)) :
    Calls Try.prog 76 #[.agg #[.int .i64 x.f0, .int .i64 x.f1, .int .i64 x.f2, .slice A3 x.f3.length c3]] w fun e w' => ∃ A1 c1, e = .returned (.tuple #[.slice A1 z.length c1, .int .i64 y]) ∧ Got (Kd.int .u8) 5 w w' A1 c1 z := by
  have hu87 := Try.underlying87
  have HC3 := Aside0.mk hC3
  have Hc3 := Aside0.mk hc3
  have HX0 := Aside0.mk (blk_new w (.cells #[.int .i64 x.f0, .int .i64 x.f1, .int .i64 x.f2, .slice A3 x.f3.length c3] 87))
  have HB0 := Aside0.mk (below_alloc (Below.refl w.heap.size w) (.cells #[.int .i64 x.f0, .int .i64 x.f1, .int .i64 x.f2, .slice A3 x.f3.length c3] 87))
  unfold entryP at h
  cases hq : goodEntry x with
  | false =>
    rw [if_neg (by rw [hq]; decide)] at h
    obtain ⟨rfl, rfl⟩ := Prod.mk.inj h
    have HQ := Aside0.mk hq
    clear hC3 hc3 hq h
    go_enter Try.func76, Try.ntmps76
    go_upto_region 1 with (fail)
    generalize w.alloc (.cells #[.int .i64 x.f0, .int .i64 x.f1, .int .i64 x.f2, .slice A3 x.f3.length c3] 87) = w0 at HX0 HB0 ⊢
    have x0 : w0.cell? ⟨w.heap.size, 0, none⟩ = some (.int .i64 x.f0) := (blk_cell HX0.out 0).trans rfl
    have x1 : w0.cell? ⟨w.heap.size, 1, none⟩ = some (.int .i64 x.f1) := (blk_cell HX0.out 1).trans rfl
    have x2 : w0.cell? ⟨w.heap.size, 2, none⟩ = some (.int .i64 x.f2) := (blk_cell HX0.out 2).trans rfl
    have x3 : w0.cell? ⟨w.heap.size, 3, none⟩ = some (.slice A3 x.f3.length c3) := (blk_cell HX0.out 3).trans rfl
    go_wp2_with (fail)
    refine (entry119_calls x A3 c3 w0).mono ?_
    rw [HQ.out]
    rintro e w1 ⟨rfl, hB⟩
    have HB1 := Aside0.mk (below_then HB0.out HB0.out.size hB)
    clear hB
    go_wp2_with (fail)
    go_ret2
    exact ⟨none, 0, rfl, ⟨Kd.R_nil _ _ _ _ _, HB1.out⟩⟩
  | true =>
    rw [if_pos hq] at h
    obtain ⟨hz, rfl⟩ := Prod.mk.inj h
    have hg := good87 hq
    obtain ⟨n3, h3⟩ : ∃ n3, n3 = encI [x.f0 + 1, x.f1, x.f2] := ⟨_, rfl⟩
    have HNUM := Aside0.mk (show numsP [x.f0 + 1, x.f1, x.f2] = (n3, 0) by rw [h3]; exact entry_nums hg)
    have HJ := Aside0.mk (show joinP [n3, x.f3] = (z, 0) by rw [h3, ← hz]; exact entry_join hg)
    have HSZ := Aside0.mk (rows_small HJ.out rfl)
    have HQ := Aside0.mk hq
    obtain ⟨hx0, hx7⟩ := hg.c
    clear hC3 hc3 hq h hg h3 hz
    go_enter Try.func76, Try.ntmps76
    go_upto_region 1 with (fail)
    generalize w.alloc (.cells #[.int .i64 x.f0, .int .i64 x.f1, .int .i64 x.f2, .slice A3 x.f3.length c3] 87) = w0 at HX0 HB0 ⊢
    have x0 : w0.cell? ⟨w.heap.size, 0, none⟩ = some (.int .i64 x.f0) := (blk_cell HX0.out 0).trans rfl
    have x1 : w0.cell? ⟨w.heap.size, 1, none⟩ = some (.int .i64 x.f1) := (blk_cell HX0.out 1).trans rfl
    have x2 : w0.cell? ⟨w.heap.size, 2, none⟩ = some (.int .i64 x.f2) := (blk_cell HX0.out 2).trans rfl
    have x3 : w0.cell? ⟨w.heap.size, 3, none⟩ = some (.slice A3 x.f3.length c3) := (blk_cell HX0.out 3).trans rfl
    go_wp2_with (fail)
    refine (entry119_calls x A3 c3 w0).mono ?_
    rw [HQ.out]
    rintro e w2 ⟨rfl, hB⟩
    have HB2 := Aside0.mk (below_then HB0.out HB0.out.size hB)
    have HX2 := Aside0.mk ((hB.block _ (blk_lt2 HX0.out)).trans HX0.out)
    clear hB x0 x1 x2 x3 HX0
    go_upto_region 3 with (fail)
    refine start_ (n := 17) (S := Held4 w.heap.size (.int .i64 x.f0) (.int .i64 x.f1) (.int .i64 x.f2) (.slice A3 x.f3.length c3) w2) (ds := []) #[false, false, false, false, false, false, false, false, false, false, false, false, false, false, false, false, false] (by kernel_rfl) rfl rfl
      ⟨(blk_cell HX2.out 0).trans rfl, (blk_cell HX2.out 1).trans rfl, (blk_cell HX2.out 2).trans rfl, (blk_cell HX2.out 3).trans rfl, below_drew1 (Below.refl _ _)⟩ (fun hHeld => ?_)
    generalize w2.drew = w3 at hHeld ⊢
    refine with_tabW rpE_tab3 rpE_bits3 (fun HT_ HW_ => ?_)
    refine pure_ (i := 0) (N := some 7) (v := ?_) (a' := ?_) #[true, false, false, false, false, false, false, false, false, false, false, false, false, false, false, false, false] rfl rfl (any_of HT_.out (by kernel_rfl)) (fun _ _ _ h => h) (Or.inl ⟨by rfl, ?_⟩) ?_ ?_
    rotate_left
    · intro w'
      go_simp
      with_reducible rfl
    rotate_left
    · simp only [Act.put, List.setIfInBounds_toArray, List.set_cons_zero, List.set_cons_succ, i64_w, i32_w]
      rfl
    refine take_ (i := 1) (N := some 8) (v := ?_) (a' := ?_) #[true, true, false, false, false, false, false, false, false, false, false, false, false, false, false, false, false] rfl rfl (take_ofW HT_.out HW_.out (by kernel_rfl)) (fun _ _ _ h => h) (Or.inl ⟨by rfl, ?_⟩) hHeld ?_ ?_
    rotate_left
    · rintro w' ⟨s0, s1, s2, s3, s4⟩
      go_simp
      with_reducible rfl
    rotate_left
    · simp only [Act.put, List.setIfInBounds_toArray, List.set_cons_zero, List.set_cons_succ, i64_w, i32_w]
      rfl
    refine pure_ (i := 2) (N := some 9) (v := ?_) (a' := ?_) #[true, true, true, false, false, false, false, false, false, false, false, false, false, false, false, false, false] rfl rfl (any_of HT_.out (by kernel_rfl)) (fun _ _ _ h => h) (Or.inl ⟨by rfl, ?_⟩) ?_ ?_
    rotate_left
    · intro w'
      go_simp
      with_reducible rfl
    rotate_left
    · simp only [Act.put, List.setIfInBounds_toArray, List.set_cons_zero, List.set_cons_succ, i64_w, i32_w]
      rfl
    refine pure_ (i := 3) (N := some 10) (v := ?_) (a' := ?_) #[true, true, true, true, false, false, false, false, false, false, false, false, false, false, false, false, false] rfl rfl (any_of HT_.out (by kernel_rfl)) (fun _ _ _ h => h) (Or.inl ⟨by rfl, ?_⟩) ?_ ?_
    rotate_left
    · intro w'
      go_simp
      with_reducible rfl
    rotate_left
    · simp only [Act.put, List.setIfInBounds_toArray, List.set_cons_zero, List.set_cons_succ, i64_w, i32_w]
      rfl
    refine take_ (i := 4) (N := some 11) (v := ?_) (a' := ?_) #[true, true, true, true, true, false, false, false, false, false, false, false, false, false, false, false, false] rfl rfl (take_ofW HT_.out HW_.out (by kernel_rfl)) (fun _ _ _ h => h) (Or.inl ⟨by rfl, ?_⟩) hHeld ?_ ?_
    rotate_left
    · rintro w' ⟨s0, s1, s2, s3, s4⟩
      go_simp
      with_reducible rfl
    rotate_left
    · simp only [Act.put, List.setIfInBounds_toArray, List.set_cons_zero, List.set_cons_succ, i64_w, i32_w]
      rfl
    refine pure_ (i := 5) (N := some 12) (v := ?_) (a' := ?_) #[true, true, true, true, true, true, false, false, false, false, false, false, false, false, false, false, false] rfl rfl (any_of HT_.out (by kernel_rfl)) (fun _ _ _ h => h) (Or.inl ⟨by rfl, ?_⟩) ?_ ?_
    rotate_left
    · intro w'
      go_simp
      with_reducible rfl
    rotate_left
    · simp only [Act.put, List.setIfInBounds_toArray, List.set_cons_zero, List.set_cons_succ, i64_w, i32_w]
      rfl
    refine take_ (i := 6) (N := some 13) (v := ?_) (a' := ?_) #[true, true, true, true, true, true, true, false, false, false, false, false, false, false, false, false, false] rfl rfl (take_ofW HT_.out HW_.out (by kernel_rfl)) (fun _ _ _ h => h) (Or.inl ⟨by rfl, ?_⟩) hHeld ?_ ?_
    rotate_left
    · rintro w' ⟨s0, s1, s2, s3, s4⟩
      go_simp
      with_reducible rfl
    rotate_left
    · simp only [Act.put, List.setIfInBounds_toArray, List.set_cons_zero, List.set_cons_succ, i64_w, i32_w]
      rfl
    refine pure_ (i := 9) (N := some 16) (v := ?_) (a' := ?_) #[true, true, true, true, true, true, true, false, false, true, false, false, false, false, false, false, false] rfl rfl (any_of HT_.out (by kernel_rfl)) (fun _ _ _ h => h) (Or.inl ⟨by rfl, ?_⟩) ?_ ?_
    rotate_left
    · intro w'
      go_simp
      with_reducible rfl
    rotate_left
    · simp only [Act.put, List.setIfInBounds_toArray, List.set_cons_zero, List.set_cons_succ, i64_w, i32_w]
      rfl
    refine take_ (i := 10) (N := some 17) (v := ?_) (a' := ?_) #[true, true, true, true, true, true, true, false, false, true, true, false, false, false, false, false, false] rfl rfl (take_ofW HT_.out HW_.out (by kernel_rfl)) (fun _ _ _ h => h) (Or.inl ⟨by rfl, ?_⟩) hHeld ?_ ?_
    rotate_left
    · rintro w' ⟨s0, s1, s2, s3, s4⟩
      go_simp
      with_reducible rfl
    rotate_left
    · simp only [Act.put, List.setIfInBounds_toArray, List.set_cons_zero, List.set_cons_succ, i64_w, i32_w]
      rfl
    refine one_ (i := 7) (N := some 14) #[true, true, true, true, true, true, true, true, false, true, true, false, false, false, false, false, false] rfl rfl (one_of HT_.out (by kernel_rfl)) (by decide) (fun K hK => ?_)
    go_simp
    rw [show wrap64 (x.f0 + 1) = x.f0 + 1 by unfold wrap64; omega]
    refine hK.out _ _ (hHeld.step (below_alloc (Below.refl _ _) _)) (fun hHeld => ?_)
    clear hK K
    have HN1 := Aside0.mk (C_ints_block (l := [x.f0 + 1, x.f1, x.f2]) (t := 3) (fr := (0, 0)) (blk_new w3 (.cells #[.int .i64 (x.f0 + 1), .int .i64 x.f1, .int .i64 x.f2] 3)) (by simp))
    obtain ⟨g3, hg3⟩ : ∃ g3, g3 = w3.heap.size := ⟨_, rfl⟩
    rw [← hg3] at HN1 ⊢
    clear hg3
    generalize w3.alloc (.cells #[.int .i64 (x.f0 + 1), .int .i64 x.f1, .int .i64 x.f2] 3) = w4 at hHeld HN1 ⊢
    refine one_ (i := 8) (N := some 15) #[true, true, true, true, true, true, true, true, true, true, true, false, false, false, false, false, false] rfl rfl (one_of HT_.out (by kernel_rfl)) (by decide) (fun K hK => ?_)
    refine goes_ Try.func101 (by kernel_rfl) rfl #[.slice (some ⟨g3, 0, none⟩) 3 3] (by rfl) rfl rfl (by (try simp only [List.map_toArray, List.map_cons, List.map_nil]); first | done | rfl) ?_
    refine (refnums_calls (some _) 3 [x.f0 + 1, x.f1, x.f2] n3 0 _ HN1.out (by simp) (by simp) HNUM.out).mono ?_
    rintro e w5 ⟨A15, c15, rfl, hG⟩
    refine ⟨_, rfl, ?_⟩
    have HG15 := Aside0.mk hG
    refine hK.out _ _ (hHeld.step hG.keep) (fun hHeld => ?_)
    clear hK K hG HN1
    refine norm_ (a' := ?_) ?_ ?_
    rotate_left
    · show Act.put _ (some 15) _ = _
      simp only [Act.put, List.setIfInBounds_toArray, List.set_cons_zero, List.set_cons_succ, i64_w, i32_w]
      rfl
    refine one_ (i := 11) (N := some 18) #[true, true, true, true, true, true, true, true, true, true, true, true, false, false, false, false, false] rfl rfl (one_of HT_.out (by kernel_rfl)) (by decide) (fun K hK => ?_)
    go_simp
    refine hK.out _ _ (hHeld.step (below_alloc (Below.refl _ _) _)) (fun hHeld => ?_)
    clear hK K
    have HR := Aside0.mk (rows_of_block (vs := [(A15, n3.length, c15), (A3, x.f3.length, c3)]) (zs := [n3, x.f3]) (blk_new w5 (.cells #[.slice A15 n3.length c15, .slice A3 x.f3.length c3] 22)) (bys_cons HG15.out.cap (Kd.C_alloc HG15.out.row _) (bys_cons Hc3.out (Kd.C_below HC3.out (below_then HB2.out HB2.out.size hHeld.2.2.2.2)) (bys_nil _))) (by simp))
    obtain ⟨g6, hg6⟩ : ∃ g6, g6 = w5.heap.size := ⟨_, rfl⟩
    rw [← hg6] at HR ⊢
    clear hg6 HG15
    generalize w5.alloc (.cells #[.slice A15 n3.length c15, .slice A3 x.f3.length c3] 22) = w7 at hHeld HR ⊢
    refine one_ (i := 12) (N := some 19) #[true, true, true, true, true, true, true, true, true, true, true, true, true, false, false, false, false] rfl rfl (one_of HT_.out (by kernel_rfl)) (by decide) (fun K hK => ?_)
    refine goes_ Try.func32 (by kernel_rfl) rfl #[.slice (some ⟨g6, 0, none⟩) 2 2] (by rfl) rfl rfl (by (try simp only [List.map_toArray, List.map_cons, List.map_nil]); first | done | rfl) ?_
    refine (refJoin_calls (some _) 2 [n3, x.f3] z 0 _ HR.out (by simp) HSZ.out HJ.out).mono ?_
    rintro e w8 ⟨A22, c22, rfl, hG⟩
    refine ⟨_, rfl, ?_⟩
    have HG22 := Aside0.mk hG
    have HB7 := Aside0.mk (below_then HB2.out HB2.out.size hHeld.2.2.2.2)
    refine hK.out _ _ (hHeld.step hG.keep) (fun hHeld => ?_)
    clear hK K hG HR
    refine norm_ (a' := ?_) ?_ ?_
    rotate_left
    · show Act.put _ (some 19) _ = _
      simp only [Act.put, List.setIfInBounds_toArray, List.set_cons_zero, List.set_cons_succ, i64_w, i32_w]
      rfl
    refine pure_ (i := 13) (N := some 20) (v := ?_) (a' := ?_) #[true, true, true, true, true, true, true, true, true, true, true, true, true, true, false, false, false] rfl rfl (any_of HT_.out (by kernel_rfl)) (fun _ _ _ h => h) (Or.inl ⟨by rfl, ?_⟩) ?_ ?_
    rotate_left
    · intro w'
      go_simp
      with_reducible rfl
    rotate_left
    · simp only [Act.put, List.setIfInBounds_toArray, List.set_cons_zero, List.set_cons_succ, i64_w, i32_w]
      rfl
    refine pure_ (i := 14) (N := some 21) (v := ?_) (a' := ?_) #[true, true, true, true, true, true, true, true, true, true, true, true, true, true, true, false, false] rfl rfl (any_of HT_.out (by kernel_rfl)) (fun _ _ _ h => h) (Or.inl ⟨by rfl, ?_⟩) ?_ ?_
    rotate_left
    · intro w'
      go_simp
      with_reducible rfl
    rotate_left
    · simp only [Act.put, List.setIfInBounds_toArray, List.set_cons_zero, List.set_cons_succ, i64_w, i32_w]
      rfl
    refine pure_ (i := 15) (N := some 2) (v := ?_) (a' := ?_) #[true, true, true, true, true, true, true, true, true, true, true, true, true, true, true, true, false] rfl rfl (any_of HT_.out (by kernel_rfl)) (fun _ _ _ h => h) (Or.inl ⟨by rfl, ?_⟩) ?_ ?_
    rotate_left
    · intro w'
      go_simp
      with_reducible rfl
    rotate_left
    · simp only [Act.put, List.setIfInBounds_toArray, List.set_cons_zero, List.set_cons_succ, i64_w, i32_w]
      rfl
    refine pure_ (i := 16) (N := some 3) (v := ?_) (a' := ?_) #[true, true, true, true, true, true, true, true, true, true, true, true, true, true, true, true, true] rfl rfl (any_of HT_.out (by kernel_rfl)) (fun _ _ _ h => h) (Or.inl ⟨by rfl, ?_⟩) ?_ ?_
    rotate_left
    · intro w'
      go_simp
      with_reducible rfl
    rotate_left
    · simp only [Act.put, List.setIfInBounds_toArray, List.set_cons_zero, List.set_cons_succ, i64_w, i32_w]
      rfl
    refine done_ (done_of HT_.out (by kernel_rfl)) ?_
    go_wp2_with (fail)
    go_ret2
    exact ⟨_, _, rfl, HG22.out.lift HB7.out⟩
end Go.Proofs.Ytijccobeljoikaa.Ms

/- msg: the document: has, parts, letters. -/
namespace Go.Proofs.Ytijccobeljoikaa.Ms
open Go.RowKit Go.Proofs.YtijccobeljoikaaW.PrintWords Go.Proofs.YtijccobeljoikaaW.PrintLast
open Go.Proofs.Ytijccobeljoikaa.Plain Go.Proofs.Ytijccobeljoikaa.Walks
set_option linter.unusedVariables false
set_option linter.unusedSimpArgs false
set_option maxHeartbeats 8000000 in
set_option maxRecDepth 100000 in
theorem has140_calls (p : ByteArray) (c : UInt8) (w : World) (hp : p.size ≤ 1000) : Calls Try.prog 140 #[.string p, .int .u8 (c.toNat : Int)] w fun e w' => e = .returned (.bool (hasB p c)) ∧ w' = w := by
  have hu9 := Try.underlying9
  have hsz : p.size = p.data.toList.length := rfl
  have HSZ := Aside0.mk hsz
  clear hsz
  go_enter Try.func140, Try.ntmps140
  go_wp2_with (fail)
  go_loopw [5] (fun u wr => ∃ i : Nat, u = .int .i64 (i : Int) ∧ i ≤ p.size ∧ Aside0 ((p.data.toList.take i).contains c = false) ∧ wr = w) (fun u _ => p.size - (intOf u).toNat)
  case atStart => exact ⟨0, rfl, Nat.zero_le _, ⟨by simp⟩, rfl⟩
  case round =>
    obtain ⟨i, rfl, hi, HT, rfl⟩ := hrel
    by_cases hlt : i < p.size
    · have d0 : decide ((i : Int) < (p.size : Int)) = true := decide_eq_true (by omega)
      have d0' : decide (i < p.size) = true := decide_eq_true hlt
      have p0 : (0 ≤ (i : Int)) = True := eq_true (by omega)
      have p1 : ((i : Int) < (p.size : Int)) = True := eq_true (by omega)
      have hll : i < p.data.toList.length := hlt
      obtain ⟨b, hb⟩ : ∃ b, p[i]'hlt = b := ⟨_, rfl⟩
      have HBI := Aside0.mk (show p.data.toList[i] = b from by rw [← hb]; rw [Array.getElem_toList]; rfl)
      by_cases h : b = c
      · subst h
        have HQ := Aside0.mk (show hasB p b = true by
          rw [hasB, List.contains_iff_mem, ← HBI.out]; exact List.getElem_mem hll)
        go_wp2_with (fail)
        go_ret
        exact ⟨by rw [HQ.out]; rfl, rfl⟩
      · have e0 : ((b.toNat : Int) == (c.toNat : Int)) = false := beq_eq_false_iff_ne.mpr (fun e => h (UInt8.toNat_inj.1 (by omega)))
        have e1 : (b.toNat == c.toNat) = false := beq_eq_false_iff_ne.mpr (fun e => h (UInt8.toNat_inj.1 e))
        have e2 : (b == c) = false := beq_eq_false_iff_ne.mpr h
        have HN := Aside0.mk (show ¬ c = b from fun e => h e.symm)
        clear h
        go_wp2_with (fail)
        exact ⟨⟨i + 1, by simp, by omega, ⟨by rw [← List.take_append_getElem hll, HBI.out, List.contains_append, HT.out]; simp [HN.out]⟩, by first | rfl | trivial⟩, by simp only [intOf]; omega⟩
    · have d0 : decide ((i : Int) < (p.size : Int)) = false := decide_eq_false (by omega)
      have d0' : decide (i < p.size) = false := decide_eq_false hlt
      have HQ := Aside0.mk (show hasB p c = false by have := HT.out; rw [List.take_of_length_le (by have := HSZ.out; omega)] at this; exact this)
      go_wp2_with (fail)
      go_ret
      exact ⟨by rw [HQ.out]; rfl, rfl⟩
set_option maxHeartbeats 8000000 in
set_option maxRecDepth 100000 in
theorem letters143_calls (A : Option Addr) (c : Nat) (l : List S72) (w : World) (hC : Kd.C k72 w A l.length l) (hc : l.length ≤ c) :
    Calls Try.prog 143 #[.slice A l.length c] w fun e w' => e = .returned (.bool (goodLetters l)) ∧ Below w.heap.size w w' := by
  have hu72 := Try.underlying72
  have HC := Aside0.mk hC
  have hm := hC.2.1
  have HB0 := Aside0.mk (Below.refl w.heap.size w)
  clear hC
  go_enter Try.func143, Try.ntmps143
  go_wp2_with (fail)
  go_loopw [3] (fun u wr => ∃ i : Nat, u = .int .i64 (i : Int) ∧ i ≤ l.length ∧ Aside0 (∀ x ∈ l.take i, goodLetter x = true) ∧ Aside0 (Below w.heap.size w wr)) (fun u _ => l.length - (intOf u).toNat)
  case atStart => exact ⟨0, rfl, Nat.zero_le _, ⟨by simp⟩, HB0⟩
  case round =>
    clear HB0
    obtain ⟨i, rfl, hi, HT, HB⟩ := hrel
    by_cases hlt : i < l.length
    · have b0 : decide ((i : Int) < (l.length : Int)) = true := decide_eq_true (by omega)
      have b0' : decide (i < l.length) = true := decide_eq_true hlt
      have b1 : (0 ≤ (i : Int)) = True := eq_true (by omega)
      have b2 : ((i : Int) < (l.length : Int)) = True := eq_true (by omega)
      obtain ⟨ad, B3, d3, B4, d4, e, hx0, hx1, hx2, hx3, hx4, hl3, hi3, hl4, hi4⟩ := at_T72 (Kd.C_below HC.out HB.out) (i : Int) (by omega) (by omega)
      subst e
      obtain ⟨x, hm⟩ : ∃ x, x = rd_T72 l (i : Int) := ⟨_, rfl⟩
      rw [← hm] at hx0 hx1 hx2 hx3 hx4 hl3 hi3 hl4 hi4
      rw [Int.toNat_natCast] at hx0 hx1 hx2 hx3 hx4
      have HMI := Aside0.mk (show x = l[i] by rw [hm]; simp [rd_T72, List.getD_eq_getElem?_getD, hlt])
      have HI := Aside0.mk hi4
      clear hm hl3 hi3 hl4 hi4
      go_wp2_with (fail)
      refine (letter116_calls x B3 d3 B4 d4 wr HI.out).mono ?_
      rintro e w2 ⟨rfl, hB⟩
      have HB2 := Aside0.mk (below_then HB.out HB.out.size hB)
      clear hB hx0 hx1 hx2 hx3 hx4
      obtain ⟨q, hq⟩ : ∃ q, goodLetter x = q := ⟨_, rfl⟩
      rw [hq]
      cases q with
      | false =>
        have HQ := Aside0.mk (show goodLetters l = false by
          rw [goodLetters, show l.any badLetter = true from List.any_eq_true.2 ⟨l[i], List.getElem_mem hlt, by rw [← HMI.out, badLetter, hq]; rfl⟩]; simp)
        clear hq
        go_wp2_with (fail)
        go_ret
        exact ⟨by rw [HQ.out]; rfl, HB2.out⟩
      | true =>
        have HQ := Aside0.mk hq
        clear hq
        go_wp2_with (fail)
        exact ⟨⟨i + 1, by simp, by omega, ⟨fun y hy => by
          rw [← List.take_append_getElem hlt, List.mem_append, List.mem_singleton] at hy
          rcases hy with hy | hy
          · exact HT.out y hy
          · rw [hy, ← HMI.out]; exact HQ.out⟩, HB2⟩, by simp only [intOf]; omega⟩
    · have b0 : decide ((i : Int) < (l.length : Int)) = false := decide_eq_false (by omega)
      have b0' : decide (i < l.length) = false := decide_eq_false hlt
      obtain ⟨q, hq⟩ : ∃ q, decide (l.length ≤ 64) = q := ⟨_, rfl⟩
      have hq' : decide ((l.length : Int) ≤ 64) = q := by rw [← hq]; exact decide_eq_decide.2 (by omega)
      have HQ := Aside0.mk (show goodLetters l = q by
        rw [goodLetters, hq, show l.any badLetter = false from List.any_eq_false.2 (fun y hy => by rw [badLetter, HT.out y (by rw [List.take_of_length_le (by omega)]; exact hy)]; decide)]; simp)
      go_wp2_with (fail)
      go_ret
      exact ⟨by rw [HQ.out]; rfl, HB.out⟩
set_option maxHeartbeats 8000000 in
set_option maxRecDepth 100000 in
theorem parts99_calls (k : Int) (w : World) : Calls Try.prog 99 #[.int .i64 k] w fun e w' => e = .returned (.string (partsS k)) ∧ Below w.heap.size w w' := by
  have hu172 := Try.underlying172
  have HX0 := Aside0.mk (blk_new w (.cells #[.string ⟨#[]⟩, .string ⟨#[99, 116, 98]⟩, .string ⟨#[99, 116, 100]⟩, .string ⟨#[118, 115, 101]⟩, .string ⟨#[118, 115, 101]⟩, .string ⟨#[118, 115, 101]⟩, .string ⟨#[115, 101]⟩, .string ⟨#[100]⟩, .string ⟨#[99, 116, 98]⟩, .string ⟨#[115, 99, 116, 98]⟩, .string ⟨#[115, 100]⟩, .string ⟨#[118, 115, 108, 112]⟩, .string ⟨#[118, 108]⟩, .string ⟨#[115]⟩, .string ⟨#[115, 98]⟩] 172))
  have HB0 := Aside0.mk (below_alloc (Below.refl w.heap.size w) (.cells #[.string ⟨#[]⟩, .string ⟨#[99, 116, 98]⟩, .string ⟨#[99, 116, 100]⟩, .string ⟨#[118, 115, 101]⟩, .string ⟨#[118, 115, 101]⟩, .string ⟨#[118, 115, 101]⟩, .string ⟨#[115, 101]⟩, .string ⟨#[100]⟩, .string ⟨#[99, 116, 98]⟩, .string ⟨#[115, 99, 116, 98]⟩, .string ⟨#[115, 100]⟩, .string ⟨#[118, 115, 108, 112]⟩, .string ⟨#[118, 108]⟩, .string ⟨#[115]⟩, .string ⟨#[115, 98]⟩] 172))
  go_enter Try.func99, Try.ntmps99
  go_upto_region 2 with (fail)
  generalize w.alloc (.cells #[.string ⟨#[]⟩, .string ⟨#[99, 116, 98]⟩, .string ⟨#[99, 116, 100]⟩, .string ⟨#[118, 115, 101]⟩, .string ⟨#[118, 115, 101]⟩, .string ⟨#[118, 115, 101]⟩, .string ⟨#[115, 101]⟩, .string ⟨#[100]⟩, .string ⟨#[99, 116, 98]⟩, .string ⟨#[115, 99, 116, 98]⟩, .string ⟨#[115, 100]⟩, .string ⟨#[118, 115, 108, 112]⟩, .string ⟨#[118, 108]⟩, .string ⟨#[115]⟩, .string ⟨#[115, 98]⟩] 172) = w0 at HX0 HB0 ⊢
  by_cases hk : 1 ≤ k ∧ k ≤ 14
  · skip
    have x0 : w0.cell? ⟨w.heap.size, 0, none⟩ = some (.string ⟨#[]⟩) := (blk_cell HX0.out 0).trans rfl
    have x1 : w0.cell? ⟨w.heap.size, 1, none⟩ = some (.string ⟨#[99, 116, 98]⟩) := (blk_cell HX0.out 1).trans rfl
    have x2 : w0.cell? ⟨w.heap.size, 2, none⟩ = some (.string ⟨#[99, 116, 100]⟩) := (blk_cell HX0.out 2).trans rfl
    have x3 : w0.cell? ⟨w.heap.size, 3, none⟩ = some (.string ⟨#[118, 115, 101]⟩) := (blk_cell HX0.out 3).trans rfl
    have x4 : w0.cell? ⟨w.heap.size, 4, none⟩ = some (.string ⟨#[118, 115, 101]⟩) := (blk_cell HX0.out 4).trans rfl
    have x5 : w0.cell? ⟨w.heap.size, 5, none⟩ = some (.string ⟨#[118, 115, 101]⟩) := (blk_cell HX0.out 5).trans rfl
    have x6 : w0.cell? ⟨w.heap.size, 6, none⟩ = some (.string ⟨#[115, 101]⟩) := (blk_cell HX0.out 6).trans rfl
    have x7 : w0.cell? ⟨w.heap.size, 7, none⟩ = some (.string ⟨#[100]⟩) := (blk_cell HX0.out 7).trans rfl
    have x8 : w0.cell? ⟨w.heap.size, 8, none⟩ = some (.string ⟨#[99, 116, 98]⟩) := (blk_cell HX0.out 8).trans rfl
    have x9 : w0.cell? ⟨w.heap.size, 9, none⟩ = some (.string ⟨#[115, 99, 116, 98]⟩) := (blk_cell HX0.out 9).trans rfl
    have x10 : w0.cell? ⟨w.heap.size, 10, none⟩ = some (.string ⟨#[115, 100]⟩) := (blk_cell HX0.out 10).trans rfl
    have x11 : w0.cell? ⟨w.heap.size, 11, none⟩ = some (.string ⟨#[118, 115, 108, 112]⟩) := (blk_cell HX0.out 11).trans rfl
    have x12 : w0.cell? ⟨w.heap.size, 12, none⟩ = some (.string ⟨#[118, 108]⟩) := (blk_cell HX0.out 12).trans rfl
    have x13 : w0.cell? ⟨w.heap.size, 13, none⟩ = some (.string ⟨#[115]⟩) := (blk_cell HX0.out 13).trans rfl
    have x14 : w0.cell? ⟨w.heap.size, 14, none⟩ = some (.string ⟨#[115, 98]⟩) := (blk_cell HX0.out 14).trans rfl
    have : k = 1 ∨ k = 2 ∨ k = 3 ∨ k = 4 ∨ k = 5 ∨ k = 6 ∨ k = 7 ∨ k = 8 ∨ k = 9 ∨ k = 10 ∨ k = 11 ∨ k = 12 ∨ k = 13 ∨ k = 14 := by omega
    rcases this with rfl | rfl | rfl | rfl | rfl | rfl | rfl | rfl | rfl | rfl | rfl | rfl | rfl | rfl
    all_goals (
      go_wp2_with (fail)
      go_ret
      exact ⟨rfl, HB0.out⟩)
  · have HQ := Aside0.mk (show partsS k = ⟨#[]⟩ by
      unfold partsS
      repeat rw [if_neg (by omega)])
    by_cases h0 : k < 1
    · have b0 : decide (k < 1) = true := decide_eq_true h0
      clear h0 hk
      go_wp2_with (fail)
      go_ret
      exact ⟨by rw [HQ.out]; rfl, HB0.out⟩
    · have b0 : decide (k < 1) = false := decide_eq_false h0
      have b1 : decide (14 < k) = true := decide_eq_true (by omega)
      clear h0 hk
      go_wp2_with (fail)
      go_ret
      exact ⟨by rw [HQ.out]; rfl, HB0.out⟩
end Go.Proofs.Ytijccobeljoikaa.Ms

/- msg: the document: letters' bytes, what is proven as bytes. -/
namespace Go.Proofs.Ytijccobeljoikaa.Ms
open Go.RowKit Go.Proofs.YtijccobeljoikaaW.PrintWords Go.Proofs.YtijccobeljoikaaW.PrintLast
open Go.Proofs.Ytijccobeljoikaa.Plain Go.Proofs.Ytijccobeljoikaa.Walks
set_option linter.unusedVariables false
set_option linter.unusedSimpArgs false
theorem join_len {l : List (List Int)} {z : List Int} (h : joinP l = (z, 0)) (hn : l.length ≤ 64) : z.length ≤ 50000000 := by
  obtain ⟨e1, e2, _⟩ := joinP_some h
  have h1 := encL_len e2
  have h2 := rowsSize_le e2
  rw [e1]
  have h4 : l.length * (65536 + 1) ≤ 64 * 65537 := Nat.mul_le_mul hn (by omega)
  omega
theorem letterZ_len {m : S72} (h : Good72 m) : (letterZ m).length ≤ 50000000 := join_len (letter_join h) (by simp)
theorem rows_len {l : List (List Int)} (h : ∀ r ∈ l, r.length ≤ 50000000) (hn : l.length ≤ 64) : rowsSize l < 10000000000000 := by
  have h2 := rowsSize_le h
  have h4 : l.length * (50000000 + 1) ≤ 64 * 50000001 := Nat.mul_le_mul hn (by omega)
  omega
set_option maxHeartbeats 8000000 in
set_option maxRecDepth 100000 in
theorem packs102_calls (A : Option Addr) (c : Nat) (l : List S72) (z : List Int) (x : Int) (w : World) (hC : Kd.C k72 w A l.length l) (hc : l.length ≤ c) (hg : ∀ m ∈ l, Good72 m) (hn : l.length ≤ 64) (hj : joinP (l.map letterZ) = (z, x)) :
    Calls Try.prog 102 #[.slice A l.length c] w fun e w' => ∃ A1 c1, e = .returned (.tuple #[.slice A1 z.length c1, .int .i64 x]) ∧ Got (Kd.int .u8) 5 w w' A1 c1 z := by
  have hu72 := Try.underlying72
  have HC := Aside0.mk hC
  have HG := Aside0.mk hg
  have HJ := Aside0.mk hj
  have hm := hC.2.1
  have HR0 := Aside0.mk (new_R (Kd.slice 5 (Kd.int .u8)) 22 w w.heap.size (fun k => w.heap.size ≤ k) (Nat.le_refl _) (Nat.le_refl _))
  have HB0 := Aside0.mk (below_alloc (Below.refl w.heap.size w) (.cells #[] 22))
  clear hC hg hj
  go_enter Try.func102, Try.ntmps102
  go_wp2_with (fail)
  go_loopw [4, 5] (fun u t wr => ∃ i : Nat, t = .int .i64 (i : Int) ∧ i ≤ l.length ∧ Aside0 (Kd.R (Kd.slice 5 (Kd.int .u8)) 22 wr w.heap.size (fun k_ => w.heap.size ≤ k_) u ((l.take i).map letterZ)) ∧ Aside0 (Below w.heap.size w wr)) (fun _ t _ => l.length - (intOf t).toNat)
  case atStart => exact ⟨0, rfl, Nat.zero_le _, HR0, HB0⟩
  case round =>
    clear HR0 HB0
    obtain ⟨i, rfl, hi, HR, HB⟩ := hrel
    obtain ⟨Av, cv, ev⟩ := Kd.R_slice HR.out
    subst ev
    by_cases hlt : i < l.length
    · have b0 : decide ((i : Int) < (l.length : Int)) = true := decide_eq_true (by omega)
      have b0' : decide (i < l.length) = true := decide_eq_true hlt
      have b1 : (0 ≤ (i : Int)) = True := eq_true (by omega)
      have b2 : ((i : Int) < (l.length : Int)) = True := eq_true (by omega)
      obtain ⟨ad, B3, d3, B4, d4, e, hx0, hx1, hx2, hx3, hx4, hl3, hi3, hl4, hi4⟩ := at_T72 (Kd.C_below HC.out HB.out) (i : Int) (by omega) (by omega)
      subst e
      obtain ⟨m, hm⟩ : ∃ m, m = rd_T72 l (i : Int) := ⟨_, rfl⟩
      rw [← hm] at hx0 hx1 hx2 hx3 hx4 hl3 hi3 hl4 hi4
      rw [Int.toNat_natCast] at hx0 hx1 hx2 hx3 hx4
      have hmi : m = l[i] := by rw [hm]; simp [rd_T72, List.getD_eq_getElem?_getD, hlt]
      have HMI := Aside0.mk hmi
      have HGm := Aside0.mk (show letterP m = (letterZ m, 0) by rw [letterP, if_pos (good72.2 (hmi ▸ HG.out _ (List.getElem_mem hlt)))])
      have HA := Aside0.mk (And.intro hl3 (And.intro hi3 (And.intro hl4 hi4)))
      have hxl : ((l.take i).map letterZ).length ≤ 64 := by rw [List.length_map, List.length_take_of_le (by omega)]; omega
      obtain ⟨xs, hxs⟩ : ∃ xs, xs = (l.take i).map letterZ := ⟨_, rfl⟩
      rw [← hxs] at HR hxl ⊢
      have HXS := Aside0.mk hxs
      obtain ⟨r, hr⟩ : ∃ r, r = letterZ m := ⟨_, rfl⟩
      rw [← hr] at HGm
      have HRr := Aside0.mk hr
      clear hm hmi hl3 hi3 hl4 hi4 hxs hr
      go_wp2_with (fail)
      refine (refPack73_calls m B3 d3 B4 d4 r 0 wr HA.out.2.1 HA.out.1 HA.out.2.2.2 HA.out.2.2.1 HGm.out).mono ?_
      rintro e w2 ⟨A1, c1, rfl, hG⟩
      have HB2 := Aside0.mk (below_then HB.out HB.out.size hG.keep)
      have hs2 := HB2.out.size
      have HR2 := Aside0.mk (Kd.R_below HR.out hG.keep)
      have HM := Aside0.mk (show (Kd.slice 5 (Kd.int .u8)).M w2 w.heap.size (fun k => wr.heap.size ≤ k) r [.slice A1 r.length c1] from ⟨_, rfl, Kd.R_lower hG.own HB.out.size⟩)
      clear hG hx0 hx1 hx2 hx3 hx4
      go_wp2_with (at_builtin; refine Kd.R_append (Kd.slice 5 (Kd.int .u8)) (w0 := w) w.heap.size rfl (.tmp 26) (.tmp 28) 32 22 (.slice none 0 0) 24 rfl Try.underlying32 Walks.info22 rfl (by decide) (by omega) (.slice Av xs.length cv) xs r [.slice A1 r.length c1] (fun k_ => w.heap.size ≤ k_) (fun k_ => wr.heap.size ≤ k_) rfl rfl HM.out (fun k hk => ⟨Nat.le_trans HB.out.size hk, fun e => by have := Kd.R_lt_ HR.out k e.symm; omega⟩) (fun k hk => by omega) HR2.out HB2.out hs2 (by omega) ?_; intro v3 w3 hR3 hB3 hg3 hat3; have HR3 := Aside0.mk hR3; have HB3 := Aside0.mk hB3; clear hR3 hB3 hg3 hat3)
      exact ⟨⟨i + 1, by simp, by omega, ⟨by rw [← List.take_append_getElem hlt, List.map_append, List.map_singleton, ← HXS.out, ← HMI.out, ← HRr.out]; exact HR3.out⟩, HB3⟩, by simp only [intOf]; omega⟩
    · have b0 : decide ((i : Int) < (l.length : Int)) = false := decide_eq_false (by omega)
      have b0' : decide (i < l.length) = false := decide_eq_false hlt
      have hil : l.take i = l := List.take_of_length_le (by omega)
      obtain ⟨xs, hxs⟩ : ∃ xs, xs = (l.take i).map letterZ := ⟨_, rfl⟩
      rw [← hxs] at HR ⊢
      rw [hil] at hxs
      have HJ2 := Aside0.mk (show joinP xs = (z, x) by rw [hxs]; exact HJ.out)
      have HS := Aside0.mk (rows_len (l := xs) (fun r hr => by rw [hxs] at hr; obtain ⟨m, hm, rfl⟩ := List.mem_map.1 hr; exact letterZ_len (HG.out m hm)) (by rw [hxs, List.length_map]; exact hn))
      clear hxs hil
      go_wp2_with (fail)
      refine (refJoin_calls Av cv xs z x wr (Kd.R_reads' HR.out).2.2 (Kd.R_reads' HR.out).2.1 HS.out HJ2.out).mono ?_
      rintro e w2 ⟨A1, c1, rfl, hG⟩
      have HG2 := Aside0.mk (hG.lift HB.out)
      clear hG
      go_wp2_with (fail)
      go_ret2
      exact ⟨_, _, rfl, HG2.out⟩
def rpP_T9 : Bool × List (List Nat × List Nat) := (true, [([], []), ([], []), ([0, 1], [0, 1]), ([2], [2]), ([3], [3]), ([], []), ([], []), ([5, 6], [5, 6]), ([7], [7]), ([8], [8]), ([4, 9], [4, 9]), ([10], [10]), ([], []), ([], []), ([11, 12, 13], [11, 12, 13]), ([14, 11], [14]), ([15], [15]), ([16], [16]), ([16], [16]), ([17, 15, 0, 1, 2, 3, 4, 5, 6, 7, 8, 9, 10, 11, 12, 13, 14, 15, 16, 17], [17]), ([18, 19, 0, 1, 2, 3, 4, 5, 6, 7, 8, 9, 10, 11, 12, 13, 14, 15, 16, 17, 18, 19], [18])])
def rpP_B9 : List Nat := [0, 0, 3, 7, 15, 0, 0, 96, 224, 480, 1023, 2047, 0, 0, 16383, 32767, 65535, 131071, 131071, 262143, 1048575]
theorem rpP_tab9 : rtab .any (opsOf Try.f103 9) = rpP_T9 := by kernel_rfl
theorem rpP_bits9 : waitsOk rpP_T9.2 rpP_B9 = true := by kernel_rfl
/-- Two cells, and what was there is as it was. -/
def At2 (p0 p1 : Addr) (v0 v1 : Value) (w0 w' : World) : Prop := w'.cell? p0 = some v0 ∧ w'.cell? p1 = some v1 ∧ Below w0.heap.size w0 w'
theorem At2.step {p0 p1 : Addr} {v0 v1 : Value} {w0 w1 w2 : World} (h : At2 p0 p1 v0 v1 w0 w1) (hB : Below w1.heap.size w1 w2) : At2 p0 p1 v0 v1 w0 w2 :=
  ⟨cell_step h.1 hB, cell_step h.2.1 hB, below_step h.2.2 hB⟩
theorem provenP_is {p : S101} {t4 : List Int} {x4 : Int} (h : joinP (p.f3.map letterZ) = (t4, x4)) : provenP p = if x4 = 0 then joinP [encI [p.f0, p.f1], entryZ p.f2, t4] else ([], x4) := by unfold provenP; rw [h]
set_option maxHeartbeats 8000000 in
set_option maxRecDepth 100000 in
theorem proven103_calls (A : Option Addr) (c : Nat) (l : List S101) (z : List Int) (x : Int) (w : World) (hC : Kd.C k101 w A l.length l) (hc : l.length ≤ c) (hg : ∀ p ∈ l, Good101 p) (hn : l.length ≤ 8) (hj : provGo [] l = (z, x)) :
    Calls Try.prog 103 #[.slice A l.length c] w fun e w' => ∃ A1 c1, e = .returned (.tuple #[.slice A1 z.length c1, .int .i64 x]) ∧ Got (Kd.int .u8) 5 w w' A1 c1 z := by
  have hu101 := Try.underlying101
  have hu87 := Try.underlying87
  have HC := Aside0.mk hC
  have HG := Aside0.mk hg
  have HJ := Aside0.mk hj
  have hm := hC.2.1
  have HR0 := Aside0.mk (new_R (Kd.slice 5 (Kd.int .u8)) 22 w w.heap.size (fun k => w.heap.size ≤ k) (Nat.le_refl _) (Nat.le_refl _))
  have HB0 := Aside0.mk (below_alloc (Below.refl w.heap.size w) (.cells #[] 22))
  clear hC hg hj
  go_enter Try.func103, Try.ntmps103
  go_wp2_with (fail)
  go_loopw [4, 5] (fun u t wr => ∃ (i : Nat) (xs : List (List Int)), t = .int .i64 (i : Int) ∧ i ≤ l.length ∧ Aside0 (xs.length = i) ∧ Aside0 (∀ r ∈ xs, r.length ≤ 50000000) ∧ Aside0 (provGo xs (l.drop i) = (z, x)) ∧ Aside0 (Kd.R (Kd.slice 5 (Kd.int .u8)) 22 wr w.heap.size (fun k_ => w.heap.size ≤ k_) u xs) ∧ Aside0 (Below w.heap.size w wr)) (fun _ t _ => l.length - (intOf t).toNat)
  case atStart => exact ⟨0, [], rfl, Nat.zero_le _, ⟨rfl⟩, ⟨by simp⟩, HJ, HR0, HB0⟩
  case round =>
    clear HR0 HB0 HJ
    obtain ⟨i, xs, rfl, hi, HXL, HS, HJ, HR, HB⟩ := hrel
    have hxl : xs.length ≤ 8 := by have := HXL.out; omega
    obtain ⟨Av, cv, ev⟩ := Kd.R_slice HR.out
    subst ev
    by_cases hlt : i < l.length
    · have b0 : decide ((i : Int) < (l.length : Int)) = true := decide_eq_true (by omega)
      have b0' : decide (i < l.length) = true := decide_eq_true hlt
      have b1 : (0 ≤ (i : Int)) = True := eq_true (by omega)
      have b2 : ((i : Int) < (l.length : Int)) = True := eq_true (by omega)
      obtain ⟨ad, B5, d5, B6, d6, e, hx0, hx1, hx2, hx3, hx4, hx5, hx6, hl5, hi5, hl6, hi6⟩ := at_T101 (Kd.C_below HC.out HB.out) (i : Int) (by omega) (by omega)
      subst e
      obtain ⟨p, hm⟩ : ∃ p, p = rd_T101 l (i : Int) := ⟨_, rfl⟩
      rw [← hm] at hx0 hx1 hx2 hx3 hx4 hx5 hx6 hl5 hi5 hl6 hi6
      rw [Int.toNat_natCast] at hx0 hx1 hx2 hx3 hx4 hx5 hx6
      have hmi : p = l[i] := by rw [hm]; simp [rd_T101, List.getD_eq_getElem?_getD, hlt]
      have hgp : Good101 p := hmi ▸ HG.out _ (List.getElem_mem hlt)
      have hdr := HJ.out
      rw [List.drop_eq_getElem_cons hlt, ← hmi, provGo] at hdr
      obtain ⟨t4, x4, h4⟩ : ∃ t x, joinP (p.f3.map letterZ) = (t, x) := ⟨_, _, rfl⟩
      obtain ⟨n3, h3⟩ : ∃ n3, n3 = encI [p.f0, p.f1] := ⟨_, rfl⟩
      obtain ⟨z5, h5⟩ : ∃ z5, z5 = entryZ p.f2 := ⟨_, rfl⟩
      have hpv := provenP_is h4
      rw [← h3, ← h5] at hpv
      have HNUM := Aside0.mk (show numsP [p.f0, p.f1] = (n3, 0) by rw [h3]; exact proven_nums hgp)
      have HE := Aside0.mk (show entryP p.f2 = (z5, 0) by rw [entryP, if_pos hgp.e, h5])
      have HL4 := Aside0.mk h4
      have HGp := Aside0.mk hgp
      have HA := Aside0.mk (And.intro hl5 (And.intro hi5 (And.intro hl6 hi6)))
      have hn3 : n3.length ≤ 50000000 := by have := encI_len (proven_wide hgp); rw [h3]; simp at this; omega
      have hz5 : z5.length ≤ 50000000 := by rw [h5]; exact join_len (entry_join (good87 hgp.e)) (by simp)
      clear hm hmi hl5 hi5 hl6 hi6 h3 h5 hgp HJ
      go_wp2_with (fail)
      refine (packs102_calls B6 d6 p.f3 t4 x4 wr HA.out.2.2.2 HA.out.2.2.1 HGp.out.l HGp.out.n HL4.out).mono ?_
      rintro e w1 ⟨A20, c20, rfl, hG⟩
      have HB1 := Aside0.mk (below_then HB.out HB.out.size hG.keep)
      have HG20 := Aside0.mk hG
      have y0 := cell_step hx0 hG.keep
      have y1 := cell_step hx1 hG.keep
      have y2 := cell_step hx2 hG.keep
      have y3 := cell_step hx3 hG.keep
      have y4 := cell_step hx4 hG.keep
      have y5 := cell_step hx5 hG.keep
      clear hG hx0 hx1 hx2 hx3 hx4 hx5 hx6
      by_cases hx : x4 = 0
      · subst hx
        rw [if_pos rfl] at hpv
        have ht4 : t4.length ≤ 50000000 := join_len h4 (by rw [List.length_map]; exact HGp.out.n)
        clear h4
        go_wp2_with (fail)
        refine (refPack76_calls p.f2 B5 d5 z5 0 w1 (Kd.C_below HA.out.2.1 HG20.out.keep) HA.out.1 HE.out).mono ?_
        rintro e w2 ⟨A18, c18, rfl, hG⟩
        have HB2 := Aside0.mk (below_then HB1.out HB1.out.size hG.keep)
        have HG18 := Aside0.mk hG
        have HG20b := Aside0.mk (Kd.C_below HG20.out.row hG.keep)
        have HK2 := Aside0.mk (below_then HG20.out.keep HG20.out.keep.size hG.keep)
        have HZ := Aside0.mk (And.intro (cell_step y0 hG.keep) (cell_step y1 hG.keep))
        clear hG y0 y1 y2 y3 y4 y5
        obtain ⟨z7, x7, h7⟩ : ∃ z x, joinP [n3, z5, t4] = (z, x) := ⟨_, _, rfl⟩
        rw [h7] at hpv
        rw [hpv] at hdr
        have HJ7 := Aside0.mk h7
        have HSZ := Aside0.mk (rows_len (l := [n3, z5, t4]) (by intro r hr; simp at hr; rcases hr with rfl | rfl | rfl <;> assumption) (by simp))
        clear hpv
        go_upto_region 9 with (fail)
        refine start_ (n := 21) (S := At2 (ad.add (i * 7)) ⟨(ad.add (i * 7)).block, (ad.add (i * 7)).off + 1, none⟩ (.int .i64 p.f0) (.int .i64 p.f1) w2) (ds := []) #[false, false, false, false, false, false, false, false, false, false, false, false, false, false, false, false, false, false, false, false, false] (by kernel_rfl) rfl rfl
          ⟨HZ.out.1, HZ.out.2, below_drew1 (Below.refl _ _)⟩ (fun hHeld => ?_)
        generalize w2.drew = w3 at hHeld ⊢
        refine with_tabW rpP_tab9 rpP_bits9 (fun HT_ HW_ => ?_)
        refine pure_ (i := 0) (N := some 40) (v := ?_) (a' := ?_) #[true, false, false, false, false, false, false, false, false, false, false, false, false, false, false, false, false, false, false, false, false] rfl rfl (any_of HT_.out (by kernel_rfl)) (fun _ _ _ h => h) (Or.inl ⟨by rfl, ?_⟩) ?_ ?_
        rotate_left
        · intro w'
          go_simp
          with_reducible rfl
        rotate_left
        · simp only [Act.put, List.setIfInBounds_toArray, List.set_cons_zero, List.set_cons_succ, i64_w, i32_w]
          rfl
        refine pure_ (i := 1) (N := some 41) (v := ?_) (a' := ?_) #[true, true, false, false, false, false, false, false, false, false, false, false, false, false, false, false, false, false, false, false, false] rfl rfl (any_of HT_.out (by kernel_rfl)) (fun _ _ _ h => h) (Or.inl ⟨by rfl, ?_⟩) ?_ ?_
        rotate_left
        · intro w'
          go_simp
          with_reducible rfl
        rotate_left
        · simp only [Act.put, List.setIfInBounds_toArray, List.set_cons_zero, List.set_cons_succ, i64_w, i32_w]
          rfl
        refine pure_ (i := 2) (N := some 42) (v := ?_) (a' := ?_) #[true, true, true, false, false, false, false, false, false, false, false, false, false, false, false, false, false, false, false, false, false] rfl rfl (any_of HT_.out (by kernel_rfl)) (fun _ _ _ h => h) (Or.inl ⟨by rfl, ?_⟩) ?_ ?_
        rotate_left
        · intro w'
          go_simp
          with_reducible rfl
        rotate_left
        · simp only [Act.put, List.setIfInBounds_toArray, List.set_cons_zero, List.set_cons_succ, i64_w, i32_w]
          rfl
        refine pure_ (i := 3) (N := some 43) (v := ?_) (a' := ?_) #[true, true, true, true, false, false, false, false, false, false, false, false, false, false, false, false, false, false, false, false, false] rfl rfl (any_of HT_.out (by kernel_rfl)) (fun _ _ _ h => h) (Or.inl ⟨by rfl, ?_⟩) ?_ ?_
        rotate_left
        · intro w'
          go_simp
          with_reducible rfl
        rotate_left
        · simp only [Act.put, List.setIfInBounds_toArray, List.set_cons_zero, List.set_cons_succ, i64_w, i32_w]
          rfl
        refine take_ (i := 4) (N := some 44) (v := ?_) (a' := ?_) #[true, true, true, true, true, false, false, false, false, false, false, false, false, false, false, false, false, false, false, false, false] rfl rfl (take_ofW HT_.out HW_.out (by kernel_rfl)) (fun _ _ _ h => h) (Or.inl ⟨by rfl, ?_⟩) hHeld ?_ ?_
        rotate_left
        · rintro w' ⟨s0, s1, s2⟩
          go_simp
          with_reducible rfl
        rotate_left
        · simp only [Act.put, List.setIfInBounds_toArray, List.set_cons_zero, List.set_cons_succ, i64_w, i32_w]
          rfl
        refine pure_ (i := 5) (N := some 45) (v := ?_) (a' := ?_) #[true, true, true, true, true, true, false, false, false, false, false, false, false, false, false, false, false, false, false, false, false] rfl rfl (any_of HT_.out (by kernel_rfl)) (fun _ _ _ h => h) (Or.inl ⟨by rfl, ?_⟩) ?_ ?_
        rotate_left
        · intro w'
          go_simp
          with_reducible rfl
        rotate_left
        · simp only [Act.put, List.setIfInBounds_toArray, List.set_cons_zero, List.set_cons_succ, i64_w, i32_w]
          rfl
        refine pure_ (i := 6) (N := some 46) (v := ?_) (a' := ?_) #[true, true, true, true, true, true, true, false, false, false, false, false, false, false, false, false, false, false, false, false, false] rfl rfl (any_of HT_.out (by kernel_rfl)) (fun _ _ _ h => h) (Or.inl ⟨by rfl, ?_⟩) ?_ ?_
        rotate_left
        · intro w'
          go_simp
          with_reducible rfl
        rotate_left
        · simp only [Act.put, List.setIfInBounds_toArray, List.set_cons_zero, List.set_cons_succ, i64_w, i32_w]
          rfl
        refine pure_ (i := 7) (N := some 47) (v := ?_) (a' := ?_) #[true, true, true, true, true, true, true, true, false, false, false, false, false, false, false, false, false, false, false, false, false] rfl rfl (any_of HT_.out (by kernel_rfl)) (fun _ _ _ h => h) (Or.inl ⟨by rfl, ?_⟩) ?_ ?_
        rotate_left
        · intro w'
          go_simp
          with_reducible rfl
        rotate_left
        · simp only [Act.put, List.setIfInBounds_toArray, List.set_cons_zero, List.set_cons_succ, i64_w, i32_w]
          rfl
        refine pure_ (i := 8) (N := some 48) (v := ?_) (a' := ?_) #[true, true, true, true, true, true, true, true, true, false, false, false, false, false, false, false, false, false, false, false, false] rfl rfl (any_of HT_.out (by kernel_rfl)) (fun _ _ _ h => h) (Or.inl ⟨by rfl, ?_⟩) ?_ ?_
        rotate_left
        · intro w'
          go_simp
          with_reducible rfl
        rotate_left
        · simp only [Act.put, List.setIfInBounds_toArray, List.set_cons_zero, List.set_cons_succ, i64_w, i32_w]
          rfl
        refine take_ (i := 9) (N := some 49) (v := ?_) (a' := ?_) #[true, true, true, true, true, true, true, true, true, true, false, false, false, false, false, false, false, false, false, false, false] rfl rfl (take_ofW HT_.out HW_.out (by kernel_rfl)) (fun _ _ _ h => h) (Or.inl ⟨by rfl, ?_⟩) hHeld ?_ ?_
        rotate_left
        · rintro w' ⟨s0, s1, s2⟩
          go_simp
          with_reducible rfl
        rotate_left
        · simp only [Act.put, List.setIfInBounds_toArray, List.set_cons_zero, List.set_cons_succ, i64_w, i32_w]
          rfl
        refine pure_ (i := 12) (N := some 52) (v := ?_) (a' := ?_) #[true, true, true, true, true, true, true, true, true, true, false, false, true, false, false, false, false, false, false, false, false] rfl rfl (any_of HT_.out (by kernel_rfl)) (fun _ _ _ h => h) (Or.inl ⟨by rfl, ?_⟩) ?_ ?_
        rotate_left
        · intro w'
          go_simp
          with_reducible rfl
        rotate_left
        · simp only [Act.put, List.setIfInBounds_toArray, List.set_cons_zero, List.set_cons_succ, i64_w, i32_w]
          rfl
        refine pure_ (i := 13) (N := some 53) (v := ?_) (a' := ?_) #[true, true, true, true, true, true, true, true, true, true, false, false, true, true, false, false, false, false, false, false, false] rfl rfl (any_of HT_.out (by kernel_rfl)) (fun _ _ _ h => h) (Or.inl ⟨by rfl, ?_⟩) ?_ ?_
        rotate_left
        · intro w'
          go_simp
          with_reducible rfl
        rotate_left
        · simp only [Act.put, List.setIfInBounds_toArray, List.set_cons_zero, List.set_cons_succ, i64_w, i32_w]
          rfl
        refine one_ (i := 10) (N := some 50) #[true, true, true, true, true, true, true, true, true, true, true, false, true, true, false, false, false, false, false, false, false] rfl rfl (one_of HT_.out (by kernel_rfl)) (by decide) (fun K hK => ?_)
        go_simp
        refine hK.out _ _ (hHeld.step (below_alloc (Below.refl _ _) _)) (fun hHeld => ?_)
        clear hK K
        have HN1 := Aside0.mk (C_ints_block (l := [p.f0, p.f1]) (t := 3) (fr := (0, 0)) (blk_new w3 (.cells #[.int .i64 p.f0, .int .i64 p.f1] 3)) (by simp))
        obtain ⟨g3, hg3⟩ : ∃ g3, g3 = w3.heap.size := ⟨_, rfl⟩
        rw [← hg3] at HN1 ⊢
        clear hg3
        generalize w3.alloc (.cells #[.int .i64 p.f0, .int .i64 p.f1] 3) = w4 at hHeld HN1 ⊢
        refine one_ (i := 11) (N := some 51) #[true, true, true, true, true, true, true, true, true, true, true, true, true, true, false, false, false, false, false, false, false] rfl rfl (one_of HT_.out (by kernel_rfl)) (by decide) (fun K hK => ?_)
        refine goes_ Try.func101 (by kernel_rfl) rfl #[.slice (some ⟨g3, 0, none⟩) 2 2] (by rfl) rfl rfl (by (try simp only [List.map_toArray, List.map_cons, List.map_nil]); first | done | rfl) ?_
        refine (refnums_calls (some _) 2 [p.f0, p.f1] n3 0 _ HN1.out (by simp) (by simp) HNUM.out).mono ?_
        rintro e w5 ⟨A15, c15, rfl, hG⟩
        refine ⟨_, rfl, ?_⟩
        have HG15 := Aside0.mk hG
        refine hK.out _ _ (hHeld.step hG.keep) (fun hHeld => ?_)
        clear hK K hG HN1
        refine norm_ (a' := ?_) ?_ ?_
        rotate_left
        · show Act.put _ (some 51) _ = _
          simp only [Act.put, List.setIfInBounds_toArray, List.set_cons_zero, List.set_cons_succ, i64_w, i32_w]
          rfl
        refine one_ (i := 14) (N := some 54) #[true, true, true, true, true, true, true, true, true, true, true, true, true, true, true, false, false, false, false, false, false] rfl rfl (one_of HT_.out (by kernel_rfl)) (by decide) (fun K hK => ?_)
        go_simp
        refine hK.out _ _ (hHeld.step (below_alloc (Below.refl _ _) _)) (fun hHeld => ?_)
        clear hK K
        have HRw := Aside0.mk (rows_of_block (vs := [(A15, n3.length, c15), (A18, z5.length, c18), (A20, t4.length, c20)]) (zs := [n3, z5, t4]) (blk_new w5 (.cells #[.slice A15 n3.length c15, .slice A18 z5.length c18, .slice A20 t4.length c20] 22)) (bys_cons HG15.out.cap (Kd.C_alloc HG15.out.row _) (bys_cons HG18.out.cap (Kd.C_below HG18.out.row hHeld.2.2) (bys_cons HG20.out.cap (Kd.C_below HG20b.out hHeld.2.2) (bys_nil _)))) (by simp))
        obtain ⟨g6, hg6⟩ : ∃ g6, g6 = w5.heap.size := ⟨_, rfl⟩
        rw [← hg6] at HRw ⊢
        clear hg6 HG15
        generalize w5.alloc (.cells #[.slice A15 n3.length c15, .slice A18 z5.length c18, .slice A20 t4.length c20] 22) = w7 at hHeld HRw ⊢
        refine one_ (i := 15) (N := some 55) #[true, true, true, true, true, true, true, true, true, true, true, true, true, true, true, true, false, false, false, false, false] rfl rfl (one_of HT_.out (by kernel_rfl)) (by decide) (fun K hK => ?_)
        refine goes_ Try.func32 (by kernel_rfl) rfl #[.slice (some ⟨g6, 0, none⟩) 3 3] (by rfl) rfl rfl (by (try simp only [List.map_toArray, List.map_cons, List.map_nil]); first | done | rfl) ?_
        refine (refJoin_calls (some _) 3 [n3, z5, t4] z7 x7 _ HRw.out (by simp) HSZ.out HJ7.out).mono ?_
        rintro e w8 ⟨A1, c1, rfl, hG⟩
        refine ⟨_, rfl, ?_⟩
        have HG22 := Aside0.mk hG
        have HB7 := Aside0.mk (below_then HB2.out HB2.out.size hHeld.2.2)
        have HB7b := Aside0.mk (Nat.le_trans HK2.out.size hHeld.2.2.size)
        refine hK.out _ _ (hHeld.step hG.keep) (fun hHeld => ?_)
        clear hK K hG HRw
        refine norm_ (a' := ?_) ?_ ?_
        rotate_left
        · show Act.put _ (some 55) _ = _
          simp only [Act.put, List.setIfInBounds_toArray, List.set_cons_zero, List.set_cons_succ, i64_w, i32_w]
          rfl
        refine pure_ (i := 16) (N := some 39) (v := ?_) (a' := ?_) #[true, true, true, true, true, true, true, true, true, true, true, true, true, true, true, true, true, false, false, false, false] rfl rfl (any_of HT_.out (by kernel_rfl)) (fun _ _ _ h => h) (Or.inl ⟨by rfl, ?_⟩) ?_ ?_
        rotate_left
        · intro w'
          go_simp
          with_reducible rfl
        rotate_left
        · simp only [Act.put, List.setIfInBounds_toArray, List.set_cons_zero, List.set_cons_succ, i64_w, i32_w]
          rfl
        refine pure_ (i := 17) (N := some 56) (v := ?_) (a' := ?_) #[true, true, true, true, true, true, true, true, true, true, true, true, true, true, true, true, true, true, false, false, false] rfl rfl (any_of HT_.out (by kernel_rfl)) (fun _ _ _ h => h) (Or.inl ⟨by rfl, ?_⟩) ?_ ?_
        rotate_left
        · intro w'
          go_simp
          with_reducible rfl
        rotate_left
        · simp only [Act.put, List.setIfInBounds_toArray, List.set_cons_zero, List.set_cons_succ, i64_w, i32_w]
          rfl
        refine pure_ (i := 18) (N := some 57) (v := ?_) (a' := ?_) #[true, true, true, true, true, true, true, true, true, true, true, true, true, true, true, true, true, true, true, false, false] rfl rfl (any_of HT_.out (by kernel_rfl)) (fun _ _ _ h => h) (Or.inl ⟨by rfl, ?_⟩) ?_ ?_
        rotate_left
        · intro w'
          go_simp
          with_reducible rfl
        rotate_left
        · simp only [Act.put, List.setIfInBounds_toArray, List.set_cons_zero, List.set_cons_succ, i64_w, i32_w]
          rfl
        refine pure_ (i := 19) (N := some 10) (v := ?_) (a' := ?_) #[true, true, true, true, true, true, true, true, true, true, true, true, true, true, true, true, true, true, true, true, false] rfl rfl (any_of HT_.out (by kernel_rfl)) (fun _ _ _ h => h) (Or.inl ⟨by rfl, ?_⟩) ?_ ?_
        rotate_left
        · intro w'
          go_simp
          with_reducible rfl
        rotate_left
        · simp only [Act.put, List.setIfInBounds_toArray, List.set_cons_zero, List.set_cons_succ, i64_w, i32_w]
          rfl
        refine pure_ (i := 20) (N := some 7) (v := ?_) (a' := ?_) #[true, true, true, true, true, true, true, true, true, true, true, true, true, true, true, true, true, true, true, true, true] rfl rfl (any_of HT_.out (by kernel_rfl)) (fun _ _ _ h => h) (Or.inl ⟨by rfl, ?_⟩) ?_ ?_
        rotate_left
        · intro w'
          go_simp
          with_reducible rfl
        rotate_left
        · simp only [Act.put, List.setIfInBounds_toArray, List.set_cons_zero, List.set_cons_succ, i64_w, i32_w]
          rfl
        refine done_ (done_of HT_.out (by kernel_rfl)) ?_
        have HB8 := Aside0.mk (below_then HB7.out HB7.out.size HG22.out.keep)
        by_cases hx7 : x7 = 0
        · subst hx7
          have hz7 : z7.length ≤ 50000000 := join_len h7 (by simp)
          have HJN := Aside0.mk (show provGo (xs ++ [z7]) (l.drop (i + 1)) = (z, x) by rw [if_pos rfl] at hdr; exact hdr)
          have HZ7 := Aside0.mk hz7
          have HKw := Aside0.mk (below_then (below_then HK2.out HK2.out.size hHeld.2.2) (Nat.le_trans HK2.out.size hHeld.2.2.size) (Below.refl _ _))
          have HBw := Aside0.mk (below_then HB.out HB.out.size HKw.out)
          have hs2 := HBw.out.size
          have HR2 := Aside0.mk (Kd.R_below HR.out HKw.out)
          have HM := Aside0.mk (show (Kd.slice 5 (Kd.int .u8)).M w8 w.heap.size (fun k => wr.heap.size ≤ k) z7 [.slice A1 z7.length c1] from ⟨_, rfl, Kd.R_mono (Kd.R_lower HG22.out.own HB7.out.size) (fun k hk => by have := HB7b.out; omega)⟩)
          have HB2 := HBw
          clear hdr hHeld HB7 HG22 HG18 HG20 HG20b
          go_wp2_with (at_builtin; refine Kd.R_append (Kd.slice 5 (Kd.int .u8)) (w0 := w) w.heap.size rfl (.tmp 61) (.tmp 63) 32 22 (.slice none 0 0) 24 rfl Try.underlying32 Walks.info22 rfl (by decide) (by omega) (.slice Av xs.length cv) xs z7 [.slice A1 z7.length c1] (fun k_ => w.heap.size ≤ k_) (fun k_ => wr.heap.size ≤ k_) rfl rfl HM.out (fun k hk => ⟨Nat.le_trans HB.out.size hk, fun e => by have := Kd.R_lt_ HR.out k e.symm; omega⟩) (fun k hk => by omega) HR2.out HB2.out hs2 (by omega) ?_; intro v3 w3 hR3 hB3 hg3 hat3; have HR3 := Aside0.mk hR3; have HB3 := Aside0.mk hB3; clear hR3 hB3 hg3 hat3)
          exact ⟨⟨i + 1, xs ++ [z7], by simp, by omega, ⟨by rw [List.length_append, HXL.out]; rfl⟩, ⟨fun r hr => by
            rcases List.mem_append.1 hr with hr | hr
            · exact HS.out r hr
            · rw [List.mem_singleton.1 hr]; exact HZ7.out⟩, HJN, HR3, HB3⟩, by simp only [intOf]; omega⟩
        · rw [if_neg hx7] at hdr
          obtain ⟨rfl, rfl⟩ := Prod.mk.inj hdr
          have be : (x7 != 0) = true := bne_iff_ne.mpr hx7
          clear hdr h7 hx7
          go_wp2_with (fail)
          go_ret2
          exact ⟨none, 0, rfl, ⟨Kd.R_nil _ _ _ _ _, HB8.out⟩⟩
      · rw [if_neg hx] at hpv
        rw [hpv] at hdr
        simp only [if_neg hx] at hdr
        obtain ⟨rfl, rfl⟩ := Prod.mk.inj hdr
        have be : (x4 != 0) = true := bne_iff_ne.mpr hx
        clear hdr hpv h4 hx
        go_wp2_with (fail)
        go_ret2
        exact ⟨none, 0, rfl, ⟨Kd.R_nil _ _ _ _ _, HB1.out⟩⟩
    · have b0 : decide ((i : Int) < (l.length : Int)) = false := decide_eq_false (by omega)
      have b0' : decide (i < l.length) = false := decide_eq_false hlt
      have HJ2 := Aside0.mk (show joinP xs = (z, x) by have := HJ.out; rw [List.drop_eq_nil_of_le (by omega), provGo] at this; exact this)
      go_wp2_with (fail)
      refine (refJoin_calls Av cv xs z x wr (Kd.R_reads' HR.out).2.2 (Kd.R_reads' HR.out).2.1 (rows_len HS.out (by have := HXL.out; omega)) HJ2.out).mono ?_
      rintro e w2 ⟨A1, c1, rfl, hG⟩
      have HG2 := Aside0.mk (hG.lift HB.out)
      clear hG
      go_wp2_with (fail)
      go_ret2
      exact ⟨_, _, rfl, HG2.out⟩
end Go.Proofs.Ytijccobeljoikaa.Ms
