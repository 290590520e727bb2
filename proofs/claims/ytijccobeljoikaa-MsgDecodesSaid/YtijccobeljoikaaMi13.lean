/- Put together of my texts: MtR, MtSa. -/
import Derived.Test.YtijccobeljoikaaMi10
/- msg: the statements' helpers: the same letters, the same that is proven. -/
namespace Go.Proofs.Ytijccobeljoikaa.Ms
open Go.RowKit Go.Proofs.YtijccobeljoikaaW.PrintWords Go.Proofs.YtijccobeljoikaaW.PrintLast
open Go.Proofs.Ytijccobeljoikaa.Plain Go.Proofs.Ytijccobeljoikaa.Walks
set_option linter.unusedVariables false
set_option linter.unusedSimpArgs false
/-- 10 cells of an elder world, and what was there is as it was. -/
def At10 (p0 p1 p2 p3 p4 p5 p6 p7 p8 p9 : Addr) (v0 v1 v2 v3 v4 v5 v6 v7 v8 v9 : Value) (w0 w' : World) : Prop := w'.cell? p0 = some v0 ∧ w'.cell? p1 = some v1 ∧ w'.cell? p2 = some v2 ∧ w'.cell? p3 = some v3 ∧ w'.cell? p4 = some v4 ∧ w'.cell? p5 = some v5 ∧ w'.cell? p6 = some v6 ∧ w'.cell? p7 = some v7 ∧ w'.cell? p8 = some v8 ∧ w'.cell? p9 = some v9 ∧ Below w0.heap.size w0 w'
theorem At10.of {p0 p1 p2 p3 p4 p5 p6 p7 p8 p9 : Addr} {v0 v1 v2 v3 v4 v5 v6 v7 v8 v9 : Value} {w0 w' : World} (h : At10 p0 p1 p2 p3 p4 p5 p6 p7 p8 p9 v0 v1 v2 v3 v4 v5 v6 v7 v8 v9 w0 w0) (hB : Below w0.heap.size w0 w') : At10 p0 p1 p2 p3 p4 p5 p6 p7 p8 p9 v0 v1 v2 v3 v4 v5 v6 v7 v8 v9 w0 w' :=
  ⟨cell_step h.1 hB, cell_step h.2.1 hB, cell_step h.2.2.1 hB, cell_step h.2.2.2.1 hB, cell_step h.2.2.2.2.1 hB, cell_step h.2.2.2.2.2.1 hB, cell_step h.2.2.2.2.2.2.1 hB, cell_step h.2.2.2.2.2.2.2.1 hB, cell_step h.2.2.2.2.2.2.2.2.1 hB, cell_step h.2.2.2.2.2.2.2.2.2.1 hB, hB⟩
/-- 14 cells of an elder world, and what was there is as it was. -/
def At14 (p0 p1 p2 p3 p4 p5 p6 p7 p8 p9 p10 p11 p12 p13 : Addr) (v0 v1 v2 v3 v4 v5 v6 v7 v8 v9 v10 v11 v12 v13 : Value) (w0 w' : World) : Prop := w'.cell? p0 = some v0 ∧ w'.cell? p1 = some v1 ∧ w'.cell? p2 = some v2 ∧ w'.cell? p3 = some v3 ∧ w'.cell? p4 = some v4 ∧ w'.cell? p5 = some v5 ∧ w'.cell? p6 = some v6 ∧ w'.cell? p7 = some v7 ∧ w'.cell? p8 = some v8 ∧ w'.cell? p9 = some v9 ∧ w'.cell? p10 = some v10 ∧ w'.cell? p11 = some v11 ∧ w'.cell? p12 = some v12 ∧ w'.cell? p13 = some v13 ∧ Below w0.heap.size w0 w'
theorem At14.of {p0 p1 p2 p3 p4 p5 p6 p7 p8 p9 p10 p11 p12 p13 : Addr} {v0 v1 v2 v3 v4 v5 v6 v7 v8 v9 v10 v11 v12 v13 : Value} {w0 w' : World} (h : At14 p0 p1 p2 p3 p4 p5 p6 p7 p8 p9 p10 p11 p12 p13 v0 v1 v2 v3 v4 v5 v6 v7 v8 v9 v10 v11 v12 v13 w0 w0) (hB : Below w0.heap.size w0 w') : At14 p0 p1 p2 p3 p4 p5 p6 p7 p8 p9 p10 p11 p12 p13 v0 v1 v2 v3 v4 v5 v6 v7 v8 v9 v10 v11 v12 v13 w0 w' :=
  ⟨cell_step h.1 hB, cell_step h.2.1 hB, cell_step h.2.2.1 hB, cell_step h.2.2.2.1 hB, cell_step h.2.2.2.2.1 hB, cell_step h.2.2.2.2.2.1 hB, cell_step h.2.2.2.2.2.2.1 hB, cell_step h.2.2.2.2.2.2.2.1 hB, cell_step h.2.2.2.2.2.2.2.2.1 hB, cell_step h.2.2.2.2.2.2.2.2.2.1 hB, cell_step h.2.2.2.2.2.2.2.2.2.2.1 hB, cell_step h.2.2.2.2.2.2.2.2.2.2.2.1 hB, cell_step h.2.2.2.2.2.2.2.2.2.2.2.2.1 hB, cell_step h.2.2.2.2.2.2.2.2.2.2.2.2.2.1 hB, hB⟩
theorem sameE_same (x : S87) : sameE x x = true := by simp [sameE]
theorem sameL_same (x : S72) : sameL x x = true := by simp [sameL]
theorem sameEntry_same (x : S87) (A B : Option Addr) (c d : Nat) (w : World) (hA : Kd.C (Kd.int .u8) w A x.f3.length x.f3) (hc : x.f3.length ≤ c) (hB : Kd.C (Kd.int .u8) w B x.f3.length x.f3) (hd : x.f3.length ≤ d) :
    Calls Try.prog 82 #[.agg #[.int .i64 x.f0, .int .i64 x.f1, .int .i64 x.f2, .slice A x.f3.length c], .agg #[.int .i64 x.f0, .int .i64 x.f1, .int .i64 x.f2, .slice B x.f3.length d]] w fun e w' => e = .returned (.bool true) ∧ Below w.heap.size w w' := by
  have h := sameEntry_calls x x A B c d w hA hc hB hd
  rw [sameE_same] at h
  exact h
theorem sameLetter_same (x : S72) (A2 A3 B2 B3 : Option Addr) (c2 c3 d2 d3 : Nat) (w : World) (hA2 : Kd.C (Kd.int .u8) w A2 x.f2.length x.f2) (hc2 : x.f2.length ≤ c2) (hA3 : Kd.C (Kd.slice 5 (Kd.int .u8)) w A3 x.f3.length x.f3)
    (hB2 : Kd.C (Kd.int .u8) w B2 x.f2.length x.f2) (hd2 : x.f2.length ≤ d2) (hB3 : Kd.C (Kd.slice 5 (Kd.int .u8)) w B3 x.f3.length x.f3) :
    Calls Try.prog 81 #[.agg #[.int .i64 x.f0.f0, .int .i64 x.f0.f1, .int .i64 x.f1, .slice A2 x.f2.length c2, .slice A3 x.f3.length c3], .agg #[.int .i64 x.f0.f0, .int .i64 x.f0.f1, .int .i64 x.f1, .slice B2 x.f2.length d2, .slice B3 x.f3.length d3]] w fun e w' => e = .returned (.bool true) ∧ Below w.heap.size w w' := by
  have h := sameLetter_calls x x A2 A3 B2 B3 c2 c3 d2 d3 w hA2 hc2 hA3 hB2 hd2 hB3
  rw [sameL_same] at h
  exact h
def smL_T6 : Bool × List (List Nat × List Nat) := (true, [([], []), ([], []), ([0, 1], [0, 1]), ([2], [2]), ([], []), ([], []), ([4, 5], [4, 5]), ([6], [6]), ([3, 7], [3, 7]), ([8], [8])])
def smL_B6 : List Nat := [0, 0, 3, 7, 0, 0, 48, 112, 255, 511]
theorem smL_tab6 : rtab .any (opsOf Try.f104 6) = smL_T6 := by kernel_rfl
theorem smL_bits6 : waitsOk smL_T6.2 smL_B6 = true := by kernel_rfl
def smP_T6 : Bool × List (List Nat × List Nat) := (true, [([], []), ([], []), ([0, 1], [0, 1]), ([2], [2]), ([3], [3]), ([], []), ([], []), ([5, 6], [5, 6]), ([7], [7]), ([8], [8]), ([4, 9], [4, 9]), ([10], [10]), ([11], [11]), ([11], [11]), ([12, 13, 11], [11, 12, 13]), ([14, 11], [11, 14]), ([15, 11], [11, 15]), ([11], [11]), ([11], [11]), ([17, 18, 11], [11, 17, 18]), ([19, 11], [11, 19]), ([20, 11], [11, 20]), ([16, 21, 11], [11, 16, 21]), ([11, 22], [11, 22]), ([23, 11], [23]), ([24], [24]), ([24], [24]), ([25, 26, 24], [24, 25, 26]), ([27, 24], [24, 27]), ([28, 24], [24, 28]), ([24], [24]), ([24], [24]), ([30, 31, 24], [24, 30, 31]), ([32, 24], [24, 32]), ([33, 24], [24, 33]), ([29, 34, 24, 24], [24, 29, 34]), ([35, 24], [24, 35]), ([24, 36], [24, 36]), ([37, 35], [37]), ([38], [38]), ([38], [38]), ([39, 40, 38], [38, 39, 40]), ([41, 38], [38, 41]), ([42, 38], [38, 42]), ([38], [38]), ([38], [38]), ([44, 45, 38], [38, 44, 45]), ([46, 38], [38, 46]), ([47, 38], [38, 47]), ([43, 48, 38, 38], [38, 43, 48]), ([49, 38], [38, 49]), ([38, 50], [38, 50])])
def smP_B6 : List Nat := [0, 0, 3, 7, 15, 0, 0, 96, 224, 480, 1023, 2047, 4095, 4095, 16383, 32767, 65535, 4095, 4095, 397311, 921599, 1970175, 4194303, 8388607, 16777215, 33554431, 33554431, 134217727, 268435455, 536870911, 33554431, 33554431, 3254779903, 7549747199, 16139681791, 34359738367, 68719476735, 137438953471, 274877906943, 549755813887, 549755813887, 2199023255551, 4398046511103, 8796093022207, 549755813887, 549755813887, 53326313947135, 123695058124799, 264432546480127, 562949953421311, 1125899906842623, 2251799813685247]
theorem smP_tab6 : rtab .any (opsOf Try.f105 6) = smP_T6 := by kernel_rfl
theorem smP_bits6 : waitsOk smP_T6.2 smP_B6 = true := by kernel_rfl
set_option maxHeartbeats 8000000 in
set_option maxRecDepth 100000 in
theorem sameLetters_calls (A C : Option Addr) (c d : Nat) (l : List S72) (w : World) (hC : Kd.C k72 w A l.length l) (hc : l.length ≤ c) (hD : Kd.C k72 w C l.length l) (hd : l.length ≤ d) :
    Calls Try.prog 104 #[.slice A l.length c, .slice C l.length d] w fun e w' => e = .returned (.bool true) ∧ Below w.heap.size w w' := by
  have hu72 := Try.underlying72
  have hu87 := Try.underlying87
  have hu72 := Try.underlying72
  have HC := Aside0.mk hC
  have HD := Aside0.mk hD
  have hm := hC.2.1
  have HB0 := Aside0.mk (Below.refl w.heap.size w)
  clear hC hD
  go_enter Try.func104, Try.ntmps104
  go_wp2_with (fail)
  go_loopw [5] (fun u wr => ∃ i : Nat, u = .int .i64 (i : Int) ∧ i ≤ l.length ∧ Aside0 (Below w.heap.size w wr)) (fun u _ => l.length - (intOf u).toNat)
  case atStart => exact ⟨0, rfl, Nat.zero_le _, HB0⟩
  case round =>
    clear HB0
    obtain ⟨i, rfl, hi, HB⟩ := hrel
    by_cases hlt : i < l.length
    · have b0 : decide ((i : Int) < (l.length : Int)) = true := decide_eq_true (by omega)
      have b0' : decide (i < l.length) = true := decide_eq_true hlt
      have b1 : (0 ≤ (i : Int)) = True := eq_true (by omega)
      have b2 : ((i : Int) < (l.length : Int)) = True := eq_true (by omega)
      obtain ⟨ad, B3, d3, B4, d4, e, hx0, hx1, hx2, hx3, hx4, hl3, hi3, hl4, hi4⟩ := at_T72 HC.out (i : Int) (by omega) (by omega)
      subst e
      obtain ⟨bd, C3, e3, C4, e4, e, hy0, hy1, hy2, hy3, hy4, ml3, mi3, ml4, mi4⟩ := at_T72 HD.out (i : Int) (by omega) (by omega)
      subst e
      obtain ⟨x, hm⟩ : ∃ x, x = rd_T72 l (i : Int) := ⟨_, rfl⟩
      rw [← hm] at hx0 hx1 hx2 hx3 hx4 hl3 hi3 hl4 hi4 hy0 hy1 hy2 hy3 hy4 ml3 mi3 ml4 mi4
      rw [Int.toNat_natCast] at hx0 hx1 hx2 hx3 hx4 hy0 hy1 hy2 hy3 hy4
      have HA := Aside0.mk (And.intro hl3 (And.intro hi3 (And.intro hl4 hi4)))
      have HG := Aside0.mk (And.intro ml3 (And.intro mi3 (And.intro ml4 mi4)))
      have H10 := Aside0.mk (show At10 _ _ _ _ _ _ _ _ _ _ _ _ _ _ _ _ _ _ _ _ w w from ⟨hx0, hx1, hx2, hx3, hx4, hy0, hy1, hy2, hy3, hy4, Below.refl _ _⟩)
      clear hm hl3 hi3 hl4 hi4 ml3 mi3 ml4 mi4 hx0 hx1 hx2 hx3 hx4 hy0 hy1 hy2 hy3 hy4
      go_upto_region 6 with (fail)
      refine start_ (n := 10) (S := At10 (ad.add (i * 5)) ⟨(ad.add (i * 5)).block, (ad.add (i * 5)).off + 1, none⟩ ⟨(ad.add (i * 5)).block, (ad.add (i * 5)).off + 2, none⟩ ⟨(ad.add (i * 5)).block, (ad.add (i * 5)).off + 3, none⟩ ⟨(ad.add (i * 5)).block, (ad.add (i * 5)).off + 4, none⟩ (bd.add (i * 5)) ⟨(bd.add (i * 5)).block, (bd.add (i * 5)).off + 1, none⟩ ⟨(bd.add (i * 5)).block, (bd.add (i * 5)).off + 2, none⟩ ⟨(bd.add (i * 5)).block, (bd.add (i * 5)).off + 3, none⟩ ⟨(bd.add (i * 5)).block, (bd.add (i * 5)).off + 4, none⟩ (.int .i64 x.f0.f0) (.int .i64 x.f0.f1) (.int .i64 x.f1) (.slice B3 x.f2.length d3) (.slice B4 x.f3.length d4) (.int .i64 x.f0.f0) (.int .i64 x.f0.f1) (.int .i64 x.f1) (.slice C3 x.f2.length e3) (.slice C4 x.f3.length e4) w) (ds := []) #[false, false, false, false, false, false, false, false, false, false] (by kernel_rfl) rfl rfl
        (H10.out.of (below_drew1 HB.out)) (fun hHeld => ?_)
      generalize wr.drew = w3 at hHeld ⊢
      refine with_tabW smL_tab6 smL_bits6 (fun HT_ HW_ => ?_)
      refine pure_ (i := 0) (N := some 17) (v := ?_) (a' := ?_) #[true, false, false, false, false, false, false, false, false, false] rfl rfl (any_of HT_.out (by kernel_rfl)) (fun _ _ _ h => h) (Or.inl ⟨by rfl, ?_⟩) ?_ ?_
      rotate_left
      · intro w'
        go_simp
        with_reducible rfl
      rotate_left
      · simp only [Act.put, List.setIfInBounds_toArray, List.set_cons_zero, List.set_cons_succ, i64_w, i32_w]
        rfl
      refine pure_ (i := 1) (N := some 18) (v := ?_) (a' := ?_) #[true, true, false, false, false, false, false, false, false, false] rfl rfl (any_of HT_.out (by kernel_rfl)) (fun _ _ _ h => h) (Or.inl ⟨by rfl, ?_⟩) ?_ ?_
      rotate_left
      · intro w'
        go_simp
        with_reducible rfl
      rotate_left
      · simp only [Act.put, List.setIfInBounds_toArray, List.set_cons_zero, List.set_cons_succ, i64_w, i32_w]
        rfl
      refine pure_ (i := 2) (N := some 19) (v := ?_) (a' := ?_) #[true, true, true, false, false, false, false, false, false, false] rfl rfl (any_of HT_.out (by kernel_rfl)) (fun _ _ _ h => h) (Or.inl ⟨by rfl, ?_⟩) ?_ ?_
      rotate_left
      · intro w'
        go_simp
        with_reducible rfl
      rotate_left
      · simp only [Act.put, List.setIfInBounds_toArray, List.set_cons_zero, List.set_cons_succ, i64_w, i32_w]
        rfl
      refine take_ (i := 3) (N := some 20) (v := ?_) (a' := ?_) #[true, true, true, true, false, false, false, false, false, false] rfl rfl (take_ofW HT_.out HW_.out (by kernel_rfl)) (fun _ _ _ h => h) (Or.inl ⟨by rfl, ?_⟩) hHeld ?_ ?_
      rotate_left
      · rintro w' ⟨s0, s1, s2, s3, s4, s5, s6, s7, s8, s9, s10⟩
        go_simp
        with_reducible rfl
      rotate_left
      · simp only [Act.put, List.setIfInBounds_toArray, List.set_cons_zero, List.set_cons_succ, i64_w, i32_w]
        rfl
      refine pure_ (i := 4) (N := some 21) (v := ?_) (a' := ?_) #[true, true, true, true, true, false, false, false, false, false] rfl rfl (any_of HT_.out (by kernel_rfl)) (fun _ _ _ h => h) (Or.inl ⟨by rfl, ?_⟩) ?_ ?_
      rotate_left
      · intro w'
        go_simp
        with_reducible rfl
      rotate_left
      · simp only [Act.put, List.setIfInBounds_toArray, List.set_cons_zero, List.set_cons_succ, i64_w, i32_w]
        rfl
      refine pure_ (i := 5) (N := some 22) (v := ?_) (a' := ?_) #[true, true, true, true, true, true, false, false, false, false] rfl rfl (any_of HT_.out (by kernel_rfl)) (fun _ _ _ h => h) (Or.inl ⟨by rfl, ?_⟩) ?_ ?_
      rotate_left
      · intro w'
        go_simp
        with_reducible rfl
      rotate_left
      · simp only [Act.put, List.setIfInBounds_toArray, List.set_cons_zero, List.set_cons_succ, i64_w, i32_w]
        rfl
      refine pure_ (i := 6) (N := some 23) (v := ?_) (a' := ?_) #[true, true, true, true, true, true, true, false, false, false] rfl rfl (any_of HT_.out (by kernel_rfl)) (fun _ _ _ h => h) (Or.inl ⟨by rfl, ?_⟩) ?_ ?_
      rotate_left
      · intro w'
        go_simp
        with_reducible rfl
      rotate_left
      · simp only [Act.put, List.setIfInBounds_toArray, List.set_cons_zero, List.set_cons_succ, i64_w, i32_w]
        rfl
      refine take_ (i := 7) (N := some 24) (v := ?_) (a' := ?_) #[true, true, true, true, true, true, true, true, false, false] rfl rfl (take_ofW HT_.out HW_.out (by kernel_rfl)) (fun _ _ _ h => h) (Or.inl ⟨by rfl, ?_⟩) hHeld ?_ ?_
      rotate_left
      · rintro w' ⟨s0, s1, s2, s3, s4, s5, s6, s7, s8, s9, s10⟩
        go_simp
        with_reducible rfl
      rotate_left
      · simp only [Act.put, List.setIfInBounds_toArray, List.set_cons_zero, List.set_cons_succ, i64_w, i32_w]
        rfl
      refine one_ (i := 8) (N := some 25) #[true, true, true, true, true, true, true, true, true, false] rfl rfl (one_of HT_.out (by kernel_rfl)) (by decide) (fun K hK => ?_)
      refine goes_ Try.func81 (by kernel_rfl) rfl #[.agg #[.int .i64 x.f0.f0, .int .i64 x.f0.f1, .int .i64 x.f1, .slice B3 x.f2.length d3, .slice B4 x.f3.length d4], .agg #[.int .i64 x.f0.f0, .int .i64 x.f0.f1, .int .i64 x.f1, .slice C3 x.f2.length e3, .slice C4 x.f3.length e4]] (by rfl) rfl rfl (by (try simp only [List.map_toArray, List.map_cons, List.map_nil]); first | done | rfl) ?_
      refine (sameLetter_same x B3 B4 C3 C4 d3 d4 e3 e4 _ (Kd.C_below HA.out.2.1 hHeld.2.2.2.2.2.2.2.2.2.2) HA.out.1 (Kd.C_below HA.out.2.2.2 hHeld.2.2.2.2.2.2.2.2.2.2) (Kd.C_below HG.out.2.1 hHeld.2.2.2.2.2.2.2.2.2.2) HG.out.1 (Kd.C_below HG.out.2.2.2 hHeld.2.2.2.2.2.2.2.2.2.2)).mono ?_
      rintro e w4 ⟨rfl, hB⟩
      refine ⟨_, rfl, ?_⟩
      have HB4 := Aside0.mk (below_then hHeld.2.2.2.2.2.2.2.2.2.2 hHeld.2.2.2.2.2.2.2.2.2.2.size hB)
      refine hK.out _ _ (H10.out.of HB4.out) (fun hHeld => ?_)
      clear hK K hB
      refine norm_ (a' := ?_) ?_ ?_
      rotate_left
      · show Act.put _ (some 25) _ = _
        simp only [Act.put, List.setIfInBounds_toArray, List.set_cons_zero, List.set_cons_succ, i64_w, i32_w]
        rfl
      refine pure_ (i := 9) (N := some 26) (v := ?_) (a' := ?_) #[true, true, true, true, true, true, true, true, true, true] rfl rfl (any_of HT_.out (by kernel_rfl)) (fun _ _ _ h => h) (Or.inl ⟨by rfl, ?_⟩) ?_ ?_
      rotate_left
      · intro w'
        go_simp
        with_reducible rfl
      rotate_left
      · simp only [Act.put, List.setIfInBounds_toArray, List.set_cons_zero, List.set_cons_succ, i64_w, i32_w]
        rfl
      refine done_ (done_of HT_.out (by kernel_rfl)) ?_
      go_wp2_with (fail)
      exact ⟨⟨i + 1, by simp, by omega, HB4⟩, by simp only [intOf]; omega⟩
    · have b0 : decide ((i : Int) < (l.length : Int)) = false := decide_eq_false (by omega)
      have b0' : decide (i < l.length) = false := decide_eq_false hlt
      go_wp2_with (fail)
      go_ret
      exact ⟨rfl, HB.out⟩
set_option maxHeartbeats 8000000 in
set_option maxRecDepth 100000 in
theorem sameProven_calls (A C : Option Addr) (c d : Nat) (l : List S101) (w : World) (hC : Kd.C k101 w A l.length l) (hc : l.length ≤ c) (hD : Kd.C k101 w C l.length l) (hd : l.length ≤ d) :
    Calls Try.prog 105 #[.slice A l.length c, .slice C l.length d] w fun e w' => e = .returned (.bool true) ∧ Below w.heap.size w w' := by
  have hu101 := Try.underlying101
  have hu87 := Try.underlying87
  have hu72 := Try.underlying72
  have HC := Aside0.mk hC
  have HD := Aside0.mk hD
  have hm := hC.2.1
  have HB0 := Aside0.mk (Below.refl w.heap.size w)
  clear hC hD
  go_enter Try.func105, Try.ntmps105
  go_wp2_with (fail)
  go_loopw [5] (fun u wr => ∃ i : Nat, u = .int .i64 (i : Int) ∧ i ≤ l.length ∧ Aside0 (Below w.heap.size w wr)) (fun u _ => l.length - (intOf u).toNat)
  case atStart => exact ⟨0, rfl, Nat.zero_le _, HB0⟩
  case round =>
    clear HB0
    obtain ⟨i, rfl, hi, HB⟩ := hrel
    by_cases hlt : i < l.length
    · have b0 : decide ((i : Int) < (l.length : Int)) = true := decide_eq_true (by omega)
      have b0' : decide (i < l.length) = true := decide_eq_true hlt
      have b1 : (0 ≤ (i : Int)) = True := eq_true (by omega)
      have b2 : ((i : Int) < (l.length : Int)) = True := eq_true (by omega)
      obtain ⟨ad, B5, d5, B6, d6, e, hx0, hx1, hx2, hx3, hx4, hx5, hx6, hl3, hi3, hl4, hi4⟩ := at_T101 HC.out (i : Int) (by omega) (by omega)
      subst e
      obtain ⟨bd, C5, e5, C6, e6, e, hy0, hy1, hy2, hy3, hy4, hy5, hy6, ml3, mi3, ml4, mi4⟩ := at_T101 HD.out (i : Int) (by omega) (by omega)
      subst e
      obtain ⟨x, hm⟩ : ∃ x, x = rd_T101 l (i : Int) := ⟨_, rfl⟩
      rw [← hm] at hx0 hx1 hx2 hx3 hx4 hx5 hx6 hl3 hi3 hl4 hi4 hy0 hy1 hy2 hy3 hy4 hy5 hy6 ml3 mi3 ml4 mi4
      rw [Int.toNat_natCast] at hx0 hx1 hx2 hx3 hx4 hx5 hx6 hy0 hy1 hy2 hy3 hy4 hy5 hy6
      have HA := Aside0.mk (And.intro hl3 (And.intro hi3 (And.intro hl4 hi4)))
      have HG := Aside0.mk (And.intro ml3 (And.intro mi3 (And.intro ml4 mi4)))
      have H14 := Aside0.mk (show At14 _ _ _ _ _ _ _ _ _ _ _ _ _ _ _ _ _ _ _ _ _ _ _ _ _ _ _ _ w w from ⟨hx0, hx1, hx2, hx3, hx4, hx5, hx6, hy0, hy1, hy2, hy3, hy4, hy5, hy6, Below.refl _ _⟩)
      clear hm hl3 hi3 hl4 hi4 ml3 mi3 ml4 mi4 hx0 hx1 hx2 hx3 hx4 hx5 hx6 hy0 hy1 hy2 hy3 hy4 hy5 hy6
      go_upto_region 6 with (fail)
      refine start_ (n := 52) (S := At14 (ad.add (i * 7)) ⟨(ad.add (i * 7)).block, (ad.add (i * 7)).off + 1, none⟩ ⟨(ad.add (i * 7)).block, (ad.add (i * 7)).off + 2, none⟩ ⟨(ad.add (i * 7)).block, (ad.add (i * 7)).off + 3, none⟩ ⟨(ad.add (i * 7)).block, (ad.add (i * 7)).off + 4, none⟩ ⟨(ad.add (i * 7)).block, (ad.add (i * 7)).off + 5, none⟩ ⟨(ad.add (i * 7)).block, (ad.add (i * 7)).off + 6, none⟩ (bd.add (i * 7)) ⟨(bd.add (i * 7)).block, (bd.add (i * 7)).off + 1, none⟩ ⟨(bd.add (i * 7)).block, (bd.add (i * 7)).off + 2, none⟩ ⟨(bd.add (i * 7)).block, (bd.add (i * 7)).off + 3, none⟩ ⟨(bd.add (i * 7)).block, (bd.add (i * 7)).off + 4, none⟩ ⟨(bd.add (i * 7)).block, (bd.add (i * 7)).off + 5, none⟩ ⟨(bd.add (i * 7)).block, (bd.add (i * 7)).off + 6, none⟩ (.int .i64 x.f0) (.int .i64 x.f1) (.int .i64 x.f2.f0) (.int .i64 x.f2.f1) (.int .i64 x.f2.f2) (.slice B5 x.f2.f3.length d5) (.slice B6 x.f3.length d6) (.int .i64 x.f0) (.int .i64 x.f1) (.int .i64 x.f2.f0) (.int .i64 x.f2.f1) (.int .i64 x.f2.f2) (.slice C5 x.f2.f3.length e5) (.slice C6 x.f3.length e6) w) (ds := []) #[false, false, false, false, false, false, false, false, false, false, false, false, false, false, false, false, false, false, false, false, false, false, false, false, false, false, false, false, false, false, false, false, false, false, false, false, false, false, false, false, false, false, false, false, false, false, false, false, false, false, false, false] (by kernel_rfl) rfl rfl
        (H14.out.of (below_drew1 HB.out)) (fun hHeld => ?_)
      generalize wr.drew = w3 at hHeld ⊢
      refine with_tabW smP_tab6 smP_bits6 (fun HT_ HW_ => ?_)
      refine pure_ (i := 0) (N := some 17) (v := ?_) (a' := ?_) #[true, false, false, false, false, false, false, false, false, false, false, false, false, false, false, false, false, false, false, false, false, false, false, false, false, false, false, false, false, false, false, false, false, false, false, false, false, false, false, false, false, false, false, false, false, false, false, false, false, false, false, false] rfl rfl (any_of HT_.out (by kernel_rfl)) (fun _ _ _ h => h) (Or.inl ⟨by rfl, ?_⟩) ?_ ?_
      rotate_left
      · intro w'
        go_simp
        with_reducible rfl
      rotate_left
      · simp only [Act.put, List.setIfInBounds_toArray, List.set_cons_zero, List.set_cons_succ, i64_w, i32_w]
        rfl
      refine pure_ (i := 1) (N := some 18) (v := ?_) (a' := ?_) #[true, true, false, false, false, false, false, false, false, false, false, false, false, false, false, false, false, false, false, false, false, false, false, false, false, false, false, false, false, false, false, false, false, false, false, false, false, false, false, false, false, false, false, false, false, false, false, false, false, false, false, false] rfl rfl (any_of HT_.out (by kernel_rfl)) (fun _ _ _ h => h) (Or.inl ⟨by rfl, ?_⟩) ?_ ?_
      rotate_left
      · intro w'
        go_simp
        with_reducible rfl
      rotate_left
      · simp only [Act.put, List.setIfInBounds_toArray, List.set_cons_zero, List.set_cons_succ, i64_w, i32_w]
        rfl
      refine pure_ (i := 2) (N := some 19) (v := ?_) (a' := ?_) #[true, true, true, false, false, false, false, false, false, false, false, false, false, false, false, false, false, false, false, false, false, false, false, false, false, false, false, false, false, false, false, false, false, false, false, false, false, false, false, false, false, false, false, false, false, false, false, false, false, false, false, false] rfl rfl (any_of HT_.out (by kernel_rfl)) (fun _ _ _ h => h) (Or.inl ⟨by rfl, ?_⟩) ?_ ?_
      rotate_left
      · intro w'
        go_simp
        with_reducible rfl
      rotate_left
      · simp only [Act.put, List.setIfInBounds_toArray, List.set_cons_zero, List.set_cons_succ, i64_w, i32_w]
        rfl
      refine pure_ (i := 3) (N := some 20) (v := ?_) (a' := ?_) #[true, true, true, true, false, false, false, false, false, false, false, false, false, false, false, false, false, false, false, false, false, false, false, false, false, false, false, false, false, false, false, false, false, false, false, false, false, false, false, false, false, false, false, false, false, false, false, false, false, false, false, false] rfl rfl (any_of HT_.out (by kernel_rfl)) (fun _ _ _ h => h) (Or.inl ⟨by rfl, ?_⟩) ?_ ?_
      rotate_left
      · intro w'
        go_simp
        with_reducible rfl
      rotate_left
      · simp only [Act.put, List.setIfInBounds_toArray, List.set_cons_zero, List.set_cons_succ, i64_w, i32_w]
        rfl
      refine take_ (i := 4) (N := some 21) (v := ?_) (a' := ?_) #[true, true, true, true, true, false, false, false, false, false, false, false, false, false, false, false, false, false, false, false, false, false, false, false, false, false, false, false, false, false, false, false, false, false, false, false, false, false, false, false, false, false, false, false, false, false, false, false, false, false, false, false] rfl rfl (take_ofW HT_.out HW_.out (by kernel_rfl)) (fun _ _ _ h => h) (Or.inl ⟨by rfl, ?_⟩) hHeld ?_ ?_
      rotate_left
      · rintro w' ⟨s0, s1, s2, s3, s4, s5, s6, s7, s8, s9, s10, s11, s12, s13, s14⟩
        go_simp
        with_reducible rfl
      rotate_left
      · simp only [Act.put, List.setIfInBounds_toArray, List.set_cons_zero, List.set_cons_succ, i64_w, i32_w]
        rfl
      refine pure_ (i := 5) (N := some 22) (v := ?_) (a' := ?_) #[true, true, true, true, true, true, false, false, false, false, false, false, false, false, false, false, false, false, false, false, false, false, false, false, false, false, false, false, false, false, false, false, false, false, false, false, false, false, false, false, false, false, false, false, false, false, false, false, false, false, false, false] rfl rfl (any_of HT_.out (by kernel_rfl)) (fun _ _ _ h => h) (Or.inl ⟨by rfl, ?_⟩) ?_ ?_
      rotate_left
      · intro w'
        go_simp
        with_reducible rfl
      rotate_left
      · simp only [Act.put, List.setIfInBounds_toArray, List.set_cons_zero, List.set_cons_succ, i64_w, i32_w]
        rfl
      refine pure_ (i := 6) (N := some 23) (v := ?_) (a' := ?_) #[true, true, true, true, true, true, true, false, false, false, false, false, false, false, false, false, false, false, false, false, false, false, false, false, false, false, false, false, false, false, false, false, false, false, false, false, false, false, false, false, false, false, false, false, false, false, false, false, false, false, false, false] rfl rfl (any_of HT_.out (by kernel_rfl)) (fun _ _ _ h => h) (Or.inl ⟨by rfl, ?_⟩) ?_ ?_
      rotate_left
      · intro w'
        go_simp
        with_reducible rfl
      rotate_left
      · simp only [Act.put, List.setIfInBounds_toArray, List.set_cons_zero, List.set_cons_succ, i64_w, i32_w]
        rfl
      refine pure_ (i := 7) (N := some 24) (v := ?_) (a' := ?_) #[true, true, true, true, true, true, true, true, false, false, false, false, false, false, false, false, false, false, false, false, false, false, false, false, false, false, false, false, false, false, false, false, false, false, false, false, false, false, false, false, false, false, false, false, false, false, false, false, false, false, false, false] rfl rfl (any_of HT_.out (by kernel_rfl)) (fun _ _ _ h => h) (Or.inl ⟨by rfl, ?_⟩) ?_ ?_
      rotate_left
      · intro w'
        go_simp
        with_reducible rfl
      rotate_left
      · simp only [Act.put, List.setIfInBounds_toArray, List.set_cons_zero, List.set_cons_succ, i64_w, i32_w]
        rfl
      refine pure_ (i := 8) (N := some 25) (v := ?_) (a' := ?_) #[true, true, true, true, true, true, true, true, true, false, false, false, false, false, false, false, false, false, false, false, false, false, false, false, false, false, false, false, false, false, false, false, false, false, false, false, false, false, false, false, false, false, false, false, false, false, false, false, false, false, false, false] rfl rfl (any_of HT_.out (by kernel_rfl)) (fun _ _ _ h => h) (Or.inl ⟨by rfl, ?_⟩) ?_ ?_
      rotate_left
      · intro w'
        go_simp
        with_reducible rfl
      rotate_left
      · simp only [Act.put, List.setIfInBounds_toArray, List.set_cons_zero, List.set_cons_succ, i64_w, i32_w]
        rfl
      refine take_ (i := 9) (N := some 26) (v := ?_) (a' := ?_) #[true, true, true, true, true, true, true, true, true, true, false, false, false, false, false, false, false, false, false, false, false, false, false, false, false, false, false, false, false, false, false, false, false, false, false, false, false, false, false, false, false, false, false, false, false, false, false, false, false, false, false, false] rfl rfl (take_ofW HT_.out HW_.out (by kernel_rfl)) (fun _ _ _ h => h) (Or.inl ⟨by rfl, ?_⟩) hHeld ?_ ?_
      rotate_left
      · rintro w' ⟨s0, s1, s2, s3, s4, s5, s6, s7, s8, s9, s10, s11, s12, s13, s14⟩
        go_simp
        with_reducible rfl
      rotate_left
      · simp only [Act.put, List.setIfInBounds_toArray, List.set_cons_zero, List.set_cons_succ, i64_w, i32_w]
        rfl
      refine pure_ (i := 10) (N := some 27) (v := ?_) (a' := ?_) #[true, true, true, true, true, true, true, true, true, true, true, false, false, false, false, false, false, false, false, false, false, false, false, false, false, false, false, false, false, false, false, false, false, false, false, false, false, false, false, false, false, false, false, false, false, false, false, false, false, false, false, false] rfl rfl (any_of HT_.out (by kernel_rfl)) (fun _ _ _ h => h) (Or.inl ⟨by rfl, ?_⟩) ?_ ?_
      rotate_left
      · intro w'
        go_simp
        with_reducible rfl
      rotate_left
      · simp only [Act.put, List.setIfInBounds_toArray, List.set_cons_zero, List.set_cons_succ, i64_w, i32_w]
        rfl
      refine pure_ (i := 11) (N := some 28) (v := ?_) (a' := ?_) #[true, true, true, true, true, true, true, true, true, true, true, true, false, false, false, false, false, false, false, false, false, false, false, false, false, false, false, false, false, false, false, false, false, false, false, false, false, false, false, false, false, false, false, false, false, false, false, false, false, false, false, false] rfl rfl (any_of HT_.out (by kernel_rfl)) (fun _ _ _ h => h) (Or.inl ⟨by rfl, ?_⟩) ?_ ?_
      rotate_left
      · intro w'
        go_simp
        with_reducible rfl
      rotate_left
      · simp only [Act.put, List.setIfInBounds_toArray, List.set_cons_zero, List.set_cons_succ, i64_w, i32_w]
        rfl
      refine pure_ (i := 12) (N := some 29) (v := ?_) (a' := ?_) #[true, true, true, true, true, true, true, true, true, true, true, true, true, false, false, false, false, false, false, false, false, false, false, false, false, false, false, false, false, false, false, false, false, false, false, false, false, false, false, false, false, false, false, false, false, false, false, false, false, false, false, false] rfl rfl (any_of HT_.out (by kernel_rfl)) (fun _ _ _ h => h) (Or.inl ⟨by rfl, ?_⟩) ?_ ?_
      rotate_left
      · intro w'
        go_simp
        with_reducible rfl
      rotate_left
      · simp only [Act.put, List.setIfInBounds_toArray, List.set_cons_zero, List.set_cons_succ, i64_w, i32_w]
        rfl
      refine pure_ (i := 13) (N := some 30) (v := ?_) (a' := ?_) #[true, true, true, true, true, true, true, true, true, true, true, true, true, true, false, false, false, false, false, false, false, false, false, false, false, false, false, false, false, false, false, false, false, false, false, false, false, false, false, false, false, false, false, false, false, false, false, false, false, false, false, false] rfl rfl (any_of HT_.out (by kernel_rfl)) (fun _ _ _ h => h) (Or.inl ⟨by rfl, ?_⟩) ?_ ?_
      rotate_left
      · intro w'
        go_simp
        with_reducible rfl
      rotate_left
      · simp only [Act.put, List.setIfInBounds_toArray, List.set_cons_zero, List.set_cons_succ, i64_w, i32_w]
        rfl
      refine pure_ (i := 14) (N := some 31) (v := ?_) (a' := ?_) #[true, true, true, true, true, true, true, true, true, true, true, true, true, true, true, false, false, false, false, false, false, false, false, false, false, false, false, false, false, false, false, false, false, false, false, false, false, false, false, false, false, false, false, false, false, false, false, false, false, false, false, false] rfl rfl (any_of HT_.out (by kernel_rfl)) (fun _ _ _ h => h) (Or.inl ⟨by rfl, ?_⟩) ?_ ?_
      rotate_left
      · intro w'
        go_simp
        with_reducible rfl
      rotate_left
      · simp only [Act.put, List.setIfInBounds_toArray, List.set_cons_zero, List.set_cons_succ, i64_w, i32_w]
        rfl
      refine pure_ (i := 15) (N := some 32) (v := ?_) (a' := ?_) #[true, true, true, true, true, true, true, true, true, true, true, true, true, true, true, true, false, false, false, false, false, false, false, false, false, false, false, false, false, false, false, false, false, false, false, false, false, false, false, false, false, false, false, false, false, false, false, false, false, false, false, false] rfl rfl (any_of HT_.out (by kernel_rfl)) (fun _ _ _ h => h) (Or.inl ⟨by rfl, ?_⟩) ?_ ?_
      rotate_left
      · intro w'
        go_simp
        with_reducible rfl
      rotate_left
      · simp only [Act.put, List.setIfInBounds_toArray, List.set_cons_zero, List.set_cons_succ, i64_w, i32_w]
        rfl
      refine take_ (i := 16) (N := some 33) (v := ?_) (a' := ?_) #[true, true, true, true, true, true, true, true, true, true, true, true, true, true, true, true, true, false, false, false, false, false, false, false, false, false, false, false, false, false, false, false, false, false, false, false, false, false, false, false, false, false, false, false, false, false, false, false, false, false, false, false] rfl rfl (take_ofW HT_.out HW_.out (by kernel_rfl)) (fun _ _ _ h => h) (Or.inl ⟨by rfl, ?_⟩) hHeld ?_ ?_
      rotate_left
      · rintro w' ⟨s0, s1, s2, s3, s4, s5, s6, s7, s8, s9, s10, s11, s12, s13, s14⟩
        go_simp
        with_reducible rfl
      rotate_left
      · simp only [Act.put, List.setIfInBounds_toArray, List.set_cons_zero, List.set_cons_succ, i64_w, i32_w]
        rfl
      refine pure_ (i := 17) (N := some 34) (v := ?_) (a' := ?_) #[true, true, true, true, true, true, true, true, true, true, true, true, true, true, true, true, true, true, false, false, false, false, false, false, false, false, false, false, false, false, false, false, false, false, false, false, false, false, false, false, false, false, false, false, false, false, false, false, false, false, false, false] rfl rfl (any_of HT_.out (by kernel_rfl)) (fun _ _ _ h => h) (Or.inl ⟨by rfl, ?_⟩) ?_ ?_
      rotate_left
      · intro w'
        go_simp
        with_reducible rfl
      rotate_left
      · simp only [Act.put, List.setIfInBounds_toArray, List.set_cons_zero, List.set_cons_succ, i64_w, i32_w]
        rfl
      refine pure_ (i := 18) (N := some 35) (v := ?_) (a' := ?_) #[true, true, true, true, true, true, true, true, true, true, true, true, true, true, true, true, true, true, true, false, false, false, false, false, false, false, false, false, false, false, false, false, false, false, false, false, false, false, false, false, false, false, false, false, false, false, false, false, false, false, false, false] rfl rfl (any_of HT_.out (by kernel_rfl)) (fun _ _ _ h => h) (Or.inl ⟨by rfl, ?_⟩) ?_ ?_
      rotate_left
      · intro w'
        go_simp
        with_reducible rfl
      rotate_left
      · simp only [Act.put, List.setIfInBounds_toArray, List.set_cons_zero, List.set_cons_succ, i64_w, i32_w]
        rfl
      refine pure_ (i := 19) (N := some 36) (v := ?_) (a' := ?_) #[true, true, true, true, true, true, true, true, true, true, true, true, true, true, true, true, true, true, true, true, false, false, false, false, false, false, false, false, false, false, false, false, false, false, false, false, false, false, false, false, false, false, false, false, false, false, false, false, false, false, false, false] rfl rfl (any_of HT_.out (by kernel_rfl)) (fun _ _ _ h => h) (Or.inl ⟨by rfl, ?_⟩) ?_ ?_
      rotate_left
      · intro w'
        go_simp
        with_reducible rfl
      rotate_left
      · simp only [Act.put, List.setIfInBounds_toArray, List.set_cons_zero, List.set_cons_succ, i64_w, i32_w]
        rfl
      refine pure_ (i := 20) (N := some 37) (v := ?_) (a' := ?_) #[true, true, true, true, true, true, true, true, true, true, true, true, true, true, true, true, true, true, true, true, true, false, false, false, false, false, false, false, false, false, false, false, false, false, false, false, false, false, false, false, false, false, false, false, false, false, false, false, false, false, false, false] rfl rfl (any_of HT_.out (by kernel_rfl)) (fun _ _ _ h => h) (Or.inl ⟨by rfl, ?_⟩) ?_ ?_
      rotate_left
      · intro w'
        go_simp
        with_reducible rfl
      rotate_left
      · simp only [Act.put, List.setIfInBounds_toArray, List.set_cons_zero, List.set_cons_succ, i64_w, i32_w]
        rfl
      refine take_ (i := 21) (N := some 38) (v := ?_) (a' := ?_) #[true, true, true, true, true, true, true, true, true, true, true, true, true, true, true, true, true, true, true, true, true, true, false, false, false, false, false, false, false, false, false, false, false, false, false, false, false, false, false, false, false, false, false, false, false, false, false, false, false, false, false, false] rfl rfl (take_ofW HT_.out HW_.out (by kernel_rfl)) (fun _ _ _ h => h) (Or.inl ⟨by rfl, ?_⟩) hHeld ?_ ?_
      rotate_left
      · rintro w' ⟨s0, s1, s2, s3, s4, s5, s6, s7, s8, s9, s10, s11, s12, s13, s14⟩
        go_simp
        with_reducible rfl
      rotate_left
      · simp only [Act.put, List.setIfInBounds_toArray, List.set_cons_zero, List.set_cons_succ, i64_w, i32_w]
        rfl
      refine pure_ (i := 22) (N := some 39) (v := ?_) (a' := ?_) #[true, true, true, true, true, true, true, true, true, true, true, true, true, true, true, true, true, true, true, true, true, true, true, false, false, false, false, false, false, false, false, false, false, false, false, false, false, false, false, false, false, false, false, false, false, false, false, false, false, false, false, false] rfl rfl (any_of HT_.out (by kernel_rfl)) (fun _ _ _ h => h) (Or.inl ⟨by rfl, ?_⟩) ?_ ?_
      rotate_left
      · intro w'
        go_simp
        with_reducible rfl
      rotate_left
      · simp only [Act.put, List.setIfInBounds_toArray, List.set_cons_zero, List.set_cons_succ, i64_w, i32_w]
        rfl
      refine pure_ (i := 23) (N := some 40) (v := ?_) (a' := ?_) #[true, true, true, true, true, true, true, true, true, true, true, true, true, true, true, true, true, true, true, true, true, true, true, true, false, false, false, false, false, false, false, false, false, false, false, false, false, false, false, false, false, false, false, false, false, false, false, false, false, false, false, false] rfl rfl (any_of HT_.out (by kernel_rfl)) (fun _ _ _ h => h) (Or.inl ⟨by rfl, ?_⟩) ?_ ?_
      rotate_left
      · intro w'
        go_simp
        with_reducible rfl
      rotate_left
      · simp only [Act.put, List.setIfInBounds_toArray, List.set_cons_zero, List.set_cons_succ, i64_w, i32_w]
        rfl
      refine pure_ (i := 24) (N := some 41) (v := ?_) (a' := ?_) #[true, true, true, true, true, true, true, true, true, true, true, true, true, true, true, true, true, true, true, true, true, true, true, true, true, false, false, false, false, false, false, false, false, false, false, false, false, false, false, false, false, false, false, false, false, false, false, false, false, false, false, false] rfl rfl (any_of HT_.out (by kernel_rfl)) (fun _ _ _ h => h) (Or.inl ⟨by rfl, ?_⟩) ?_ ?_
      rotate_left
      · intro w'
        go_simp
        with_reducible rfl
      rotate_left
      · simp only [Act.put, List.setIfInBounds_toArray, List.set_cons_zero, List.set_cons_succ, i64_w, i32_w]
        rfl
      refine pure_ (i := 25) (N := some 42) (v := ?_) (a' := ?_) #[true, true, true, true, true, true, true, true, true, true, true, true, true, true, true, true, true, true, true, true, true, true, true, true, true, true, false, false, false, false, false, false, false, false, false, false, false, false, false, false, false, false, false, false, false, false, false, false, false, false, false, false] rfl rfl (any_of HT_.out (by kernel_rfl)) (fun _ _ _ h => h) (Or.inl ⟨by rfl, ?_⟩) ?_ ?_
      rotate_left
      · intro w'
        go_simp
        with_reducible rfl
      rotate_left
      · simp only [Act.put, List.setIfInBounds_toArray, List.set_cons_zero, List.set_cons_succ, i64_w, i32_w]
        rfl
      refine pure_ (i := 26) (N := some 43) (v := ?_) (a' := ?_) #[true, true, true, true, true, true, true, true, true, true, true, true, true, true, true, true, true, true, true, true, true, true, true, true, true, true, true, false, false, false, false, false, false, false, false, false, false, false, false, false, false, false, false, false, false, false, false, false, false, false, false, false] rfl rfl (any_of HT_.out (by kernel_rfl)) (fun _ _ _ h => h) (Or.inl ⟨by rfl, ?_⟩) ?_ ?_
      rotate_left
      · intro w'
        go_simp
        with_reducible rfl
      rotate_left
      · simp only [Act.put, List.setIfInBounds_toArray, List.set_cons_zero, List.set_cons_succ, i64_w, i32_w]
        rfl
      refine pure_ (i := 27) (N := some 44) (v := ?_) (a' := ?_) #[true, true, true, true, true, true, true, true, true, true, true, true, true, true, true, true, true, true, true, true, true, true, true, true, true, true, true, true, false, false, false, false, false, false, false, false, false, false, false, false, false, false, false, false, false, false, false, false, false, false, false, false] rfl rfl (any_of HT_.out (by kernel_rfl)) (fun _ _ _ h => h) (Or.inl ⟨by rfl, ?_⟩) ?_ ?_
      rotate_left
      · intro w'
        go_simp
        with_reducible rfl
      rotate_left
      · simp only [Act.put, List.setIfInBounds_toArray, List.set_cons_zero, List.set_cons_succ, i64_w, i32_w]
        rfl
      refine pure_ (i := 28) (N := some 45) (v := ?_) (a' := ?_) #[true, true, true, true, true, true, true, true, true, true, true, true, true, true, true, true, true, true, true, true, true, true, true, true, true, true, true, true, true, false, false, false, false, false, false, false, false, false, false, false, false, false, false, false, false, false, false, false, false, false, false, false] rfl rfl (any_of HT_.out (by kernel_rfl)) (fun _ _ _ h => h) (Or.inl ⟨by rfl, ?_⟩) ?_ ?_
      rotate_left
      · intro w'
        go_simp
        with_reducible rfl
      rotate_left
      · simp only [Act.put, List.setIfInBounds_toArray, List.set_cons_zero, List.set_cons_succ, i64_w, i32_w]
        rfl
      refine take_ (i := 29) (N := some 46) (v := ?_) (a' := ?_) #[true, true, true, true, true, true, true, true, true, true, true, true, true, true, true, true, true, true, true, true, true, true, true, true, true, true, true, true, true, true, false, false, false, false, false, false, false, false, false, false, false, false, false, false, false, false, false, false, false, false, false, false] rfl rfl (take_ofW HT_.out HW_.out (by kernel_rfl)) (fun _ _ _ h => h) (Or.inl ⟨by rfl, ?_⟩) hHeld ?_ ?_
      rotate_left
      · rintro w' ⟨s0, s1, s2, s3, s4, s5, s6, s7, s8, s9, s10, s11, s12, s13, s14⟩
        go_simp
        with_reducible rfl
      rotate_left
      · simp only [Act.put, List.setIfInBounds_toArray, List.set_cons_zero, List.set_cons_succ, i64_w, i32_w]
        rfl
      refine pure_ (i := 30) (N := some 47) (v := ?_) (a' := ?_) #[true, true, true, true, true, true, true, true, true, true, true, true, true, true, true, true, true, true, true, true, true, true, true, true, true, true, true, true, true, true, true, false, false, false, false, false, false, false, false, false, false, false, false, false, false, false, false, false, false, false, false, false] rfl rfl (any_of HT_.out (by kernel_rfl)) (fun _ _ _ h => h) (Or.inl ⟨by rfl, ?_⟩) ?_ ?_
      rotate_left
      · intro w'
        go_simp
        with_reducible rfl
      rotate_left
      · simp only [Act.put, List.setIfInBounds_toArray, List.set_cons_zero, List.set_cons_succ, i64_w, i32_w]
        rfl
      refine pure_ (i := 31) (N := some 48) (v := ?_) (a' := ?_) #[true, true, true, true, true, true, true, true, true, true, true, true, true, true, true, true, true, true, true, true, true, true, true, true, true, true, true, true, true, true, true, true, false, false, false, false, false, false, false, false, false, false, false, false, false, false, false, false, false, false, false, false] rfl rfl (any_of HT_.out (by kernel_rfl)) (fun _ _ _ h => h) (Or.inl ⟨by rfl, ?_⟩) ?_ ?_
      rotate_left
      · intro w'
        go_simp
        with_reducible rfl
      rotate_left
      · simp only [Act.put, List.setIfInBounds_toArray, List.set_cons_zero, List.set_cons_succ, i64_w, i32_w]
        rfl
      refine pure_ (i := 32) (N := some 49) (v := ?_) (a' := ?_) #[true, true, true, true, true, true, true, true, true, true, true, true, true, true, true, true, true, true, true, true, true, true, true, true, true, true, true, true, true, true, true, true, true, false, false, false, false, false, false, false, false, false, false, false, false, false, false, false, false, false, false, false] rfl rfl (any_of HT_.out (by kernel_rfl)) (fun _ _ _ h => h) (Or.inl ⟨by rfl, ?_⟩) ?_ ?_
      rotate_left
      · intro w'
        go_simp
        with_reducible rfl
      rotate_left
      · simp only [Act.put, List.setIfInBounds_toArray, List.set_cons_zero, List.set_cons_succ, i64_w, i32_w]
        rfl
      refine pure_ (i := 33) (N := some 50) (v := ?_) (a' := ?_) #[true, true, true, true, true, true, true, true, true, true, true, true, true, true, true, true, true, true, true, true, true, true, true, true, true, true, true, true, true, true, true, true, true, true, false, false, false, false, false, false, false, false, false, false, false, false, false, false, false, false, false, false] rfl rfl (any_of HT_.out (by kernel_rfl)) (fun _ _ _ h => h) (Or.inl ⟨by rfl, ?_⟩) ?_ ?_
      rotate_left
      · intro w'
        go_simp
        with_reducible rfl
      rotate_left
      · simp only [Act.put, List.setIfInBounds_toArray, List.set_cons_zero, List.set_cons_succ, i64_w, i32_w]
        rfl
      refine take_ (i := 34) (N := some 51) (v := ?_) (a' := ?_) #[true, true, true, true, true, true, true, true, true, true, true, true, true, true, true, true, true, true, true, true, true, true, true, true, true, true, true, true, true, true, true, true, true, true, true, false, false, false, false, false, false, false, false, false, false, false, false, false, false, false, false, false] rfl rfl (take_ofW HT_.out HW_.out (by kernel_rfl)) (fun _ _ _ h => h) (Or.inl ⟨by rfl, ?_⟩) hHeld ?_ ?_
      rotate_left
      · rintro w' ⟨s0, s1, s2, s3, s4, s5, s6, s7, s8, s9, s10, s11, s12, s13, s14⟩
        go_simp
        with_reducible rfl
      rotate_left
      · simp only [Act.put, List.setIfInBounds_toArray, List.set_cons_zero, List.set_cons_succ, i64_w, i32_w]
        rfl
      refine one_ (i := 35) (N := some 52) #[true, true, true, true, true, true, true, true, true, true, true, true, true, true, true, true, true, true, true, true, true, true, true, true, true, true, true, true, true, true, true, true, true, true, true, true, false, false, false, false, false, false, false, false, false, false, false, false, false, false, false, false] rfl rfl (one_of HT_.out (by kernel_rfl)) (by decide) (fun K hK => ?_)
      refine goes_ Try.func82 (by kernel_rfl) rfl #[.agg #[.int .i64 x.f2.f0, .int .i64 x.f2.f1, .int .i64 x.f2.f2, .slice B5 x.f2.f3.length d5], .agg #[.int .i64 x.f2.f0, .int .i64 x.f2.f1, .int .i64 x.f2.f2, .slice C5 x.f2.f3.length e5]] (by rfl) rfl rfl (by (try simp only [List.map_toArray, List.map_cons, List.map_nil]); first | done | rfl) ?_
      refine (sameEntry_same x.f2 B5 C5 d5 e5 _ (Kd.C_below HA.out.2.1 hHeld.2.2.2.2.2.2.2.2.2.2.2.2.2.2) HA.out.1 (Kd.C_below HG.out.2.1 hHeld.2.2.2.2.2.2.2.2.2.2.2.2.2.2) HG.out.1).mono ?_
      rintro e w4 ⟨rfl, hB⟩
      refine ⟨_, rfl, ?_⟩
      have HB4 := Aside0.mk (below_then hHeld.2.2.2.2.2.2.2.2.2.2.2.2.2.2 hHeld.2.2.2.2.2.2.2.2.2.2.2.2.2.2.size hB)
      refine hK.out _ _ (H14.out.of HB4.out) (fun hHeld => ?_)
      clear hK K hB
      refine norm_ (a' := ?_) ?_ ?_
      rotate_left
      · show Act.put _ (some 52) _ = _
        simp only [Act.put, List.setIfInBounds_toArray, List.set_cons_zero, List.set_cons_succ, i64_w, i32_w]
        rfl
      refine pure_ (i := 36) (N := some 53) (v := ?_) (a' := ?_) #[true, true, true, true, true, true, true, true, true, true, true, true, true, true, true, true, true, true, true, true, true, true, true, true, true, true, true, true, true, true, true, true, true, true, true, true, true, false, false, false, false, false, false, false, false, false, false, false, false, false, false, false] rfl rfl (any_of HT_.out (by kernel_rfl)) (fun _ _ _ h => h) (Or.inl ⟨by rfl, ?_⟩) ?_ ?_
      rotate_left
      · intro w'
        go_simp
        with_reducible rfl
      rotate_left
      · simp only [Act.put, List.setIfInBounds_toArray, List.set_cons_zero, List.set_cons_succ, i64_w, i32_w]
        rfl
      refine pure_ (i := 37) (N := some 54) (v := ?_) (a' := ?_) #[true, true, true, true, true, true, true, true, true, true, true, true, true, true, true, true, true, true, true, true, true, true, true, true, true, true, true, true, true, true, true, true, true, true, true, true, true, true, false, false, false, false, false, false, false, false, false, false, false, false, false, false] rfl rfl (any_of HT_.out (by kernel_rfl)) (fun _ _ _ h => h) (Or.inl ⟨by rfl, ?_⟩) ?_ ?_
      rotate_left
      · intro w'
        go_simp
        with_reducible rfl
      rotate_left
      · simp only [Act.put, List.setIfInBounds_toArray, List.set_cons_zero, List.set_cons_succ, i64_w, i32_w]
        rfl
      refine pure_ (i := 38) (N := some 55) (v := ?_) (a' := ?_) #[true, true, true, true, true, true, true, true, true, true, true, true, true, true, true, true, true, true, true, true, true, true, true, true, true, true, true, true, true, true, true, true, true, true, true, true, true, true, true, false, false, false, false, false, false, false, false, false, false, false, false, false] rfl rfl (any_of HT_.out (by kernel_rfl)) (fun _ _ _ h => h) (Or.inl ⟨by rfl, ?_⟩) ?_ ?_
      rotate_left
      · intro w'
        go_simp
        with_reducible rfl
      rotate_left
      · simp only [Act.put, List.setIfInBounds_toArray, List.set_cons_zero, List.set_cons_succ, i64_w, i32_w]
        rfl
      refine pure_ (i := 39) (N := some 56) (v := ?_) (a' := ?_) #[true, true, true, true, true, true, true, true, true, true, true, true, true, true, true, true, true, true, true, true, true, true, true, true, true, true, true, true, true, true, true, true, true, true, true, true, true, true, true, true, false, false, false, false, false, false, false, false, false, false, false, false] rfl rfl (any_of HT_.out (by kernel_rfl)) (fun _ _ _ h => h) (Or.inl ⟨by rfl, ?_⟩) ?_ ?_
      rotate_left
      · intro w'
        go_simp
        with_reducible rfl
      rotate_left
      · simp only [Act.put, List.setIfInBounds_toArray, List.set_cons_zero, List.set_cons_succ, i64_w, i32_w]
        rfl
      refine pure_ (i := 40) (N := some 57) (v := ?_) (a' := ?_) #[true, true, true, true, true, true, true, true, true, true, true, true, true, true, true, true, true, true, true, true, true, true, true, true, true, true, true, true, true, true, true, true, true, true, true, true, true, true, true, true, true, false, false, false, false, false, false, false, false, false, false, false] rfl rfl (any_of HT_.out (by kernel_rfl)) (fun _ _ _ h => h) (Or.inl ⟨by rfl, ?_⟩) ?_ ?_
      rotate_left
      · intro w'
        go_simp
        with_reducible rfl
      rotate_left
      · simp only [Act.put, List.setIfInBounds_toArray, List.set_cons_zero, List.set_cons_succ, i64_w, i32_w]
        rfl
      refine pure_ (i := 41) (N := some 58) (v := ?_) (a' := ?_) #[true, true, true, true, true, true, true, true, true, true, true, true, true, true, true, true, true, true, true, true, true, true, true, true, true, true, true, true, true, true, true, true, true, true, true, true, true, true, true, true, true, true, false, false, false, false, false, false, false, false, false, false] rfl rfl (any_of HT_.out (by kernel_rfl)) (fun _ _ _ h => h) (Or.inl ⟨by rfl, ?_⟩) ?_ ?_
      rotate_left
      · intro w'
        go_simp
        with_reducible rfl
      rotate_left
      · simp only [Act.put, List.setIfInBounds_toArray, List.set_cons_zero, List.set_cons_succ, i64_w, i32_w]
        rfl
      refine pure_ (i := 42) (N := some 59) (v := ?_) (a' := ?_) #[true, true, true, true, true, true, true, true, true, true, true, true, true, true, true, true, true, true, true, true, true, true, true, true, true, true, true, true, true, true, true, true, true, true, true, true, true, true, true, true, true, true, true, false, false, false, false, false, false, false, false, false] rfl rfl (any_of HT_.out (by kernel_rfl)) (fun _ _ _ h => h) (Or.inl ⟨by rfl, ?_⟩) ?_ ?_
      rotate_left
      · intro w'
        go_simp
        with_reducible rfl
      rotate_left
      · simp only [Act.put, List.setIfInBounds_toArray, List.set_cons_zero, List.set_cons_succ, i64_w, i32_w]
        rfl
      refine take_ (i := 43) (N := some 60) (v := ?_) (a' := ?_) #[true, true, true, true, true, true, true, true, true, true, true, true, true, true, true, true, true, true, true, true, true, true, true, true, true, true, true, true, true, true, true, true, true, true, true, true, true, true, true, true, true, true, true, true, false, false, false, false, false, false, false, false] rfl rfl (take_ofW HT_.out HW_.out (by kernel_rfl)) (fun _ _ _ h => h) (Or.inl ⟨by rfl, ?_⟩) hHeld ?_ ?_
      rotate_left
      · rintro w' ⟨s0, s1, s2, s3, s4, s5, s6, s7, s8, s9, s10, s11, s12, s13, s14⟩
        go_simp
        with_reducible rfl
      rotate_left
      · simp only [Act.put, List.setIfInBounds_toArray, List.set_cons_zero, List.set_cons_succ, i64_w, i32_w]
        rfl
      refine pure_ (i := 44) (N := some 61) (v := ?_) (a' := ?_) #[true, true, true, true, true, true, true, true, true, true, true, true, true, true, true, true, true, true, true, true, true, true, true, true, true, true, true, true, true, true, true, true, true, true, true, true, true, true, true, true, true, true, true, true, true, false, false, false, false, false, false, false] rfl rfl (any_of HT_.out (by kernel_rfl)) (fun _ _ _ h => h) (Or.inl ⟨by rfl, ?_⟩) ?_ ?_
      rotate_left
      · intro w'
        go_simp
        with_reducible rfl
      rotate_left
      · simp only [Act.put, List.setIfInBounds_toArray, List.set_cons_zero, List.set_cons_succ, i64_w, i32_w]
        rfl
      refine pure_ (i := 45) (N := some 62) (v := ?_) (a' := ?_) #[true, true, true, true, true, true, true, true, true, true, true, true, true, true, true, true, true, true, true, true, true, true, true, true, true, true, true, true, true, true, true, true, true, true, true, true, true, true, true, true, true, true, true, true, true, true, false, false, false, false, false, false] rfl rfl (any_of HT_.out (by kernel_rfl)) (fun _ _ _ h => h) (Or.inl ⟨by rfl, ?_⟩) ?_ ?_
      rotate_left
      · intro w'
        go_simp
        with_reducible rfl
      rotate_left
      · simp only [Act.put, List.setIfInBounds_toArray, List.set_cons_zero, List.set_cons_succ, i64_w, i32_w]
        rfl
      refine pure_ (i := 46) (N := some 63) (v := ?_) (a' := ?_) #[true, true, true, true, true, true, true, true, true, true, true, true, true, true, true, true, true, true, true, true, true, true, true, true, true, true, true, true, true, true, true, true, true, true, true, true, true, true, true, true, true, true, true, true, true, true, true, false, false, false, false, false] rfl rfl (any_of HT_.out (by kernel_rfl)) (fun _ _ _ h => h) (Or.inl ⟨by rfl, ?_⟩) ?_ ?_
      rotate_left
      · intro w'
        go_simp
        with_reducible rfl
      rotate_left
      · simp only [Act.put, List.setIfInBounds_toArray, List.set_cons_zero, List.set_cons_succ, i64_w, i32_w]
        rfl
      refine pure_ (i := 47) (N := some 64) (v := ?_) (a' := ?_) #[true, true, true, true, true, true, true, true, true, true, true, true, true, true, true, true, true, true, true, true, true, true, true, true, true, true, true, true, true, true, true, true, true, true, true, true, true, true, true, true, true, true, true, true, true, true, true, true, false, false, false, false] rfl rfl (any_of HT_.out (by kernel_rfl)) (fun _ _ _ h => h) (Or.inl ⟨by rfl, ?_⟩) ?_ ?_
      rotate_left
      · intro w'
        go_simp
        with_reducible rfl
      rotate_left
      · simp only [Act.put, List.setIfInBounds_toArray, List.set_cons_zero, List.set_cons_succ, i64_w, i32_w]
        rfl
      refine take_ (i := 48) (N := some 65) (v := ?_) (a' := ?_) #[true, true, true, true, true, true, true, true, true, true, true, true, true, true, true, true, true, true, true, true, true, true, true, true, true, true, true, true, true, true, true, true, true, true, true, true, true, true, true, true, true, true, true, true, true, true, true, true, true, false, false, false] rfl rfl (take_ofW HT_.out HW_.out (by kernel_rfl)) (fun _ _ _ h => h) (Or.inl ⟨by rfl, ?_⟩) hHeld ?_ ?_
      rotate_left
      · rintro w' ⟨s0, s1, s2, s3, s4, s5, s6, s7, s8, s9, s10, s11, s12, s13, s14⟩
        go_simp
        with_reducible rfl
      rotate_left
      · simp only [Act.put, List.setIfInBounds_toArray, List.set_cons_zero, List.set_cons_succ, i64_w, i32_w]
        rfl
      refine one_ (i := 49) (N := some 66) #[true, true, true, true, true, true, true, true, true, true, true, true, true, true, true, true, true, true, true, true, true, true, true, true, true, true, true, true, true, true, true, true, true, true, true, true, true, true, true, true, true, true, true, true, true, true, true, true, true, true, false, false] rfl rfl (one_of HT_.out (by kernel_rfl)) (by decide) (fun K hK => ?_)
      refine goes_ Try.func104 (by kernel_rfl) rfl #[.slice B6 x.f3.length d6, .slice C6 x.f3.length e6] (by rfl) rfl rfl (by (try simp only [List.map_toArray, List.map_cons, List.map_nil]); first | done | rfl) ?_
      refine (sameLetters_calls B6 C6 d6 e6 x.f3 _ (Kd.C_below HA.out.2.2.2 hHeld.2.2.2.2.2.2.2.2.2.2.2.2.2.2) HA.out.2.2.1 (Kd.C_below HG.out.2.2.2 hHeld.2.2.2.2.2.2.2.2.2.2.2.2.2.2) HG.out.2.2.1).mono ?_
      rintro e w5 ⟨rfl, hB⟩
      refine ⟨_, rfl, ?_⟩
      have HB5 := Aside0.mk (below_then hHeld.2.2.2.2.2.2.2.2.2.2.2.2.2.2 hHeld.2.2.2.2.2.2.2.2.2.2.2.2.2.2.size hB)
      refine hK.out _ _ (H14.out.of HB5.out) (fun hHeld => ?_)
      clear hK K hB
      refine norm_ (a' := ?_) ?_ ?_
      rotate_left
      · show Act.put _ (some 66) _ = _
        simp only [Act.put, List.setIfInBounds_toArray, List.set_cons_zero, List.set_cons_succ, i64_w, i32_w]
        rfl
      refine pure_ (i := 50) (N := some 67) (v := ?_) (a' := ?_) #[true, true, true, true, true, true, true, true, true, true, true, true, true, true, true, true, true, true, true, true, true, true, true, true, true, true, true, true, true, true, true, true, true, true, true, true, true, true, true, true, true, true, true, true, true, true, true, true, true, true, true, false] rfl rfl (any_of HT_.out (by kernel_rfl)) (fun _ _ _ h => h) (Or.inl ⟨by rfl, ?_⟩) ?_ ?_
      rotate_left
      · intro w'
        go_simp
        with_reducible rfl
      rotate_left
      · simp only [Act.put, List.setIfInBounds_toArray, List.set_cons_zero, List.set_cons_succ, i64_w, i32_w]
        rfl
      refine pure_ (i := 51) (N := some 68) (v := ?_) (a' := ?_) #[true, true, true, true, true, true, true, true, true, true, true, true, true, true, true, true, true, true, true, true, true, true, true, true, true, true, true, true, true, true, true, true, true, true, true, true, true, true, true, true, true, true, true, true, true, true, true, true, true, true, true, true] rfl rfl (any_of HT_.out (by kernel_rfl)) (fun _ _ _ h => h) (Or.inl ⟨by rfl, ?_⟩) ?_ ?_
      rotate_left
      · intro w'
        go_simp
        with_reducible rfl
      rotate_left
      · simp only [Act.put, List.setIfInBounds_toArray, List.set_cons_zero, List.set_cons_succ, i64_w, i32_w]
        rfl
      refine done_ (done_of HT_.out (by kernel_rfl)) ?_
      go_wp2_with (fail)
      exact ⟨⟨i + 1, by simp, by omega, HB5⟩, by simp only [intOf]; omega⟩
    · have b0 : decide ((i : Int) < (l.length : Int)) = false := decide_eq_false (by omega)
      have b0' : decide (i < l.length) = false := decide_eq_false hlt
      go_wp2_with (fail)
      go_ret
      exact ⟨rfl, HB.out⟩
end Go.Proofs.Ytijccobeljoikaa.Ms

/- msg: the statements' helpers: the same message. -/
namespace Go.Proofs.Ytijccobeljoikaa.Ms
open Go.RowKit Go.Proofs.YtijccobeljoikaaW.PrintWords Go.Proofs.YtijccobeljoikaaW.PrintLast
open Go.Proofs.Ytijccobeljoikaa.Plain Go.Proofs.Ytijccobeljoikaa.Walks
set_option linter.unusedVariables false
set_option linter.unusedSimpArgs false
set_option maxHeartbeats 16000000 in
set_option maxRecDepth 100000 in
/-- SameMsg of a message and its like. -/
theorem sameMsg_calls (m : S91) (a b : Nat → Option Addr) (d c : Nat → Nat) (w : World) (hM : Msg w m a d) (hN : Msg w m b c) :
    Calls Try.prog 67 #[.agg #[.int .i64 m.kind, .int .i64 m.view, .int .i64 m.seq, .int .i64 m.client, .int .i64 m.stamp, .int .i64 m.entry.f0, .int .i64 m.entry.f1, .int .i64 m.entry.f2, .slice (a 0) m.entry.f3.length (d 0), .slice (a 1) m.digest.length (d 1), .slice (a 2) m.data.length (d 2), .slice (a 3) m.proof.length (d 3), .slice (a 4) m.proven.length (d 4)], .agg #[.int .i64 m.kind, .int .i64 m.view, .int .i64 m.seq, .int .i64 m.client, .int .i64 m.stamp, .int .i64 m.entry.f0, .int .i64 m.entry.f1, .int .i64 m.entry.f2, .slice (b 0) m.entry.f3.length (c 0), .slice (b 1) m.digest.length (c 1), .slice (b 2) m.data.length (c 2), .slice (b 3) m.proof.length (c 3), .slice (b 4) m.proven.length (c 4)]] w fun e w' => e = .returned (.bool true) ∧ Below w.heap.size w w' := by
  have hu91 := Try.underlying91
  have hu87 := Try.underlying87
  have HM := Aside0.mk hM
  have HN := Aside0.mk hN
  clear hM hN
  have HB0 := Aside0.mk (below_alloc (below_alloc (Below.refl w.heap.size w) (.cells #[.int .i64 m.kind, .int .i64 m.view, .int .i64 m.seq, .int .i64 m.client, .int .i64 m.stamp, .int .i64 m.entry.f0, .int .i64 m.entry.f1, .int .i64 m.entry.f2, .slice (a 0) m.entry.f3.length (d 0), .slice (a 1) m.digest.length (d 1), .slice (a 2) m.data.length (d 2), .slice (a 3) m.proof.length (d 3), .slice (a 4) m.proven.length (d 4)] 91)) (.cells #[.int .i64 m.kind, .int .i64 m.view, .int .i64 m.seq, .int .i64 m.client, .int .i64 m.stamp, .int .i64 m.entry.f0, .int .i64 m.entry.f1, .int .i64 m.entry.f2, .slice (b 0) m.entry.f3.length (c 0), .slice (b 1) m.digest.length (c 1), .slice (b 2) m.data.length (c 2), .slice (b 3) m.proof.length (c 3), .slice (b 4) m.proven.length (c 4)] 91))
  have HX0 := Aside0.mk ((Below.heap_alloc (w.alloc (.cells #[.int .i64 m.kind, .int .i64 m.view, .int .i64 m.seq, .int .i64 m.client, .int .i64 m.stamp, .int .i64 m.entry.f0, .int .i64 m.entry.f1, .int .i64 m.entry.f2, .slice (a 0) m.entry.f3.length (d 0), .slice (a 1) m.digest.length (d 1), .slice (a 2) m.data.length (d 2), .slice (a 3) m.proof.length (d 3), .slice (a 4) m.proven.length (d 4)] 91)) (.cells #[.int .i64 m.kind, .int .i64 m.view, .int .i64 m.seq, .int .i64 m.client, .int .i64 m.stamp, .int .i64 m.entry.f0, .int .i64 m.entry.f1, .int .i64 m.entry.f2, .slice (b 0) m.entry.f3.length (c 0), .slice (b 1) m.digest.length (c 1), .slice (b 2) m.data.length (c 2), .slice (b 3) m.proof.length (c 3), .slice (b 4) m.proven.length (c 4)] 91) w.heap.size (by simp)).trans (blk_new w (.cells #[.int .i64 m.kind, .int .i64 m.view, .int .i64 m.seq, .int .i64 m.client, .int .i64 m.stamp, .int .i64 m.entry.f0, .int .i64 m.entry.f1, .int .i64 m.entry.f2, .slice (a 0) m.entry.f3.length (d 0), .slice (a 1) m.digest.length (d 1), .slice (a 2) m.data.length (d 2), .slice (a 3) m.proof.length (d 3), .slice (a 4) m.proven.length (d 4)] 91)))
  have HY0 := Aside0.mk (blk_new (w.alloc (.cells #[.int .i64 m.kind, .int .i64 m.view, .int .i64 m.seq, .int .i64 m.client, .int .i64 m.stamp, .int .i64 m.entry.f0, .int .i64 m.entry.f1, .int .i64 m.entry.f2, .slice (a 0) m.entry.f3.length (d 0), .slice (a 1) m.digest.length (d 1), .slice (a 2) m.data.length (d 2), .slice (a 3) m.proof.length (d 3), .slice (a 4) m.proven.length (d 4)] 91)) (.cells #[.int .i64 m.kind, .int .i64 m.view, .int .i64 m.seq, .int .i64 m.client, .int .i64 m.stamp, .int .i64 m.entry.f0, .int .i64 m.entry.f1, .int .i64 m.entry.f2, .slice (b 0) m.entry.f3.length (c 0), .slice (b 1) m.digest.length (c 1), .slice (b 2) m.data.length (c 2), .slice (b 3) m.proof.length (c 3), .slice (b 4) m.proven.length (c 4)] 91))
  rw [show (w.alloc (.cells #[.int .i64 m.kind, .int .i64 m.view, .int .i64 m.seq, .int .i64 m.client, .int .i64 m.stamp, .int .i64 m.entry.f0, .int .i64 m.entry.f1, .int .i64 m.entry.f2, .slice (a 0) m.entry.f3.length (d 0), .slice (a 1) m.digest.length (d 1), .slice (a 2) m.data.length (d 2), .slice (a 3) m.proof.length (d 3), .slice (a 4) m.proven.length (d 4)] 91)).heap.size = w.heap.size + 1 by simp] at HY0
  go_enter Try.func67, Try.ntmps67
  go_upto_region 1 with (fail)
  generalize (w.alloc (.cells #[.int .i64 m.kind, .int .i64 m.view, .int .i64 m.seq, .int .i64 m.client, .int .i64 m.stamp, .int .i64 m.entry.f0, .int .i64 m.entry.f1, .int .i64 m.entry.f2, .slice (a 0) m.entry.f3.length (d 0), .slice (a 1) m.digest.length (d 1), .slice (a 2) m.data.length (d 2), .slice (a 3) m.proof.length (d 3), .slice (a 4) m.proven.length (d 4)] 91)).alloc (.cells #[.int .i64 m.kind, .int .i64 m.view, .int .i64 m.seq, .int .i64 m.client, .int .i64 m.stamp, .int .i64 m.entry.f0, .int .i64 m.entry.f1, .int .i64 m.entry.f2, .slice (b 0) m.entry.f3.length (c 0), .slice (b 1) m.digest.length (c 1), .slice (b 2) m.data.length (c 2), .slice (b 3) m.proof.length (c 3), .slice (b 4) m.proven.length (c 4)] 91) = w0 at HX0 HY0 HB0 ⊢
  dsimp only [List.append] at *
  have x0 : w0.cell? ⟨w.heap.size, 0, none⟩ = some (.int .i64 m.kind) := (blk_cell HX0.out 0).trans rfl
  have x1 : w0.cell? ⟨w.heap.size, 1, none⟩ = some (.int .i64 m.view) := (blk_cell HX0.out 1).trans rfl
  have x2 : w0.cell? ⟨w.heap.size, 2, none⟩ = some (.int .i64 m.seq) := (blk_cell HX0.out 2).trans rfl
  have x3 : w0.cell? ⟨w.heap.size, 3, none⟩ = some (.int .i64 m.client) := (blk_cell HX0.out 3).trans rfl
  have x4 : w0.cell? ⟨w.heap.size, 4, none⟩ = some (.int .i64 m.stamp) := (blk_cell HX0.out 4).trans rfl
  have x5 : w0.cell? ⟨w.heap.size, 5, none⟩ = some (.int .i64 m.entry.f0) := (blk_cell HX0.out 5).trans rfl
  have x6 : w0.cell? ⟨w.heap.size, 6, none⟩ = some (.int .i64 m.entry.f1) := (blk_cell HX0.out 6).trans rfl
  have x7 : w0.cell? ⟨w.heap.size, 7, none⟩ = some (.int .i64 m.entry.f2) := (blk_cell HX0.out 7).trans rfl
  have x8 : w0.cell? ⟨w.heap.size, 8, none⟩ = some (.slice (a 0) m.entry.f3.length (d 0)) := (blk_cell HX0.out 8).trans rfl
  have y0 : w0.cell? ⟨w.heap.size + 1, 0, none⟩ = some (.int .i64 m.kind) := (blk_cell HY0.out 0).trans rfl
  have y1 : w0.cell? ⟨w.heap.size + 1, 1, none⟩ = some (.int .i64 m.view) := (blk_cell HY0.out 1).trans rfl
  have y2 : w0.cell? ⟨w.heap.size + 1, 2, none⟩ = some (.int .i64 m.seq) := (blk_cell HY0.out 2).trans rfl
  have y3 : w0.cell? ⟨w.heap.size + 1, 3, none⟩ = some (.int .i64 m.client) := (blk_cell HY0.out 3).trans rfl
  have y4 : w0.cell? ⟨w.heap.size + 1, 4, none⟩ = some (.int .i64 m.stamp) := (blk_cell HY0.out 4).trans rfl
  have y5 : w0.cell? ⟨w.heap.size + 1, 5, none⟩ = some (.int .i64 m.entry.f0) := (blk_cell HY0.out 5).trans rfl
  have y6 : w0.cell? ⟨w.heap.size + 1, 6, none⟩ = some (.int .i64 m.entry.f1) := (blk_cell HY0.out 6).trans rfl
  have y7 : w0.cell? ⟨w.heap.size + 1, 7, none⟩ = some (.int .i64 m.entry.f2) := (blk_cell HY0.out 7).trans rfl
  have y8 : w0.cell? ⟨w.heap.size + 1, 8, none⟩ = some (.slice (b 0) m.entry.f3.length (c 0)) := (blk_cell HY0.out 8).trans rfl
  go_wp2_with (fail)
  have hE := sameEntry_same m.entry (a 0) (b 0) (d 0) (c 0) w0 (HM.out.below HB0.out).r0 HM.out.l0 (HN.out.below HB0.out).r0 HN.out.l0
  with_reducible refine hE.mono ?_
  clear hE
  rintro e w1 ⟨rfl, hB⟩
  have HX1 := Aside0.mk ((hB.block _ (blk_lt2 HX0.out)).trans HX0.out)
  have HY1 := Aside0.mk ((hB.block _ (blk_lt2 HY0.out)).trans HY0.out)
  have HB1 := Aside0.mk (below_then HB0.out HB0.out.size hB)
  clear hB HX0 HY0 HB0 x0 y0 x1 y1 x2 y2 x3 y3 x4 y4 x5 y5 x6 y6 x7 y7 x8 y8
  have x9 : w1.cell? ⟨w.heap.size, 9, none⟩ = some (.slice (a 1) m.digest.length (d 1)) := (blk_cell HX1.out 9).trans rfl
  have y9 : w1.cell? ⟨w.heap.size + 1, 9, none⟩ = some (.slice (b 1) m.digest.length (c 1)) := (blk_cell HY1.out 9).trans rfl
  go_wp2_with (fail)
  have hE := sameBytes_is (a 1) (d 1) m.digest (b 1) (c 1) m.digest true w1 (HM.out.below HB1.out).r1 HM.out.l1 (HN.out.below HB1.out).r1 HN.out.l1 (by simp)
  with_reducible refine hE.mono ?_
  clear hE
  rintro e w2 ⟨rfl, hD⟩
  have hB := hD.below
  clear hD
  have HX2 := Aside0.mk ((hB.block _ (blk_lt2 HX1.out)).trans HX1.out)
  have HY2 := Aside0.mk ((hB.block _ (blk_lt2 HY1.out)).trans HY1.out)
  have HB2 := Aside0.mk (below_then HB1.out HB1.out.size hB)
  clear hB HX1 HY1 HB1 x9 y9
  have x10 : w2.cell? ⟨w.heap.size, 10, none⟩ = some (.slice (a 2) m.data.length (d 2)) := (blk_cell HX2.out 10).trans rfl
  have y10 : w2.cell? ⟨w.heap.size + 1, 10, none⟩ = some (.slice (b 2) m.data.length (c 2)) := (blk_cell HY2.out 10).trans rfl
  go_wp2_with (fail)
  have hE := sameBytes_is (a 2) (d 2) m.data (b 2) (c 2) m.data true w2 (HM.out.below HB2.out).r2 HM.out.l2 (HN.out.below HB2.out).r2 HN.out.l2 (by simp)
  with_reducible refine hE.mono ?_
  clear hE
  rintro e w3 ⟨rfl, hD⟩
  have hB := hD.below
  clear hD
  have HX3 := Aside0.mk ((hB.block _ (blk_lt2 HX2.out)).trans HX2.out)
  have HY3 := Aside0.mk ((hB.block _ (blk_lt2 HY2.out)).trans HY2.out)
  have HB3 := Aside0.mk (below_then HB2.out HB2.out.size hB)
  clear hB HX2 HY2 HB2 x10 y10
  have x11 : w3.cell? ⟨w.heap.size, 11, none⟩ = some (.slice (a 3) m.proof.length (d 3)) := (blk_cell HX3.out 11).trans rfl
  have y11 : w3.cell? ⟨w.heap.size + 1, 11, none⟩ = some (.slice (b 3) m.proof.length (c 3)) := (blk_cell HY3.out 11).trans rfl
  go_wp2_with (fail)
  have hE := sameLetters_calls (a 3) (b 3) (d 3) (c 3) m.proof w3 (HM.out.below HB3.out).r3 HM.out.l3 (HN.out.below HB3.out).r3 HN.out.l3
  with_reducible refine hE.mono ?_
  clear hE
  rintro e w4 ⟨rfl, hB⟩
  have HX4 := Aside0.mk ((hB.block _ (blk_lt2 HX3.out)).trans HX3.out)
  have HY4 := Aside0.mk ((hB.block _ (blk_lt2 HY3.out)).trans HY3.out)
  have HB4 := Aside0.mk (below_then HB3.out HB3.out.size hB)
  clear hB HX3 HY3 HB3 x11 y11
  have x12 : w4.cell? ⟨w.heap.size, 12, none⟩ = some (.slice (a 4) m.proven.length (d 4)) := (blk_cell HX4.out 12).trans rfl
  have y12 : w4.cell? ⟨w.heap.size + 1, 12, none⟩ = some (.slice (b 4) m.proven.length (c 4)) := (blk_cell HY4.out 12).trans rfl
  go_wp2_with (fail)
  have hE := sameProven_calls (a 4) (b 4) (d 4) (c 4) m.proven w4 (HM.out.below HB4.out).r4 HM.out.l4 (HN.out.below HB4.out).r4 HN.out.l4
  with_reducible refine hE.mono ?_
  clear hE
  rintro e w5 ⟨rfl, hB⟩
  have HX5 := Aside0.mk ((hB.block _ (blk_lt2 HX4.out)).trans HX4.out)
  have HY5 := Aside0.mk ((hB.block _ (blk_lt2 HY4.out)).trans HY4.out)
  have HB5 := Aside0.mk (below_then HB4.out HB4.out.size hB)
  clear hB HX4 HY4 HB4 x12 y12
  go_wp2_with (fail)
  go_ret
  exact ⟨rfl, HB5.out⟩
end Go.Proofs.Ytijccobeljoikaa.Ms
