/- Put together of my texts: MuL, MuN. -/
import Derived.Test.YtijccobeljoikaaMi13
import Derived.Test.YtijccobeljoikaaMi22
import Derived.Test.YtijccobeljoikaaMi8
import Derived.Test.YtijccobeljoikaaMi7
import Derived.Test.YtijccobeljoikaaMi4
/- msg: the statements' helper Spare; MsgDecodes over a contract of the document's Decode. -/
namespace Go.Proofs.Ytijccobeljoikaa.Ms
open Go.RowKit Go.Proofs.YtijccobeljoikaaW.PrintWords Go.Proofs.YtijccobeljoikaaW.PrintLast
open Go.Proofs.Ytijccobeljoikaa.Plain Go.Proofs.Ytijccobeljoikaa.Walks
set_option linter.unusedVariables false
set_option linter.unusedSimpArgs false
/-- The marks behind the bytes. -/
def marks : List Int := [201, 202, 203, 204, 205, 206, 207, 208]
set_option maxHeartbeats 8000000 in
set_option maxRecDepth 100000 in
theorem spare35_calls (A : Option Addr) (c : Nat) (l : List Int) (w : World) (hC : Kd.C (Kd.int .u8) w A l.length l) (hc : l.length ≤ c) (hl : l.length ≤ 100000) :
    Calls Try.prog 35 #[.slice A l.length c] w fun e w' => ∃ A1 c1, e = .returned (.slice A1 (l ++ marks).length c1) ∧ Got (Kd.int .u8) 5 w w' A1 c1 (l ++ marks) := by
  have hE := copyBytes_calls A c l w hC hc (by omega)
  clear hC hc
  go_enter Try.func35, Try.ntmps35
  go_wp2_with (fail)
  refine hE.mono ?_
  clear hE
  rintro e w1 ⟨A1, c1, rfl, hG⟩
  have HG := Aside0.mk hG
  clear hG
  go_wp2_with (fail)
  go_loopw [3, 4] (fun u t wr => ∃ i : Nat, t = .int .i64 (i : Int) ∧ i ≤ 8 ∧ Aside0 (Kd.R (Kd.int .u8) 5 wr w.heap.size (fun k_ => w.heap.size ≤ k_) u (l ++ marks.take i)) ∧ Aside0 (Below w.heap.size w wr)) (fun _ t _ => 8 - (intOf t).toNat)
  case atStart => exact ⟨0, rfl, by omega, ⟨by rw [List.take_zero, List.append_nil]; exact HG.out.own⟩, ⟨HG.out.keep⟩⟩
  case round =>
    clear HG
    obtain ⟨i, rfl, hi, HR, HB⟩ := hrel
    obtain ⟨xs, hxs⟩ : ∃ xs, xs = l ++ marks.take i := ⟨_, rfl⟩
    rw [← hxs] at HR
    obtain ⟨Av, cv, ev⟩ := Kd.R_slice HR.out
    subst ev
    have hxl : xs.length ≤ 200000 := by rw [hxs, List.length_append, List.length_take]; omega
    have HX := Aside0.mk hxs
    have hs := HB.out.size
    by_cases hlt : i < 8
    · clear hxs
      have : i = 0 ∨ i = 1 ∨ i = 2 ∨ i = 3 ∨ i = 4 ∨ i = 5 ∨ i = 6 ∨ i = 7 := by omega
      rcases this with rfl | rfl | rfl | rfl | rfl | rfl | rfl | rfl
      · go_wp2_with (at_builtin; refine Kd.R_append (Kd.int .u8) (w0 := w) w.heap.size rfl (.tmp 11) (.tmp 15) 22 5 (.int .u8 0) 1 rfl Try.underlying22 info5 rfl (by decide) (by decide) (.slice Av xs.length cv) xs 201 [.int .u8 201] (fun k_ => w.heap.size ≤ k_) (fun k_ => w.heap.size ≤ k_ ∧ some k_ ≠ (Value.slice Av xs.length cv).ownBlock) rfl rfl rfl (fun _ h => h) (fun k hk => by omega) HR.out HB.out hs (by omega) ?_; intro v3 w3 hR3 hB3 hg3 hat3; have HR3 := Aside0.mk hR3; have HB3 := Aside0.mk hB3; clear hR3 hB3 hg3 hat3)
        exact ⟨⟨1, by first | rfl | simp, by omega, ⟨by have := HR3.out; rw [HX.out] at this; simpa [marks] using this⟩, HB3⟩, by first | decide | (simp only [intOf]; omega)⟩
      · go_wp2_with (at_builtin; refine Kd.R_append (Kd.int .u8) (w0 := w) w.heap.size rfl (.tmp 11) (.tmp 15) 22 5 (.int .u8 0) 1 rfl Try.underlying22 info5 rfl (by decide) (by decide) (.slice Av xs.length cv) xs 202 [.int .u8 202] (fun k_ => w.heap.size ≤ k_) (fun k_ => w.heap.size ≤ k_ ∧ some k_ ≠ (Value.slice Av xs.length cv).ownBlock) rfl rfl rfl (fun _ h => h) (fun k hk => by omega) HR.out HB.out hs (by omega) ?_; intro v3 w3 hR3 hB3 hg3 hat3; have HR3 := Aside0.mk hR3; have HB3 := Aside0.mk hB3; clear hR3 hB3 hg3 hat3)
        exact ⟨⟨2, by first | rfl | simp, by omega, ⟨by have := HR3.out; rw [HX.out] at this; simpa [marks] using this⟩, HB3⟩, by first | decide | (simp only [intOf]; omega)⟩
      · go_wp2_with (at_builtin; refine Kd.R_append (Kd.int .u8) (w0 := w) w.heap.size rfl (.tmp 11) (.tmp 15) 22 5 (.int .u8 0) 1 rfl Try.underlying22 info5 rfl (by decide) (by decide) (.slice Av xs.length cv) xs 203 [.int .u8 203] (fun k_ => w.heap.size ≤ k_) (fun k_ => w.heap.size ≤ k_ ∧ some k_ ≠ (Value.slice Av xs.length cv).ownBlock) rfl rfl rfl (fun _ h => h) (fun k hk => by omega) HR.out HB.out hs (by omega) ?_; intro v3 w3 hR3 hB3 hg3 hat3; have HR3 := Aside0.mk hR3; have HB3 := Aside0.mk hB3; clear hR3 hB3 hg3 hat3)
        exact ⟨⟨3, by first | rfl | simp, by omega, ⟨by have := HR3.out; rw [HX.out] at this; simpa [marks] using this⟩, HB3⟩, by first | decide | (simp only [intOf]; omega)⟩
      · go_wp2_with (at_builtin; refine Kd.R_append (Kd.int .u8) (w0 := w) w.heap.size rfl (.tmp 11) (.tmp 15) 22 5 (.int .u8 0) 1 rfl Try.underlying22 info5 rfl (by decide) (by decide) (.slice Av xs.length cv) xs 204 [.int .u8 204] (fun k_ => w.heap.size ≤ k_) (fun k_ => w.heap.size ≤ k_ ∧ some k_ ≠ (Value.slice Av xs.length cv).ownBlock) rfl rfl rfl (fun _ h => h) (fun k hk => by omega) HR.out HB.out hs (by omega) ?_; intro v3 w3 hR3 hB3 hg3 hat3; have HR3 := Aside0.mk hR3; have HB3 := Aside0.mk hB3; clear hR3 hB3 hg3 hat3)
        exact ⟨⟨4, by first | rfl | simp, by omega, ⟨by have := HR3.out; rw [HX.out] at this; simpa [marks] using this⟩, HB3⟩, by first | decide | (simp only [intOf]; omega)⟩
      · go_wp2_with (at_builtin; refine Kd.R_append (Kd.int .u8) (w0 := w) w.heap.size rfl (.tmp 11) (.tmp 15) 22 5 (.int .u8 0) 1 rfl Try.underlying22 info5 rfl (by decide) (by decide) (.slice Av xs.length cv) xs 205 [.int .u8 205] (fun k_ => w.heap.size ≤ k_) (fun k_ => w.heap.size ≤ k_ ∧ some k_ ≠ (Value.slice Av xs.length cv).ownBlock) rfl rfl rfl (fun _ h => h) (fun k hk => by omega) HR.out HB.out hs (by omega) ?_; intro v3 w3 hR3 hB3 hg3 hat3; have HR3 := Aside0.mk hR3; have HB3 := Aside0.mk hB3; clear hR3 hB3 hg3 hat3)
        exact ⟨⟨5, by first | rfl | simp, by omega, ⟨by have := HR3.out; rw [HX.out] at this; simpa [marks] using this⟩, HB3⟩, by first | decide | (simp only [intOf]; omega)⟩
      · go_wp2_with (at_builtin; refine Kd.R_append (Kd.int .u8) (w0 := w) w.heap.size rfl (.tmp 11) (.tmp 15) 22 5 (.int .u8 0) 1 rfl Try.underlying22 info5 rfl (by decide) (by decide) (.slice Av xs.length cv) xs 206 [.int .u8 206] (fun k_ => w.heap.size ≤ k_) (fun k_ => w.heap.size ≤ k_ ∧ some k_ ≠ (Value.slice Av xs.length cv).ownBlock) rfl rfl rfl (fun _ h => h) (fun k hk => by omega) HR.out HB.out hs (by omega) ?_; intro v3 w3 hR3 hB3 hg3 hat3; have HR3 := Aside0.mk hR3; have HB3 := Aside0.mk hB3; clear hR3 hB3 hg3 hat3)
        exact ⟨⟨6, by first | rfl | simp, by omega, ⟨by have := HR3.out; rw [HX.out] at this; simpa [marks] using this⟩, HB3⟩, by first | decide | (simp only [intOf]; omega)⟩
      · go_wp2_with (at_builtin; refine Kd.R_append (Kd.int .u8) (w0 := w) w.heap.size rfl (.tmp 11) (.tmp 15) 22 5 (.int .u8 0) 1 rfl Try.underlying22 info5 rfl (by decide) (by decide) (.slice Av xs.length cv) xs 207 [.int .u8 207] (fun k_ => w.heap.size ≤ k_) (fun k_ => w.heap.size ≤ k_ ∧ some k_ ≠ (Value.slice Av xs.length cv).ownBlock) rfl rfl rfl (fun _ h => h) (fun k hk => by omega) HR.out HB.out hs (by omega) ?_; intro v3 w3 hR3 hB3 hg3 hat3; have HR3 := Aside0.mk hR3; have HB3 := Aside0.mk hB3; clear hR3 hB3 hg3 hat3)
        exact ⟨⟨7, by first | rfl | simp, by omega, ⟨by have := HR3.out; rw [HX.out] at this; simpa [marks] using this⟩, HB3⟩, by first | decide | (simp only [intOf]; omega)⟩
      · go_wp2_with (at_builtin; refine Kd.R_append (Kd.int .u8) (w0 := w) w.heap.size rfl (.tmp 11) (.tmp 15) 22 5 (.int .u8 0) 1 rfl Try.underlying22 info5 rfl (by decide) (by decide) (.slice Av xs.length cv) xs 208 [.int .u8 208] (fun k_ => w.heap.size ≤ k_) (fun k_ => w.heap.size ≤ k_ ∧ some k_ ≠ (Value.slice Av xs.length cv).ownBlock) rfl rfl rfl (fun _ h => h) (fun k hk => by omega) HR.out HB.out hs (by omega) ?_; intro v3 w3 hR3 hB3 hg3 hat3; have HR3 := Aside0.mk hR3; have HB3 := Aside0.mk hB3; clear hR3 hB3 hg3 hat3)
        exact ⟨⟨8, by first | rfl | simp, by omega, ⟨by have := HR3.out; rw [HX.out] at this; simpa [marks] using this⟩, HB3⟩, by first | decide | (simp only [intOf]; omega)⟩
    · have hi8 : i = 8 := by omega
      subst hi8
      have hx : xs = l ++ marks := hxs
      subst hx
      clear hxs
      go_wp2_with (fail)
      go_ret
      exact ⟨_, _, rfl, HR.out, HB.out⟩
end Go.Proofs.Ytijccobeljoikaa.Ms

/- msg: MsgDecodes: Decode answers the document's message or error; the bytes are left as they were. -/
namespace Go.Proofs.Ytijccobeljoikaa.Ms
open Go.RowKit Go.Proofs.YtijccobeljoikaaW.PrintWords Go.Proofs.YtijccobeljoikaaW.PrintLast
open Go.Proofs.Ytijccobeljoikaa.Plain Go.Proofs.Ytijccobeljoikaa.Walks
set_option linter.unusedVariables false
set_option linter.unusedSimpArgs false
theorem decPost_any {w w' : World} {o : Option S91} {e : Ending} (h : DecPost w o e w') {x : S91} {y : Int} (hx : o.getD z91 = x) (hy : (if o.isSome then (0 : Int) else 12) = y) :
    Below w.heap.size w w' ∧ ∃ (a : Nat → Option Addr) (d : Nat → Nat), e = .returned (.tuple #[.agg #[.int .i64 x.kind, .int .i64 x.view, .int .i64 x.seq, .int .i64 x.client, .int .i64 x.stamp, .int .i64 x.entry.f0, .int .i64 x.entry.f1, .int .i64 x.entry.f2, .slice (a 0) x.entry.f3.length (d 0), .slice (a 1) x.digest.length (d 1), .slice (a 2) x.data.length (d 2), .slice (a 3) x.proof.length (d 3), .slice (a 4) x.proven.length (d 4)], .int .i64 y]) ∧ Msg w' x a d := by
  cases o with
  | none =>
    obtain ⟨hB, rfl⟩ := h
    subst hx; subst hy
    exact ⟨hB, fun _ => none, fun _ => 0, rfl, ⟨Kd.C_nil_ _ _, Nat.le_refl _, Kd.C_nil_ _ _, Nat.le_refl _, Kd.C_nil_ _ _, Nat.le_refl _, Kd.C_nil_ _ _, Nat.le_refl _, Kd.C_nil_ _ _, Nat.le_refl _⟩⟩
  | some m =>
    obtain ⟨hB, a, d, rfl, hM⟩ := h
    obtain rfl : m = x := hx
    obtain rfl : 0 = y := hy
    exact ⟨hB, a, d, rfl, hM⟩
set_option maxHeartbeats 16000000 in
set_option maxRecDepth 100000 in
theorem decodes_calls (B : Option Addr) (cb : Nat) (l : List Int) (w : World) (hB : Kd.C (Kd.int .u8) w B l.length l) (hcb : l.length ≤ cb) (hbl : Byte l) :
    Calls Try.prog 18 #[.slice B l.length cb] w fun e w' => e = .returned (.bool true) ∧ Below w.heap.size w w' := by
  have hu91 := Try.underlying91
  have HL := Aside0.mk (And.intro hB (And.intro hcb hbl))
  obtain ⟨o, ho⟩ : ∃ o, decO l = o := ⟨_, rfl⟩
  obtain ⟨x, hx⟩ : ∃ x, o.getD z91 = x := ⟨_, rfl⟩
  obtain ⟨y, hy⟩ : ∃ y, (if o.isSome then (0 : Int) else 12) = y := ⟨_, rfl⟩
  have HO := Aside0.mk (And.intro ho (And.intro hx hy))
  clear hB hcb hbl ho hx hy
  go_enter Try.func18, Try.ntmps18
  go_wp2_with (fail)
  refine (alive_calls w).mono ?_
  rintro e w1 ⟨rfl, hB⟩
  have HB1 := Aside0.mk hB
  clear hB
  by_cases h5 : (5000 : Int) < (l.length : Int)
  · have b0 : decide ((5000 : Int) < (l.length : Int)) = true := decide_eq_true h5
    have b0' : decide (5000 < l.length) = true := decide_eq_true (by omega)
    go_wp2_with (fail)
    go_ret
    exact ⟨rfl, HB1.out⟩
  · have b0 : decide ((5000 : Int) < (l.length : Int)) = false := decide_eq_false h5
    have b0' : decide (5000 < l.length) = false := decide_eq_false (by omega)
    have HL5 := Aside0.mk (show l.length ≤ 5000 by omega)
    clear h5
    go_wp2_with (fail)
    refine (spare35_calls B cb l w1 (Kd.C_below HL.out.1 HB1.out) HL.out.2.1 (by have := HL5.out; omega)).mono ?_
    rintro e w2 ⟨A1, c1, rfl, hG⟩
    obtain ⟨z, hz⟩ : ∃ z, l ++ marks = z := ⟨_, rfl⟩
    rw [hz] at hG ⊢
    have HZ := Aside0.mk hz
    have HC2 := Aside0.mk hG.row
    have HB2 := Aside0.mk (below_then HB1.out HB1.out.size hG.keep)
    obtain ⟨ys, hys, hcap, heq, hrd⟩ := take_bytes A1 c1 l.length z (by rw [← hz, List.length_append]; omega) hG.cap
    have hyl : ys = l := by rw [hys, ← hz, List.take_left]
    have HCap := Aside0.mk hG.cap
    subst hyl
    have HQ := Aside0.mk heq
    have HYC := Aside0.mk (And.intro (hrd w2 HC2.out) hcap)
    clear heq hcap hys hrd hz hG b0 b0'
    have p1 : ((ys.length : Int) ≤ (c1 : Int)) = True := eq_true (by have := HYC.out.2; omega)
    have p2 : ys.length ≤ c1 := HYC.out.2
    go_wp2_with (fail)
    refine (decode_calls A1 c1 ys o w2 HYC.out.1 HYC.out.2 HL.out.2.2 (by have := HL5.out; omega) HO.out.1).mono ?_
    rintro e w3 hD
    obtain ⟨hB, a, d, rfl, hM⟩ := decPost_any hD HO.out.2.1 HO.out.2.2
    have HB3 := Aside0.mk (below_then HB2.out HB2.out.size hB)
    have HC3 := Aside0.mk (Kd.C_below HC2.out hB)
    have HM3 := Aside0.mk hM
    have HN0 := Aside0.mk (blk_new w3 (.cells #[.int .i64 0, .int .i64 0, .int .i64 0, .int .i64 0, .int .i64 0, .int .i64 0, .int .i64 0, .int .i64 0, .slice none 0 0, .slice none 0 0, .slice none 0 0, .slice none 0 0, .slice none 0 0] 91))
    have HK0 := Aside0.mk (below_alloc (Below.refl w3.heap.size w3) (.cells #[.int .i64 0, .int .i64 0, .int .i64 0, .int .i64 0, .int .i64 0, .int .i64 0, .int .i64 0, .int .i64 0, .slice none 0 0, .slice none 0 0, .slice none 0 0, .slice none 0 0, .slice none 0 0] 91))
    clear hB hM hD HB2 HC2 HYC HQ p1 p2
    go_upto_region 7 with (refine wpList_store_row rfl 91 (.tmp 4) (.tmp 21) rfl w3.heap.size #[.int .i64 x.kind, .int .i64 x.view, .int .i64 x.seq, .int .i64 x.client, .int .i64 x.stamp, .int .i64 x.entry.f0, .int .i64 x.entry.f1, .int .i64 x.entry.f2, .slice (a 0) x.entry.f3.length (d 0), .slice (a 1) x.digest.length (d 1), .slice (a 2) x.data.length (d 2), .slice (a 3) x.proof.length (d 3), .slice (a 4) x.proven.length (d 4)] rfl rfl 91 _ HN0.out size91 rfl (by simp [Value.oneCell']) ?_; have HN4 := Aside0.mk (setRow_heap _ _ _ #[.int .i64 x.kind, .int .i64 x.view, .int .i64 x.seq, .int .i64 x.client, .int .i64 x.stamp, .int .i64 x.entry.f0, .int .i64 x.entry.f1, .int .i64 x.entry.f2, .slice (a 0) x.entry.f3.length (d 0), .slice (a 1) x.digest.length (d 1), .slice (a 2) x.data.length (d 2), .slice (a 3) x.proof.length (d 3), .slice (a 4) x.proven.length (d 4)] _ _ HN0.out); have HK4 := Aside0.mk (below_setRow HK0.out (Nat.le_refl _) #[.int .i64 x.kind, .int .i64 x.view, .int .i64 x.seq, .int .i64 x.client, .int .i64 x.stamp, .int .i64 x.entry.f0, .int .i64 x.entry.f1, .int .i64 x.entry.f2, .slice (a 0) x.entry.f3.length (d 0), .slice (a 1) x.digest.length (d 1), .slice (a 2) x.data.length (d 2), .slice (a 3) x.proof.length (d 3), .slice (a 4) x.proven.length (d 4)]))
    generalize (w3.alloc (.cells #[.int .i64 0, .int .i64 0, .int .i64 0, .int .i64 0, .int .i64 0, .int .i64 0, .int .i64 0, .int .i64 0, .slice none 0 0, .slice none 0 0, .slice none 0 0, .slice none 0 0, .slice none 0 0] 91)).setRow w3.heap.size #[.int .i64 x.kind, .int .i64 x.view, .int .i64 x.seq, .int .i64 x.client, .int .i64 x.stamp, .int .i64 x.entry.f0, .int .i64 x.entry.f1, .int .i64 x.entry.f2, .slice (a 0) x.entry.f3.length (d 0), .slice (a 1) x.digest.length (d 1), .slice (a 2) x.data.length (d 2), .slice (a 3) x.proof.length (d 3), .slice (a 4) x.proven.length (d 4)] = w4 at HN4 HK4 ⊢
    have HB4 := Aside0.mk (below_then HB3.out HB3.out.size HK4.out)
    have HC4 := Aside0.mk (Kd.C_below HC3.out HK4.out)
    have HM4 := Aside0.mk (HM3.out.below HK4.out)
    clear HB3 HC3 HM3 HN0 HK0 HK4
    go_wp2_with (fail)
    refine (refDecode69_calls B cb ys o w4 (Kd.C_below HL.out.1 HB4.out) HL.out.2.1 HL.out.2.2 (by have := HL5.out; omega) HO.out.1).mono ?_
    rintro e w5 hD
    obtain ⟨hB, b, k, rfl, hM⟩ := decPost_any hD HO.out.2.1 HO.out.2.2
    have HB5 := Aside0.mk (below_then HB4.out HB4.out.size hB)
    have HC5 := Aside0.mk (Kd.C_below HC4.out hB)
    have HM5 := Aside0.mk (HM4.out.below hB)
    have HN5 := Aside0.mk ((hB.block _ (blk_lt2 HN4.out)).trans HN4.out)
    have HQ5 := Aside0.mk hM
    have HX0 := Aside0.mk (blk_new w5 (.cells #[.int .i64 0, .int .i64 0, .int .i64 0, .int .i64 0, .int .i64 0, .int .i64 0, .int .i64 0, .int .i64 0, .slice none 0 0, .slice none 0 0, .slice none 0 0, .slice none 0 0, .slice none 0 0] 91))
    have HK0 := Aside0.mk (below_alloc (Below.refl w5.heap.size w5) (.cells #[.int .i64 0, .int .i64 0, .int .i64 0, .int .i64 0, .int .i64 0, .int .i64 0, .int .i64 0, .int .i64 0, .slice none 0 0, .slice none 0 0, .slice none 0 0, .slice none 0 0, .slice none 0 0] 91))
    clear hB hM hD HB4 HC4 HM4 HN4
    go_upto_region 8 with (refine wpList_store_row rfl 91 (.tmp 6) (.tmp 26) rfl w5.heap.size #[.int .i64 x.kind, .int .i64 x.view, .int .i64 x.seq, .int .i64 x.client, .int .i64 x.stamp, .int .i64 x.entry.f0, .int .i64 x.entry.f1, .int .i64 x.entry.f2, .slice (b 0) x.entry.f3.length (k 0), .slice (b 1) x.digest.length (k 1), .slice (b 2) x.data.length (k 2), .slice (b 3) x.proof.length (k 3), .slice (b 4) x.proven.length (k 4)] rfl rfl 91 _ HX0.out size91 rfl (by simp [Value.oneCell']) ?_; have HX6 := Aside0.mk (setRow_heap _ _ _ #[.int .i64 x.kind, .int .i64 x.view, .int .i64 x.seq, .int .i64 x.client, .int .i64 x.stamp, .int .i64 x.entry.f0, .int .i64 x.entry.f1, .int .i64 x.entry.f2, .slice (b 0) x.entry.f3.length (k 0), .slice (b 1) x.digest.length (k 1), .slice (b 2) x.data.length (k 2), .slice (b 3) x.proof.length (k 3), .slice (b 4) x.proven.length (k 4)] _ _ HX0.out); have HK6 := Aside0.mk (below_setRow HK0.out (Nat.le_refl _) #[.int .i64 x.kind, .int .i64 x.view, .int .i64 x.seq, .int .i64 x.client, .int .i64 x.stamp, .int .i64 x.entry.f0, .int .i64 x.entry.f1, .int .i64 x.entry.f2, .slice (b 0) x.entry.f3.length (k 0), .slice (b 1) x.digest.length (k 1), .slice (b 2) x.data.length (k 2), .slice (b 3) x.proof.length (k 3), .slice (b 4) x.proven.length (k 4)]))
    generalize (w5.alloc (.cells #[.int .i64 0, .int .i64 0, .int .i64 0, .int .i64 0, .int .i64 0, .int .i64 0, .int .i64 0, .int .i64 0, .slice none 0 0, .slice none 0 0, .slice none 0 0, .slice none 0 0, .slice none 0 0] 91)).setRow w5.heap.size #[.int .i64 x.kind, .int .i64 x.view, .int .i64 x.seq, .int .i64 x.client, .int .i64 x.stamp, .int .i64 x.entry.f0, .int .i64 x.entry.f1, .int .i64 x.entry.f2, .slice (b 0) x.entry.f3.length (k 0), .slice (b 1) x.digest.length (k 1), .slice (b 2) x.data.length (k 2), .slice (b 3) x.proof.length (k 3), .slice (b 4) x.proven.length (k 4)] = w6 at HX6 HK6 ⊢
    have HB6 := Aside0.mk (below_then HB5.out HB5.out.size HK6.out)
    have HC6 := Aside0.mk (Kd.C_below HC5.out HK6.out)
    have HM6 := Aside0.mk (HM5.out.below HK6.out)
    have HQ6 := Aside0.mk (HQ5.out.below HK6.out)
    have HN6 := Aside0.mk ((HK6.out.block _ (blk_lt2 HN5.out)).trans HN5.out)
    clear HB5 HC5 HM5 HN5 HQ5 HX0 HK0 HK6
    have n0 : w6.cell? ⟨w3.heap.size, 0, none⟩ = some (.int .i64 x.kind) := (blk_cell HN6.out 0).trans rfl
    have n1 : w6.cell? ⟨w3.heap.size, 1, none⟩ = some (.int .i64 x.view) := (blk_cell HN6.out 1).trans rfl
    have n2 : w6.cell? ⟨w3.heap.size, 2, none⟩ = some (.int .i64 x.seq) := (blk_cell HN6.out 2).trans rfl
    have n3 : w6.cell? ⟨w3.heap.size, 3, none⟩ = some (.int .i64 x.client) := (blk_cell HN6.out 3).trans rfl
    have n4 : w6.cell? ⟨w3.heap.size, 4, none⟩ = some (.int .i64 x.stamp) := (blk_cell HN6.out 4).trans rfl
    have n5 : w6.cell? ⟨w3.heap.size, 5, none⟩ = some (.int .i64 x.entry.f0) := (blk_cell HN6.out 5).trans rfl
    have n6 : w6.cell? ⟨w3.heap.size, 6, none⟩ = some (.int .i64 x.entry.f1) := (blk_cell HN6.out 6).trans rfl
    have n7 : w6.cell? ⟨w3.heap.size, 7, none⟩ = some (.int .i64 x.entry.f2) := (blk_cell HN6.out 7).trans rfl
    have n8 : w6.cell? ⟨w3.heap.size, 8, none⟩ = some (.slice (a 0) x.entry.f3.length (d 0)) := (blk_cell HN6.out 8).trans rfl
    have n9 : w6.cell? ⟨w3.heap.size, 9, none⟩ = some (.slice (a 1) x.digest.length (d 1)) := (blk_cell HN6.out 9).trans rfl
    have n10 : w6.cell? ⟨w3.heap.size, 10, none⟩ = some (.slice (a 2) x.data.length (d 2)) := (blk_cell HN6.out 10).trans rfl
    have n11 : w6.cell? ⟨w3.heap.size, 11, none⟩ = some (.slice (a 3) x.proof.length (d 3)) := (blk_cell HN6.out 11).trans rfl
    have n12 : w6.cell? ⟨w3.heap.size, 12, none⟩ = some (.slice (a 4) x.proven.length (d 4)) := (blk_cell HN6.out 12).trans rfl
    have x0 : w6.cell? ⟨w5.heap.size, 0, none⟩ = some (.int .i64 x.kind) := (blk_cell HX6.out 0).trans rfl
    have x1 : w6.cell? ⟨w5.heap.size, 1, none⟩ = some (.int .i64 x.view) := (blk_cell HX6.out 1).trans rfl
    have x2 : w6.cell? ⟨w5.heap.size, 2, none⟩ = some (.int .i64 x.seq) := (blk_cell HX6.out 2).trans rfl
    have x3 : w6.cell? ⟨w5.heap.size, 3, none⟩ = some (.int .i64 x.client) := (blk_cell HX6.out 3).trans rfl
    have x4 : w6.cell? ⟨w5.heap.size, 4, none⟩ = some (.int .i64 x.stamp) := (blk_cell HX6.out 4).trans rfl
    have x5 : w6.cell? ⟨w5.heap.size, 5, none⟩ = some (.int .i64 x.entry.f0) := (blk_cell HX6.out 5).trans rfl
    have x6 : w6.cell? ⟨w5.heap.size, 6, none⟩ = some (.int .i64 x.entry.f1) := (blk_cell HX6.out 6).trans rfl
    have x7 : w6.cell? ⟨w5.heap.size, 7, none⟩ = some (.int .i64 x.entry.f2) := (blk_cell HX6.out 7).trans rfl
    have x8 : w6.cell? ⟨w5.heap.size, 8, none⟩ = some (.slice (b 0) x.entry.f3.length (k 0)) := (blk_cell HX6.out 8).trans rfl
    have x9 : w6.cell? ⟨w5.heap.size, 9, none⟩ = some (.slice (b 1) x.digest.length (k 1)) := (blk_cell HX6.out 9).trans rfl
    have x10 : w6.cell? ⟨w5.heap.size, 10, none⟩ = some (.slice (b 2) x.data.length (k 2)) := (blk_cell HX6.out 10).trans rfl
    have x11 : w6.cell? ⟨w5.heap.size, 11, none⟩ = some (.slice (b 3) x.proof.length (k 3)) := (blk_cell HX6.out 11).trans rfl
    have x12 : w6.cell? ⟨w5.heap.size, 12, none⟩ = some (.slice (b 4) x.proven.length (k 4)) := (blk_cell HX6.out 12).trans rfl
    go_wp2_with (fail)
    have hE := sameMsg_calls x a b d k w6 HM6.out HQ6.out
    with_reducible refine hE.mono ?_
    clear hE
    rintro e w7 ⟨rfl, hB⟩
    have HB7 := Aside0.mk (below_then HB6.out HB6.out.size hB)
    have HC7 := Aside0.mk (Kd.C_below HC6.out hB)
    clear hB n0 n1 n2 n3 n4 n5 n6 n7 n8 n9 n10 n11 n12 x0 x1 x2 x3 x4 x5 x6 x7 x8 x9 x10 x11 x12 HB6 HC6 HM6 HQ6 HN6 HX6
    have b1 : (y == y) = true := by simp
    go_wp2_with (fail)
    refine (spare35_calls B cb ys w7 (Kd.C_below HL.out.1 HB7.out) HL.out.2.1 (by have := HL5.out; omega)).mono ?_
    rintro e w8 ⟨A2, c2, rfl, hG⟩
    rw [HZ.out] at hG ⊢
    have HB8 := Aside0.mk (below_then HB7.out HB7.out.size hG.keep)
    have HC8 := Aside0.mk (Kd.C_below HC7.out hG.keep)
    have HG := Aside0.mk hG
    clear hG
    go_wp2_with (fail)
    have hE := sameBytes_is A1 c1 z A2 c2 z true w8 HC8.out HCap.out HG.out.row HG.out.cap (by simp)
    with_reducible refine hE.mono ?_
    clear hE
    rintro e w9 ⟨rfl, hD⟩
    have HB9 := Aside0.mk (below_then HB8.out HB8.out.size hD.below)
    clear hD
    go_wp2_with (fail)
    go_ret
    exact ⟨rfl, HB9.out⟩
theorem decodes_opened {B : Option Addr} {cb : Nat} {l : List Int} {W : World} (hB : Kd.C (Kd.int .u8) W B l.length l) (hcb : l.length ≤ cb) (hbl : Byte l) :
    Calls Try.prog 18 #[.slice B l.length cb] W fun e w' => e = .returned (.bool true) ∧ Below W.heap.size W w' := decodes_calls B cb l W hB hcb hbl
end Go.Proofs.Ytijccobeljoikaa.Ms
