/- Put together of my texts: MsN, MsO, MsQ, MsR. -/
import Derived.Test.YtijccobeljoikaaMi4
import Derived.Lib.OthersKept
import Derived.Laws.Tables
import Derived.Laws.CopyOwn
/- msg: a field's bytes. -/
namespace Go.Proofs.Ytijccobeljoikaa.Ms
open Go.RowKit Go.Proofs.YtijccobeljoikaaW.PrintWords Go.Proofs.YtijccobeljoikaaW.PrintLast
open Go.Proofs.Ytijccobeljoikaa.Plain Go.Proofs.Ytijccobeljoikaa.Walks
set_option linter.unusedVariables false
set_option linter.unusedSimpArgs false
set_option maxHeartbeats 4000000 in
set_option maxRecDepth 100000 in
theorem field_v (kk : Int) (m : S91) (a : Nat → Option Addr) (c : Nat → Nat) (z : List Int) (hz : numsP [m.view] = (z, 0)) (w0 w : World) (hM0 : Msg w0 m a c) (hb0 : Below w0.heap.size w0 w) :
    Calls Try.prog 97 #[.agg #[.int .i64 kk, .int .i64 m.view, .int .i64 m.seq, .int .i64 m.client, .int .i64 m.stamp, .int .i64 m.entry.f0, .int .i64 m.entry.f1, .int .i64 m.entry.f2, .slice (a 0) m.entry.f3.length (c 0), .slice (a 1) m.digest.length (c 1), .slice (a 2) m.data.length (c 2), .slice (a 3) m.proof.length (c 3), .slice (a 4) m.proven.length (c 4)], .int .i32 118] w fun e w' => ∃ A1 c1, e = .returned (.slice A1 z.length c1) ∧ Byt w0 w' A1 c1 z ∧ Below w.heap.size w w' := by
  have hu91 := Try.underlying91
  have hu87 := Try.underlying87
  have HM0 := Aside0.mk hM0
  have HM := Aside0.mk (hM0.below hb0)
  have hs0 := hb0.size
  clear hM0 hb0
  have HK0 := Aside0.mk (blk_new w (.cells #[.int .i64 kk, .int .i64 m.view, .int .i64 m.seq, .int .i64 m.client, .int .i64 m.stamp, .int .i64 m.entry.f0, .int .i64 m.entry.f1, .int .i64 m.entry.f2, .slice (a 0) m.entry.f3.length (c 0), .slice (a 1) m.digest.length (c 1), .slice (a 2) m.data.length (c 2), .slice (a 3) m.proof.length (c 3), .slice (a 4) m.proven.length (c 4)] 91))
  have HB0 := Aside0.mk (below_alloc (Below.refl w.heap.size w) (.cells #[.int .i64 kk, .int .i64 m.view, .int .i64 m.seq, .int .i64 m.client, .int .i64 m.stamp, .int .i64 m.entry.f0, .int .i64 m.entry.f1, .int .i64 m.entry.f2, .slice (a 0) m.entry.f3.length (c 0), .slice (a 1) m.digest.length (c 1), .slice (a 2) m.data.length (c 2), .slice (a 3) m.proof.length (c 3), .slice (a 4) m.proven.length (c 4)] 91))
  have HN := Aside0.mk hz
  clear hz
  have x1 : (w.alloc (.cells #[.int .i64 kk, .int .i64 m.view, .int .i64 m.seq, .int .i64 m.client, .int .i64 m.stamp, .int .i64 m.entry.f0, .int .i64 m.entry.f1, .int .i64 m.entry.f2, .slice (a 0) m.entry.f3.length (c 0), .slice (a 1) m.digest.length (c 1), .slice (a 2) m.data.length (c 2), .slice (a 3) m.proof.length (c 3), .slice (a 4) m.proven.length (c 4)] 91)).cell? ⟨w.heap.size, 1, none⟩ = some (.int .i64 m.view) := (blk_cell HK0.out 1).trans rfl
  go_enter Try.func97, Try.ntmps97
  go_wp2_with (fail)
  refine (nums_ok (some _) 1 [m.view] z ((w.alloc (.cells #[.int .i64 kk, .int .i64 m.view, .int .i64 m.seq, .int .i64 m.client, .int .i64 m.stamp, .int .i64 m.entry.f0, .int .i64 m.entry.f1, .int .i64 m.entry.f2, .slice (a 0) m.entry.f3.length (c 0), .slice (a 1) m.digest.length (c 1), .slice (a 2) m.data.length (c 2), .slice (a 3) m.proof.length (c 3), .slice (a 4) m.proven.length (c 4)] 91)).alloc (.cells #[.int .i64 m.view] 3)) (C_ints_block (l := [m.view]) (t := 3) (fr := (0, 0)) (blk_at (by simp)) (by simp)) (by simp) (by simp) HN.out).mono ?_
  rintro e w1 ⟨A1, c1, rfl, hG⟩
  have HG := Aside0.mk hG
  clear hG
  go_wp2_with (fail)
  go_ret
  exact ⟨_, _, rfl, HG.out.byt (by simp; omega), below_then (below_alloc HB0.out _) (below_size (below_alloc HB0.out _)) HG.out.keep⟩
set_option maxHeartbeats 4000000 in
set_option maxRecDepth 100000 in
theorem field_s (kk : Int) (m : S91) (a : Nat → Option Addr) (c : Nat → Nat) (z : List Int) (hz : numsP [m.seq] = (z, 0)) (w0 w : World) (hM0 : Msg w0 m a c) (hb0 : Below w0.heap.size w0 w) :
    Calls Try.prog 97 #[.agg #[.int .i64 kk, .int .i64 m.view, .int .i64 m.seq, .int .i64 m.client, .int .i64 m.stamp, .int .i64 m.entry.f0, .int .i64 m.entry.f1, .int .i64 m.entry.f2, .slice (a 0) m.entry.f3.length (c 0), .slice (a 1) m.digest.length (c 1), .slice (a 2) m.data.length (c 2), .slice (a 3) m.proof.length (c 3), .slice (a 4) m.proven.length (c 4)], .int .i32 115] w fun e w' => ∃ A1 c1, e = .returned (.slice A1 z.length c1) ∧ Byt w0 w' A1 c1 z ∧ Below w.heap.size w w' := by
  have hu91 := Try.underlying91
  have hu87 := Try.underlying87
  have HM0 := Aside0.mk hM0
  have HM := Aside0.mk (hM0.below hb0)
  have hs0 := hb0.size
  clear hM0 hb0
  have HK0 := Aside0.mk (blk_new w (.cells #[.int .i64 kk, .int .i64 m.view, .int .i64 m.seq, .int .i64 m.client, .int .i64 m.stamp, .int .i64 m.entry.f0, .int .i64 m.entry.f1, .int .i64 m.entry.f2, .slice (a 0) m.entry.f3.length (c 0), .slice (a 1) m.digest.length (c 1), .slice (a 2) m.data.length (c 2), .slice (a 3) m.proof.length (c 3), .slice (a 4) m.proven.length (c 4)] 91))
  have HB0 := Aside0.mk (below_alloc (Below.refl w.heap.size w) (.cells #[.int .i64 kk, .int .i64 m.view, .int .i64 m.seq, .int .i64 m.client, .int .i64 m.stamp, .int .i64 m.entry.f0, .int .i64 m.entry.f1, .int .i64 m.entry.f2, .slice (a 0) m.entry.f3.length (c 0), .slice (a 1) m.digest.length (c 1), .slice (a 2) m.data.length (c 2), .slice (a 3) m.proof.length (c 3), .slice (a 4) m.proven.length (c 4)] 91))
  have HN := Aside0.mk hz
  clear hz
  have x2 : (w.alloc (.cells #[.int .i64 kk, .int .i64 m.view, .int .i64 m.seq, .int .i64 m.client, .int .i64 m.stamp, .int .i64 m.entry.f0, .int .i64 m.entry.f1, .int .i64 m.entry.f2, .slice (a 0) m.entry.f3.length (c 0), .slice (a 1) m.digest.length (c 1), .slice (a 2) m.data.length (c 2), .slice (a 3) m.proof.length (c 3), .slice (a 4) m.proven.length (c 4)] 91)).cell? ⟨w.heap.size, 2, none⟩ = some (.int .i64 m.seq) := (blk_cell HK0.out 2).trans rfl
  go_enter Try.func97, Try.ntmps97
  go_wp2_with (fail)
  refine (nums_ok (some _) 1 [m.seq] z ((w.alloc (.cells #[.int .i64 kk, .int .i64 m.view, .int .i64 m.seq, .int .i64 m.client, .int .i64 m.stamp, .int .i64 m.entry.f0, .int .i64 m.entry.f1, .int .i64 m.entry.f2, .slice (a 0) m.entry.f3.length (c 0), .slice (a 1) m.digest.length (c 1), .slice (a 2) m.data.length (c 2), .slice (a 3) m.proof.length (c 3), .slice (a 4) m.proven.length (c 4)] 91)).alloc (.cells #[.int .i64 m.seq] 3)) (C_ints_block (l := [m.seq]) (t := 3) (fr := (0, 0)) (blk_at (by simp)) (by simp)) (by simp) (by simp) HN.out).mono ?_
  rintro e w1 ⟨A1, c1, rfl, hG⟩
  have HG := Aside0.mk hG
  clear hG
  go_wp2_with (fail)
  go_ret
  exact ⟨_, _, rfl, HG.out.byt (by simp; omega), below_then (below_alloc HB0.out _) (below_size (below_alloc HB0.out _)) HG.out.keep⟩
set_option maxHeartbeats 4000000 in
set_option maxRecDepth 100000 in
theorem field_c (kk : Int) (m : S91) (a : Nat → Option Addr) (c : Nat → Nat) (z : List Int) (hz : numsP [m.client] = (z, 0)) (w0 w : World) (hM0 : Msg w0 m a c) (hb0 : Below w0.heap.size w0 w) :
    Calls Try.prog 97 #[.agg #[.int .i64 kk, .int .i64 m.view, .int .i64 m.seq, .int .i64 m.client, .int .i64 m.stamp, .int .i64 m.entry.f0, .int .i64 m.entry.f1, .int .i64 m.entry.f2, .slice (a 0) m.entry.f3.length (c 0), .slice (a 1) m.digest.length (c 1), .slice (a 2) m.data.length (c 2), .slice (a 3) m.proof.length (c 3), .slice (a 4) m.proven.length (c 4)], .int .i32 99] w fun e w' => ∃ A1 c1, e = .returned (.slice A1 z.length c1) ∧ Byt w0 w' A1 c1 z ∧ Below w.heap.size w w' := by
  have hu91 := Try.underlying91
  have hu87 := Try.underlying87
  have HM0 := Aside0.mk hM0
  have HM := Aside0.mk (hM0.below hb0)
  have hs0 := hb0.size
  clear hM0 hb0
  have HK0 := Aside0.mk (blk_new w (.cells #[.int .i64 kk, .int .i64 m.view, .int .i64 m.seq, .int .i64 m.client, .int .i64 m.stamp, .int .i64 m.entry.f0, .int .i64 m.entry.f1, .int .i64 m.entry.f2, .slice (a 0) m.entry.f3.length (c 0), .slice (a 1) m.digest.length (c 1), .slice (a 2) m.data.length (c 2), .slice (a 3) m.proof.length (c 3), .slice (a 4) m.proven.length (c 4)] 91))
  have HB0 := Aside0.mk (below_alloc (Below.refl w.heap.size w) (.cells #[.int .i64 kk, .int .i64 m.view, .int .i64 m.seq, .int .i64 m.client, .int .i64 m.stamp, .int .i64 m.entry.f0, .int .i64 m.entry.f1, .int .i64 m.entry.f2, .slice (a 0) m.entry.f3.length (c 0), .slice (a 1) m.digest.length (c 1), .slice (a 2) m.data.length (c 2), .slice (a 3) m.proof.length (c 3), .slice (a 4) m.proven.length (c 4)] 91))
  have HN := Aside0.mk hz
  clear hz
  have x3 : (w.alloc (.cells #[.int .i64 kk, .int .i64 m.view, .int .i64 m.seq, .int .i64 m.client, .int .i64 m.stamp, .int .i64 m.entry.f0, .int .i64 m.entry.f1, .int .i64 m.entry.f2, .slice (a 0) m.entry.f3.length (c 0), .slice (a 1) m.digest.length (c 1), .slice (a 2) m.data.length (c 2), .slice (a 3) m.proof.length (c 3), .slice (a 4) m.proven.length (c 4)] 91)).cell? ⟨w.heap.size, 3, none⟩ = some (.int .i64 m.client) := (blk_cell HK0.out 3).trans rfl
  go_enter Try.func97, Try.ntmps97
  go_wp2_with (fail)
  refine (nums_ok (some _) 1 [m.client] z ((w.alloc (.cells #[.int .i64 kk, .int .i64 m.view, .int .i64 m.seq, .int .i64 m.client, .int .i64 m.stamp, .int .i64 m.entry.f0, .int .i64 m.entry.f1, .int .i64 m.entry.f2, .slice (a 0) m.entry.f3.length (c 0), .slice (a 1) m.digest.length (c 1), .slice (a 2) m.data.length (c 2), .slice (a 3) m.proof.length (c 3), .slice (a 4) m.proven.length (c 4)] 91)).alloc (.cells #[.int .i64 m.client] 3)) (C_ints_block (l := [m.client]) (t := 3) (fr := (0, 0)) (blk_at (by simp)) (by simp)) (by simp) (by simp) HN.out).mono ?_
  rintro e w1 ⟨A1, c1, rfl, hG⟩
  have HG := Aside0.mk hG
  clear hG
  go_wp2_with (fail)
  go_ret
  exact ⟨_, _, rfl, HG.out.byt (by simp; omega), below_then (below_alloc HB0.out _) (below_size (below_alloc HB0.out _)) HG.out.keep⟩
set_option maxHeartbeats 4000000 in
set_option maxRecDepth 100000 in
theorem field_t (kk : Int) (m : S91) (a : Nat → Option Addr) (c : Nat → Nat) (z : List Int) (hz : numsP [m.stamp] = (z, 0)) (w0 w : World) (hM0 : Msg w0 m a c) (hb0 : Below w0.heap.size w0 w) :
    Calls Try.prog 97 #[.agg #[.int .i64 kk, .int .i64 m.view, .int .i64 m.seq, .int .i64 m.client, .int .i64 m.stamp, .int .i64 m.entry.f0, .int .i64 m.entry.f1, .int .i64 m.entry.f2, .slice (a 0) m.entry.f3.length (c 0), .slice (a 1) m.digest.length (c 1), .slice (a 2) m.data.length (c 2), .slice (a 3) m.proof.length (c 3), .slice (a 4) m.proven.length (c 4)], .int .i32 116] w fun e w' => ∃ A1 c1, e = .returned (.slice A1 z.length c1) ∧ Byt w0 w' A1 c1 z ∧ Below w.heap.size w w' := by
  have hu91 := Try.underlying91
  have hu87 := Try.underlying87
  have HM0 := Aside0.mk hM0
  have HM := Aside0.mk (hM0.below hb0)
  have hs0 := hb0.size
  clear hM0 hb0
  have HK0 := Aside0.mk (blk_new w (.cells #[.int .i64 kk, .int .i64 m.view, .int .i64 m.seq, .int .i64 m.client, .int .i64 m.stamp, .int .i64 m.entry.f0, .int .i64 m.entry.f1, .int .i64 m.entry.f2, .slice (a 0) m.entry.f3.length (c 0), .slice (a 1) m.digest.length (c 1), .slice (a 2) m.data.length (c 2), .slice (a 3) m.proof.length (c 3), .slice (a 4) m.proven.length (c 4)] 91))
  have HB0 := Aside0.mk (below_alloc (Below.refl w.heap.size w) (.cells #[.int .i64 kk, .int .i64 m.view, .int .i64 m.seq, .int .i64 m.client, .int .i64 m.stamp, .int .i64 m.entry.f0, .int .i64 m.entry.f1, .int .i64 m.entry.f2, .slice (a 0) m.entry.f3.length (c 0), .slice (a 1) m.digest.length (c 1), .slice (a 2) m.data.length (c 2), .slice (a 3) m.proof.length (c 3), .slice (a 4) m.proven.length (c 4)] 91))
  have HN := Aside0.mk hz
  clear hz
  have x4 : (w.alloc (.cells #[.int .i64 kk, .int .i64 m.view, .int .i64 m.seq, .int .i64 m.client, .int .i64 m.stamp, .int .i64 m.entry.f0, .int .i64 m.entry.f1, .int .i64 m.entry.f2, .slice (a 0) m.entry.f3.length (c 0), .slice (a 1) m.digest.length (c 1), .slice (a 2) m.data.length (c 2), .slice (a 3) m.proof.length (c 3), .slice (a 4) m.proven.length (c 4)] 91)).cell? ⟨w.heap.size, 4, none⟩ = some (.int .i64 m.stamp) := (blk_cell HK0.out 4).trans rfl
  go_enter Try.func97, Try.ntmps97
  go_wp2_with (fail)
  refine (nums_ok (some _) 1 [m.stamp] z ((w.alloc (.cells #[.int .i64 kk, .int .i64 m.view, .int .i64 m.seq, .int .i64 m.client, .int .i64 m.stamp, .int .i64 m.entry.f0, .int .i64 m.entry.f1, .int .i64 m.entry.f2, .slice (a 0) m.entry.f3.length (c 0), .slice (a 1) m.digest.length (c 1), .slice (a 2) m.data.length (c 2), .slice (a 3) m.proof.length (c 3), .slice (a 4) m.proven.length (c 4)] 91)).alloc (.cells #[.int .i64 m.stamp] 3)) (C_ints_block (l := [m.stamp]) (t := 3) (fr := (0, 0)) (blk_at (by simp)) (by simp)) (by simp) (by simp) HN.out).mono ?_
  rintro e w1 ⟨A1, c1, rfl, hG⟩
  have HG := Aside0.mk hG
  clear hG
  go_wp2_with (fail)
  go_ret
  exact ⟨_, _, rfl, HG.out.byt (by simp; omega), below_then (below_alloc HB0.out _) (below_size (below_alloc HB0.out _)) HG.out.keep⟩
set_option maxHeartbeats 4000000 in
set_option maxRecDepth 100000 in
theorem field_e (kk : Int) (m : S91) (a : Nat → Option Addr) (c : Nat → Nat) (hg : goodEntry m.entry = true) (w0 w : World) (hM0 : Msg w0 m a c) (hb0 : Below w0.heap.size w0 w) :
    Calls Try.prog 97 #[.agg #[.int .i64 kk, .int .i64 m.view, .int .i64 m.seq, .int .i64 m.client, .int .i64 m.stamp, .int .i64 m.entry.f0, .int .i64 m.entry.f1, .int .i64 m.entry.f2, .slice (a 0) m.entry.f3.length (c 0), .slice (a 1) m.digest.length (c 1), .slice (a 2) m.data.length (c 2), .slice (a 3) m.proof.length (c 3), .slice (a 4) m.proven.length (c 4)], .int .i32 101] w fun e w' => ∃ A1 c1, e = .returned (.slice A1 (entryZ m.entry).length c1) ∧ Byt w0 w' A1 c1 (entryZ m.entry) ∧ Below w.heap.size w w' := by
  have hu91 := Try.underlying91
  have hu87 := Try.underlying87
  have HM0 := Aside0.mk hM0
  have HM := Aside0.mk (hM0.below hb0)
  have hs0 := hb0.size
  clear hM0 hb0
  have HK0 := Aside0.mk (blk_new w (.cells #[.int .i64 kk, .int .i64 m.view, .int .i64 m.seq, .int .i64 m.client, .int .i64 m.stamp, .int .i64 m.entry.f0, .int .i64 m.entry.f1, .int .i64 m.entry.f2, .slice (a 0) m.entry.f3.length (c 0), .slice (a 1) m.digest.length (c 1), .slice (a 2) m.data.length (c 2), .slice (a 3) m.proof.length (c 3), .slice (a 4) m.proven.length (c 4)] 91))
  have HB0 := Aside0.mk (below_alloc (Below.refl w.heap.size w) (.cells #[.int .i64 kk, .int .i64 m.view, .int .i64 m.seq, .int .i64 m.client, .int .i64 m.stamp, .int .i64 m.entry.f0, .int .i64 m.entry.f1, .int .i64 m.entry.f2, .slice (a 0) m.entry.f3.length (c 0), .slice (a 1) m.digest.length (c 1), .slice (a 2) m.data.length (c 2), .slice (a 3) m.proof.length (c 3), .slice (a 4) m.proven.length (c 4)] 91))
  have HN := Aside0.mk hg
  clear hg
  have x5 : (w.alloc (.cells #[.int .i64 kk, .int .i64 m.view, .int .i64 m.seq, .int .i64 m.client, .int .i64 m.stamp, .int .i64 m.entry.f0, .int .i64 m.entry.f1, .int .i64 m.entry.f2, .slice (a 0) m.entry.f3.length (c 0), .slice (a 1) m.digest.length (c 1), .slice (a 2) m.data.length (c 2), .slice (a 3) m.proof.length (c 3), .slice (a 4) m.proven.length (c 4)] 91)).cell? ⟨w.heap.size, 5, none⟩ = some (.int .i64 m.entry.f0) := (blk_cell HK0.out 5).trans rfl
  have x6 : (w.alloc (.cells #[.int .i64 kk, .int .i64 m.view, .int .i64 m.seq, .int .i64 m.client, .int .i64 m.stamp, .int .i64 m.entry.f0, .int .i64 m.entry.f1, .int .i64 m.entry.f2, .slice (a 0) m.entry.f3.length (c 0), .slice (a 1) m.digest.length (c 1), .slice (a 2) m.data.length (c 2), .slice (a 3) m.proof.length (c 3), .slice (a 4) m.proven.length (c 4)] 91)).cell? ⟨w.heap.size, 6, none⟩ = some (.int .i64 m.entry.f1) := (blk_cell HK0.out 6).trans rfl
  have x7 : (w.alloc (.cells #[.int .i64 kk, .int .i64 m.view, .int .i64 m.seq, .int .i64 m.client, .int .i64 m.stamp, .int .i64 m.entry.f0, .int .i64 m.entry.f1, .int .i64 m.entry.f2, .slice (a 0) m.entry.f3.length (c 0), .slice (a 1) m.digest.length (c 1), .slice (a 2) m.data.length (c 2), .slice (a 3) m.proof.length (c 3), .slice (a 4) m.proven.length (c 4)] 91)).cell? ⟨w.heap.size, 7, none⟩ = some (.int .i64 m.entry.f2) := (blk_cell HK0.out 7).trans rfl
  have x8 : (w.alloc (.cells #[.int .i64 kk, .int .i64 m.view, .int .i64 m.seq, .int .i64 m.client, .int .i64 m.stamp, .int .i64 m.entry.f0, .int .i64 m.entry.f1, .int .i64 m.entry.f2, .slice (a 0) m.entry.f3.length (c 0), .slice (a 1) m.digest.length (c 1), .slice (a 2) m.data.length (c 2), .slice (a 3) m.proof.length (c 3), .slice (a 4) m.proven.length (c 4)] 91)).cell? ⟨w.heap.size, 8, none⟩ = some (.slice (a 0) m.entry.f3.length (c 0)) := (blk_cell HK0.out 8).trans rfl
  go_enter Try.func97, Try.ntmps97
  go_wp2_with (fail)
  with_reducible refine (packEntry_ok m.entry (a 0) (c 0) _ (Kd.C_below HM.out.r0 HB0.out) HM.out.l0 HN.out).mono ?_
  rintro e w1 ⟨A1, c1, rfl, hG⟩
  have HG := Aside0.mk hG
  clear hG
  go_wp2_with (fail)
  go_ret
  exact ⟨_, _, rfl, HG.out.byt (by simp; omega), below_then HB0.out (below_size HB0.out) HG.out.keep⟩
set_option maxHeartbeats 4000000 in
set_option maxRecDepth 100000 in
theorem field_d (kk : Int) (m : S91) (a : Nat → Option Addr) (c : Nat → Nat) (w0 w : World) (hM0 : Msg w0 m a c) (hb0 : Below w0.heap.size w0 w) :
    Calls Try.prog 97 #[.agg #[.int .i64 kk, .int .i64 m.view, .int .i64 m.seq, .int .i64 m.client, .int .i64 m.stamp, .int .i64 m.entry.f0, .int .i64 m.entry.f1, .int .i64 m.entry.f2, .slice (a 0) m.entry.f3.length (c 0), .slice (a 1) m.digest.length (c 1), .slice (a 2) m.data.length (c 2), .slice (a 3) m.proof.length (c 3), .slice (a 4) m.proven.length (c 4)], .int .i32 100] w fun e w' => ∃ A1 c1, e = .returned (.slice A1 m.digest.length c1) ∧ Byt w0 w' A1 c1 m.digest ∧ Below w.heap.size w w' := by
  have hu91 := Try.underlying91
  have hu87 := Try.underlying87
  have HM0 := Aside0.mk hM0
  have HM := Aside0.mk (hM0.below hb0)
  have hs0 := hb0.size
  clear hM0 hb0
  have HK0 := Aside0.mk (blk_new w (.cells #[.int .i64 kk, .int .i64 m.view, .int .i64 m.seq, .int .i64 m.client, .int .i64 m.stamp, .int .i64 m.entry.f0, .int .i64 m.entry.f1, .int .i64 m.entry.f2, .slice (a 0) m.entry.f3.length (c 0), .slice (a 1) m.digest.length (c 1), .slice (a 2) m.data.length (c 2), .slice (a 3) m.proof.length (c 3), .slice (a 4) m.proven.length (c 4)] 91))
  have HB0 := Aside0.mk (below_alloc (Below.refl w.heap.size w) (.cells #[.int .i64 kk, .int .i64 m.view, .int .i64 m.seq, .int .i64 m.client, .int .i64 m.stamp, .int .i64 m.entry.f0, .int .i64 m.entry.f1, .int .i64 m.entry.f2, .slice (a 0) m.entry.f3.length (c 0), .slice (a 1) m.digest.length (c 1), .slice (a 2) m.data.length (c 2), .slice (a 3) m.proof.length (c 3), .slice (a 4) m.proven.length (c 4)] 91))
  have x9 : (w.alloc (.cells #[.int .i64 kk, .int .i64 m.view, .int .i64 m.seq, .int .i64 m.client, .int .i64 m.stamp, .int .i64 m.entry.f0, .int .i64 m.entry.f1, .int .i64 m.entry.f2, .slice (a 0) m.entry.f3.length (c 0), .slice (a 1) m.digest.length (c 1), .slice (a 2) m.data.length (c 2), .slice (a 3) m.proof.length (c 3), .slice (a 4) m.proven.length (c 4)] 91)).cell? ⟨w.heap.size, 9, none⟩ = some (.slice (a 1) m.digest.length (c 1)) := (blk_cell HK0.out 9).trans rfl
  go_enter Try.func97, Try.ntmps97
  go_wp2_with (fail)
  go_ret
  exact ⟨_, _, rfl, .inl ⟨HM0.out.l1, HM0.out.r1⟩, HB0.out⟩
set_option maxHeartbeats 4000000 in
set_option maxRecDepth 100000 in
theorem field_b (kk : Int) (m : S91) (a : Nat → Option Addr) (c : Nat → Nat) (w0 w : World) (hM0 : Msg w0 m a c) (hb0 : Below w0.heap.size w0 w) :
    Calls Try.prog 97 #[.agg #[.int .i64 kk, .int .i64 m.view, .int .i64 m.seq, .int .i64 m.client, .int .i64 m.stamp, .int .i64 m.entry.f0, .int .i64 m.entry.f1, .int .i64 m.entry.f2, .slice (a 0) m.entry.f3.length (c 0), .slice (a 1) m.digest.length (c 1), .slice (a 2) m.data.length (c 2), .slice (a 3) m.proof.length (c 3), .slice (a 4) m.proven.length (c 4)], .int .i32 98] w fun e w' => ∃ A1 c1, e = .returned (.slice A1 m.data.length c1) ∧ Byt w0 w' A1 c1 m.data ∧ Below w.heap.size w w' := by
  have hu91 := Try.underlying91
  have hu87 := Try.underlying87
  have HM0 := Aside0.mk hM0
  have HM := Aside0.mk (hM0.below hb0)
  have hs0 := hb0.size
  clear hM0 hb0
  have HK0 := Aside0.mk (blk_new w (.cells #[.int .i64 kk, .int .i64 m.view, .int .i64 m.seq, .int .i64 m.client, .int .i64 m.stamp, .int .i64 m.entry.f0, .int .i64 m.entry.f1, .int .i64 m.entry.f2, .slice (a 0) m.entry.f3.length (c 0), .slice (a 1) m.digest.length (c 1), .slice (a 2) m.data.length (c 2), .slice (a 3) m.proof.length (c 3), .slice (a 4) m.proven.length (c 4)] 91))
  have HB0 := Aside0.mk (below_alloc (Below.refl w.heap.size w) (.cells #[.int .i64 kk, .int .i64 m.view, .int .i64 m.seq, .int .i64 m.client, .int .i64 m.stamp, .int .i64 m.entry.f0, .int .i64 m.entry.f1, .int .i64 m.entry.f2, .slice (a 0) m.entry.f3.length (c 0), .slice (a 1) m.digest.length (c 1), .slice (a 2) m.data.length (c 2), .slice (a 3) m.proof.length (c 3), .slice (a 4) m.proven.length (c 4)] 91))
  have x10 : (w.alloc (.cells #[.int .i64 kk, .int .i64 m.view, .int .i64 m.seq, .int .i64 m.client, .int .i64 m.stamp, .int .i64 m.entry.f0, .int .i64 m.entry.f1, .int .i64 m.entry.f2, .slice (a 0) m.entry.f3.length (c 0), .slice (a 1) m.digest.length (c 1), .slice (a 2) m.data.length (c 2), .slice (a 3) m.proof.length (c 3), .slice (a 4) m.proven.length (c 4)] 91)).cell? ⟨w.heap.size, 10, none⟩ = some (.slice (a 2) m.data.length (c 2)) := (blk_cell HK0.out 10).trans rfl
  go_enter Try.func97, Try.ntmps97
  go_wp2_with (fail)
  go_ret
  exact ⟨_, _, rfl, .inl ⟨HM0.out.l2, HM0.out.r2⟩, HB0.out⟩
set_option maxHeartbeats 4000000 in
set_option maxRecDepth 100000 in
theorem field_l (kk : Int) (m : S91) (a : Nat → Option Addr) (c : Nat → Nat) (z : List Int) (x : Int) (hn : m.proof.length ≤ 64) (hp : ∀ q ∈ m.proof, Good72 q) (hj : joinP (m.proof.map letterZ) = (z, x)) (w0 w : World) (hM0 : Msg w0 m a c) (hb0 : Below w0.heap.size w0 w) :
    Calls Try.prog 97 #[.agg #[.int .i64 kk, .int .i64 m.view, .int .i64 m.seq, .int .i64 m.client, .int .i64 m.stamp, .int .i64 m.entry.f0, .int .i64 m.entry.f1, .int .i64 m.entry.f2, .slice (a 0) m.entry.f3.length (c 0), .slice (a 1) m.digest.length (c 1), .slice (a 2) m.data.length (c 2), .slice (a 3) m.proof.length (c 3), .slice (a 4) m.proven.length (c 4)], .int .i32 108] w fun e w' => if x = 0 then ∃ A1 c1, e = .returned (.slice A1 z.length c1) ∧ Byt w0 w' A1 c1 z ∧ Below w.heap.size w w' else e = .panicked (fault x) ∧ Below w.heap.size w w' := by
  have hu91 := Try.underlying91
  have hu87 := Try.underlying87
  have HM0 := Aside0.mk hM0
  have HM := Aside0.mk (hM0.below hb0)
  have hs0 := hb0.size
  clear hM0 hb0
  have HK0 := Aside0.mk (blk_new w (.cells #[.int .i64 kk, .int .i64 m.view, .int .i64 m.seq, .int .i64 m.client, .int .i64 m.stamp, .int .i64 m.entry.f0, .int .i64 m.entry.f1, .int .i64 m.entry.f2, .slice (a 0) m.entry.f3.length (c 0), .slice (a 1) m.digest.length (c 1), .slice (a 2) m.data.length (c 2), .slice (a 3) m.proof.length (c 3), .slice (a 4) m.proven.length (c 4)] 91))
  have HB0 := Aside0.mk (below_alloc (Below.refl w.heap.size w) (.cells #[.int .i64 kk, .int .i64 m.view, .int .i64 m.seq, .int .i64 m.client, .int .i64 m.stamp, .int .i64 m.entry.f0, .int .i64 m.entry.f1, .int .i64 m.entry.f2, .slice (a 0) m.entry.f3.length (c 0), .slice (a 1) m.digest.length (c 1), .slice (a 2) m.data.length (c 2), .slice (a 3) m.proof.length (c 3), .slice (a 4) m.proven.length (c 4)] 91))
  have HN := Aside0.mk hn
  have HP := Aside0.mk hp
  have HJ := Aside0.mk hj
  clear hn hp hj
  have x11 : (w.alloc (.cells #[.int .i64 kk, .int .i64 m.view, .int .i64 m.seq, .int .i64 m.client, .int .i64 m.stamp, .int .i64 m.entry.f0, .int .i64 m.entry.f1, .int .i64 m.entry.f2, .slice (a 0) m.entry.f3.length (c 0), .slice (a 1) m.digest.length (c 1), .slice (a 2) m.data.length (c 2), .slice (a 3) m.proof.length (c 3), .slice (a 4) m.proven.length (c 4)] 91)).cell? ⟨w.heap.size, 11, none⟩ = some (.slice (a 3) m.proof.length (c 3)) := (blk_cell HK0.out 11).trans rfl
  go_enter Try.func97, Try.ntmps97
  go_wp2_with (fail)
  with_reducible refine (each_letters (a 3) (c 3) m.proof z x _ (Kd.C_below HM.out.r3 HB0.out) HM.out.l3 HN.out HP.out HJ.out).mono ?_
  intro e w1 hh
  by_cases hx : x = 0
  · rw [if_pos hx] at hh
    obtain ⟨A1, c1, rfl, hG⟩ := hh
    have HG := Aside0.mk hG
    subst hx
    clear hG
    go_wp2_with (fail)
    go_ret
    exact ⟨_, _, rfl, HG.out.byt (by simp; omega), below_then HB0.out (below_size HB0.out) HG.out.keep⟩
  · rw [if_neg hx] at hh
    obtain ⟨rfl, hB⟩ := hh
    have HB1 := Aside0.mk (below_then HB0.out (below_size HB0.out) hB)
    clear hB
    go_wp2_with (fail)
    first
      | exact ⟨rfl, rfl, HB1.out⟩
      | (refine ⟨rfl, ?_⟩
         show if _ = (0 : Int) then _ else _
         rw [if_neg hx]
         exact ⟨rfl, HB1.out⟩)
set_option maxHeartbeats 4000000 in
set_option maxRecDepth 100000 in
theorem field_p (kk : Int) (m : S91) (a : Nat → Option Addr) (c : Nat → Nat) (z : List Int) (x : Int) (hn : m.proven.length ≤ 8) (hp : ∀ q ∈ m.proven, Good101 q) (hj : provGo [] m.proven = (z, x)) (w0 w : World) (hM0 : Msg w0 m a c) (hb0 : Below w0.heap.size w0 w) :
    Calls Try.prog 97 #[.agg #[.int .i64 kk, .int .i64 m.view, .int .i64 m.seq, .int .i64 m.client, .int .i64 m.stamp, .int .i64 m.entry.f0, .int .i64 m.entry.f1, .int .i64 m.entry.f2, .slice (a 0) m.entry.f3.length (c 0), .slice (a 1) m.digest.length (c 1), .slice (a 2) m.data.length (c 2), .slice (a 3) m.proof.length (c 3), .slice (a 4) m.proven.length (c 4)], .int .i32 112] w fun e w' => if x = 0 then ∃ A1 c1, e = .returned (.slice A1 z.length c1) ∧ Byt w0 w' A1 c1 z ∧ Below w.heap.size w w' else e = .panicked (fault x) ∧ Below w.heap.size w w' := by
  have hu91 := Try.underlying91
  have hu87 := Try.underlying87
  have HM0 := Aside0.mk hM0
  have HM := Aside0.mk (hM0.below hb0)
  have hs0 := hb0.size
  clear hM0 hb0
  have HK0 := Aside0.mk (blk_new w (.cells #[.int .i64 kk, .int .i64 m.view, .int .i64 m.seq, .int .i64 m.client, .int .i64 m.stamp, .int .i64 m.entry.f0, .int .i64 m.entry.f1, .int .i64 m.entry.f2, .slice (a 0) m.entry.f3.length (c 0), .slice (a 1) m.digest.length (c 1), .slice (a 2) m.data.length (c 2), .slice (a 3) m.proof.length (c 3), .slice (a 4) m.proven.length (c 4)] 91))
  have HB0 := Aside0.mk (below_alloc (Below.refl w.heap.size w) (.cells #[.int .i64 kk, .int .i64 m.view, .int .i64 m.seq, .int .i64 m.client, .int .i64 m.stamp, .int .i64 m.entry.f0, .int .i64 m.entry.f1, .int .i64 m.entry.f2, .slice (a 0) m.entry.f3.length (c 0), .slice (a 1) m.digest.length (c 1), .slice (a 2) m.data.length (c 2), .slice (a 3) m.proof.length (c 3), .slice (a 4) m.proven.length (c 4)] 91))
  have HN := Aside0.mk hn
  have HP := Aside0.mk hp
  have HJ := Aside0.mk hj
  clear hn hp hj
  have x12 : (w.alloc (.cells #[.int .i64 kk, .int .i64 m.view, .int .i64 m.seq, .int .i64 m.client, .int .i64 m.stamp, .int .i64 m.entry.f0, .int .i64 m.entry.f1, .int .i64 m.entry.f2, .slice (a 0) m.entry.f3.length (c 0), .slice (a 1) m.digest.length (c 1), .slice (a 2) m.data.length (c 2), .slice (a 3) m.proof.length (c 3), .slice (a 4) m.proven.length (c 4)] 91)).cell? ⟨w.heap.size, 12, none⟩ = some (.slice (a 4) m.proven.length (c 4)) := (blk_cell HK0.out 12).trans rfl
  go_enter Try.func97, Try.ntmps97
  go_wp2_with (fail)
  with_reducible refine (each_provens (a 4) (c 4) m.proven z x _ (Kd.C_below HM.out.r4 HB0.out) HM.out.l4 HN.out HP.out HJ.out).mono ?_
  intro e w1 hh
  by_cases hx : x = 0
  · rw [if_pos hx] at hh
    obtain ⟨A1, c1, rfl, hG⟩ := hh
    have HG := Aside0.mk hG
    subst hx
    clear hG
    go_wp2_with (fail)
    go_ret
    exact ⟨_, _, rfl, HG.out.byt (by simp; omega), below_then HB0.out (below_size HB0.out) HG.out.keep⟩
  · rw [if_neg hx] at hh
    obtain ⟨rfl, hB⟩ := hh
    have HB1 := Aside0.mk (below_then HB0.out (below_size HB0.out) hB)
    clear hB
    go_wp2_with (fail)
    first
      | exact ⟨rfl, rfl, HB1.out⟩
      | (refine ⟨rfl, ?_⟩
         show if _ = (0 : Int) then _ else _
         rw [if_neg hx]
         exact ⟨rfl, HB1.out⟩)
theorem nums_one {v B : Int} (h : 0 ≤ v ∧ v < B) (hB : B ≤ 4611686018427387904) : numsP [v] = (encI [v], 0) := by
  rw [numsP, numsGo_ok (one_wide h hB)]; rfl
theorem zero_of {α : Type} {P : α → Prop} {Q : Prop} {x : Int} (hx : x = 0) (h : ∃ y, P y) : if x = 0 then ∃ y, P y else Q := by rw [if_pos hx]; exact h
/-- A field's bytes. -/
theorem field_calls (kk : Int) (m : S91) (a : Nat → Option Addr) (c : Nat → Nat) (p : ByteArray) (b : UInt8) (hb : b ∈ letters9) (hR : Right m p) (hp : hasB p b = true) (z : List Int) (x : Int) (hf : fieldP m b = (z, x)) (w0 w : World) (hM : Msg w0 m a c) (hb0 : Below w0.heap.size w0 w) :
    Calls Try.prog 97 #[.agg #[.int .i64 kk, .int .i64 m.view, .int .i64 m.seq, .int .i64 m.client, .int .i64 m.stamp, .int .i64 m.entry.f0, .int .i64 m.entry.f1, .int .i64 m.entry.f2, .slice (a 0) m.entry.f3.length (c 0), .slice (a 1) m.digest.length (c 1), .slice (a 2) m.data.length (c 2), .slice (a 3) m.proof.length (c 3), .slice (a 4) m.proven.length (c 4)], .int .i32 (b.toNat : Int)] w fun e w' => if x = 0 then ∃ A1 c1, e = .returned (.slice A1 z.length c1) ∧ Byt w0 w' A1 c1 z ∧ Below w.heap.size w w' else e = .panicked (fault x) ∧ Below w.heap.size w w' := by
  simp only [letters9, List.mem_cons, List.not_mem_nil, or_false] at hb
  rcases hb with rfl | rfl | rfl | rfl | rfl | rfl | rfl | rfl | rfl
  all_goals simp (config := { decide := true }) only [fieldP, if_true, if_false] at hf
  · obtain ⟨rfl, rfl⟩ := Prod.mk.inj hf
    exact (field_v kk m a c _ (nums_one hR.v (by decide)) w0 w hM hb0).mono (fun e w' h => zero_of rfl h)
  · obtain ⟨rfl, rfl⟩ := Prod.mk.inj hf
    exact (field_s kk m a c _ (nums_one hR.s (by decide)) w0 w hM hb0).mono (fun e w' h => zero_of rfl h)
  · obtain ⟨rfl, rfl⟩ := Prod.mk.inj hf
    exact (field_c kk m a c _ (nums_one (B := 8) ⟨hR.c.1, by have := hR.c.2; omega⟩ (by decide)) w0 w hM hb0).mono (fun e w' h => zero_of rfl h)
  · obtain ⟨rfl, rfl⟩ := Prod.mk.inj hf
    exact (field_t kk m a c _ (nums_one hR.t (by decide)) w0 w hM hb0).mono (fun e w' h => zero_of rfl h)
  · obtain ⟨rfl, rfl⟩ := Prod.mk.inj hf
    exact (field_e kk m a c (hR.x hp) w0 w hM hb0).mono (fun e w' h => zero_of rfl h)
  · obtain ⟨rfl, rfl⟩ := Prod.mk.inj hf
    exact (field_d kk m a c w0 w hM hb0).mono (fun e w' h => zero_of rfl h)
  · obtain ⟨rfl, rfl⟩ := Prod.mk.inj hf
    exact (field_b kk m a c w0 w hM hb0).mono (fun e w' h => zero_of rfl h)
  · exact field_l kk m a c z x hR.n hR.l hf w0 w hM hb0
  · exact field_p kk m a c z x hR.k hR.pr hf w0 w hM hb0
end Go.Proofs.Ytijccobeljoikaa.Ms

/- msg: Encode. -/
namespace Go.Proofs.Ytijccobeljoikaa.Ms
open Go.RowKit Go.Proofs.YtijccobeljoikaaW.PrintWords Go.Proofs.YtijccobeljoikaaW.PrintLast
open Go.Proofs.Ytijccobeljoikaa.Plain Go.Proofs.Ytijccobeljoikaa.Walks
set_option linter.unusedVariables false
set_option linter.unusedSimpArgs false

theorem ne_iter {w : World} {r k t : Nat} {s : ByteArray} {p : Nat} {cells : Array Value} {fr : Nat × Nat} (h : w.heap[r]? = some (.stringIter s p)) (hk : w.heap[k]? = some (.cells cells t fr)) : k ≠ r := by
  rintro rfl
  rw [h] at hk
  cases hk
theorem R_iter {α : Type} {d : Kd α} {e base : Nat} {w : World} {ok : Nat → Prop} {v : Value} {xs : List α} (h : d.R e w base ok v xs) {r : Nat} {s : ByteArray} {p : Nat} (hr : w.heap[r]? = some (.stringIter s p)) (p1 : Nat) : d.R e (w.iterAt r s p1) base ok v xs :=
  Kd.R_mono (Kd.R_step (Kd.R_bound h) (fun k hk _ => by
    obtain ⟨_, _, _, q, _, cells, hc⟩ := hk
    exact Lib.iterAt_other _ _ _ _ _ (ne_iter hr hc))) (fun _ hk => hk.1)
theorem Byt.iter {w0 w : World} {A : Option Addr} {c : Nat} {z : List Int} (h : Byt w0 w A c z) {r : Nat} {s : ByteArray} {p : Nat} (hr : w.heap[r]? = some (.stringIter s p)) (p1 : Nat) : Byt w0 (w.iterAt r s p1) A c z := h.imp id (fun h => R_iter h hr p1)
theorem Byts.iter {w0 w : World} {vs : List (Option Addr × Nat × Nat)} {zs : List (List Int)} (h : Byts w0 w vs zs) {r : Nat} {s : ByteArray} {p : Nat} (hr : w.heap[r]? = some (.stringIter s p)) (p1 : Nat) : Byts w0 (w.iterAt r s p1) vs zs :=
  ⟨h.1, fun j t z ht hz => ⟨(h.2 j t z ht hz).1, (h.2 j t z ht hz).2.iter hr p1⟩⟩
theorem pos_of {w : World} {k : Nat} {s : ByteArray} {p : Nat} (h : w.heap[k]? = some (.stringIter s p)) : w.iterPos k = p := by simp [World.iterPos, h]
theorem kv_one (W : World) (b : Nat) (ok : Nat → Prop) (t : Option Addr × Nat × Nat) (hb : b ≤ W.heap.size) (hok : ok W.heap.size) : Kd.R kv 22 (W.alloc (.cells #[.slice t.1 t.2.1 t.2.2] 22)) b ok (.slice (some ⟨W.heap.size, 0, none⟩) 1 1) [t] :=
  Kd.R_of_own (own_lit_of W b 22 [t] hb (by simp)) (fun k hk => by
    have : k = W.heap.size := by simpa [Value.ownBlock] using hk.symm
    rw [this]; exact hok)
theorem grown_set (w : World) (g j : Nat) (u : Value) : w.grownBy (w.setCell ⟨g, j, none⟩ u) (some g) :=
  ⟨rfl, rfl, rfl, by simp [World.setCell], fun i _ hi => Below.heap_setCell w ⟨g, j, none⟩ u i (fun e => hi (by rw [e]))⟩
theorem letter_small {c : UInt8} (h : c ∈ letters9) : c.toNat < 128 := by
  simp only [letters9, List.mem_cons, List.not_mem_nil, or_false] at h
  rcases h with rfl | rfl | rfl | rfl | rfl | rfl | rfl | rfl | rfl <;> decide

/-- What a message's bytes are, or the error, under a kind's fields p. -/
def encQ (m : S91) (p : ByteArray) : List Int × Int := if p = ⟨#[]⟩ then ([], 80) else if rightB m p then encGo m [encI [m.kind]] p.data.toList else ([], 81)
set_option maxHeartbeats 8000000 in
set_option maxRecDepth 100000 in
theorem encode1_calls (m : S91) (a : Nat → Option Addr) (c : Nat → Nat) (p : ByteArray) (z : List Int) (x : Int) (bp bm bb : Nat) (w : World) (hM : Msg w m a c) (hp9 : ∀ b ∈ p.data.toList, b ∈ letters9) (hps : p.size ≤ 9) (hk : p ≠ ⟨#[]⟩ → numsP [m.kind] = (encI [m.kind], 0))
    (hbp : w.heap[bp]? = some (.cells #[.string p] 9)) (hbm : w.heap[bm]? = some (.cells #[.int .i64 m.kind, .int .i64 m.view, .int .i64 m.seq, .int .i64 m.client, .int .i64 m.stamp, .int .i64 m.entry.f0, .int .i64 m.entry.f1, .int .i64 m.entry.f2, .slice (a 0) m.entry.f3.length (c 0), .slice (a 1) m.digest.length (c 1), .slice (a 2) m.data.length (c 2), .slice (a 3) m.proof.length (c 3), .slice (a 4) m.proven.length (c 4)] 91)) (hbb : w.heap[bb]? = some (.cells #[.slice none 0 0] 22)) (h : encQ m p = (z, x)) :
    Calls Try.prog 93 #[.pointer (some ⟨bp, 0, none⟩), .pointer (some ⟨bm, 0, none⟩), .pointer (some ⟨bb, 0, none⟩)] w fun e w' =>
      if x = 0 then ∃ A1 c1, e = .returned (.tuple #[]) ∧ w'.heap[bb]? = some (.cells #[.slice A1 z.length c1] 22) ∧ z.length ≤ c1 ∧ Kd.R (Kd.int .u8) 5 w' w.heap.size (fun k => w.heap.size ≤ k) (.slice A1 z.length c1) z ∧ w.grownBy w' (some bb)
      else e = .panicked (fault x) ∧ Below w.heap.size w w' := by
  have hu91 := Try.underlying91
  have HM := Aside0.mk hM
  have HP9 := Aside0.mk hp9
  have HPS := Aside0.mk hps
  have HBP := Aside0.mk hbp
  have HBM := Aside0.mk hbm
  have HBB := Aside0.mk hbb
  have HK := Aside0.mk hk
  clear hM hp9 hps hk
  have xp : w.cell? ⟨bp, 0, none⟩ = some (.string p) := (blk_cell hbp 0).trans rfl
  have x0 : w.cell? ⟨bm, 0, none⟩ = some (.int .i64 m.kind) := (blk_cell hbm 0).trans rfl
  have x1 : w.cell? ⟨bm, 1, none⟩ = some (.int .i64 m.view) := (blk_cell hbm 1).trans rfl
  have x2 : w.cell? ⟨bm, 2, none⟩ = some (.int .i64 m.seq) := (blk_cell hbm 2).trans rfl
  have x3 : w.cell? ⟨bm, 3, none⟩ = some (.int .i64 m.client) := (blk_cell hbm 3).trans rfl
  have x4 : w.cell? ⟨bm, 4, none⟩ = some (.int .i64 m.stamp) := (blk_cell hbm 4).trans rfl
  have x5 : w.cell? ⟨bm, 5, none⟩ = some (.int .i64 m.entry.f0) := (blk_cell hbm 5).trans rfl
  have x6 : w.cell? ⟨bm, 6, none⟩ = some (.int .i64 m.entry.f1) := (blk_cell hbm 6).trans rfl
  have x7 : w.cell? ⟨bm, 7, none⟩ = some (.int .i64 m.entry.f2) := (blk_cell hbm 7).trans rfl
  have x8 : w.cell? ⟨bm, 8, none⟩ = some (.slice (a 0) m.entry.f3.length (c 0)) := (blk_cell hbm 8).trans rfl
  have x9 : w.cell? ⟨bm, 9, none⟩ = some (.slice (a 1) m.digest.length (c 1)) := (blk_cell hbm 9).trans rfl
  have x10 : w.cell? ⟨bm, 10, none⟩ = some (.slice (a 2) m.data.length (c 2)) := (blk_cell hbm 10).trans rfl
  have x11 : w.cell? ⟨bm, 11, none⟩ = some (.slice (a 3) m.proof.length (c 3)) := (blk_cell hbm 11).trans rfl
  have x12 : w.cell? ⟨bm, 12, none⟩ = some (.slice (a 4) m.proven.length (c 4)) := (blk_cell hbm 12).trans rfl
  clear hbp hbm hbb
  unfold encQ at h
  by_cases h0 : p = ⟨#[]⟩
  · rw [if_pos h0] at h
    obtain ⟨rfl, rfl⟩ := Prod.mk.inj h
    subst h0
    clear h
    go_enter Try.func93, Try.ntmps93
    go_wp2_with (go_at_call 94; refine (need_bad 80 _).mono ?_; rintro e w2 ⟨rfl, rfl⟩)
    exact ⟨rfl, rfl, Below.refl _ _⟩
  · rw [if_neg h0] at h
    have hne : p.toList.isEmpty = false := by
      rw [List.isEmpty_eq_false_iff, ByteArray.toList_eq]
      intro e
      apply h0
      obtain ⟨d⟩ := p
      have : d = #[] := by rw [← Array.toList_inj]; exact e
      rw [this]
    have HN := Aside0.mk (HK.out h0)
    obtain ⟨q, hq⟩ : ∃ q, q = rightB m p := ⟨_, rfl⟩
    rw [← hq] at h
    have HQ := Aside0.mk hq
    clear hq h0 HK
    cases q with
    | false =>
      obtain ⟨rfl, rfl⟩ := Prod.mk.inj (show (([] : List Int), (81 : Int)) = (z, x) from h)
      clear h
      go_enter Try.func93, Try.ntmps93
      go_wp2_with (go_at_call 94; refine (need_ok 80 _).mono ?_; rintro e w2 ⟨rfl, rfl⟩)
      have hE := right_calls empty_calls m a c p w2 HM.out
      with_reducible refine hE.mono ?_
      clear hE
      rintro e w1 ⟨rfl, hB⟩
      rw [← HQ.out]
      have HB1 := Aside0.mk hB
      clear hB
      go_wp2_with (go_at_call 94; refine (need_bad 81 _).mono ?_; rintro e w2 ⟨rfl, rfl⟩)
      exact ⟨rfl, rfl, HB1.out⟩
    | true =>
      have hj : encGo m [encI [m.kind]] p.data.toList = (z, x) := h
      have HJ := Aside0.mk hj
      have HR2 := Aside0.mk (right_iff.1 HQ.out.symm)
      clear h hj
      go_enter Try.func93, Try.ntmps93
      go_wp2_with (go_at_call 94; refine (need_ok 80 _).mono ?_; rintro e w2 ⟨rfl, rfl⟩)
      have hE := right_calls empty_calls m a c p w2 HM.out
      with_reducible refine hE.mono ?_
      clear hE
      rintro e w1 ⟨rfl, hB⟩
      rw [← HQ.out]
      have HB1 := Aside0.mk hB
      clear hB xp x0 x1 x2 x3 x4 x5 x6 x7 x8 x9 x10 x11 x12
      have xk : w1.cell? ⟨bm, 0, none⟩ = some (.int .i64 m.kind) := (blk_cell ((HB1.out.block _ (blk_lt' HBM.out)).trans HBM.out) 0).trans rfl
      have xp : w1.cell? ⟨bp, 0, none⟩ = some (.string p) := (blk_cell ((HB1.out.block _ (blk_lt' HBP.out)).trans HBP.out) 0).trans rfl
      go_wp2_with (go_at_call 94; refine (need_ok 81 _).mono ?_; rintro e w3 ⟨rfl, rfl⟩)
      refine (nums_ok (some _) 1 [m.kind] (encI [m.kind]) (w3.alloc (.cells #[.int .i64 m.kind] 3)) (C_ints_block (l := [m.kind]) (t := 3) (fr := (0, 0)) (blk_new w3 _) (by simp)) (by simp) (by simp) HN.out).mono ?_
      rintro e w4 ⟨A0, c0, rfl, hG⟩
      have HG0 := Aside0.mk (hG.byt (w0 := w2) (by have := HB1.out.size; simp; omega))
      have HB4 := Aside0.mk (below_then (below_alloc HB1.out _) (below_size (below_alloc HB1.out _)) hG.keep)
      clear hG xk xp
      obtain ⟨n0, hn0⟩ : ∃ n0, n0 = encI [m.kind] := ⟨_, rfl⟩
      rw [← hn0] at HG0 HJ ⊢
      clear hn0 HN
      have HR0 := Aside0.mk (kv_one w4 w2.heap.size (fun k => w2.heap.size ≤ k) (A0, n0.length, c0) HB4.out.size HB4.out.size)
      have HB5 := Aside0.mk (below_alloc HB4.out (.cells #[.slice A0 n0.length c0] 22))
      have HY0 := Aside0.mk (((byts_nil w2 w4).snoc HG0.out).below (below_alloc (Below.refl _ _) (.cells #[.slice A0 n0.length c0] 22)))
      have xp : (w4.alloc (.cells #[.slice A0 n0.length c0] 22)).cell? ⟨bp, 0, none⟩ = some (.string p) := (blk_cell ((HB5.out.block _ (blk_lt' HBP.out)).trans HBP.out) 0).trans rfl
      go_wp2_with (fail)
      have hs5 : (w4.alloc (.cells #[.slice A0 n0.length c0] 22)).heap.size = w4.heap.size + 1 := by simp
      generalize w4.alloc (.cells #[.slice A0 n0.length c0] 22) = w5 at HR0 HB5 HY0 xp hs5 ⊢
      have HI := Aside0.mk (World.iter_heap w5 p 0)
      have HR1 := Aside0.mk (Kd.R_alloc HR0.out (.stringIter p 0))
      have HY1 := Aside0.mk (HY0.out.below (below_alloc (Below.refl _ _) (.stringIter p 0)))
      have HB6 := Aside0.mk (below_alloc HB5.out (.stringIter p 0))
      have HRL := Aside0.mk HB5.out.size
      have HJ1 : Aside0 (encGo m [n0] (p.data.toList.drop 0) = (z, x)) := HJ
      clear HR0 HB5 HY0 xp HG0 HB4 HB1 HJ HQ
      obtain ⟨g4, hg4⟩ : ∃ g4, g4 = w4.heap.size := ⟨_, rfl⟩
      rw [← hg4] at HR1 hs5 ⊢
      clear hg4
      rw [hs5] at HI HRL
      obtain ⟨r, hr⟩ : ∃ r, r = g4 + 1 := ⟨_, rfl⟩
      rw [← hr] at HI HRL hs5 ⊢
      clear hr
      obtain ⟨w6, hw6⟩ : ∃ w6, w6 = w5.iter p 0 := ⟨_, rfl⟩
      rw [show w5.alloc (.stringIter p 0) = w6 from hw6.symm] at HR1 HY1 HB6
      rw [← hw6] at HI ⊢
      clear hw6
      go_loopw [3] (fun u wr => ∃ (i : Nat) (vs : List (Option Addr × Nat × Nat)) (rs : List (List Int)), Aside0 (wr.heap[r]? = some (.stringIter p i)) ∧ Aside0 (Kd.R kv 22 wr w2.heap.size (fun k => w2.heap.size ≤ k) u vs) ∧ Aside0 (Byts w2 wr vs rs) ∧ Aside0 (encGo m rs (p.data.toList.drop i) = (z, x)) ∧ Aside0 (Below w2.heap.size w2 wr) ∧ Aside0 (i ≤ p.size) ∧ Aside0 (vs.length ≤ i + 1)) (fun _ wr => p.size - wr.iterPos r)
      case atStart => exact ⟨0, [(A0, n0.length, c0)], [n0], HI, HR1, HY1, HJ1, HB6, ⟨Nat.zero_le _⟩, ⟨by simp⟩⟩
      case round =>
        clear HI HR1 HY1 HJ1 HB6
        obtain ⟨i, vs, rs, HI, HR, HY, HJ, HB, HL, HV⟩ := hrel
        by_cases hi : i < p.size
        · obtain ⟨Av, cv, ev⟩ := Kd.R_slice HR.out
          subst ev
          obtain ⟨b, hb⟩ : ∃ b, b = p[i]'hi := ⟨_, rfl⟩
          have hil : i < p.data.toList.length := by rw [← psize]; exact hi
          have hbl : p.data.toList[i]'hil = b := by rw [hb]; simp [ByteArray.getElem_eq_getElem_data]
          have hdr : p.data.toList.drop i = b :: p.data.toList.drop (i + 1) := by rw [← hbl]; exact drop_step hil
          have hmem : b ∈ p.data.toList := by rw [← hbl]; exact List.getElem_mem hil
          have h9 := HP9.out b hmem
          have hnx : ∀ ty, (Instr.next (.pointer (some ⟨r, 0, none⟩)) true ty).run Try.prog wr = .ok (.tuple #[.bool true, .int .i64 i, .int .i32 (b.toNat : Int)]) (wr.iterAt r p (i + 1)) := fun ty => by rw [Lib.run_next_ascii_at wr r p i ty HI.out hi (by rw [← hb]; exact letter_small h9), hb]
          have H9 := Aside0.mk (And.intro h9 (mem_hasB hmem))
          have HI1 := Aside0.mk (Lib.iterAt_heap wr r p i (i + 1) HI.out)
          have HB1 := Aside0.mk (Lib.below_iterAt HB.out HRL.out p (i + 1))
          have HR1 := Aside0.mk (R_iter HR.out HI.out (i + 1))
          have HY1 := Aside0.mk (HY.out.iter HI.out (i + 1))
          have hj := HJ.out
          rw [hdr, encGo] at hj
          obtain ⟨y, xy, hy⟩ : ∃ y xy, fieldP m b = (y, xy) := ⟨_, _, rfl⟩
          rw [hy] at hj
          simp only at hj
          have HF := Aside0.mk hy
          have hvl : vs.length ≤ 10 := by have := HV.out; have := HPS.out; omega
          have hms := Aside0.mk (show p.size - (i + 1) < p.size - wr.iterPos r by rw [pos_of HI.out]; omega)
          have HL1 := Aside0.mk (show i + 1 ≤ p.size by omega)
          have HV1 := Aside0.mk (show vs.length + 1 ≤ i + 1 + 1 by have := HV.out; omega)
          obtain ⟨W1, hW1⟩ : ∃ W1, W1 = wr.iterAt r p (i + 1) := ⟨_, rfl⟩
          rw [← hW1] at hnx HI1 HB1 HR1 HY1
          clear hW1 HI HB HR HY HJ hb hbl hdr hmem h9 hy hi HL HV hil
          have HBM1 := Aside0.mk ((HB1.out.block _ (blk_lt' HBM.out)).trans HBM.out)
          have x0 : W1.cell? ⟨bm, 0, none⟩ = some (.int .i64 m.kind) := (blk_cell HBM1.out 0).trans rfl
          have x1 : W1.cell? ⟨bm, 1, none⟩ = some (.int .i64 m.view) := (blk_cell HBM1.out 1).trans rfl
          have x2 : W1.cell? ⟨bm, 2, none⟩ = some (.int .i64 m.seq) := (blk_cell HBM1.out 2).trans rfl
          have x3 : W1.cell? ⟨bm, 3, none⟩ = some (.int .i64 m.client) := (blk_cell HBM1.out 3).trans rfl
          have x4 : W1.cell? ⟨bm, 4, none⟩ = some (.int .i64 m.stamp) := (blk_cell HBM1.out 4).trans rfl
          have x5 : W1.cell? ⟨bm, 5, none⟩ = some (.int .i64 m.entry.f0) := (blk_cell HBM1.out 5).trans rfl
          have x6 : W1.cell? ⟨bm, 6, none⟩ = some (.int .i64 m.entry.f1) := (blk_cell HBM1.out 6).trans rfl
          have x7 : W1.cell? ⟨bm, 7, none⟩ = some (.int .i64 m.entry.f2) := (blk_cell HBM1.out 7).trans rfl
          have x8 : W1.cell? ⟨bm, 8, none⟩ = some (.slice (a 0) m.entry.f3.length (c 0)) := (blk_cell HBM1.out 8).trans rfl
          have x9 : W1.cell? ⟨bm, 9, none⟩ = some (.slice (a 1) m.digest.length (c 1)) := (blk_cell HBM1.out 9).trans rfl
          have x10 : W1.cell? ⟨bm, 10, none⟩ = some (.slice (a 2) m.data.length (c 2)) := (blk_cell HBM1.out 10).trans rfl
          have x11 : W1.cell? ⟨bm, 11, none⟩ = some (.slice (a 3) m.proof.length (c 3)) := (blk_cell HBM1.out 11).trans rfl
          have x12 : W1.cell? ⟨bm, 12, none⟩ = some (.slice (a 4) m.proven.length (c 4)) := (blk_cell HBM1.out 12).trans rfl
          by_cases hxy : xy = 0
          · subst hxy
            rw [if_pos rfl] at hj
            have HJ1 := Aside0.mk hj
            clear hj
            go_wp2_with (first
              | (go_at_call 97; with_reducible refine (field_calls m.kind m a c p b H9.out.1 HR2.out H9.out.2 y 0 HF.out w2 W1 HM.out HB1.out).mono ?_; intro e w7 hh; rw [if_pos rfl] at hh; obtain ⟨A1, c1, rfl, hbt, hbw⟩ := hh; have HT1 := Aside0.mk hbt; have HI7 := Aside0.mk ((hbw.block _ (blk_lt' HI1.out)).trans HI1.out); have HB7 := Aside0.mk (below_then HB1.out HB1.out.size hbw); have hs1 := HB7.out.size; have HR7 := Aside0.mk (Kd.R_below HR1.out hbw); have HY7 := Aside0.mk (HY1.out.below hbw); clear hbt hbw)
              | (at_builtin; refine Kd.R_append kv (w0 := w2) w2.heap.size rfl (.tmp 23) (.tmp 27) 32 22 (.slice none 0 0) 24 rfl Try.underlying32 Walks.info22 rfl (by decide) (by omega) (.slice Av vs.length cv) vs (A1, y.length, c1) [.slice A1 y.length c1] (fun k_ => w2.heap.size ≤ k_) (fun k_ => w2.heap.size ≤ k_ ∧ some k_ ≠ (Value.slice Av vs.length cv).ownBlock) rfl rfl rfl (fun _ h => h) (fun k hk => by omega) HR7.out HB7.out hs1 (by omega) ?_; intro v3 w3 hR3 hB3 hg3 hat3; have HR3 := Aside0.mk hR3; have HB3 := Aside0.mk hB3; have HY3 := Aside0.mk ((HY7.out.snoc HT1.out).grown (Kd.R_typed HR7.out) hg3); have HI3 := Aside0.mk ((hg3.block r (blk_lt' HI7.out) (fun e => by obtain ⟨cells, hc⟩ := Kd.R_typed HR7.out r e.symm; exact ne_iter HI7.out hc rfl)).trans HI7.out); clear hR3 hB3 hg3 hat3))
            refine ⟨⟨i + 1, vs ++ [(A1, y.length, c1)], rs ++ [y], HI3, HR3, HY3, HJ1, HB3, HL1, ⟨by rw [List.length_append]; exact HV1.out⟩⟩, ?_⟩
            rw [pos_of HI3.out]
            exact hms.out
          · rw [if_neg hxy] at hj
            obtain ⟨rfl, rfl⟩ := Prod.mk.inj hj
            have HX := Aside0.mk hxy
            clear hj
            go_wp2_with (go_at_call 97; with_reducible refine (field_calls m.kind m a c p b H9.out.1 HR2.out H9.out.2 y xy HF.out w2 W1 HM.out HB1.out).mono ?_; intro e w7 hh; rw [if_neg HX.out] at hh; obtain ⟨rfl, hB⟩ := hh; have HBq := Aside0.mk (below_then HB1.out HB1.out.size hB); clear hB)
            refine ⟨rfl, ?_⟩
            first
              | exact ⟨rfl, HBq.out⟩
              | (show if _ = (0 : Int) then _ else _; rw [if_neg HX.out]; exact ⟨rfl, HBq.out⟩)
        · obtain ⟨Av, cv, ev⟩ := Kd.R_slice HR.out
          subst ev
          have hnx : ∀ ty, (Instr.next (.pointer (some ⟨r, 0, none⟩)) true ty).run Try.prog wr = .ok (.tuple #[.bool false]) wr := fun ty => Lib.run_next_end_at wr r p i ty HI.out hi
          have hj := HJ.out
          rw [List.drop_eq_nil_of_le (by rw [← psize]; omega), encGo] at hj
          have HJ2 := Aside0.mk hj
          have hrow := Kd.R_reads' HR.out
          have hll : vs.length = rs.length := HY.out.1
          have HRW := Aside0.mk (show Kd.C (Kd.slice 5 (Kd.int .u8)) wr Av rs.length rs from rows_of_vals hrow.2.2 (HY.out.bys HB.out))
          have HCP := Aside0.mk (show rs.length ≤ cv by rw [← hll]; exact hrow.2.1)
          have HBB1 := Aside0.mk ((HB.out.block _ (blk_lt' HBB.out)).trans HBB.out)
          clear hrow hj HJ
          rw [hll]
          clear hll hi
          by_cases hx : x = 0
          · subst hx
            go_wp2_with (go_at_call 98; refine (join_ok Av cv rs z _ HRW.out HCP.out HJ2.out).mono ?_; rintro e w8 ⟨A1, c1, rfl, hG⟩; have HG1 := Aside0.mk hG; have HBB2 := Aside0.mk ((hG.keep.block _ (blk_lt' HBB1.out)).trans HBB1.out); have xb : w8.cell? ⟨bb, 0, none⟩ = some (.slice none 0 0) := (blk_cell HBB2.out 0).trans rfl; have xf : w8.frozen? ⟨bb, 0, none⟩ = false := blk_frozen HBB2.out 0; clear hG)
            go_end0
            exact ⟨rfl, A1, c1, blk_put HBB2.out 0 _ rfl, HG1.out.cap, Kd.R_set (HG1.out.lift HB.out).own HBB2.out (by simp [Kd.int, Kd.scalar]) 0 _, (grown_of_below (below_then HB.out HB.out.size HG1.out.keep) (some bb)).trans (grown_set _ _ _ _)⟩
          · have HX := Aside0.mk hx
            go_wp2_with (go_at_call 98; refine (join_bad Av cv rs z x _ HRW.out HCP.out HJ2.out HX.out).mono ?_; rintro e w8 ⟨rfl, hB⟩; have HB8 := Aside0.mk hB; clear hB)
            exact ⟨rfl, rfl, below_then HB.out HB.out.size HB8.out⟩

theorem kind_nums {k : Int} (h : partsS k ≠ ⟨#[]⟩) : numsP [k] = (encI [k], 0) := by
  rw [numsP, numsGo_ok (by
    intro x hx
    rw [List.mem_singleton.1 hx]
    have := parts_kind h
    omega)]; rfl
theorem parts_small (k : Int) : (partsS k).size ≤ 9 := by
  by_cases h : partsS k = ⟨#[]⟩
  · rw [h]; decide
  · rcases parts_kind h with rfl | rfl | rfl | rfl | rfl | rfl | rfl | rfl | rfl | rfl | rfl | rfl | rfl | rfl
    all_goals decide
set_option maxHeartbeats 8000000 in
set_option maxRecDepth 100000 in
/-- Encode. -/
theorem encode_calls (m : S91) (a : Nat → Option Addr) (c : Nat → Nat) (z : List Int) (x : Int) (w : World) (hM : Msg w m a c) (h : encP m = (z, x)) :
    Calls Try.prog 65 #[.agg #[.int .i64 m.kind, .int .i64 m.view, .int .i64 m.seq, .int .i64 m.client, .int .i64 m.stamp, .int .i64 m.entry.f0, .int .i64 m.entry.f1, .int .i64 m.entry.f2, .slice (a 0) m.entry.f3.length (c 0), .slice (a 1) m.digest.length (c 1), .slice (a 2) m.data.length (c 2), .slice (a 3) m.proof.length (c 3), .slice (a 4) m.proven.length (c 4)]] w fun e w' => ∃ A1 c1, e = .returned (.tuple #[.slice A1 z.length c1, .int .i64 x]) ∧ z.length ≤ c1 ∧ Kd.C (Kd.int .u8) w' A1 z.length z ∧ Below w.heap.size w w' := by
  have hu91 := Try.underlying91
  have HM := Aside0.mk hM
  have HE := Aside0.mk h
  clear hM h
  have HBM := Aside0.mk (blk_new w (.cells #[.int .i64 m.kind, .int .i64 m.view, .int .i64 m.seq, .int .i64 m.client, .int .i64 m.stamp, .int .i64 m.entry.f0, .int .i64 m.entry.f1, .int .i64 m.entry.f2, .slice (a 0) m.entry.f3.length (c 0), .slice (a 1) m.digest.length (c 1), .slice (a 2) m.data.length (c 2), .slice (a 3) m.proof.length (c 3), .slice (a 4) m.proven.length (c 4)] 91))
  have HB0 := Aside0.mk (below_alloc (Below.refl w.heap.size w) (.cells #[.int .i64 m.kind, .int .i64 m.view, .int .i64 m.seq, .int .i64 m.client, .int .i64 m.stamp, .int .i64 m.entry.f0, .int .i64 m.entry.f1, .int .i64 m.entry.f2, .slice (a 0) m.entry.f3.length (c 0), .slice (a 1) m.digest.length (c 1), .slice (a 2) m.data.length (c 2), .slice (a 3) m.proof.length (c 3), .slice (a 4) m.proven.length (c 4)] 91))
  have hmf : ∀ (fn : Fn) (first cap : Array Value) (w : World), (Instr.makeFunc fn first cap).run Try.prog w = .ok (.func fn first cap) w := fun _ _ _ _ => rfl
  go_enter Try.func65, Try.ntmps65
  go_wp2_with (fail)
  have HBB0 := Aside0.mk (blk_new (w.alloc (.cells #[.int .i64 m.kind, .int .i64 m.view, .int .i64 m.seq, .int .i64 m.client, .int .i64 m.stamp, .int .i64 m.entry.f0, .int .i64 m.entry.f1, .int .i64 m.entry.f2, .slice (a 0) m.entry.f3.length (c 0), .slice (a 1) m.digest.length (c 1), .slice (a 2) m.data.length (c 2), .slice (a 3) m.proof.length (c 3), .slice (a 4) m.proven.length (c 4)] 91)) (.cells #[.slice none 0 0] 22))
  have HBM0 := Aside0.mk ((Below.heap_alloc (w.alloc (.cells #[.int .i64 m.kind, .int .i64 m.view, .int .i64 m.seq, .int .i64 m.client, .int .i64 m.stamp, .int .i64 m.entry.f0, .int .i64 m.entry.f1, .int .i64 m.entry.f2, .slice (a 0) m.entry.f3.length (c 0), .slice (a 1) m.digest.length (c 1), .slice (a 2) m.data.length (c 2), .slice (a 3) m.proof.length (c 3), .slice (a 4) m.proven.length (c 4)] 91)) (.cells #[.slice none 0 0] 22) w.heap.size (by simp)).trans HBM.out)
  have HB1 := Aside0.mk (below_alloc HB0.out (.cells #[.slice none 0 0] 22))
  rw [show (w.alloc (.cells #[.int .i64 m.kind, .int .i64 m.view, .int .i64 m.seq, .int .i64 m.client, .int .i64 m.stamp, .int .i64 m.entry.f0, .int .i64 m.entry.f1, .int .i64 m.entry.f2, .slice (a 0) m.entry.f3.length (c 0), .slice (a 1) m.digest.length (c 1), .slice (a 2) m.data.length (c 2), .slice (a 3) m.proof.length (c 3), .slice (a 4) m.proven.length (c 4)] 91)).heap.size = w.heap.size + 1 by simp] at HBB0
  generalize (w.alloc (.cells #[.int .i64 m.kind, .int .i64 m.view, .int .i64 m.seq, .int .i64 m.client, .int .i64 m.stamp, .int .i64 m.entry.f0, .int .i64 m.entry.f1, .int .i64 m.entry.f2, .slice (a 0) m.entry.f3.length (c 0), .slice (a 1) m.digest.length (c 1), .slice (a 2) m.data.length (c 2), .slice (a 3) m.proof.length (c 3), .slice (a 4) m.proven.length (c 4)] 91)).alloc (.cells #[.slice none 0 0] 22) = w0 at HBB0 HBM0 HB1 ⊢
  clear HBM HB0
  refine (parts_calls m.kind w0).mono ?_
  rintro e w1 ⟨rfl, hB⟩
  have HBB2 := Aside0.mk ((hB.block _ (blk_lt' HBB0.out)).trans HBB0.out)
  have HBM2 := Aside0.mk ((hB.block _ (blk_lt' HBM0.out)).trans HBM0.out)
  have HB2 := Aside0.mk (below_then HB1.out HB1.out.size hB)
  clear HBB0 HBM0 HB1 hB
  go_wp2_with (fail)
  have HBP := Aside0.mk (blk_new w1 (.cells #[.string (partsS m.kind)] 9))
  have HBB3 := Aside0.mk ((Below.heap_alloc w1 (.cells #[.string (partsS m.kind)] 9) _ (blk_lt' HBB2.out)).trans HBB2.out)
  have HBM3 := Aside0.mk ((Below.heap_alloc w1 (.cells #[.string (partsS m.kind)] 9) _ (blk_lt' HBM2.out)).trans HBM2.out)
  have HB3 := Aside0.mk (below_alloc HB2.out (.cells #[.string (partsS m.kind)] 9))
  obtain ⟨g, hg⟩ : ∃ g, g = w1.heap.size := ⟨_, rfl⟩
  rw [← hg] at HBP ⊢
  clear hg
  generalize w1.alloc (.cells #[.string (partsS m.kind)] 9) = w2 at HBP HBB3 HBM3 HB3 ⊢
  clear HBB2 HBM2 HB2
  refine (caught_calls 93 #[.pointer (some ⟨g, 0, none⟩), .pointer (some ⟨w.heap.size, 0, none⟩), .pointer (some ⟨w.heap.size + 1, 0, none⟩)] w2 (fun r w3 => r.getD 0 = x ∧ w2.grownBy w3 (some (w.heap.size + 1)) ∧ w3.heap[w2.heap.size]? = some (.cells #[.int .i64 0] 23) ∧ ∃ A1 c1, w3.heap[w.heap.size + 1]? = some (.cells #[.slice A1 z.length c1] 22) ∧ z.length ≤ c1 ∧ Kd.R (Kd.int .u8) 5 w3 w2.heap.size (fun k => w2.heap.size ≤ k) (.slice A1 z.length c1) z) (fun _ => by kernel_rfl) ?_).mono ?_
  · intro W hW
    have hg0 := World.grownBy_alloc w2 (.cells #[.int .i64 0] 23) (some (w.heap.size + 1))
    have hbW := below_alloc (Below.refl w2.heap.size w2) (.cells #[.int .i64 0] 23)
    have hnW := blk_new w2 (.cells #[.int .i64 0] 23)
    rw [← hW] at hg0 hbW hnW
    have hne : w2.heap.size ≠ w.heap.size + 1 := fun e => by have := blk_lt' HBB3.out; omega
    refine (encode1_calls m a c (partsS m.kind) z x g w.heap.size (w.heap.size + 1) W (HM.out.below (below_then HB3.out HB3.out.size hbW)) (parts_nine m.kind).2 (parts_small m.kind) kind_nums ((hbW.block _ (blk_lt' HBP.out)).trans HBP.out) ((hbW.block _ (blk_lt' HBM3.out)).trans HBM3.out) ((hbW.block _ (blk_lt' HBB3.out)).trans HBB3.out) HE.out).mono ?_
    intro e w3 hh
    by_cases hx : x = 0
    · rw [if_pos hx] at hh
      obtain ⟨A1, c1, rfl, hbb, hl, hR, hg⟩ := hh
      have hbk := (hg.block _ (blk_lt' hnW) (by intro e; injection e with e; exact hne e)).trans hnW
      exact ⟨⟨none, ⟨hx.symm, hg0.trans hg, hbk, A1, c1, hbb, hl, Kd.R_mono (Kd.R_lower hR hbW.size) (fun k hk => Nat.le_trans hbW.size hk)⟩, rfl⟩, (blk_cell hbk 0).trans rfl, blk_frozen hbk 0, hbk⟩
    · rw [if_neg hx] at hh
      obtain ⟨rfl, hB⟩ := hh
      have hbk := (hB.block _ (blk_lt' hnW)).trans hnW
      have hz : z = [] := by
        have := encP_err (m := m) (by rw [HE.out]; exact hx)
        rw [HE.out] at this
        exact this
      subst hz
      exact ⟨⟨some x, ⟨rfl, hg0.trans (grown_of_below hB _), hbk, none, 0, (hB.block _ (by have := blk_lt' HBB3.out; have := hbW.size; omega)).trans ((hbW.block _ (blk_lt' HBB3.out)).trans HBB3.out), Nat.le_refl _, Kd.R_nil _ _ _ _ _⟩, rfl⟩, (blk_cell hbk 0).trans rfl, blk_frozen hbk 0, hbk⟩
  rintro e w4 ⟨r, w3, ⟨hr, hg, hbk, A1, c1, hbb, hl, hR⟩, rfl, rfl⟩
  rw [hr]
  have HL := Aside0.mk hl
  have hne : w.heap.size + 1 ≠ w2.heap.size := fun e => by have := blk_lt' HBB3.out; omega
  have HR := Aside0.mk (Kd.R_set hR hbk (by simp [Kd.int, Kd.scalar]) 0 (.int .i64 x))
  have HBB4 := Aside0.mk ((Below.heap_setCell w3 ⟨w2.heap.size, 0, none⟩ (.int .i64 x) _ hne).trans hbb)
  have HB4 := Aside0.mk ((HB3.out.grown hg HB3.out.size (fun k hk => by injection hk with hk; omega)).grown (grown_set w3 w2.heap.size 0 (.int .i64 x)) (by have := hg.size; have := HB3.out.size; omega) (fun k hk => by injection hk with hk; have := HB3.out.size; omega))
  generalize w3.setCell ⟨w2.heap.size, 0, none⟩ (.int .i64 x) = w4 at HR HBB4 HB4 ⊢
  clear hr hg hbk hbb hl hR hne
  have xb : w4.cell? ⟨w.heap.size + 1, 0, none⟩ = some (.slice A1 z.length c1) := (blk_cell HBB4.out 0).trans rfl
  have xf : w4.frozen? ⟨w.heap.size + 1, 0, none⟩ = false := blk_frozen HBB4.out 0
  have HBB5 := Aside0.mk (blk_put HBB4.out 0 (.slice A1 z.length c1) rfl)
  have xc : (w4.setCell ⟨w.heap.size + 1, 0, none⟩ (.slice A1 z.length c1)).cell? ⟨w.heap.size + 1, 0, none⟩ = some (.slice A1 z.length c1) := (blk_cell HBB5.out 0).trans rfl
  go_wp2_with (fail)
  refine bodyPost_ret (v := .tuple #[.slice A1 z.length c1, .int .i64 x]) ?_ rfl ⟨A1, c1, rfl, HL.out, (Kd.R_reads' (Kd.R_set HR.out HBB4.out (by simp [Kd.int, Kd.scalar]) 0 (.slice A1 z.length c1))).2.2, below_set HB4.out (by omega)⟩
  rw [results_cell_tmp rfl]
  simp [asAddr, Result.andThen, loadVar, xc]
end Go.Proofs.Ytijccobeljoikaa.Ms

/- msg: an entry, a letter, and what is proven, of bytes. -/
namespace Go.Proofs.Ytijccobeljoikaa.Ms
open Go.RowKit Go.Proofs.YtijccobeljoikaaW.PrintWords Go.Proofs.YtijccobeljoikaaW.PrintLast
open Go.Proofs.Ytijccobeljoikaa.Plain Go.Proofs.Ytijccobeljoikaa.Walks
set_option linter.unusedVariables false
set_option linter.unusedSimpArgs false

theorem blk_lt2 {w : World} {k : Nat} {o : Obj} (h : w.heap[k]? = some o) : k < w.heap.size := (Array.getElem?_eq_some_iff.1 h).1
theorem R_row {α : Type} {d : Kd α} {e base : Nat} {w : World} {ok : Nat → Prop} {v : Value} {xs : List α} (h : d.R e w base ok v xs) {g t : Nat} {cells : Array Value} (hb : w.heap[g]? = some (.cells cells t (0, 0))) (ht : ∀ q, q ∈ e :: d.E → q ≠ t) (cs : Array Value) : d.R e (w.setRow g cs) base ok v xs :=
  Kd.R_mono (Kd.R_step (Kd.R_types h hb ht) (fun k hk _ => setRow_other w g k cs hk.2)) (fun _ hk => hk.1)
theorem size87 : (Try.prog.info? 87).map (·.size) = some 4 := by kernel_rfl
theorem size72 : (Try.prog.info? 72).map (·.size) = some 5 := by kernel_rfl
theorem size101 : (Try.prog.info? 101).map (·.size) = some 7 := by kernel_rfl
theorem size91 : (Try.prog.info? 91).map (·.size) = some 13 := by kernel_rfl
theorem got_head {α : Type} {d : Kd α} {e : Nat} {w w' : World} {A : Option Addr} {c : Nat} {zs : List α} (h : Got d e w w' A c zs) (hn : zs ≠ []) : ∃ g, A = some ⟨g, 0, none⟩ ∧ w.heap.size ≤ g := by
  obtain ⟨_, inner, ho, hr⟩ := h.own
  rcases ho.2 with ⟨hv, h0⟩ | ⟨g, cap', cur, hv, hg, _⟩
  · exact absurd (List.length_eq_zero_iff.1 h0) hn
  · injection hv with ha _ _
    exact ⟨g, ha, hg⟩
/-- A row of rows of the call's own: one of them. -/
theorem rows_at {w w' : World} {g c : Nat} {rs : List (List Int)} (h : Got (Kd.slice 5 (Kd.int .u8)) 22 w w' (some ⟨g, 0, none⟩) c rs) (i : Nat) (hi : i < rs.length) :
    ∃ Ai ci, w'.cell? ⟨g, i, none⟩ = some (.slice Ai rs[i].length ci) ∧ Kd.R (Kd.int .u8) 5 w' w.heap.size (fun k => w.heap.size ≤ k) (.slice Ai rs[i].length ci) rs[i] := by
  obtain ⟨cs, hl, hM, hc, _⟩ := Kd.R_elem h.own [] (i : Int) (by omega) (by omega)
  rw [Int.toNat_natCast] at hM hc
  have he : rs.getD i [] = rs[i] := by simp [List.getD_eq_getElem?_getD, hi]
  rw [he] at hM
  obtain ⟨v, rfl, hR⟩ := hM
  obtain ⟨Ai, ci, rfl⟩ := Kd.R_slice hR
  refine ⟨Ai, ci, ?_, Kd.R_mono hR (fun k hk => hk.1)⟩
  have := hc 0 _ rfl
  rwa [show i * (Kd.slice 5 (Kd.int .u8)).sz + 0 = i from Nat.mul_one i] at this
theorem nums_at {w w' : World} {g c : Nat} {vs : List Int} (h : Got (Kd.int .i64) 3 w w' (some ⟨g, 0, none⟩) c vs) (i : Nat) (hi : i < vs.length) : w'.cell? ⟨g, i, none⟩ = some (.int .i64 vs[i]) := by
  have := (Kd.R_celln 0 h.own (i : Int) (by omega) (by omega)).1
  rw [Int.toNat_natCast] at this
  rw [this]
  simp [rdOf, List.getD_eq_getElem?_getD, hi]

/-- What reading an entry comes to. -/
def EntryPost (w : World) (o : Option S87) (e : Ending) (w' : World) : Prop :=
  Below w.heap.size w w' ∧ match o with
    | some x => ∃ A3 c3, e = .returned (.agg #[.int .i64 x.f0, .int .i64 x.f1, .int .i64 x.f2, .slice A3 x.f3.length c3]) ∧ Kd.R (Kd.int .u8) 5 w' w.heap.size (fun k => w.heap.size ≤ k) (.slice A3 x.f3.length c3) x.f3
    | none => ∃ y, y ≠ 0 ∧ e = .panicked (fault y)
theorem split_cases (l : List Int) (n : Nat) : (∃ rs x, splitP l = (rs, x) ∧ (x ≠ 0 ∨ rs.length ≠ n) ∧ fieldsO l n = none) ∨ ∃ rs, splitP l = (rs, 0) ∧ rs.length = n ∧ fieldsO l n = some rs := by
  obtain ⟨rs, x, h⟩ : ∃ rs x, splitP l = (rs, x) := ⟨_, _, rfl⟩
  by_cases hx : x = 0 ∧ rs.length = n
  · obtain ⟨rfl, hn⟩ := hx
    exact .inr ⟨rs, h, hn, by rw [fieldsO, h, if_pos ⟨rfl, hn⟩]⟩
  · exact .inl ⟨rs, x, h, by omega, by rw [fieldsO, h, if_neg hx]⟩
theorem ints_cases (l : List Int) (n : Nat) : (∃ vs x, intsP l = (vs, x) ∧ (x ≠ 0 ∨ vs.length ≠ n) ∧ intsO l n = none) ∨ ∃ vs, intsP l = (vs, 0) ∧ vs.length = n ∧ intsO l n = some vs := by
  obtain ⟨vs, x, h⟩ : ∃ vs x, intsP l = (vs, x) := ⟨_, _, rfl⟩
  by_cases hx : x = 0 ∧ vs.length = n
  · obtain ⟨rfl, hn⟩ := hx
    exact .inr ⟨vs, h, hn, by rw [intsO, h, if_pos ⟨rfl, hn⟩]⟩
  · exact .inl ⟨vs, x, h, by omega, by rw [intsO, h, if_neg hx]⟩
/-- Four cells, and what was there is as it was. -/
def At4 (p0 p1 p2 p3 : Addr) (v0 v1 v2 v3 : Value) (w0 w' : World) : Prop := w'.cell? p0 = some v0 ∧ w'.cell? p1 = some v1 ∧ w'.cell? p2 = some v2 ∧ w'.cell? p3 = some v3 ∧ Below w0.heap.size w0 w'
theorem At4.step {p0 p1 p2 p3 : Addr} {v0 v1 v2 v3 : Value} {w0 w1 w2 : World} (h : At4 p0 p1 p2 p3 v0 v1 v2 v3 w0 w1) (hB : Below w1.heap.size w1 w2) : At4 p0 p1 p2 p3 v0 v1 v2 v3 w0 w2 :=
  ⟨cell_step h.1 hB, cell_step h.2.1 hB, cell_step h.2.2.1 hB, cell_step h.2.2.2.1 hB, below_step h.2.2.2.2 hB⟩
def rdE_T3 : Bool × List (List Nat × List Nat) := (true, [([], []), ([0], [0]), ([1], [1]), ([2], [2]), ([], []), ([4], [4]), ([5], [5]), ([], []), ([7], [7]), ([8], [8]), ([], []), ([10], [10]), ([11], [11]), ([3, 6, 9, 12], [3, 6, 9, 12]), ([], []), ([14, 13, 0, 1, 2, 3, 4, 5, 6, 7, 8, 9, 10, 11, 12, 13, 14], [13, 14])])
def rdE_B3 : List Nat := [0, 1, 3, 7, 0, 16, 48, 0, 128, 384, 0, 1024, 3072, 8191, 0, 32767]
theorem rdE_tab3 : rtab .any (opsOf Try.f124 3) = rdE_T3 := by kernel_rfl
theorem rdE_bits3 : waitsOk rdE_T3.2 rdE_B3 = true := by kernel_rfl
set_option maxHeartbeats 8000000 in
set_option maxRecDepth 100000 in
theorem readEntry_calls (A : Option Addr) (c : Nat) (l : List Int) (o : Option S87) (w : World) (hC : Kd.C (Kd.int .u8) w A l.length l) (hc : l.length ≤ c) (hb : Byte l) (hl : l.length < 17592186044416) (ho : entryO l = o) :
    Calls Try.prog 124 #[.slice A l.length c] w fun e w' => EntryPost w o e w' := by
  have hu87 := Try.underlying87
  have HC := Aside0.mk (Kd.C_alloc hC (.cells #[.int .i64 0, .int .i64 0, .int .i64 0, .slice none 0 0] 87))
  have HB0 := Aside0.mk (below_alloc (Below.refl w.heap.size w) (.cells #[.int .i64 0, .int .i64 0, .int .i64 0, .slice none 0 0] 87))
  have Hc := Aside0.mk hc
  have HBy := Aside0.mk hb
  have HL := Aside0.mk hl
  rcases split_cases l 2 with ⟨rs, x, hs, hbad, hf⟩ | ⟨rs, hs, hn, hf⟩
  · have HS := Aside0.mk hs
    have HX := Aside0.mk hbad
    have : o = none := by rw [← ho, entryO, hf]; rfl
    subst this
    clear hC hc hb hl ho hf hs hbad
    go_enter Try.func124, Try.ntmps124
    go_wp2_with (go_at_call 148; refine (fields_bad A c 2 l rs x _ HC.out Hc.out HBy.out (by have := HL.out; omega) HS.out HX.out).mono ?_; rintro e w1 ⟨⟨y, hy, rfl⟩, hB⟩; have HB1 := Aside0.mk (And.intro hy (below_then HB0.out (below_size HB0.out) hB)); clear hB hy)
    exact ⟨rfl, HB1.out.2, y, HB1.out.1, rfl⟩
  · obtain ⟨s0, s1, rfl⟩ := two hn
    obtain ⟨hj, hbs, _⟩ := fieldsO_some hb hf
    have hls := (joinP_some hj).2.1
    have HS := Aside0.mk hs
    have Hb0 := Aside0.mk (hbs s0 (by simp))
    have Hl0 := Aside0.mk (hls s0 (by simp))
    have hoo : o = (intsO s0 3).bind fun v => if goodEntry (mkEntry [s0, s1] v) then some (mkEntry [s0, s1] v) else none := by rw [← ho, entryO, hf]; rfl
    clear hC hc hb hl ho hf hs hj hbs hls hn
    go_enter Try.func124, Try.ntmps124
    go_wp2_with (fail)
    refine (fields_ok A c 2 l [s0, s1] _ HC.out Hc.out HBy.out (by have := HL.out; omega) HS.out rfl).mono ?_
    rintro e w1 ⟨A1, c1, rfl, hG⟩
    obtain ⟨g1, rfl, hg1⟩ := got_head hG (by simp)
    obtain ⟨A2, c2, y0, hR0⟩ := rows_at hG 0 (by simp)
    obtain ⟨A3, c3, y1, hR1⟩ := rows_at hG 1 (by simp)
    simp only [List.getElem_cons_zero, List.getElem_cons_succ] at y0 hR0 y1 hR1
    have HB1 := Aside0.mk (below_then HB0.out (below_size HB0.out) hG.keep)
    have hs0 := hG.keep.size
    have HR0 := Aside0.mk hR0
    have HR1 := Aside0.mk (Kd.R_mono (Kd.R_lower hR1 (below_size HB0.out)) (fun k hk => Nat.le_trans (below_size HB0.out) hk))
    have HY1 := Aside0.mk y1
    have HBX1 := Aside0.mk ((hG.keep.block w.heap.size (by simp)).trans (blk_new w _))
    clear hG hR0 hR1 hg1 y1 hs0
    rcases ints_cases s0 3 with ⟨vs, x, hi, hbad, hf⟩ | ⟨vs, hi, hn, hf⟩
    · rw [hf] at hoo
      have : o = none := hoo
      subst this
      have HI := Aside0.mk hi
      have HX := Aside0.mk hbad
      clear hoo hf hi hbad
      go_wp2_with (go_at_call 108; refine (ints_bad A2 c2 3 s0 vs x w1 (Kd.R_reads' HR0.out).2.2 (Kd.R_reads' HR0.out).2.1 Hb0.out (by have := Hl0.out; omega) HI.out HX.out).mono ?_; rintro e w2 ⟨rfl, hB⟩; have HB2 := Aside0.mk (below_then HB1.out HB1.out.size hB); clear hB)
      exact ⟨rfl, HB2.out, 12, by decide, rfl⟩
    · obtain ⟨v0, v1, v2, rfl⟩ := three hn
      rw [hf] at hoo
      have HI := Aside0.mk hi
      have hvr := (intsO_some Hb0.out hf).2.2 v0 (by simp)
      obtain ⟨m, hm⟩ : ∃ m, m = mkEntry [s0, s1] [v0, v1, v2] := ⟨_, rfl⟩
      have hoo2 : o = if goodEntry m then some m else none := by rw [hm]; exact hoo
      have hm' : m = ⟨v0 - 1, v1, v2, s1⟩ := hm
      clear hoo hf hi hn hm
      go_wp2_with (fail)
      refine (ints_ok A2 c2 3 s0 [v0, v1, v2] w1 (Kd.R_reads' HR0.out).2.2 (Kd.R_reads' HR0.out).2.1 Hb0.out (by have := Hl0.out; omega) HI.out rfl).mono ?_
      rintro e w2 ⟨A4, c4, rfl, hG⟩
      obtain ⟨g4, rfl, hg4⟩ := got_head hG (by simp)
      have z0 := nums_at hG 0 (by simp)
      have z1 := nums_at hG 1 (by simp)
      have z2 := nums_at hG 2 (by simp)
      simp only [List.getElem_cons_zero, List.getElem_cons_succ] at z0 z1 z2
      have z3 := cell_step HY1.out hG.keep
      have HB2 := Aside0.mk (below_then HB1.out HB1.out.size hG.keep)
      have HR2 := Aside0.mk (Kd.R_below HR1.out hG.keep)
      have HZ := Aside0.mk (And.intro z0 (And.intro z1 (And.intro z2 z3)))
      have HBX2 := Aside0.mk ((hG.keep.block _ (blk_lt2 HBX1.out)).trans HBX1.out)
      clear hG hg4 z0 z1 z2 z3 HR1 HB1 HY1 y0 HBX1
      go_upto_region 3 with (fail)
      refine start_ (n := 16) (S := At4 ⟨g4, 0, none⟩ ⟨g4, 1, none⟩ ⟨g4, 2, none⟩ ⟨g1, 1, none⟩ (.int .i64 v0) (.int .i64 v1) (.int .i64 v2) (.slice A3 s1.length c3) w2) (ds := []) #[false, false, false, false, false, false, false, false, false, false, false, false, false, false, false, false] (by kernel_rfl) rfl rfl
        ⟨HZ.out.1, HZ.out.2.1, HZ.out.2.2.1, HZ.out.2.2.2, below_drew1 (Below.refl _ _)⟩ (fun hHeld => ?_)
      generalize w2.drew = w3 at hHeld ⊢
      refine with_tabW rdE_tab3 rdE_bits3 (fun HT_ HW_ => ?_)
      refine pure_ (i := 0) (N := some 12) (v := ?_) (a' := ?_) #[true, false, false, false, false, false, false, false, false, false, false, false, false, false, false, false] rfl rfl (any_of HT_.out (by kernel_rfl)) (fun _ _ _ h => h) (Or.inl ⟨by rfl, ?_⟩) ?_ ?_
      rotate_left
      · intro w'
        go_simp
        with_reducible rfl
      rotate_left
      · simp only [Act.put, List.setIfInBounds_toArray, List.set_cons_zero, List.set_cons_succ, i64_w, i32_w]
        rfl
      refine pure_ (i := 1) (N := some 13) (v := ?_) (a' := ?_) #[true, true, false, false, false, false, false, false, false, false, false, false, false, false, false, false] rfl rfl (any_of HT_.out (by kernel_rfl)) (fun _ _ _ h => h) (Or.inl ⟨by rfl, ?_⟩) ?_ ?_
      rotate_left
      · intro w'
        go_simp
        with_reducible rfl
      rotate_left
      · simp only [Act.put, List.setIfInBounds_toArray, List.set_cons_zero, List.set_cons_succ, i64_w, i32_w]
        rfl
      refine take_ (i := 2) (N := some 14) (v := ?_) (a' := ?_) #[true, true, true, false, false, false, false, false, false, false, false, false, false, false, false, false] rfl rfl (take_ofW HT_.out HW_.out (by kernel_rfl)) (fun _ _ _ h => h) (Or.inl ⟨by rfl, ?_⟩) hHeld ?_ ?_
      rotate_left
      · rintro w' ⟨s0, s1, s2, s3, s4⟩
        go_simp
        with_reducible rfl
      rotate_left
      · simp only [Act.put, List.setIfInBounds_toArray, List.set_cons_zero, List.set_cons_succ, i64_w, i32_w]
        rfl
      refine pure_ (i := 3) (N := some 15) (v := ?_) (a' := ?_) #[true, true, true, true, false, false, false, false, false, false, false, false, false, false, false, false] rfl rfl (any_of HT_.out (by kernel_rfl)) (fun _ _ _ h => h) (Or.inl ⟨by rfl, ?_⟩) ?_ ?_
      rotate_left
      · intro w'
        go_simp
        with_reducible rfl
      rotate_left
      · simp only [Act.put, List.setIfInBounds_toArray, List.set_cons_zero, List.set_cons_succ, i64_w, i32_w]
        rfl
      refine pure_ (i := 4) (N := some 16) (v := ?_) (a' := ?_) #[true, true, true, true, true, false, false, false, false, false, false, false, false, false, false, false] rfl rfl (any_of HT_.out (by kernel_rfl)) (fun _ _ _ h => h) (Or.inl ⟨by rfl, ?_⟩) ?_ ?_
      rotate_left
      · intro w'
        go_simp
        with_reducible rfl
      rotate_left
      · simp only [Act.put, List.setIfInBounds_toArray, List.set_cons_zero, List.set_cons_succ, i64_w, i32_w]
        rfl
      refine pure_ (i := 5) (N := some 17) (v := ?_) (a' := ?_) #[true, true, true, true, true, true, false, false, false, false, false, false, false, false, false, false] rfl rfl (any_of HT_.out (by kernel_rfl)) (fun _ _ _ h => h) (Or.inl ⟨by rfl, ?_⟩) ?_ ?_
      rotate_left
      · intro w'
        go_simp
        with_reducible rfl
      rotate_left
      · simp only [Act.put, List.setIfInBounds_toArray, List.set_cons_zero, List.set_cons_succ, i64_w, i32_w]
        rfl
      refine take_ (i := 6) (N := some 18) (v := ?_) (a' := ?_) #[true, true, true, true, true, true, true, false, false, false, false, false, false, false, false, false] rfl rfl (take_ofW HT_.out HW_.out (by kernel_rfl)) (fun _ _ _ h => h) (Or.inl ⟨by rfl, ?_⟩) hHeld ?_ ?_
      rotate_left
      · rintro w' ⟨s0, s1, s2, s3, s4⟩
        go_simp
        with_reducible rfl
      rotate_left
      · simp only [Act.put, List.setIfInBounds_toArray, List.set_cons_zero, List.set_cons_succ, i64_w, i32_w]
        rfl
      refine pure_ (i := 7) (N := some 19) (v := ?_) (a' := ?_) #[true, true, true, true, true, true, true, true, false, false, false, false, false, false, false, false] rfl rfl (any_of HT_.out (by kernel_rfl)) (fun _ _ _ h => h) (Or.inl ⟨by rfl, ?_⟩) ?_ ?_
      rotate_left
      · intro w'
        go_simp
        with_reducible rfl
      rotate_left
      · simp only [Act.put, List.setIfInBounds_toArray, List.set_cons_zero, List.set_cons_succ, i64_w, i32_w]
        rfl
      refine pure_ (i := 8) (N := some 20) (v := ?_) (a' := ?_) #[true, true, true, true, true, true, true, true, true, false, false, false, false, false, false, false] rfl rfl (any_of HT_.out (by kernel_rfl)) (fun _ _ _ h => h) (Or.inl ⟨by rfl, ?_⟩) ?_ ?_
      rotate_left
      · intro w'
        go_simp
        with_reducible rfl
      rotate_left
      · simp only [Act.put, List.setIfInBounds_toArray, List.set_cons_zero, List.set_cons_succ, i64_w, i32_w]
        rfl
      refine take_ (i := 9) (N := some 21) (v := ?_) (a' := ?_) #[true, true, true, true, true, true, true, true, true, true, false, false, false, false, false, false] rfl rfl (take_ofW HT_.out HW_.out (by kernel_rfl)) (fun _ _ _ h => h) (Or.inl ⟨by rfl, ?_⟩) hHeld ?_ ?_
      rotate_left
      · rintro w' ⟨s0, s1, s2, s3, s4⟩
        go_simp
        with_reducible rfl
      rotate_left
      · simp only [Act.put, List.setIfInBounds_toArray, List.set_cons_zero, List.set_cons_succ, i64_w, i32_w]
        rfl
      refine pure_ (i := 10) (N := some 22) (v := ?_) (a' := ?_) #[true, true, true, true, true, true, true, true, true, true, true, false, false, false, false, false] rfl rfl (any_of HT_.out (by kernel_rfl)) (fun _ _ _ h => h) (Or.inl ⟨by rfl, ?_⟩) ?_ ?_
      rotate_left
      · intro w'
        go_simp
        with_reducible rfl
      rotate_left
      · simp only [Act.put, List.setIfInBounds_toArray, List.set_cons_zero, List.set_cons_succ, i64_w, i32_w]
        rfl
      refine pure_ (i := 11) (N := some 23) (v := ?_) (a' := ?_) #[true, true, true, true, true, true, true, true, true, true, true, true, false, false, false, false] rfl rfl (any_of HT_.out (by kernel_rfl)) (fun _ _ _ h => h) (Or.inl ⟨by rfl, ?_⟩) ?_ ?_
      rotate_left
      · intro w'
        go_simp
        with_reducible rfl
      rotate_left
      · simp only [Act.put, List.setIfInBounds_toArray, List.set_cons_zero, List.set_cons_succ, i64_w, i32_w]
        rfl
      refine take_ (i := 12) (N := some 24) (v := ?_) (a' := ?_) #[true, true, true, true, true, true, true, true, true, true, true, true, true, false, false, false] rfl rfl (take_ofW HT_.out HW_.out (by kernel_rfl)) (fun _ _ _ h => h) (Or.inl ⟨by rfl, ?_⟩) hHeld ?_ ?_
      rotate_left
      · rintro w' ⟨s0, s1, s2, s3, s4⟩
        go_simp
        with_reducible rfl
      rotate_left
      · simp only [Act.put, List.setIfInBounds_toArray, List.set_cons_zero, List.set_cons_succ, i64_w, i32_w]
        rfl
      refine pure_ (i := 13) (N := some 25) (v := ?_) (a' := ?_) #[true, true, true, true, true, true, true, true, true, true, true, true, true, true, false, false] rfl rfl (any_of HT_.out (by kernel_rfl)) (fun _ _ _ h => h) (Or.inl ⟨by rfl, ?_⟩) ?_ ?_
      rotate_left
      · intro w'
        go_simp
        with_reducible rfl
      rotate_left
      · simp only [Act.put, List.setIfInBounds_toArray, List.set_cons_zero, List.set_cons_succ, i64_w, i32_w]
        rfl
      refine one_ (i := 14) (N := some 5) #[true, true, true, true, true, true, true, true, true, true, true, true, true, true, true, false] rfl rfl (one_of HT_.out (by kernel_rfl)) (by decide) (fun K hK => ?_)
      go_simp
      rw [show wrap64 (v0 - 1) = v0 - 1 by unfold wrap64; omega]
      have hHeld3 := hHeld
      refine hK.out _ _ (hHeld.step (below_alloc (Below.refl _ _) _)) (fun hHeld => ?_)
      clear hK K
      refine one_ (i := 15) (N := none) #[true, true, true, true, true, true, true, true, true, true, true, true, true, true, true, true] rfl rfl (one_of HT_.out (by kernel_rfl)) (by decide) (fun K hK => ?_)
      go_simp
      refine hK.out _ _ (hHeld3.step (below_alloc (Below.refl _ _) _)) (fun hHeld => ?_)
      clear hK K
      refine done_ (done_of HT_.out (by kernel_rfl)) ?_
      have HX := Aside0.mk (blk_new w3 (.cells #[.int .i64 (v0 - 1), .int .i64 v1, .int .i64 v2, .slice A3 s1.length c3] 87))
      have HB5 := Aside0.mk (below_then HB2.out HB2.out.size hHeld.2.2.2.2)
      have HR5 := Aside0.mk (Kd.R_below HR2.out hHeld.2.2.2.2)
      have HBX := Aside0.mk ((hHeld.2.2.2.2.block _ (blk_lt2 HBX2.out)).trans HBX2.out)
      obtain ⟨g5, hg5⟩ : ∃ g5, g5 = w3.heap.size := ⟨_, rfl⟩
      rw [← hg5] at HX ⊢
      clear hg5 hHeld hHeld3 HR2 HB2 HZ HBX2
      generalize w3.alloc (.cells #[.int .i64 (v0 - 1), .int .i64 v1, .int .i64 v2, .slice A3 s1.length c3] 87) = w5 at HX HB5 HR5 HBX ⊢
      have x0 : w5.cell? ⟨g5, 0, none⟩ = some (.int .i64 (v0 - 1)) := (blk_cell HX.out 0).trans rfl
      have x1 : w5.cell? ⟨g5, 1, none⟩ = some (.int .i64 v1) := (blk_cell HX.out 1).trans rfl
      have x2 : w5.cell? ⟨g5, 2, none⟩ = some (.int .i64 v2) := (blk_cell HX.out 2).trans rfl
      have x3 : w5.cell? ⟨g5, 3, none⟩ = some (.slice A3 s1.length c3) := (blk_cell HX.out 3).trans rfl
      go_wp2_with (fail)
      rw [hm'] at hoo2
      have hE := rightEntry_calls ⟨v0 - 1, v1, v2, s1⟩ A3 c3 w5
      with_reducible refine hE.mono ?_
      clear hE
      rintro e w6 ⟨rfl, hB⟩
      have HX6 := Aside0.mk ((hB.block _ (blk_lt2 HX.out)).trans HX.out)
      have HBX6 := Aside0.mk ((hB.block _ (blk_lt2 HBX.out)).trans HBX.out)
      have HB6 := Aside0.mk (below_then HB5.out HB5.out.size hB)
      have HR6 := Aside0.mk (Kd.R_below HR5.out hB)
      clear hB x0 x1 x2 x3 HX HBX HB5 HR5
      obtain ⟨q, hq⟩ : ∃ q, q = goodEntry ⟨v0 - 1, v1, v2, s1⟩ := ⟨_, rfl⟩
      rw [← hq] at hoo2 ⊢
      cases q with
      | false =>
        have : o = none := hoo2
        subst this
        clear hoo2 hq
        go_wp2_with (go_at_call 94; refine (need_bad 12 _).mono ?_; rintro e w7 ⟨rfl, rfl⟩)
        exact ⟨rfl, HB6.out, 12, by decide, rfl⟩
      | true =>
        have : o = some ⟨v0 - 1, v1, v2, s1⟩ := hoo2
        subst this
        clear hoo2 hq
        have x0 : w6.cell? ⟨g5, 0, none⟩ = some (.int .i64 (v0 - 1)) := (blk_cell HX6.out 0).trans rfl
        have x1 : w6.cell? ⟨g5, 1, none⟩ = some (.int .i64 v1) := (blk_cell HX6.out 1).trans rfl
        have x2 : w6.cell? ⟨g5, 2, none⟩ = some (.int .i64 v2) := (blk_cell HX6.out 2).trans rfl
        have x3 : w6.cell? ⟨g5, 3, none⟩ = some (.slice A3 s1.length c3) := (blk_cell HX6.out 3).trans rfl
        go_wp2_with (first
          | (go_at_call 94; refine (need_ok 12 _).mono ?_; rintro e w7 ⟨rfl, rfl⟩)
          | (refine wpList_store_row rfl 87 (.tmp 2) (.tmp 29) rfl w.heap.size #[.int .i64 (v0 - 1), .int .i64 v1, .int .i64 v2, .slice A3 s1.length c3] rfl rfl 87 _ HBX6.out size87 rfl (by simp [Value.oneCell']) ?_; have HR8 := Aside0.mk (R_row HR6.out HBX6.out (by simp [Kd.int, Kd.scalar]) #[.int .i64 (v0 - 1), .int .i64 v1, .int .i64 v2, .slice A3 s1.length c3]); have HBX8 := Aside0.mk (setRow_heap _ _ _ #[.int .i64 (v0 - 1), .int .i64 v1, .int .i64 v2, .slice A3 s1.length c3] _ _ HBX6.out); have HB8 := Aside0.mk (below_setRow HB6.out (Nat.le_refl _) #[.int .i64 (v0 - 1), .int .i64 v1, .int .i64 v2, .slice A3 s1.length c3])))
        exact bodyPost_ret (v := .agg #[.int .i64 (v0 - 1), .int .i64 v1, .int .i64 v2, .slice A3 s1.length c3]) (results_cell_row rfl _ _ w.heap.size 87 _ _ _ rfl HBX8.out hu87 rfl size87) rfl ⟨HB8.out, A3, c3, rfl, HR8.out⟩
end Go.Proofs.Ytijccobeljoikaa.Ms

/- msg: a letter of bytes. -/
namespace Go.Proofs.Ytijccobeljoikaa.Ms
open Go.RowKit Go.Proofs.YtijccobeljoikaaW.PrintWords Go.Proofs.YtijccobeljoikaaW.PrintLast
open Go.Proofs.Ytijccobeljoikaa.Plain Go.Proofs.Ytijccobeljoikaa.Walks
set_option linter.unusedVariables false
set_option linter.unusedSimpArgs false

/-- What reading a letter comes to. -/
def LetterPost (w : World) (o : Option S72) (e : Ending) (w' : World) : Prop :=
  Below w.heap.size w w' ∧ match o with
    | some x => ∃ A3 c3 A4 c4, e = .returned (.agg #[.int .i64 x.f0.f0, .int .i64 x.f0.f1, .int .i64 x.f1, .slice A3 x.f2.length c3, .slice A4 x.f3.length c4]) ∧ k72.M w' w.heap.size (fun k => w.heap.size ≤ k) x [.int .i64 x.f0.f0, .int .i64 x.f0.f1, .int .i64 x.f1, .slice A3 x.f2.length c3, .slice A4 x.f3.length c4]
    | none => ∃ y, y ≠ 0 ∧ e = .panicked (fault y)
theorem splitO_cases (l : List Int) : (∃ rs x, splitP l = (rs, x) ∧ x ≠ 0 ∧ splitO l = none) ∨ ∃ rs, splitP l = (rs, 0) ∧ splitO l = some rs := by
  obtain ⟨rs, x, h⟩ : ∃ rs x, splitP l = (rs, x) := ⟨_, _, rfl⟩
  by_cases hx : x = 0
  · subst hx
    exact .inr ⟨rs, h, by rw [splitO, h, if_pos rfl]⟩
  · exact .inl ⟨rs, x, h, hx, by rw [splitO, h, if_neg hx]⟩
/-- Five cells, and what was there is as it was. -/
def At5 (p0 p1 p2 p3 p4 : Addr) (v0 v1 v2 v3 v4 : Value) (w0 w' : World) : Prop := w'.cell? p0 = some v0 ∧ w'.cell? p1 = some v1 ∧ w'.cell? p2 = some v2 ∧ w'.cell? p3 = some v3 ∧ w'.cell? p4 = some v4 ∧ Below w0.heap.size w0 w'
theorem At5.step {p0 p1 p2 p3 p4 : Addr} {v0 v1 v2 v3 v4 : Value} {w0 w1 w2 : World} (h : At5 p0 p1 p2 p3 p4 v0 v1 v2 v3 v4 w0 w1) (hB : Below w1.heap.size w1 w2) : At5 p0 p1 p2 p3 p4 v0 v1 v2 v3 v4 w0 w2 :=
  ⟨cell_step h.1 hB, cell_step h.2.1 hB, cell_step h.2.2.1 hB, cell_step h.2.2.2.1 hB, cell_step h.2.2.2.2.1 hB, below_step h.2.2.2.2.2 hB⟩
theorem At5.row {p0 p1 p2 p3 p4 : Addr} {v0 v1 v2 v3 v4 : Value} {w0 w' : World} {g : Nat} (h0 : At5 p0 p1 p2 p3 p4 v0 v1 v2 v3 v4 w0 w0) (h : At5 p0 p1 p2 p3 p4 v0 v1 v2 v3 v4 w0 w') (hg : w0.heap.size ≤ g) (cs : Array Value) : At5 p0 p1 p2 p3 p4 v0 v1 v2 v3 v4 w0 (w'.setRow g cs) := by
  have k : ∀ {p : Addr} {v : Value}, w0.cell? p = some v → w'.cell? p = some v → (w'.setRow g cs).cell? p = some v := fun {p v} h1 h2 => by
    have := World.block_lt_of_cell? _ _ h1
    rw [cell_setRow_other _ _ _ _ (by omega)]; exact h2
  exact ⟨k h0.1 h.1, k h0.2.1 h.2.1, k h0.2.2.1 h.2.2.1, k h0.2.2.2.1 h.2.2.2.1, k h0.2.2.2.2.1 h.2.2.2.2.1, below_setRow h.2.2.2.2.2 hg cs⟩
def rdL_T3 : Bool × List (List Nat × List Nat) := (true, [([], []), ([0], [0]), ([1], [1]), ([], []), ([3], [3]), ([4], [4]), ([2, 5], [2, 5]), ([], []), ([7], [7]), ([8], [8]), ([], []), ([10], [10]), ([11], [11]), ([], []), ([13], [13]), ([14], [14]), ([15], [15]), ([6, 9, 12, 16], [6, 9, 12, 16]), ([], []), ([18, 17, 16, 0, 1, 2, 3, 4, 5, 6, 7, 8, 9, 10, 11, 12, 13, 14, 15, 16, 17, 18], [17, 18])])
def rdL_B3 : List Nat := [0, 1, 3, 0, 8, 24, 63, 0, 128, 384, 0, 1024, 3072, 0, 8192, 24576, 57344, 131071, 0, 524287]
theorem rdL_tab3 : rtab .any (opsOf Try.f121 3) = rdL_T3 := by kernel_rfl
theorem rdL_bits3 : waitsOk rdL_T3.2 rdL_B3 = true := by kernel_rfl
set_option maxHeartbeats 8000000 in
set_option maxRecDepth 100000 in
theorem readLetter_calls (A : Option Addr) (c : Nat) (l : List Int) (o : Option S72) (w : World) (hC : Kd.C (Kd.int .u8) w A l.length l) (hc : l.length ≤ c) (hb : Byte l) (hl : l.length < 17592186044416) (ho : letterO l = o) :
    Calls Try.prog 121 #[.slice A l.length c] w fun e w' => LetterPost w o e w' := by
  have hu72 := Try.underlying72
  have hu70 := Try.underlying70
  have HC := Aside0.mk (Kd.C_alloc hC (.cells #[.int .i64 0, .int .i64 0, .int .i64 0, .slice none 0 0, .slice none 0 0] 72))
  have HB0 := Aside0.mk (below_alloc (Below.refl w.heap.size w) (.cells #[.int .i64 0, .int .i64 0, .int .i64 0, .slice none 0 0, .slice none 0 0] 72))
  have Hc := Aside0.mk hc
  have HBy := Aside0.mk hb
  have HL := Aside0.mk hl
  rcases split_cases l 3 with ⟨rs, x, hs, hbad, hf⟩ | ⟨rs, hs, hn, hf⟩
  · have HS := Aside0.mk hs
    have HX := Aside0.mk hbad
    have : o = none := by rw [← ho, letterO, hf]; rfl
    subst this
    clear hC hc hb hl ho hf hs hbad
    go_enter Try.func121, Try.ntmps121
    go_wp2_with (go_at_call 148; refine (fields_bad A c 3 l rs x _ HC.out Hc.out HBy.out (by have := HL.out; omega) HS.out HX.out).mono ?_; rintro e w1 ⟨⟨y, hy, rfl⟩, hB⟩; have HB1 := Aside0.mk (And.intro hy (below_then HB0.out (below_size HB0.out) hB)); clear hB hy)
    exact ⟨rfl, HB1.out.2, y, HB1.out.1, rfl⟩
  · obtain ⟨s0, s1, s2, rfl⟩ := three hn
    obtain ⟨hj, hbs, _⟩ := fieldsO_some hb hf
    have hls := (joinP_some hj).2.1
    have HS := Aside0.mk hs
    have Hb0 := Aside0.mk (hbs s0 (by simp))
    have Hl0 := Aside0.mk (hls s0 (by simp))
    have Hb2 := Aside0.mk (hbs s2 (by simp))
    have Hl2 := Aside0.mk (hls s2 (by simp))
    have hoo : o = (intsO s0 3).bind fun v => (splitO s2).bind fun t => if goodLetter (mkLetter [s0, s1, s2] v t) then some (mkLetter [s0, s1, s2] v t) else none := by rw [← ho, letterO, hf]; rfl
    clear hC hc hb hl ho hf hs hj hbs hls hn
    go_enter Try.func121, Try.ntmps121
    go_wp2_with (fail)
    refine (fields_ok A c 3 l [s0, s1, s2] _ HC.out Hc.out HBy.out (by have := HL.out; omega) HS.out rfl).mono ?_
    rintro e w1 ⟨A1, c1, rfl, hG⟩
    obtain ⟨g1, rfl, hg1⟩ := got_head hG (by simp)
    obtain ⟨A2, c2, y0, hR0⟩ := rows_at hG 0 (by simp)
    obtain ⟨A3, c3, y1, hR1⟩ := rows_at hG 1 (by simp)
    obtain ⟨A5, c5, y2, hR2⟩ := rows_at hG 2 (by simp)
    simp only [List.getElem_cons_zero, List.getElem_cons_succ] at y0 hR0 y1 hR1 y2 hR2
    have HB1 := Aside0.mk (below_then HB0.out (below_size HB0.out) hG.keep)
    have HR0 := Aside0.mk hR0
    have HR1 := Aside0.mk (Kd.R_mono (Kd.R_lower hR1 (below_size HB0.out)) (fun k hk => Nat.le_trans (below_size HB0.out) hk))
    have HR2a := Aside0.mk hR2
    have HY1 := Aside0.mk (And.intro y1 y2)
    have HBX1 := Aside0.mk ((hG.keep.block w.heap.size (by simp)).trans (blk_new w _))
    clear hG hR0 hR1 hR2 hg1 y1 y2
    rcases ints_cases s0 3 with ⟨vs, x, hi, hbad, hf⟩ | ⟨vs, hi, hn, hf⟩
    · rw [hf] at hoo
      have : o = none := hoo
      subst this
      have HI := Aside0.mk hi
      have HX := Aside0.mk hbad
      clear hoo hf hi hbad
      go_wp2_with (go_at_call 108; refine (ints_bad A2 c2 3 s0 vs x w1 (Kd.R_reads' HR0.out).2.2 (Kd.R_reads' HR0.out).2.1 Hb0.out (by have := Hl0.out; omega) HI.out HX.out).mono ?_; rintro e w2 ⟨rfl, hB⟩; have HB2 := Aside0.mk (below_then HB1.out HB1.out.size hB); clear hB)
      exact ⟨rfl, HB2.out, 12, by decide, rfl⟩
    · obtain ⟨v0, v1, v2, rfl⟩ := three hn
      rw [hf] at hoo
      have HI := Aside0.mk hi
      have hoo2 : o = (splitO s2).bind fun t => if goodLetter ⟨⟨v0, v1⟩, v2, s1, t⟩ then some ⟨⟨v0, v1⟩, v2, s1, t⟩ else none := hoo
      clear hoo hf hi hn
      go_wp2_with (fail)
      refine (ints_ok A2 c2 3 s0 [v0, v1, v2] w1 (Kd.R_reads' HR0.out).2.2 (Kd.R_reads' HR0.out).2.1 Hb0.out (by have := Hl0.out; omega) HI.out rfl).mono ?_
      rintro e w2 ⟨A4, c4, rfl, hG⟩
      obtain ⟨g4, rfl, hg4⟩ := got_head hG (by simp)
      have z0 := nums_at hG 0 (by simp)
      have z1 := nums_at hG 1 (by simp)
      have z2 := nums_at hG 2 (by simp)
      simp only [List.getElem_cons_zero, List.getElem_cons_succ] at z0 z1 z2
      have HB2 := Aside0.mk (below_then HB1.out HB1.out.size hG.keep)
      have HR3 := Aside0.mk (Kd.R_below HR1.out hG.keep)
      have HR2 := Aside0.mk (Kd.R_below HR2a.out hG.keep)
      have HZ := Aside0.mk (And.intro z0 (And.intro z1 (And.intro z2 (And.intro (cell_step HY1.out.1 hG.keep) (cell_step HY1.out.2 hG.keep)))))
      have HBX2 := Aside0.mk ((hG.keep.block _ (blk_lt2 HBX1.out)).trans HBX1.out)
      clear hG hg4 z0 z1 z2 HR1 HB1 HY1 y0 HBX1 HR2a
      rcases splitO_cases s2 with ⟨ts, y, ht, hy, hto⟩ | ⟨ts, ht, hto⟩
      · have : o = none := by rw [hoo2, hto]; rfl
        subst this
        have HT := Aside0.mk ht
        have HY := Aside0.mk hy
        clear hoo2 hto ht hy
        go_upto_region 3 with (fail)
        refine start_ (n := 20) (S := At5 ⟨g4, 0, none⟩ ⟨g4, 1, none⟩ ⟨g4, 2, none⟩ ⟨g1, 1, none⟩ ⟨g1, 2, none⟩ (.int .i64 v0) (.int .i64 v1) (.int .i64 v2) (.slice A3 s1.length c3) (.slice A5 s2.length c5) w2) (ds := []) #[false, false, false, false, false, false, false, false, false, false, false, false, false, false, false, false, false, false, false, false] (by kernel_rfl) rfl rfl
          ⟨HZ.out.1, HZ.out.2.1, HZ.out.2.2.1, HZ.out.2.2.2.1, HZ.out.2.2.2.2, below_drew1 (Below.refl _ _)⟩ (fun hHeld => ?_)
        generalize w2.drew = w3 at hHeld ⊢
        refine with_tabW rdL_tab3 rdL_bits3 (fun HT_ HW_ => ?_)
        refine pure_ (i := 0) (N := some 12) (v := ?_) (a' := ?_) #[true, false, false, false, false, false, false, false, false, false, false, false, false, false, false, false, false, false, false, false] rfl rfl (any_of HT_.out (by kernel_rfl)) (fun _ _ _ h => h) (Or.inl ⟨by rfl, ?_⟩) ?_ ?_
        rotate_left
        · intro w'
          go_simp
          with_reducible rfl
        rotate_left
        · simp only [Act.put, List.setIfInBounds_toArray, List.set_cons_zero, List.set_cons_succ, i64_w, i32_w]
          rfl
        refine pure_ (i := 1) (N := some 13) (v := ?_) (a' := ?_) #[true, true, false, false, false, false, false, false, false, false, false, false, false, false, false, false, false, false, false, false] rfl rfl (any_of HT_.out (by kernel_rfl)) (fun _ _ _ h => h) (Or.inl ⟨by rfl, ?_⟩) ?_ ?_
        rotate_left
        · intro w'
          go_simp
          with_reducible rfl
        rotate_left
        · simp only [Act.put, List.setIfInBounds_toArray, List.set_cons_zero, List.set_cons_succ, i64_w, i32_w]
          rfl
        refine take_ (i := 2) (N := some 14) (v := ?_) (a' := ?_) #[true, true, true, false, false, false, false, false, false, false, false, false, false, false, false, false, false, false, false, false] rfl rfl (take_ofW HT_.out HW_.out (by kernel_rfl)) (fun _ _ _ h => h) (Or.inl ⟨by rfl, ?_⟩) hHeld ?_ ?_
        rotate_left
        · rintro w' ⟨s0, s1, s2, s3, s4, s5⟩
          go_simp
          with_reducible rfl
        rotate_left
        · simp only [Act.put, List.setIfInBounds_toArray, List.set_cons_zero, List.set_cons_succ, i64_w, i32_w]
          rfl
        refine pure_ (i := 3) (N := some 15) (v := ?_) (a' := ?_) #[true, true, true, true, false, false, false, false, false, false, false, false, false, false, false, false, false, false, false, false] rfl rfl (any_of HT_.out (by kernel_rfl)) (fun _ _ _ h => h) (Or.inl ⟨by rfl, ?_⟩) ?_ ?_
        rotate_left
        · intro w'
          go_simp
          with_reducible rfl
        rotate_left
        · simp only [Act.put, List.setIfInBounds_toArray, List.set_cons_zero, List.set_cons_succ, i64_w, i32_w]
          rfl
        refine pure_ (i := 4) (N := some 16) (v := ?_) (a' := ?_) #[true, true, true, true, true, false, false, false, false, false, false, false, false, false, false, false, false, false, false, false] rfl rfl (any_of HT_.out (by kernel_rfl)) (fun _ _ _ h => h) (Or.inl ⟨by rfl, ?_⟩) ?_ ?_
        rotate_left
        · intro w'
          go_simp
          with_reducible rfl
        rotate_left
        · simp only [Act.put, List.setIfInBounds_toArray, List.set_cons_zero, List.set_cons_succ, i64_w, i32_w]
          rfl
        refine take_ (i := 5) (N := some 17) (v := ?_) (a' := ?_) #[true, true, true, true, true, true, false, false, false, false, false, false, false, false, false, false, false, false, false, false] rfl rfl (take_ofW HT_.out HW_.out (by kernel_rfl)) (fun _ _ _ h => h) (Or.inl ⟨by rfl, ?_⟩) hHeld ?_ ?_
        rotate_left
        · rintro w' ⟨s0, s1, s2, s3, s4, s5⟩
          go_simp
          with_reducible rfl
        rotate_left
        · simp only [Act.put, List.setIfInBounds_toArray, List.set_cons_zero, List.set_cons_succ, i64_w, i32_w]
          rfl
        refine pure_ (i := 6) (N := some 18) (v := ?_) (a' := ?_) #[true, true, true, true, true, true, true, false, false, false, false, false, false, false, false, false, false, false, false, false] rfl rfl (any_of HT_.out (by kernel_rfl)) (fun _ _ _ h => h) (Or.inl ⟨by rfl, ?_⟩) ?_ ?_
        rotate_left
        · intro w'
          go_simp
          with_reducible rfl
        rotate_left
        · simp only [Act.put, List.setIfInBounds_toArray, List.set_cons_zero, List.set_cons_succ, i64_w, i32_w]
          rfl
        refine pure_ (i := 7) (N := some 19) (v := ?_) (a' := ?_) #[true, true, true, true, true, true, true, true, false, false, false, false, false, false, false, false, false, false, false, false] rfl rfl (any_of HT_.out (by kernel_rfl)) (fun _ _ _ h => h) (Or.inl ⟨by rfl, ?_⟩) ?_ ?_
        rotate_left
        · intro w'
          go_simp
          with_reducible rfl
        rotate_left
        · simp only [Act.put, List.setIfInBounds_toArray, List.set_cons_zero, List.set_cons_succ, i64_w, i32_w]
          rfl
        refine pure_ (i := 8) (N := some 20) (v := ?_) (a' := ?_) #[true, true, true, true, true, true, true, true, true, false, false, false, false, false, false, false, false, false, false, false] rfl rfl (any_of HT_.out (by kernel_rfl)) (fun _ _ _ h => h) (Or.inl ⟨by rfl, ?_⟩) ?_ ?_
        rotate_left
        · intro w'
          go_simp
          with_reducible rfl
        rotate_left
        · simp only [Act.put, List.setIfInBounds_toArray, List.set_cons_zero, List.set_cons_succ, i64_w, i32_w]
          rfl
        refine take_ (i := 9) (N := some 21) (v := ?_) (a' := ?_) #[true, true, true, true, true, true, true, true, true, true, false, false, false, false, false, false, false, false, false, false] rfl rfl (take_ofW HT_.out HW_.out (by kernel_rfl)) (fun _ _ _ h => h) (Or.inl ⟨by rfl, ?_⟩) hHeld ?_ ?_
        rotate_left
        · rintro w' ⟨s0, s1, s2, s3, s4, s5⟩
          go_simp
          with_reducible rfl
        rotate_left
        · simp only [Act.put, List.setIfInBounds_toArray, List.set_cons_zero, List.set_cons_succ, i64_w, i32_w]
          rfl
        refine pure_ (i := 10) (N := some 22) (v := ?_) (a' := ?_) #[true, true, true, true, true, true, true, true, true, true, true, false, false, false, false, false, false, false, false, false] rfl rfl (any_of HT_.out (by kernel_rfl)) (fun _ _ _ h => h) (Or.inl ⟨by rfl, ?_⟩) ?_ ?_
        rotate_left
        · intro w'
          go_simp
          with_reducible rfl
        rotate_left
        · simp only [Act.put, List.setIfInBounds_toArray, List.set_cons_zero, List.set_cons_succ, i64_w, i32_w]
          rfl
        refine pure_ (i := 11) (N := some 23) (v := ?_) (a' := ?_) #[true, true, true, true, true, true, true, true, true, true, true, true, false, false, false, false, false, false, false, false] rfl rfl (any_of HT_.out (by kernel_rfl)) (fun _ _ _ h => h) (Or.inl ⟨by rfl, ?_⟩) ?_ ?_
        rotate_left
        · intro w'
          go_simp
          with_reducible rfl
        rotate_left
        · simp only [Act.put, List.setIfInBounds_toArray, List.set_cons_zero, List.set_cons_succ, i64_w, i32_w]
          rfl
        refine take_ (i := 12) (N := some 24) (v := ?_) (a' := ?_) #[true, true, true, true, true, true, true, true, true, true, true, true, true, false, false, false, false, false, false, false] rfl rfl (take_ofW HT_.out HW_.out (by kernel_rfl)) (fun _ _ _ h => h) (Or.inl ⟨by rfl, ?_⟩) hHeld ?_ ?_
        rotate_left
        · rintro w' ⟨s0, s1, s2, s3, s4, s5⟩
          go_simp
          with_reducible rfl
        rotate_left
        · simp only [Act.put, List.setIfInBounds_toArray, List.set_cons_zero, List.set_cons_succ, i64_w, i32_w]
          rfl
        refine pure_ (i := 13) (N := some 25) (v := ?_) (a' := ?_) #[true, true, true, true, true, true, true, true, true, true, true, true, true, true, false, false, false, false, false, false] rfl rfl (any_of HT_.out (by kernel_rfl)) (fun _ _ _ h => h) (Or.inl ⟨by rfl, ?_⟩) ?_ ?_
        rotate_left
        · intro w'
          go_simp
          with_reducible rfl
        rotate_left
        · simp only [Act.put, List.setIfInBounds_toArray, List.set_cons_zero, List.set_cons_succ, i64_w, i32_w]
          rfl
        refine pure_ (i := 14) (N := some 26) (v := ?_) (a' := ?_) #[true, true, true, true, true, true, true, true, true, true, true, true, true, true, true, false, false, false, false, false] rfl rfl (any_of HT_.out (by kernel_rfl)) (fun _ _ _ h => h) (Or.inl ⟨by rfl, ?_⟩) ?_ ?_
        rotate_left
        · intro w'
          go_simp
          with_reducible rfl
        rotate_left
        · simp only [Act.put, List.setIfInBounds_toArray, List.set_cons_zero, List.set_cons_succ, i64_w, i32_w]
          rfl
        refine take_ (i := 15) (N := some 27) (v := ?_) (a' := ?_) #[true, true, true, true, true, true, true, true, true, true, true, true, true, true, true, true, false, false, false, false] rfl rfl (take_ofW HT_.out HW_.out (by kernel_rfl)) (fun _ _ _ h => h) (Or.inl ⟨by rfl, ?_⟩) hHeld ?_ ?_
        rotate_left
        · rintro w' ⟨s0, s1, s2, s3, s4, s5⟩
          go_simp
          with_reducible rfl
        rotate_left
        · simp only [Act.put, List.setIfInBounds_toArray, List.set_cons_zero, List.set_cons_succ, i64_w, i32_w]
          rfl
        refine two_ (i := 16) (j := 18) (Ni := some 28) (Nj := some 5) #[true, true, true, true, true, true, true, true, true, true, true, true, true, true, true, true, true, false, false, false] #[true, true, true, true, true, true, true, true, true, true, true, true, true, true, true, true, false, false, true, false] rfl rfl rfl rfl (two_of HT_.out (by kernel_rfl)) (by decide) (by decide) (fun K hK => ?_) (fun K hK => ?_)
        · skip
          go_simp
          go_at_call 107
          refine (split_bad A5 c5 s2 ts y _ (Kd.R_reads' (Kd.R_below HR2.out hHeld.2.2.2.2.2)).2.2 (Kd.R_reads' HR2.out).2.1 Hb2.out (by have := Hl2.out; omega) HT.out HY.out).mono ?_
          rintro e w7 ⟨rfl, hB⟩
          exact ⟨rfl, below_then HB2.out HB2.out.size (below_then hHeld.2.2.2.2.2 hHeld.2.2.2.2.2.size hB), y, HY.out, rfl⟩
        · skip
          go_simp
          refine hK.out _ _ (hHeld.step (below_alloc (Below.refl _ _) _)) (fun hHeld => ?_)
          clear hK K
          refine one_ (i := 16) (N := some 28) #[true, true, true, true, true, true, true, true, true, true, true, true, true, true, true, true, true, false, true, false] rfl rfl (one_of HT_.out (by kernel_rfl)) (by decide) (fun K hK => ?_)
          go_simp
          go_at_call 107
          refine (split_bad A5 c5 s2 ts y _ (Kd.R_reads' (Kd.R_below HR2.out hHeld.2.2.2.2.2)).2.2 (Kd.R_reads' HR2.out).2.1 Hb2.out (by have := Hl2.out; omega) HT.out HY.out).mono ?_
          rintro e w7 ⟨rfl, hB⟩
          exact ⟨rfl, below_then HB2.out HB2.out.size (below_then hHeld.2.2.2.2.2 hHeld.2.2.2.2.2.size hB), y, HY.out, rfl⟩
      · rw [hto] at hoo2
        have HT := Aside0.mk ht
        have hoo3 : o = if goodLetter ⟨⟨v0, v1⟩, v2, s1, ts⟩ then some ⟨⟨v0, v1⟩, v2, s1, ts⟩ else none := hoo2
        clear hoo2 hto ht
        go_upto_region 3 with (fail)
        refine start_ (n := 20) (S := At5 ⟨g4, 0, none⟩ ⟨g4, 1, none⟩ ⟨g4, 2, none⟩ ⟨g1, 1, none⟩ ⟨g1, 2, none⟩ (.int .i64 v0) (.int .i64 v1) (.int .i64 v2) (.slice A3 s1.length c3) (.slice A5 s2.length c5) w2) (ds := []) #[false, false, false, false, false, false, false, false, false, false, false, false, false, false, false, false, false, false, false, false] (by kernel_rfl) rfl rfl
          ⟨HZ.out.1, HZ.out.2.1, HZ.out.2.2.1, HZ.out.2.2.2.1, HZ.out.2.2.2.2, below_drew1 (Below.refl _ _)⟩ (fun hHeld => ?_)
        generalize w2.drew = w3 at hHeld ⊢
        refine with_tabW rdL_tab3 rdL_bits3 (fun HT_ HW_ => ?_)
        refine pure_ (i := 0) (N := some 12) (v := ?_) (a' := ?_) #[true, false, false, false, false, false, false, false, false, false, false, false, false, false, false, false, false, false, false, false] rfl rfl (any_of HT_.out (by kernel_rfl)) (fun _ _ _ h => h) (Or.inl ⟨by rfl, ?_⟩) ?_ ?_
        rotate_left
        · intro w'
          go_simp
          with_reducible rfl
        rotate_left
        · simp only [Act.put, List.setIfInBounds_toArray, List.set_cons_zero, List.set_cons_succ, i64_w, i32_w]
          rfl
        refine pure_ (i := 1) (N := some 13) (v := ?_) (a' := ?_) #[true, true, false, false, false, false, false, false, false, false, false, false, false, false, false, false, false, false, false, false] rfl rfl (any_of HT_.out (by kernel_rfl)) (fun _ _ _ h => h) (Or.inl ⟨by rfl, ?_⟩) ?_ ?_
        rotate_left
        · intro w'
          go_simp
          with_reducible rfl
        rotate_left
        · simp only [Act.put, List.setIfInBounds_toArray, List.set_cons_zero, List.set_cons_succ, i64_w, i32_w]
          rfl
        refine take_ (i := 2) (N := some 14) (v := ?_) (a' := ?_) #[true, true, true, false, false, false, false, false, false, false, false, false, false, false, false, false, false, false, false, false] rfl rfl (take_ofW HT_.out HW_.out (by kernel_rfl)) (fun _ _ _ h => h) (Or.inl ⟨by rfl, ?_⟩) hHeld ?_ ?_
        rotate_left
        · rintro w' ⟨s0, s1, s2, s3, s4, s5⟩
          go_simp
          with_reducible rfl
        rotate_left
        · simp only [Act.put, List.setIfInBounds_toArray, List.set_cons_zero, List.set_cons_succ, i64_w, i32_w]
          rfl
        refine pure_ (i := 3) (N := some 15) (v := ?_) (a' := ?_) #[true, true, true, true, false, false, false, false, false, false, false, false, false, false, false, false, false, false, false, false] rfl rfl (any_of HT_.out (by kernel_rfl)) (fun _ _ _ h => h) (Or.inl ⟨by rfl, ?_⟩) ?_ ?_
        rotate_left
        · intro w'
          go_simp
          with_reducible rfl
        rotate_left
        · simp only [Act.put, List.setIfInBounds_toArray, List.set_cons_zero, List.set_cons_succ, i64_w, i32_w]
          rfl
        refine pure_ (i := 4) (N := some 16) (v := ?_) (a' := ?_) #[true, true, true, true, true, false, false, false, false, false, false, false, false, false, false, false, false, false, false, false] rfl rfl (any_of HT_.out (by kernel_rfl)) (fun _ _ _ h => h) (Or.inl ⟨by rfl, ?_⟩) ?_ ?_
        rotate_left
        · intro w'
          go_simp
          with_reducible rfl
        rotate_left
        · simp only [Act.put, List.setIfInBounds_toArray, List.set_cons_zero, List.set_cons_succ, i64_w, i32_w]
          rfl
        refine take_ (i := 5) (N := some 17) (v := ?_) (a' := ?_) #[true, true, true, true, true, true, false, false, false, false, false, false, false, false, false, false, false, false, false, false] rfl rfl (take_ofW HT_.out HW_.out (by kernel_rfl)) (fun _ _ _ h => h) (Or.inl ⟨by rfl, ?_⟩) hHeld ?_ ?_
        rotate_left
        · rintro w' ⟨s0, s1, s2, s3, s4, s5⟩
          go_simp
          with_reducible rfl
        rotate_left
        · simp only [Act.put, List.setIfInBounds_toArray, List.set_cons_zero, List.set_cons_succ, i64_w, i32_w]
          rfl
        refine pure_ (i := 6) (N := some 18) (v := ?_) (a' := ?_) #[true, true, true, true, true, true, true, false, false, false, false, false, false, false, false, false, false, false, false, false] rfl rfl (any_of HT_.out (by kernel_rfl)) (fun _ _ _ h => h) (Or.inl ⟨by rfl, ?_⟩) ?_ ?_
        rotate_left
        · intro w'
          go_simp
          with_reducible rfl
        rotate_left
        · simp only [Act.put, List.setIfInBounds_toArray, List.set_cons_zero, List.set_cons_succ, i64_w, i32_w]
          rfl
        refine pure_ (i := 7) (N := some 19) (v := ?_) (a' := ?_) #[true, true, true, true, true, true, true, true, false, false, false, false, false, false, false, false, false, false, false, false] rfl rfl (any_of HT_.out (by kernel_rfl)) (fun _ _ _ h => h) (Or.inl ⟨by rfl, ?_⟩) ?_ ?_
        rotate_left
        · intro w'
          go_simp
          with_reducible rfl
        rotate_left
        · simp only [Act.put, List.setIfInBounds_toArray, List.set_cons_zero, List.set_cons_succ, i64_w, i32_w]
          rfl
        refine pure_ (i := 8) (N := some 20) (v := ?_) (a' := ?_) #[true, true, true, true, true, true, true, true, true, false, false, false, false, false, false, false, false, false, false, false] rfl rfl (any_of HT_.out (by kernel_rfl)) (fun _ _ _ h => h) (Or.inl ⟨by rfl, ?_⟩) ?_ ?_
        rotate_left
        · intro w'
          go_simp
          with_reducible rfl
        rotate_left
        · simp only [Act.put, List.setIfInBounds_toArray, List.set_cons_zero, List.set_cons_succ, i64_w, i32_w]
          rfl
        refine take_ (i := 9) (N := some 21) (v := ?_) (a' := ?_) #[true, true, true, true, true, true, true, true, true, true, false, false, false, false, false, false, false, false, false, false] rfl rfl (take_ofW HT_.out HW_.out (by kernel_rfl)) (fun _ _ _ h => h) (Or.inl ⟨by rfl, ?_⟩) hHeld ?_ ?_
        rotate_left
        · rintro w' ⟨s0, s1, s2, s3, s4, s5⟩
          go_simp
          with_reducible rfl
        rotate_left
        · simp only [Act.put, List.setIfInBounds_toArray, List.set_cons_zero, List.set_cons_succ, i64_w, i32_w]
          rfl
        refine pure_ (i := 10) (N := some 22) (v := ?_) (a' := ?_) #[true, true, true, true, true, true, true, true, true, true, true, false, false, false, false, false, false, false, false, false] rfl rfl (any_of HT_.out (by kernel_rfl)) (fun _ _ _ h => h) (Or.inl ⟨by rfl, ?_⟩) ?_ ?_
        rotate_left
        · intro w'
          go_simp
          with_reducible rfl
        rotate_left
        · simp only [Act.put, List.setIfInBounds_toArray, List.set_cons_zero, List.set_cons_succ, i64_w, i32_w]
          rfl
        refine pure_ (i := 11) (N := some 23) (v := ?_) (a' := ?_) #[true, true, true, true, true, true, true, true, true, true, true, true, false, false, false, false, false, false, false, false] rfl rfl (any_of HT_.out (by kernel_rfl)) (fun _ _ _ h => h) (Or.inl ⟨by rfl, ?_⟩) ?_ ?_
        rotate_left
        · intro w'
          go_simp
          with_reducible rfl
        rotate_left
        · simp only [Act.put, List.setIfInBounds_toArray, List.set_cons_zero, List.set_cons_succ, i64_w, i32_w]
          rfl
        refine take_ (i := 12) (N := some 24) (v := ?_) (a' := ?_) #[true, true, true, true, true, true, true, true, true, true, true, true, true, false, false, false, false, false, false, false] rfl rfl (take_ofW HT_.out HW_.out (by kernel_rfl)) (fun _ _ _ h => h) (Or.inl ⟨by rfl, ?_⟩) hHeld ?_ ?_
        rotate_left
        · rintro w' ⟨s0, s1, s2, s3, s4, s5⟩
          go_simp
          with_reducible rfl
        rotate_left
        · simp only [Act.put, List.setIfInBounds_toArray, List.set_cons_zero, List.set_cons_succ, i64_w, i32_w]
          rfl
        refine pure_ (i := 13) (N := some 25) (v := ?_) (a' := ?_) #[true, true, true, true, true, true, true, true, true, true, true, true, true, true, false, false, false, false, false, false] rfl rfl (any_of HT_.out (by kernel_rfl)) (fun _ _ _ h => h) (Or.inl ⟨by rfl, ?_⟩) ?_ ?_
        rotate_left
        · intro w'
          go_simp
          with_reducible rfl
        rotate_left
        · simp only [Act.put, List.setIfInBounds_toArray, List.set_cons_zero, List.set_cons_succ, i64_w, i32_w]
          rfl
        refine pure_ (i := 14) (N := some 26) (v := ?_) (a' := ?_) #[true, true, true, true, true, true, true, true, true, true, true, true, true, true, true, false, false, false, false, false] rfl rfl (any_of HT_.out (by kernel_rfl)) (fun _ _ _ h => h) (Or.inl ⟨by rfl, ?_⟩) ?_ ?_
        rotate_left
        · intro w'
          go_simp
          with_reducible rfl
        rotate_left
        · simp only [Act.put, List.setIfInBounds_toArray, List.set_cons_zero, List.set_cons_succ, i64_w, i32_w]
          rfl
        refine take_ (i := 15) (N := some 27) (v := ?_) (a' := ?_) #[true, true, true, true, true, true, true, true, true, true, true, true, true, true, true, true, false, false, false, false] rfl rfl (take_ofW HT_.out HW_.out (by kernel_rfl)) (fun _ _ _ h => h) (Or.inl ⟨by rfl, ?_⟩) hHeld ?_ ?_
        rotate_left
        · rintro w' ⟨s0, s1, s2, s3, s4, s5⟩
          go_simp
          with_reducible rfl
        rotate_left
        · simp only [Act.put, List.setIfInBounds_toArray, List.set_cons_zero, List.set_cons_succ, i64_w, i32_w]
          rfl
        refine join_ (σ := Option Addr × Nat × Nat) 1 #[true, true, true, true, true, true, true, true, true, true, true, true, true, true, true, true, true, true, true, false] (fun s => [(28, .slice s.1 ts.length s.2.1), (29, .agg #[.int .i64 v0, .int .i64 v1, .int .i64 v2, .slice A3 s1.length c3, .slice s.1 ts.length s.2.1]), (5, .pointer (some ⟨s.2.2, 0, none⟩))]) (fun s w' => At5 ⟨g4, 0, none⟩ ⟨g4, 1, none⟩ ⟨g4, 2, none⟩ ⟨g1, 1, none⟩ ⟨g1, 2, none⟩ (.int .i64 v0) (.int .i64 v1) (.int .i64 v2) (.slice A3 s1.length c3) (.slice A5 s2.length c5) w2 w' ∧ Kd.R (Kd.slice 5 (Kd.int .u8)) 22 w' w.heap.size (fun k => w.heap.size ≤ k) (.slice s.1 ts.length s.2.1) ts ∧ w'.heap[s.2.2]? = some (.cells #[.int .i64 0, .int .i64 0, .int .i64 0, .slice none 0 0, .slice none 0 0] 72) ∧ w2.heap.size ≤ s.2.2) ?_ ?_
        rotate_left
        · intro hCont
          refine two_ (i := 16) (j := 18) (Ni := some 28) (Nj := some 5) #[true, true, true, true, true, true, true, true, true, true, true, true, true, true, true, true, true, false, false, false] #[true, true, true, true, true, true, true, true, true, true, true, true, true, true, true, true, false, false, true, false] rfl rfl rfl rfl (two_of HT_.out (by kernel_rfl)) (by decide) (by decide) (fun K hK => ?_) (fun K hK => ?_)
          · skip
            refine goes_ Try.func107 (by kernel_rfl) rfl #[.slice A5 s2.length c5] (by rfl) rfl rfl (by (try simp only [List.map_toArray, List.map_cons, List.map_nil]); first | done | rfl) ?_
            refine (split_ok A5 c5 s2 ts _ (Kd.R_reads' (Kd.R_below HR2.out hHeld.2.2.2.2.2)).2.2 (Kd.R_reads' HR2.out).2.1 Hb2.out (by have := Hl2.out; omega) HT.out).mono ?_
            rintro e w7 ⟨A6, c6, rfl, hG⟩
            refine ⟨_, rfl, ?_⟩
            have HR7 := Aside0.mk (Kd.R_mono (Kd.R_lower hG.own (below_then HB2.out HB2.out.size hHeld.2.2.2.2.2).size) (fun k hk => Nat.le_trans (below_then HB2.out HB2.out.size hHeld.2.2.2.2.2).size hk))
            refine hK.out _ _ (hHeld.step hG.keep) (fun hHeld => ?_)
            clear hK K hG
            refine norm_ (a' := ?_) ?_ ?_
            rotate_left
            · show Act.put _ (some 28) _ = _
              simp only [Act.put, List.setIfInBounds_toArray, List.set_cons_zero, List.set_cons_succ, i64_w, i32_w]
              rfl
            refine pure_ (i := 17) (N := some 29) (v := ?_) (a' := ?_) #[true, true, true, true, true, true, true, true, true, true, true, true, true, true, true, true, true, true, false, false] rfl rfl (any_of HT_.out (by kernel_rfl)) (fun _ _ _ h => h) (Or.inl ⟨by rfl, ?_⟩) ?_ ?_
            rotate_left
            · intro w'
              go_simp
              with_reducible rfl
            rotate_left
            · simp only [Act.put, List.setIfInBounds_toArray, List.set_cons_zero, List.set_cons_succ, i64_w, i32_w]
              rfl
            refine one_ (i := 18) (N := some 5) #[true, true, true, true, true, true, true, true, true, true, true, true, true, true, true, true, true, true, true, false] rfl rfl (one_of HT_.out (by kernel_rfl)) (by decide) (fun K hK => ?_)
            go_simp
            have HZ3 := Aside0.mk (blk_new w7 (.cells #[.int .i64 0, .int .i64 0, .int .i64 0, .slice none 0 0, .slice none 0 0] 72))
            have HG3 := Aside0.mk hHeld.2.2.2.2.2.size
            have HR8 := Aside0.mk (Kd.R_alloc HR7.out (.cells #[.int .i64 0, .int .i64 0, .int .i64 0, .slice none 0 0, .slice none 0 0] 72))
            refine hK.out _ _ (hHeld.step (below_alloc (Below.refl _ _) _)) (fun hHeld => ?_)
            clear hK K
            exact norm_ (by first | (simp only [putAll, Act.put, List.setIfInBounds_toArray, List.set_cons_zero, List.set_cons_succ]; done) | (simp only [putAll, Act.put, List.setIfInBounds_toArray, List.set_cons_zero, List.set_cons_succ]; rfl)) (hCont (A6, c6, w7.heap.size) _ ⟨hHeld, HR8.out, HZ3.out, HG3.out⟩)
          · skip
            go_simp
            have HZ3 := Aside0.mk (blk_new w3 (.cells #[.int .i64 0, .int .i64 0, .int .i64 0, .slice none 0 0, .slice none 0 0] 72))
            have HG3 := Aside0.mk hHeld.2.2.2.2.2.size
            refine hK.out _ _ (hHeld.step (below_alloc (Below.refl _ _) _)) (fun hHeld => ?_)
            clear hK K
            refine one_ (i := 16) (N := some 28) #[true, true, true, true, true, true, true, true, true, true, true, true, true, true, true, true, true, false, true, false] rfl rfl (one_of HT_.out (by kernel_rfl)) (by decide) (fun K hK => ?_)
            refine goes_ Try.func107 (by kernel_rfl) rfl #[.slice A5 s2.length c5] (by rfl) rfl rfl (by (try simp only [List.map_toArray, List.map_cons, List.map_nil]); first | done | rfl) ?_
            refine (split_ok A5 c5 s2 ts _ (Kd.R_reads' (Kd.R_below HR2.out hHeld.2.2.2.2.2)).2.2 (Kd.R_reads' HR2.out).2.1 Hb2.out (by have := Hl2.out; omega) HT.out).mono ?_
            rintro e w7 ⟨A6, c6, rfl, hG⟩
            refine ⟨_, rfl, ?_⟩
            have HR7 := Aside0.mk (Kd.R_mono (Kd.R_lower hG.own (below_then HB2.out HB2.out.size hHeld.2.2.2.2.2).size) (fun k hk => Nat.le_trans (below_then HB2.out HB2.out.size hHeld.2.2.2.2.2).size hk))
            have HZ7 := Aside0.mk ((hG.keep.block _ (blk_lt2 HZ3.out)).trans HZ3.out)
            refine hK.out _ _ (hHeld.step hG.keep) (fun hHeld => ?_)
            clear hK K hG
            refine norm_ (a' := ?_) ?_ ?_
            rotate_left
            · show Act.put _ (some 28) _ = _
              simp only [Act.put, List.setIfInBounds_toArray, List.set_cons_zero, List.set_cons_succ, i64_w, i32_w]
              rfl
            refine pure_ (i := 17) (N := some 29) (v := ?_) (a' := ?_) #[true, true, true, true, true, true, true, true, true, true, true, true, true, true, true, true, true, true, true, false] rfl rfl (any_of HT_.out (by kernel_rfl)) (fun _ _ _ h => h) (Or.inl ⟨by rfl, ?_⟩) ?_ ?_
            rotate_left
            · intro w'
              go_simp
              with_reducible rfl
            rotate_left
            · simp only [Act.put, List.setIfInBounds_toArray, List.set_cons_zero, List.set_cons_succ, i64_w, i32_w]
              rfl
            exact norm_ (by first | (simp only [putAll, Act.put, List.setIfInBounds_toArray, List.set_cons_zero, List.set_cons_succ]; done) | (simp only [putAll, Act.put, List.setIfInBounds_toArray, List.set_cons_zero, List.set_cons_succ]; rfl)) (hCont (A6, c6, w3.heap.size) _ ⟨hHeld, HR7.out, HZ7.out, HG3.out⟩)
        rintro ⟨A6, c6, g5⟩ w7 ⟨hHeld, hR7, hX7, hg5⟩
        have HR7 := Aside0.mk hR7
        have HX7 := Aside0.mk hX7
        have HG5 := Aside0.mk hg5
        clear hR7 hX7 hg5
        refine norm_ (a' := ?_) ?_ ?_
        rotate_left
        · simp only [putAll, Act.put, List.setIfInBounds_toArray, List.set_cons_zero, List.set_cons_succ]
          rfl
        refine one_ (i := 19) (N := none) #[true, true, true, true, true, true, true, true, true, true, true, true, true, true, true, true, true, true, true, true] rfl rfl (one_of HT_.out (by kernel_rfl)) (by decide) (fun K hK => ?_)
        rw [if_pos (by rfl)]
        refine wp_store_row 72 (.tmp 5) (.tmp 29) rfl g5 #[.int .i64 v0, .int .i64 v1, .int .i64 v2, .slice A3 s1.length c3, .slice A6 ts.length c6] rfl rfl 72 _ HX7.out size72 rfl (by simp [Value.oneCell']) ?_
        have hHeld3 := hHeld
        refine hK.out _ _ (At5.row ⟨HZ.out.1, HZ.out.2.1, HZ.out.2.2.1, HZ.out.2.2.2.1, HZ.out.2.2.2.2, Below.refl _ _⟩ hHeld HG5.out #[.int .i64 v0, .int .i64 v1, .int .i64 v2, .slice A3 s1.length c3, .slice A6 ts.length c6]) (fun hHeld => ?_)
        clear hK K
        refine norm_ (a' := ?_) ?_ ?_
        rotate_left
        · show Act.put _ (none) _ = _
          simp only [Act.put, List.setIfInBounds_toArray, List.set_cons_zero, List.set_cons_succ, i64_w, i32_w]
          rfl
        refine done_ (done_of HT_.out (by kernel_rfl)) ?_
        have HX := Aside0.mk (setRow_heap _ _ _ #[.int .i64 v0, .int .i64 v1, .int .i64 v2, .slice A3 s1.length c3, .slice A6 ts.length c6] _ _ HX7.out)
        have HB5 := Aside0.mk (below_then HB2.out HB2.out.size hHeld.2.2.2.2.2)
        have HR5 := Aside0.mk (R_row (Kd.R_below HR3.out hHeld3.2.2.2.2.2) HX7.out (by simp [Kd.int, Kd.scalar]) #[.int .i64 v0, .int .i64 v1, .int .i64 v2, .slice A3 s1.length c3, .slice A6 ts.length c6])
        have HR6 := Aside0.mk (R_row HR7.out HX7.out (by simp [Kd.slice, Kd.int, Kd.scalar]) #[.int .i64 v0, .int .i64 v1, .int .i64 v2, .slice A3 s1.length c3, .slice A6 ts.length c6])
        have HBX := Aside0.mk ((hHeld.2.2.2.2.2.block _ (blk_lt2 HBX2.out)).trans HBX2.out)
        clear hHeld hHeld3 HR2 HR3 HR7 HB2 HZ HBX2 HX7 HG5
        generalize w7.setRow g5 #[.int .i64 v0, .int .i64 v1, .int .i64 v2, .slice A3 s1.length c3, .slice A6 ts.length c6] = w8 at HX HB5 HR5 HR6 HBX ⊢
        have x0 : w8.cell? ⟨g5, 0, none⟩ = some (.int .i64 v0) := (blk_cell HX.out 0).trans rfl
        have x1 : w8.cell? ⟨g5, 1, none⟩ = some (.int .i64 v1) := (blk_cell HX.out 1).trans rfl
        have x2 : w8.cell? ⟨g5, 2, none⟩ = some (.int .i64 v2) := (blk_cell HX.out 2).trans rfl
        have x3 : w8.cell? ⟨g5, 3, none⟩ = some (.slice A3 s1.length c3) := (blk_cell HX.out 3).trans rfl
        have x4 : w8.cell? ⟨g5, 4, none⟩ = some (.slice A6 ts.length c6) := (blk_cell HX.out 4).trans rfl
        go_wp2_with (fail)
        have hE := rightLetter_calls ⟨⟨v0, v1⟩, v2, s1, ts⟩ A3 c3 A6 c6 w8 (Kd.R_reads' HR6.out).2.2 (Kd.R_reads' HR6.out).2.1
        with_reducible refine hE.mono ?_
        clear hE
        rintro e w9 ⟨rfl, hB⟩
        have HX9 := Aside0.mk ((hB.block _ (blk_lt2 HX.out)).trans HX.out)
        have HBX9 := Aside0.mk ((hB.block _ (blk_lt2 HBX.out)).trans HBX.out)
        have HB9 := Aside0.mk (below_then HB5.out HB5.out.size hB)
        have HR9 := Aside0.mk (Kd.R_below HR5.out hB)
        have HS9 := Aside0.mk (Kd.R_below HR6.out hB)
        clear hB x0 x1 x2 x3 x4 HX HBX HB5 HR5 HR6
        obtain ⟨q, hq⟩ : ∃ q, q = goodLetter ⟨⟨v0, v1⟩, v2, s1, ts⟩ := ⟨_, rfl⟩
        rw [← hq] at hoo3 ⊢
        cases q with
        | false =>
          have : o = none := hoo3
          subst this
          clear hoo3 hq
          go_wp2_with (go_at_call 94; refine (need_bad 12 _).mono ?_; rintro e w10 ⟨rfl, rfl⟩)
          exact ⟨rfl, HB9.out, 12, by decide, rfl⟩
        | true =>
          have : o = some ⟨⟨v0, v1⟩, v2, s1, ts⟩ := hoo3
          subst this
          clear hoo3 hq
          have x0 : w9.cell? ⟨g5, 0, none⟩ = some (.int .i64 v0) := (blk_cell HX9.out 0).trans rfl
          have x1 : w9.cell? ⟨g5, 1, none⟩ = some (.int .i64 v1) := (blk_cell HX9.out 1).trans rfl
          have x2 : w9.cell? ⟨g5, 2, none⟩ = some (.int .i64 v2) := (blk_cell HX9.out 2).trans rfl
          have x3 : w9.cell? ⟨g5, 3, none⟩ = some (.slice A3 s1.length c3) := (blk_cell HX9.out 3).trans rfl
          have x4 : w9.cell? ⟨g5, 4, none⟩ = some (.slice A6 ts.length c6) := (blk_cell HX9.out 4).trans rfl
          go_wp2_with (first
            | (go_at_call 94; refine (need_ok 12 _).mono ?_; rintro e w10 ⟨rfl, rfl⟩)
            | (refine wpList_store_row rfl 72 (.tmp 2) (.tmp 33) rfl w.heap.size #[.int .i64 v0, .int .i64 v1, .int .i64 v2, .slice A3 s1.length c3, .slice A6 ts.length c6] rfl rfl 72 _ HBX9.out size72 rfl (by simp [Value.oneCell']) ?_; have HR10 := Aside0.mk (R_row HR9.out HBX9.out (by simp [Kd.int, Kd.scalar]) #[.int .i64 v0, .int .i64 v1, .int .i64 v2, .slice A3 s1.length c3, .slice A6 ts.length c6]); have HS10 := Aside0.mk (R_row HS9.out HBX9.out (by simp [Kd.slice, Kd.int, Kd.scalar]) #[.int .i64 v0, .int .i64 v1, .int .i64 v2, .slice A3 s1.length c3, .slice A6 ts.length c6]); have HBX10 := Aside0.mk (setRow_heap _ _ _ #[.int .i64 v0, .int .i64 v1, .int .i64 v2, .slice A3 s1.length c3, .slice A6 ts.length c6] _ _ HBX9.out); have HB10 := Aside0.mk (below_setRow HB9.out (Nat.le_refl _) #[.int .i64 v0, .int .i64 v1, .int .i64 v2, .slice A3 s1.length c3, .slice A6 ts.length c6])))
          exact bodyPost_ret (v := .agg #[.int .i64 v0, .int .i64 v1, .int .i64 v2, .slice A3 s1.length c3, .slice A6 ts.length c6]) (results_cell_row rfl _ _ w.heap.size 72 _ _ _ rfl HBX10.out hu72 rfl size72) rfl ⟨HB10.out, A3, c3, A6, c6, rfl, k72_mkM _ _ _ ⟨⟨v0, v1⟩, v2, s1, ts⟩ HR10.out HS10.out⟩
end Go.Proofs.Ytijccobeljoikaa.Ms
