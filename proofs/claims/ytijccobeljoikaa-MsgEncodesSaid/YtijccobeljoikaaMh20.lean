/- Put together of my texts: MuI, MuJ. -/
import Derived.Test.YtijccobeljoikaaMh19
import Derived.Test.YtijccobeljoikaaMh15
import Derived.Test.YtijccobeljoikaaMh4
import Derived.Test.YtijccobeljoikaaMh5
import Derived.Test.YtijccobeljoikaaMh7
import Derived.Test.YtijccobeljoikaaMh13
import Derived.Test.YtijccobeljoikaaMh8
/- msg: the document's Encode. -/
namespace Go.Proofs.Ytijccobeljoikaa.Ms
open Go.RowKit Go.Proofs.YtijccobeljoikaaW.PrintWords Go.Proofs.YtijccobeljoikaaW.PrintLast
open Go.Proofs.Ytijccobeljoikaa.Plain Go.Proofs.Ytijccobeljoikaa.Walks
set_option linter.unusedVariables false
set_option linter.unusedSimpArgs false
set_option maxHeartbeats 16000000 in
set_option maxRecDepth 100000 in
theorem refEncode66_calls (m : S91) (a : Nat → Option Addr) (c : Nat → Nat) (z : List Int) (x : Int) (w : World) (hM : Msg w m a c) (h : encP m = (z, x)) :
    Calls Try.prog 66 #[.agg #[.int .i64 m.kind, .int .i64 m.view, .int .i64 m.seq, .int .i64 m.client, .int .i64 m.stamp, .int .i64 m.entry.f0, .int .i64 m.entry.f1, .int .i64 m.entry.f2, .slice (a 0) m.entry.f3.length (c 0), .slice (a 1) m.digest.length (c 1), .slice (a 2) m.data.length (c 2), .slice (a 3) m.proof.length (c 3), .slice (a 4) m.proven.length (c 4)]] w fun e w' => ∃ A1 c1, e = .returned (.tuple #[.slice A1 z.length c1, .int .i64 x]) ∧ z.length ≤ c1 ∧ Kd.C (Kd.int .u8) w' A1 z.length z ∧ Below w.heap.size w w' := by
  have hu91 := Try.underlying91
  have hu87 := Try.underlying87
  have hu9 := Try.underlying9
  have HM := Aside0.mk hM
  have HX0 := Aside0.mk (blk_new w (.cells #[.int .i64 m.kind, .int .i64 m.view, .int .i64 m.seq, .int .i64 m.client, .int .i64 m.stamp, .int .i64 m.entry.f0, .int .i64 m.entry.f1, .int .i64 m.entry.f2, .slice (a 0) m.entry.f3.length (c 0), .slice (a 1) m.digest.length (c 1), .slice (a 2) m.data.length (c 2), .slice (a 3) m.proof.length (c 3), .slice (a 4) m.proven.length (c 4)] 91))
  have HB0 := Aside0.mk (below_alloc (Below.refl w.heap.size w) (.cells #[.int .i64 m.kind, .int .i64 m.view, .int .i64 m.seq, .int .i64 m.client, .int .i64 m.stamp, .int .i64 m.entry.f0, .int .i64 m.entry.f1, .int .i64 m.entry.f2, .slice (a 0) m.entry.f3.length (c 0), .slice (a 1) m.digest.length (c 1), .slice (a 2) m.data.length (c 2), .slice (a 3) m.proof.length (c 3), .slice (a 4) m.proven.length (c 4)] 91))
  clear hM
  unfold encP at h
  obtain ⟨p, hp⟩ : ∃ p, partsS m.kind = p := ⟨_, rfl⟩
  have hsz : p.size ≤ 9 := by rw [← hp]; exact parts_small m.kind
  have h9 : ∀ b ∈ p.data.toList, b ∈ letters9 := by rw [← hp]; exact (parts_nine m.kind).2
  rw [hp] at h
  have HP := Aside0.mk hp
  have H9 := Aside0.mk h9
  have hkind : p ≠ ⟨#[]⟩ → 0 ≤ m.kind ∧ m.kind < 4611686018427387904 := fun hne => by have := parts_kind (k := m.kind) (by rw [hp]; exact hne); omega
  have HKN := Aside0.mk hkind
  clear h9 hkind
  go_enter Try.func66, Try.ntmps66
  go_upto_region 1 with (fail)
  generalize w.alloc (.cells #[.int .i64 m.kind, .int .i64 m.view, .int .i64 m.seq, .int .i64 m.client, .int .i64 m.stamp, .int .i64 m.entry.f0, .int .i64 m.entry.f1, .int .i64 m.entry.f2, .slice (a 0) m.entry.f3.length (c 0), .slice (a 1) m.digest.length (c 1), .slice (a 2) m.data.length (c 2), .slice (a 3) m.proof.length (c 3), .slice (a 4) m.proven.length (c 4)] 91) = w0 at HX0 HB0 ⊢
  have x0 : w0.cell? ⟨w.heap.size, 0, none⟩ = some (.int .i64 m.kind) := (blk_cell HX0.out 0).trans rfl
  have x1 : w0.cell? ⟨w.heap.size, 1, none⟩ = some (.int .i64 m.view) := (blk_cell HX0.out 1).trans rfl
  have x2 : w0.cell? ⟨w.heap.size, 2, none⟩ = some (.int .i64 m.seq) := (blk_cell HX0.out 2).trans rfl
  have x3 : w0.cell? ⟨w.heap.size, 3, none⟩ = some (.int .i64 m.client) := (blk_cell HX0.out 3).trans rfl
  have x4 : w0.cell? ⟨w.heap.size, 4, none⟩ = some (.int .i64 m.stamp) := (blk_cell HX0.out 4).trans rfl
  have x5 : w0.cell? ⟨w.heap.size, 5, none⟩ = some (.int .i64 m.entry.f0) := (blk_cell HX0.out 5).trans rfl
  have x6 : w0.cell? ⟨w.heap.size, 6, none⟩ = some (.int .i64 m.entry.f1) := (blk_cell HX0.out 6).trans rfl
  have x7 : w0.cell? ⟨w.heap.size, 7, none⟩ = some (.int .i64 m.entry.f2) := (blk_cell HX0.out 7).trans rfl
  have x8 : w0.cell? ⟨w.heap.size, 8, none⟩ = some (.slice (a 0) m.entry.f3.length (c 0)) := (blk_cell HX0.out 8).trans rfl
  have x9 : w0.cell? ⟨w.heap.size, 9, none⟩ = some (.slice (a 1) m.digest.length (c 1)) := (blk_cell HX0.out 9).trans rfl
  have x10 : w0.cell? ⟨w.heap.size, 10, none⟩ = some (.slice (a 2) m.data.length (c 2)) := (blk_cell HX0.out 10).trans rfl
  have x11 : w0.cell? ⟨w.heap.size, 11, none⟩ = some (.slice (a 3) m.proof.length (c 3)) := (blk_cell HX0.out 11).trans rfl
  have x12 : w0.cell? ⟨w.heap.size, 12, none⟩ = some (.slice (a 4) m.proven.length (c 4)) := (blk_cell HX0.out 12).trans rfl
  go_wp2_with (fail)
  refine (parts99_calls m.kind w0).mono ?_
  rw [hp]
  rintro e w1 ⟨rfl, hB⟩
  have HX1 := Aside0.mk ((hB.block _ (blk_lt2 HX0.out)).trans HX0.out)
  have HB1 := Aside0.mk (below_then HB0.out HB0.out.size hB)
  clear hB x0 x1 x2 x3 x4 x5 x6 x7 x8 x9 x10 x11 x12 hp
  by_cases h0 : p = ⟨#[]⟩
  · rw [if_pos h0] at h
    obtain ⟨rfl, rfl⟩ := Prod.mk.inj h
    subst h0
    clear h
    go_wp2_with (fail)
    go_ret2
    exact ⟨none, 0, rfl, Nat.le_refl _, Kd.C_nil_ _ _, HB1.out⟩
  · rw [if_neg h0] at h
    have hne : p.toList.isEmpty = false := by
      rw [List.isEmpty_eq_false_iff, ByteArray.toList_eq]
      intro e
      apply h0
      obtain ⟨d⟩ := p
      have : d = #[] := by rw [← Array.toList_inj]; exact e
      rw [this]
    have HK0 := Aside0.mk (HKN.out h0)
    obtain ⟨q, hq⟩ : ∃ q, rightB m p = q := ⟨_, rfl⟩
    rw [hq] at h
    have HQ := Aside0.mk hq
    clear hq h0
    have x0 : w1.cell? ⟨w.heap.size, 0, none⟩ = some (.int .i64 m.kind) := (blk_cell HX1.out 0).trans rfl
    have x1 : w1.cell? ⟨w.heap.size, 1, none⟩ = some (.int .i64 m.view) := (blk_cell HX1.out 1).trans rfl
    have x2 : w1.cell? ⟨w.heap.size, 2, none⟩ = some (.int .i64 m.seq) := (blk_cell HX1.out 2).trans rfl
    have x3 : w1.cell? ⟨w.heap.size, 3, none⟩ = some (.int .i64 m.client) := (blk_cell HX1.out 3).trans rfl
    have x4 : w1.cell? ⟨w.heap.size, 4, none⟩ = some (.int .i64 m.stamp) := (blk_cell HX1.out 4).trans rfl
    have x5 : w1.cell? ⟨w.heap.size, 5, none⟩ = some (.int .i64 m.entry.f0) := (blk_cell HX1.out 5).trans rfl
    have x6 : w1.cell? ⟨w.heap.size, 6, none⟩ = some (.int .i64 m.entry.f1) := (blk_cell HX1.out 6).trans rfl
    have x7 : w1.cell? ⟨w.heap.size, 7, none⟩ = some (.int .i64 m.entry.f2) := (blk_cell HX1.out 7).trans rfl
    have x8 : w1.cell? ⟨w.heap.size, 8, none⟩ = some (.slice (a 0) m.entry.f3.length (c 0)) := (blk_cell HX1.out 8).trans rfl
    have x9 : w1.cell? ⟨w.heap.size, 9, none⟩ = some (.slice (a 1) m.digest.length (c 1)) := (blk_cell HX1.out 9).trans rfl
    have x10 : w1.cell? ⟨w.heap.size, 10, none⟩ = some (.slice (a 2) m.data.length (c 2)) := (blk_cell HX1.out 10).trans rfl
    have x11 : w1.cell? ⟨w.heap.size, 11, none⟩ = some (.slice (a 3) m.proof.length (c 3)) := (blk_cell HX1.out 11).trans rfl
    have x12 : w1.cell? ⟨w.heap.size, 12, none⟩ = some (.slice (a 4) m.proven.length (c 4)) := (blk_cell HX1.out 12).trans rfl
    go_wp2_with (fail)
    have hE := right100_calls m a c p HP.out (by omega) w1 (HM.out.below HB1.out)
    with_reducible refine hE.mono ?_
    clear hE
    rw [HQ.out]
    rintro e w2 ⟨rfl, hB⟩
    have HX2 := Aside0.mk ((hB.block _ (blk_lt2 HX1.out)).trans HX1.out)
    have HB2 := Aside0.mk (below_then HB1.out HB1.out.size hB)
    have HM2 := Aside0.mk (HM.out.below HB2.out)
    clear hB x0 x1 x2 x3 x4 x5 x6 x7 x8 x9 x10 x11 x12 HX1 HB1 HM
    cases q with
    | false =>
      obtain ⟨rfl, rfl⟩ := Prod.mk.inj (show (([] : List Int), (81 : Int)) = (z, x) from h)
      clear h
      go_wp2_with (fail)
      go_ret2
      exact ⟨none, 0, rfl, Nat.le_refl _, Kd.C_nil_ _ _, HB2.out⟩
    | true =>
      have hj : encGo m [encI [m.kind]] p.data.toList = (z, x) := h
      have HRt := Aside0.mk (right_iff.1 HQ.out)
      have hw : ∀ v ∈ [m.kind], 0 ≤ v ∧ v < 4611686018427387904 := by intro v hv; rw [List.mem_singleton.1 hv]; exact HK0.out
      obtain ⟨n0, hn0⟩ : ∃ n0, n0 = encI [m.kind] := ⟨_, rfl⟩
      rw [← hn0] at hj
      have HNUM := Aside0.mk (show numsP [m.kind] = (n0, 0) by rw [numsP, numsGo_ok hw, hn0]; rfl)
      have HL0 := Aside0.mk (show n0.length ≤ 50000000 by have := encI_len hw; rw [hn0]; simp at this; omega)
      have HJ := Aside0.mk hj
      clear h hj hn0 hw
      have x0 : w2.cell? ⟨w.heap.size, 0, none⟩ = some (.int .i64 m.kind) := (blk_cell HX2.out 0).trans rfl
      go_wp2_with (fail)
      refine (refnums_calls (some _) 1 [m.kind] n0 0 (w2.alloc (.cells #[.int .i64 m.kind] 3)) (C_ints_block (l := [m.kind]) (t := 3) (fr := (0, 0)) (blk_new w2 _) (by simp)) (by simp) (by simp) HNUM.out).mono ?_
      rintro e w4 ⟨A0, c0, rfl, hG⟩
      have HG0 := Aside0.mk (hG.byt (w0 := w2) (by simp))
      have HB4 := Aside0.mk (below_then (below_alloc (Below.refl w2.heap.size w2) (.cells #[.int .i64 m.kind] 3)) (by simp) hG.keep)
      clear hG x0
      have HR0 := Aside0.mk (kv_one w4 w2.heap.size (fun k => w2.heap.size ≤ k) (A0, n0.length, c0) HB4.out.size HB4.out.size)
      have HB5 := Aside0.mk (below_alloc HB4.out (.cells #[.slice A0 n0.length c0] 22))
      have HY0 := Aside0.mk (((byts_nil w2 w4).snoc HG0.out).below (below_alloc (Below.refl _ _) (.cells #[.slice A0 n0.length c0] 22)))
      go_wp2_with (fail)
      generalize w4.alloc (.cells #[.slice A0 n0.length c0] 22) = w5 at HR0 HB5 HY0 ⊢
      go_loopw [5, 6] (fun u t wr => ∃ (i : Nat) (vs : List (Option Addr × Nat × Nat)) (zs : List (List Int)), t = .int .i64 (i : Int) ∧ i ≤ p.size ∧ Aside0 (vs.length ≤ i + 1 ∧ zs.length ≤ i + 1) ∧ Aside0 (∀ r ∈ zs, r.length ≤ 50000000) ∧ Aside0 (encGo m zs (p.data.toList.drop i) = (z, x)) ∧ Aside0 (Kd.R kv 22 wr w2.heap.size (fun k_ => w2.heap.size ≤ k_) u vs) ∧ Aside0 (Byts w2 wr vs zs) ∧ Aside0 (Below w2.heap.size w2 wr)) (fun _ t _ => p.size - (intOf t).toNat)
      case atStart => exact ⟨0, [(A0, n0.length, c0)], [n0], rfl, Nat.zero_le _, ⟨by simp⟩, ⟨fun r hr => by rw [List.mem_singleton.1 hr]; exact HL0.out⟩, HJ, HR0, HY0, HB5⟩
      case round =>
        clear HR0 HB5 HY0 HJ HG0 HB4 hne
        obtain ⟨i, vs, zs, rfl, hi, HVL, HS, HJ, HR, HY, HB⟩ := hrel
        obtain ⟨Av, cv, ev⟩ := Kd.R_slice HR.out
        subst ev
        have hvl : vs.length ≤ 10 := by have := HVL.out.1; omega
        by_cases hlt : i < p.size
        · have d0 : decide ((i : Int) < (p.size : Int)) = true := decide_eq_true (by omega)
          have d0' : decide (i < p.size) = true := decide_eq_true hlt
          have p0 : (0 ≤ (i : Int)) = True := eq_true (by omega)
          have p1 : ((i : Int) < (p.size : Int)) = True := eq_true (by omega)
          have hll : i < p.data.toList.length := hlt
          obtain ⟨b, hb⟩ : ∃ b, p[i]'hlt = b := ⟨_, rfl⟩
          have hbi : p.data.toList[i] = b := by rw [← hb]; rw [Array.getElem_toList]; rfl
          have hdr := HJ.out
          rw [List.drop_eq_getElem_cons hll, hbi, encGo] at hdr
          have hmem : b ∈ p.data.toList := by rw [← hbi]; exact List.getElem_mem hll
          have hb9 := H9.out b hmem
          go_upto_region 12 with (fail)
          have HKq := Aside0.mk (below_alloc (Below.refl wr.heap.size wr) (.cells #[] 5))
          generalize wr.alloc (.cells #[] 5) = wq at HKq ⊢
          have HXq := Aside0.mk (((below_then HB.out HB.out.size HKq.out).block _ (blk_lt2 HX2.out)).trans HX2.out)
          have x0 : wq.cell? ⟨w.heap.size, 0, none⟩ = some (.int .i64 m.kind) := (blk_cell HXq.out 0).trans rfl
          have x1 : wq.cell? ⟨w.heap.size, 1, none⟩ = some (.int .i64 m.view) := (blk_cell HXq.out 1).trans rfl
          have x2 : wq.cell? ⟨w.heap.size, 2, none⟩ = some (.int .i64 m.seq) := (blk_cell HXq.out 2).trans rfl
          have x3 : wq.cell? ⟨w.heap.size, 3, none⟩ = some (.int .i64 m.client) := (blk_cell HXq.out 3).trans rfl
          have x4 : wq.cell? ⟨w.heap.size, 4, none⟩ = some (.int .i64 m.stamp) := (blk_cell HXq.out 4).trans rfl
          have x5 : wq.cell? ⟨w.heap.size, 5, none⟩ = some (.int .i64 m.entry.f0) := (blk_cell HXq.out 5).trans rfl
          have x6 : wq.cell? ⟨w.heap.size, 6, none⟩ = some (.int .i64 m.entry.f1) := (blk_cell HXq.out 6).trans rfl
          have x7 : wq.cell? ⟨w.heap.size, 7, none⟩ = some (.int .i64 m.entry.f2) := (blk_cell HXq.out 7).trans rfl
          have x8 : wq.cell? ⟨w.heap.size, 8, none⟩ = some (.slice (a 0) m.entry.f3.length (c 0)) := (blk_cell HXq.out 8).trans rfl
          have x9 : wq.cell? ⟨w.heap.size, 9, none⟩ = some (.slice (a 1) m.digest.length (c 1)) := (blk_cell HXq.out 9).trans rfl
          have x10 : wq.cell? ⟨w.heap.size, 10, none⟩ = some (.slice (a 2) m.data.length (c 2)) := (blk_cell HXq.out 10).trans rfl
          have x11 : wq.cell? ⟨w.heap.size, 11, none⟩ = some (.slice (a 3) m.proof.length (c 3)) := (blk_cell HXq.out 11).trans rfl
          have x12 : wq.cell? ⟨w.heap.size, 12, none⟩ = some (.slice (a 4) m.proven.length (c 4)) := (blk_cell HXq.out 12).trans rfl
          clear hbi HJ
          simp only [letters9, List.mem_cons, List.not_mem_nil, or_false] at hb9
          rcases hb9 with rfl | rfl | rfl | rfl | rfl | rfl | rfl | rfl | rfl
          · obtain ⟨n, hn⟩ : ∃ n, n = encI [m.view] := ⟨_, rfl⟩
            have hf : fieldP m 118 = (n, 0) := by rw [hn]; rfl
            have HJN := Aside0.mk (show encGo m (zs ++ [n]) (p.data.toList.drop (i + 1)) = (z, x) by rw [hf, if_pos rfl] at hdr; exact hdr)
            have hw : ∀ v ∈ [m.view], 0 ≤ v ∧ v < 4611686018427387904 := by intro v hv; rw [List.mem_singleton.1 hv]; have := HRt.out.v; omega
            have HNUM := Aside0.mk (show numsP [m.view] = (n, 0) by rw [numsP, numsGo_ok hw, hn]; rfl)
            have HLn := Aside0.mk (show n.length ≤ 50000000 by have := encI_len hw; rw [hn]; simp at this; omega)
            clear hf hdr hw hn
            go_wp2_with (fail)
            refine (refnums_calls (some _) 1 [m.view] n 0 (wq.alloc (.cells #[.int .i64 m.view] 3)) (C_ints_block (l := [m.view]) (t := 3) (fr := (0, 0)) (blk_new wq _) (by simp)) (by simp) (by simp) HNUM.out).mono ?_
            rintro e w5 ⟨A1, c1, rfl, hG⟩
            have HKW := Aside0.mk (below_then (below_alloc HKq.out _) (below_size (below_alloc HKq.out _)) hG.keep)
            have HYt := Aside0.mk (hG.byt (w0 := w2) (by have := HB.out.size; have := HKq.out.size; simp; omega))
            clear hG x0 x1 x2 x3 x4 x5 x6 x7 x8 x9 x10 x11 x12
            have HR2 := Aside0.mk (Kd.R_below HR.out HKW.out)
            have HBW := Aside0.mk (below_then HB.out HB.out.size HKW.out)
            have hs2 := HBW.out.size
            have HYn := Aside0.mk ((HY.out.below HKW.out).snoc HYt.out)
            go_wp2_with (at_builtin; refine Kd.R_append kv (w0 := w2) w2.heap.size rfl (.tmp 91) (.tmp 93) 32 22 (.slice none 0 0) 24 rfl Try.underlying32 Walks.info22 rfl (by decide) (by omega) (.slice Av vs.length cv) vs (A1, n.length, c1) [.slice A1 n.length c1] (fun k_ => w2.heap.size ≤ k_) (fun k_ => w2.heap.size ≤ k_ ∧ some k_ ≠ (Value.slice Av vs.length cv).ownBlock) rfl rfl rfl (fun _ h => h) (fun k hk => by omega) HR2.out HBW.out hs2 (by omega) ?_; intro v3 w3 hR3 hB3 hg3 hat3; have HR3 := Aside0.mk hR3; have HB3 := Aside0.mk hB3; have HY3 := Aside0.mk (HYn.out.grown (Kd.R_typed HR2.out) hg3); clear hR3 hB3 hg3 hat3)
            exact ⟨⟨i + 1, vs ++ [(A1, n.length, c1)], zs ++ [n], by simp, by omega, ⟨by rw [List.length_append, List.length_append]; have := HVL.out; simp; omega⟩, ⟨fun r hr => by
              rcases List.mem_append.1 hr with hr | hr
              · exact HS.out r hr
              · rw [List.mem_singleton.1 hr]; exact HLn.out⟩, HJN, HR3, HY3, HB3⟩, by simp only [intOf]; omega⟩
          · obtain ⟨n, hn⟩ : ∃ n, n = encI [m.seq] := ⟨_, rfl⟩
            have hf : fieldP m 115 = (n, 0) := by rw [hn]; rfl
            have HJN := Aside0.mk (show encGo m (zs ++ [n]) (p.data.toList.drop (i + 1)) = (z, x) by rw [hf, if_pos rfl] at hdr; exact hdr)
            have hw : ∀ v ∈ [m.seq], 0 ≤ v ∧ v < 4611686018427387904 := by intro v hv; rw [List.mem_singleton.1 hv]; have := HRt.out.s; omega
            have HNUM := Aside0.mk (show numsP [m.seq] = (n, 0) by rw [numsP, numsGo_ok hw, hn]; rfl)
            have HLn := Aside0.mk (show n.length ≤ 50000000 by have := encI_len hw; rw [hn]; simp at this; omega)
            clear hf hdr hw hn
            go_wp2_with (fail)
            refine (refnums_calls (some _) 1 [m.seq] n 0 (wq.alloc (.cells #[.int .i64 m.seq] 3)) (C_ints_block (l := [m.seq]) (t := 3) (fr := (0, 0)) (blk_new wq _) (by simp)) (by simp) (by simp) HNUM.out).mono ?_
            rintro e w5 ⟨A1, c1, rfl, hG⟩
            have HKW := Aside0.mk (below_then (below_alloc HKq.out _) (below_size (below_alloc HKq.out _)) hG.keep)
            have HYt := Aside0.mk (hG.byt (w0 := w2) (by have := HB.out.size; have := HKq.out.size; simp; omega))
            clear hG x0 x1 x2 x3 x4 x5 x6 x7 x8 x9 x10 x11 x12
            have HR2 := Aside0.mk (Kd.R_below HR.out HKW.out)
            have HBW := Aside0.mk (below_then HB.out HB.out.size HKW.out)
            have hs2 := HBW.out.size
            have HYn := Aside0.mk ((HY.out.below HKW.out).snoc HYt.out)
            go_wp2_with (at_builtin; refine Kd.R_append kv (w0 := w2) w2.heap.size rfl (.tmp 91) (.tmp 93) 32 22 (.slice none 0 0) 24 rfl Try.underlying32 Walks.info22 rfl (by decide) (by omega) (.slice Av vs.length cv) vs (A1, n.length, c1) [.slice A1 n.length c1] (fun k_ => w2.heap.size ≤ k_) (fun k_ => w2.heap.size ≤ k_ ∧ some k_ ≠ (Value.slice Av vs.length cv).ownBlock) rfl rfl rfl (fun _ h => h) (fun k hk => by omega) HR2.out HBW.out hs2 (by omega) ?_; intro v3 w3 hR3 hB3 hg3 hat3; have HR3 := Aside0.mk hR3; have HB3 := Aside0.mk hB3; have HY3 := Aside0.mk (HYn.out.grown (Kd.R_typed HR2.out) hg3); clear hR3 hB3 hg3 hat3)
            exact ⟨⟨i + 1, vs ++ [(A1, n.length, c1)], zs ++ [n], by simp, by omega, ⟨by rw [List.length_append, List.length_append]; have := HVL.out; simp; omega⟩, ⟨fun r hr => by
              rcases List.mem_append.1 hr with hr | hr
              · exact HS.out r hr
              · rw [List.mem_singleton.1 hr]; exact HLn.out⟩, HJN, HR3, HY3, HB3⟩, by simp only [intOf]; omega⟩
          · obtain ⟨n, hn⟩ : ∃ n, n = encI [m.client] := ⟨_, rfl⟩
            have hf : fieldP m 99 = (n, 0) := by rw [hn]; rfl
            have HJN := Aside0.mk (show encGo m (zs ++ [n]) (p.data.toList.drop (i + 1)) = (z, x) by rw [hf, if_pos rfl] at hdr; exact hdr)
            have hw : ∀ v ∈ [m.client], 0 ≤ v ∧ v < 4611686018427387904 := by intro v hv; rw [List.mem_singleton.1 hv]; have := HRt.out.c; omega
            have HNUM := Aside0.mk (show numsP [m.client] = (n, 0) by rw [numsP, numsGo_ok hw, hn]; rfl)
            have HLn := Aside0.mk (show n.length ≤ 50000000 by have := encI_len hw; rw [hn]; simp at this; omega)
            clear hf hdr hw hn
            go_wp2_with (fail)
            refine (refnums_calls (some _) 1 [m.client] n 0 (wq.alloc (.cells #[.int .i64 m.client] 3)) (C_ints_block (l := [m.client]) (t := 3) (fr := (0, 0)) (blk_new wq _) (by simp)) (by simp) (by simp) HNUM.out).mono ?_
            rintro e w5 ⟨A1, c1, rfl, hG⟩
            have HKW := Aside0.mk (below_then (below_alloc HKq.out _) (below_size (below_alloc HKq.out _)) hG.keep)
            have HYt := Aside0.mk (hG.byt (w0 := w2) (by have := HB.out.size; have := HKq.out.size; simp; omega))
            clear hG x0 x1 x2 x3 x4 x5 x6 x7 x8 x9 x10 x11 x12
            have HR2 := Aside0.mk (Kd.R_below HR.out HKW.out)
            have HBW := Aside0.mk (below_then HB.out HB.out.size HKW.out)
            have hs2 := HBW.out.size
            have HYn := Aside0.mk ((HY.out.below HKW.out).snoc HYt.out)
            go_wp2_with (at_builtin; refine Kd.R_append kv (w0 := w2) w2.heap.size rfl (.tmp 91) (.tmp 93) 32 22 (.slice none 0 0) 24 rfl Try.underlying32 Walks.info22 rfl (by decide) (by omega) (.slice Av vs.length cv) vs (A1, n.length, c1) [.slice A1 n.length c1] (fun k_ => w2.heap.size ≤ k_) (fun k_ => w2.heap.size ≤ k_ ∧ some k_ ≠ (Value.slice Av vs.length cv).ownBlock) rfl rfl rfl (fun _ h => h) (fun k hk => by omega) HR2.out HBW.out hs2 (by omega) ?_; intro v3 w3 hR3 hB3 hg3 hat3; have HR3 := Aside0.mk hR3; have HB3 := Aside0.mk hB3; have HY3 := Aside0.mk (HYn.out.grown (Kd.R_typed HR2.out) hg3); clear hR3 hB3 hg3 hat3)
            exact ⟨⟨i + 1, vs ++ [(A1, n.length, c1)], zs ++ [n], by simp, by omega, ⟨by rw [List.length_append, List.length_append]; have := HVL.out; simp; omega⟩, ⟨fun r hr => by
              rcases List.mem_append.1 hr with hr | hr
              · exact HS.out r hr
              · rw [List.mem_singleton.1 hr]; exact HLn.out⟩, HJN, HR3, HY3, HB3⟩, by simp only [intOf]; omega⟩
          · obtain ⟨n, hn⟩ : ∃ n, n = encI [m.stamp] := ⟨_, rfl⟩
            have hf : fieldP m 116 = (n, 0) := by rw [hn]; rfl
            have HJN := Aside0.mk (show encGo m (zs ++ [n]) (p.data.toList.drop (i + 1)) = (z, x) by rw [hf, if_pos rfl] at hdr; exact hdr)
            have hw : ∀ v ∈ [m.stamp], 0 ≤ v ∧ v < 4611686018427387904 := by intro v hv; rw [List.mem_singleton.1 hv]; have := HRt.out.t; omega
            have HNUM := Aside0.mk (show numsP [m.stamp] = (n, 0) by rw [numsP, numsGo_ok hw, hn]; rfl)
            have HLn := Aside0.mk (show n.length ≤ 50000000 by have := encI_len hw; rw [hn]; simp at this; omega)
            clear hf hdr hw hn
            go_wp2_with (fail)
            refine (refnums_calls (some _) 1 [m.stamp] n 0 (wq.alloc (.cells #[.int .i64 m.stamp] 3)) (C_ints_block (l := [m.stamp]) (t := 3) (fr := (0, 0)) (blk_new wq _) (by simp)) (by simp) (by simp) HNUM.out).mono ?_
            rintro e w5 ⟨A1, c1, rfl, hG⟩
            have HKW := Aside0.mk (below_then (below_alloc HKq.out _) (below_size (below_alloc HKq.out _)) hG.keep)
            have HYt := Aside0.mk (hG.byt (w0 := w2) (by have := HB.out.size; have := HKq.out.size; simp; omega))
            clear hG x0 x1 x2 x3 x4 x5 x6 x7 x8 x9 x10 x11 x12
            have HR2 := Aside0.mk (Kd.R_below HR.out HKW.out)
            have HBW := Aside0.mk (below_then HB.out HB.out.size HKW.out)
            have hs2 := HBW.out.size
            have HYn := Aside0.mk ((HY.out.below HKW.out).snoc HYt.out)
            go_wp2_with (at_builtin; refine Kd.R_append kv (w0 := w2) w2.heap.size rfl (.tmp 91) (.tmp 93) 32 22 (.slice none 0 0) 24 rfl Try.underlying32 Walks.info22 rfl (by decide) (by omega) (.slice Av vs.length cv) vs (A1, n.length, c1) [.slice A1 n.length c1] (fun k_ => w2.heap.size ≤ k_) (fun k_ => w2.heap.size ≤ k_ ∧ some k_ ≠ (Value.slice Av vs.length cv).ownBlock) rfl rfl rfl (fun _ h => h) (fun k hk => by omega) HR2.out HBW.out hs2 (by omega) ?_; intro v3 w3 hR3 hB3 hg3 hat3; have HR3 := Aside0.mk hR3; have HB3 := Aside0.mk hB3; have HY3 := Aside0.mk (HYn.out.grown (Kd.R_typed HR2.out) hg3); clear hR3 hB3 hg3 hat3)
            exact ⟨⟨i + 1, vs ++ [(A1, n.length, c1)], zs ++ [n], by simp, by omega, ⟨by rw [List.length_append, List.length_append]; have := HVL.out; simp; omega⟩, ⟨fun r hr => by
              rcases List.mem_append.1 hr with hr | hr
              · exact HS.out r hr
              · rw [List.mem_singleton.1 hr]; exact HLn.out⟩, HJN, HR3, HY3, HB3⟩, by simp only [intOf]; omega⟩
          · obtain ⟨n, hn⟩ : ∃ n, n = entryZ m.entry := ⟨_, rfl⟩
            have hge := HRt.out.x (mem_hasB hmem)
            have hf : fieldP m 101 = (n, 0) := by rw [hn]; rfl
            have HE := Aside0.mk (show entryP m.entry = (n, 0) by rw [entryP, if_pos hge, hn])
            have HJN := Aside0.mk (show encGo m (zs ++ [n]) (p.data.toList.drop (i + 1)) = (z, x) by rw [hf, if_pos rfl] at hdr; exact hdr)
            have HLn := Aside0.mk (show n.length ≤ 50000000 by rw [hn]; exact join_len (entry_join (good87 hge)) (by simp))
            clear hf hdr hn hge
            go_wp2_with (fail)
            refine (refPack76_calls m.entry (a 0) (c 0) n 0 wq (HM2.out.below (below_then HB.out HB.out.size HKq.out)).r0 HM2.out.l0 HE.out).mono ?_
            rintro e w5 ⟨A1, c1, rfl, hG⟩
            have HKW := Aside0.mk (below_then HKq.out HKq.out.size hG.keep)
            have HYt := Aside0.mk (hG.byt (w0 := w2) (by have := HB.out.size; have := HKq.out.size; omega))
            clear hG x0 x1 x2 x3 x4 x5 x6 x7 x8 x9 x10 x11 x12
            have HR2 := Aside0.mk (Kd.R_below HR.out HKW.out)
            have HBW := Aside0.mk (below_then HB.out HB.out.size HKW.out)
            have hs2 := HBW.out.size
            have HYn := Aside0.mk ((HY.out.below HKW.out).snoc HYt.out)
            go_wp2_with (at_builtin; refine Kd.R_append kv (w0 := w2) w2.heap.size rfl (.tmp 91) (.tmp 93) 32 22 (.slice none 0 0) 24 rfl Try.underlying32 Walks.info22 rfl (by decide) (by omega) (.slice Av vs.length cv) vs (A1, n.length, c1) [.slice A1 n.length c1] (fun k_ => w2.heap.size ≤ k_) (fun k_ => w2.heap.size ≤ k_ ∧ some k_ ≠ (Value.slice Av vs.length cv).ownBlock) rfl rfl rfl (fun _ h => h) (fun k hk => by omega) HR2.out HBW.out hs2 (by omega) ?_; intro v3 w3 hR3 hB3 hg3 hat3; have HR3 := Aside0.mk hR3; have HB3 := Aside0.mk hB3; have HY3 := Aside0.mk (HYn.out.grown (Kd.R_typed HR2.out) hg3); clear hR3 hB3 hg3 hat3)
            exact ⟨⟨i + 1, vs ++ [(A1, n.length, c1)], zs ++ [n], by simp, by omega, ⟨by rw [List.length_append, List.length_append]; have := HVL.out; simp; omega⟩, ⟨fun r hr => by
              rcases List.mem_append.1 hr with hr | hr
              · exact HS.out r hr
              · rw [List.mem_singleton.1 hr]; exact HLn.out⟩, HJN, HR3, HY3, HB3⟩, by simp only [intOf]; omega⟩
          · obtain ⟨n, hn⟩ : ∃ n, n = m.digest := ⟨_, rfl⟩
            have hf : fieldP m 100 = (n, 0) := by rw [hn]; rfl
            have HJN := Aside0.mk (show encGo m (zs ++ [n]) (p.data.toList.drop (i + 1)) = (z, x) by rw [hf, if_pos rfl] at hdr; exact hdr)
            have HLn := Aside0.mk (show n.length ≤ 50000000 by rw [hn]; have := HRt.out.d (mem_hasB hmem); omega)
            have HYt := Aside0.mk (show Byt w2 wq (a 1) (c 1) n from Or.inl (by rw [hn]; exact ⟨HM2.out.l1, HM2.out.r1⟩))
            rw [← hn] at x9
            obtain ⟨A1, hA1⟩ : ∃ A, A = a 1 := ⟨_, rfl⟩
            obtain ⟨c1, hc1⟩ : ∃ k, k = c 1 := ⟨_, rfl⟩
            rw [← hA1, ← hc1] at HYt x9
            clear hf hdr hn hA1 hc1
            have HKW := HKq
            have HR2 := Aside0.mk (Kd.R_below HR.out HKW.out)
            have HBW := Aside0.mk (below_then HB.out HB.out.size HKW.out)
            have hs2 := HBW.out.size
            have HYn := Aside0.mk ((HY.out.below HKW.out).snoc HYt.out)
            go_wp2_with (at_builtin; refine Kd.R_append kv (w0 := w2) w2.heap.size rfl (.tmp 91) (.tmp 93) 32 22 (.slice none 0 0) 24 rfl Try.underlying32 Walks.info22 rfl (by decide) (by omega) (.slice Av vs.length cv) vs (A1, n.length, c1) [.slice A1 n.length c1] (fun k_ => w2.heap.size ≤ k_) (fun k_ => w2.heap.size ≤ k_ ∧ some k_ ≠ (Value.slice Av vs.length cv).ownBlock) rfl rfl rfl (fun _ h => h) (fun k hk => by omega) HR2.out HBW.out hs2 (by omega) ?_; intro v3 w3 hR3 hB3 hg3 hat3; have HR3 := Aside0.mk hR3; have HB3 := Aside0.mk hB3; have HY3 := Aside0.mk (HYn.out.grown (Kd.R_typed HR2.out) hg3); clear hR3 hB3 hg3 hat3)
            exact ⟨⟨i + 1, vs ++ [(A1, n.length, c1)], zs ++ [n], by simp, by omega, ⟨by rw [List.length_append, List.length_append]; have := HVL.out; simp; omega⟩, ⟨fun r hr => by
              rcases List.mem_append.1 hr with hr | hr
              · exact HS.out r hr
              · rw [List.mem_singleton.1 hr]; exact HLn.out⟩, HJN, HR3, HY3, HB3⟩, by simp only [intOf]; omega⟩
          · obtain ⟨n, hn⟩ : ∃ n, n = m.data := ⟨_, rfl⟩
            have hf : fieldP m 98 = (n, 0) := by rw [hn]; rfl
            have HJN := Aside0.mk (show encGo m (zs ++ [n]) (p.data.toList.drop (i + 1)) = (z, x) by rw [hf, if_pos rfl] at hdr; exact hdr)
            have HLn := Aside0.mk (show n.length ≤ 50000000 by rw [hn]; have := HRt.out.b; have h2 : mostOf m.kind ≤ 65536 := (by unfold mostOf; split <;> omega); omega)
            have HYt := Aside0.mk (show Byt w2 wq (a 2) (c 2) n from Or.inl (by rw [hn]; exact ⟨HM2.out.l2, HM2.out.r2⟩))
            rw [← hn] at x10
            obtain ⟨A1, hA1⟩ : ∃ A, A = a 2 := ⟨_, rfl⟩
            obtain ⟨c1, hc1⟩ : ∃ k, k = c 2 := ⟨_, rfl⟩
            rw [← hA1, ← hc1] at HYt x10
            clear hf hdr hn hA1 hc1
            have HKW := HKq
            have HR2 := Aside0.mk (Kd.R_below HR.out HKW.out)
            have HBW := Aside0.mk (below_then HB.out HB.out.size HKW.out)
            have hs2 := HBW.out.size
            have HYn := Aside0.mk ((HY.out.below HKW.out).snoc HYt.out)
            go_wp2_with (at_builtin; refine Kd.R_append kv (w0 := w2) w2.heap.size rfl (.tmp 91) (.tmp 93) 32 22 (.slice none 0 0) 24 rfl Try.underlying32 Walks.info22 rfl (by decide) (by omega) (.slice Av vs.length cv) vs (A1, n.length, c1) [.slice A1 n.length c1] (fun k_ => w2.heap.size ≤ k_) (fun k_ => w2.heap.size ≤ k_ ∧ some k_ ≠ (Value.slice Av vs.length cv).ownBlock) rfl rfl rfl (fun _ h => h) (fun k hk => by omega) HR2.out HBW.out hs2 (by omega) ?_; intro v3 w3 hR3 hB3 hg3 hat3; have HR3 := Aside0.mk hR3; have HB3 := Aside0.mk hB3; have HY3 := Aside0.mk (HYn.out.grown (Kd.R_typed HR2.out) hg3); clear hR3 hB3 hg3 hat3)
            exact ⟨⟨i + 1, vs ++ [(A1, n.length, c1)], zs ++ [n], by simp, by omega, ⟨by rw [List.length_append, List.length_append]; have := HVL.out; simp; omega⟩, ⟨fun r hr => by
              rcases List.mem_append.1 hr with hr | hr
              · exact HS.out r hr
              · rw [List.mem_singleton.1 hr]; exact HLn.out⟩, HJN, HR3, HY3, HB3⟩, by simp only [intOf]; omega⟩
          · obtain ⟨n, fx, he⟩ : ∃ n fx, joinP (m.proof.map letterZ) = (n, fx) := ⟨_, _, rfl⟩
            have hf : fieldP m 108 = (n, fx) := by rw [← he]; rfl
            have HE := Aside0.mk he
            by_cases hx0 : fx = 0
            · subst hx0
              have HJN := Aside0.mk (show encGo m (zs ++ [n]) (p.data.toList.drop (i + 1)) = (z, x) by rw [hf, if_pos rfl] at hdr; exact hdr)
              have HLn := Aside0.mk (show n.length ≤ 50000000 by exact join_len HE.out (by rw [List.length_map]; exact HRt.out.n))
              clear hf hdr he
              go_wp2_with (fail)
              refine (packs102_calls (a 3) (c 3) m.proof n 0 wq (HM2.out.below (below_then HB.out HB.out.size HKq.out)).r3 HM2.out.l3 HRt.out.l HRt.out.n HE.out).mono ?_
              rintro e w5 ⟨A1, c1, rfl, hG⟩
              have HKW := Aside0.mk (below_then HKq.out HKq.out.size hG.keep)
              have HYt := Aside0.mk (hG.byt (w0 := w2) (by have := HB.out.size; have := HKq.out.size; omega))
              clear hG x0 x1 x2 x3 x4 x5 x6 x7 x8 x9 x10 x11 x12
              have HR2 := Aside0.mk (Kd.R_below HR.out HKW.out)
              have HBW := Aside0.mk (below_then HB.out HB.out.size HKW.out)
              have hs2 := HBW.out.size
              have HYn := Aside0.mk ((HY.out.below HKW.out).snoc HYt.out)
              go_wp2_with (at_builtin; refine Kd.R_append kv (w0 := w2) w2.heap.size rfl (.tmp 91) (.tmp 93) 32 22 (.slice none 0 0) 24 rfl Try.underlying32 Walks.info22 rfl (by decide) (by omega) (.slice Av vs.length cv) vs (A1, n.length, c1) [.slice A1 n.length c1] (fun k_ => w2.heap.size ≤ k_) (fun k_ => w2.heap.size ≤ k_ ∧ some k_ ≠ (Value.slice Av vs.length cv).ownBlock) rfl rfl rfl (fun _ h => h) (fun k hk => by omega) HR2.out HBW.out hs2 (by omega) ?_; intro v3 w3 hR3 hB3 hg3 hat3; have HR3 := Aside0.mk hR3; have HB3 := Aside0.mk hB3; have HY3 := Aside0.mk (HYn.out.grown (Kd.R_typed HR2.out) hg3); clear hR3 hB3 hg3 hat3)
              exact ⟨⟨i + 1, vs ++ [(A1, n.length, c1)], zs ++ [n], by simp, by omega, ⟨by rw [List.length_append, List.length_append]; have := HVL.out; simp; omega⟩, ⟨fun r hr => by
                rcases List.mem_append.1 hr with hr | hr
                · exact HS.out r hr
                · rw [List.mem_singleton.1 hr]; exact HLn.out⟩, HJN, HR3, HY3, HB3⟩, by simp only [intOf]; omega⟩
            · rw [hf, if_neg hx0] at hdr
              obtain ⟨rfl, rfl⟩ := Prod.mk.inj hdr
              have be : (fx != 0) = true := bne_iff_ne.mpr hx0
              clear hdr hf hx0 he
              go_wp2_with (fail)
              refine (packs102_calls (a 3) (c 3) m.proof n fx wq (HM2.out.below (below_then HB.out HB.out.size HKq.out)).r3 HM2.out.l3 HRt.out.l HRt.out.n HE.out).mono ?_
              rintro e w5 ⟨A1, c1, rfl, hG⟩
              have HKW := Aside0.mk (below_then HKq.out HKq.out.size hG.keep)
              have HBW := Aside0.mk (below_then HB.out HB.out.size HKW.out)
              clear hG x0 x1 x2 x3 x4 x5 x6 x7 x8 x9 x10 x11 x12
              go_wp2_with (fail)
              go_ret2
              first | exact ⟨none, ⟨0, rfl⟩, Kd.C_nil_ _ _, below_then HB2.out HB2.out.size HBW.out⟩ | exact ⟨none, 0, rfl, Nat.le_refl _, Kd.C_nil_ _ _, below_then HB2.out HB2.out.size HBW.out⟩
          · obtain ⟨n, fx, he⟩ : ∃ n fx, provGo [] m.proven = (n, fx) := ⟨_, _, rfl⟩
            have hf : fieldP m 112 = (n, fx) := by rw [← he]; rfl
            have HE := Aside0.mk he
            by_cases hx0 : fx = 0
            · subst hx0
              have HJN := Aside0.mk (show encGo m (zs ++ [n]) (p.data.toList.drop (i + 1)) = (z, x) by rw [hf, if_pos rfl] at hdr; exact hdr)
              have HLn := Aside0.mk (show n.length ≤ 50000000 by exact join_len (provGo_iff.1 HE.out).2 (by have := HRt.out.k; simp; omega))
              clear hf hdr he
              go_wp2_with (fail)
              refine (proven103_calls (a 4) (c 4) m.proven n 0 wq (HM2.out.below (below_then HB.out HB.out.size HKq.out)).r4 HM2.out.l4 HRt.out.pr HRt.out.k HE.out).mono ?_
              rintro e w5 ⟨A1, c1, rfl, hG⟩
              have HKW := Aside0.mk (below_then HKq.out HKq.out.size hG.keep)
              have HYt := Aside0.mk (hG.byt (w0 := w2) (by have := HB.out.size; have := HKq.out.size; omega))
              clear hG x0 x1 x2 x3 x4 x5 x6 x7 x8 x9 x10 x11 x12
              have HR2 := Aside0.mk (Kd.R_below HR.out HKW.out)
              have HBW := Aside0.mk (below_then HB.out HB.out.size HKW.out)
              have hs2 := HBW.out.size
              have HYn := Aside0.mk ((HY.out.below HKW.out).snoc HYt.out)
              go_wp2_with (at_builtin; refine Kd.R_append kv (w0 := w2) w2.heap.size rfl (.tmp 91) (.tmp 93) 32 22 (.slice none 0 0) 24 rfl Try.underlying32 Walks.info22 rfl (by decide) (by omega) (.slice Av vs.length cv) vs (A1, n.length, c1) [.slice A1 n.length c1] (fun k_ => w2.heap.size ≤ k_) (fun k_ => w2.heap.size ≤ k_ ∧ some k_ ≠ (Value.slice Av vs.length cv).ownBlock) rfl rfl rfl (fun _ h => h) (fun k hk => by omega) HR2.out HBW.out hs2 (by omega) ?_; intro v3 w3 hR3 hB3 hg3 hat3; have HR3 := Aside0.mk hR3; have HB3 := Aside0.mk hB3; have HY3 := Aside0.mk (HYn.out.grown (Kd.R_typed HR2.out) hg3); clear hR3 hB3 hg3 hat3)
              exact ⟨⟨i + 1, vs ++ [(A1, n.length, c1)], zs ++ [n], by simp, by omega, ⟨by rw [List.length_append, List.length_append]; have := HVL.out; simp; omega⟩, ⟨fun r hr => by
                rcases List.mem_append.1 hr with hr | hr
                · exact HS.out r hr
                · rw [List.mem_singleton.1 hr]; exact HLn.out⟩, HJN, HR3, HY3, HB3⟩, by simp only [intOf]; omega⟩
            · rw [hf, if_neg hx0] at hdr
              obtain ⟨rfl, rfl⟩ := Prod.mk.inj hdr
              have be : (fx != 0) = true := bne_iff_ne.mpr hx0
              clear hdr hf hx0 he
              go_wp2_with (fail)
              refine (proven103_calls (a 4) (c 4) m.proven n fx wq (HM2.out.below (below_then HB.out HB.out.size HKq.out)).r4 HM2.out.l4 HRt.out.pr HRt.out.k HE.out).mono ?_
              rintro e w5 ⟨A1, c1, rfl, hG⟩
              have HKW := Aside0.mk (below_then HKq.out HKq.out.size hG.keep)
              have HBW := Aside0.mk (below_then HB.out HB.out.size HKW.out)
              clear hG x0 x1 x2 x3 x4 x5 x6 x7 x8 x9 x10 x11 x12
              go_wp2_with (fail)
              go_ret2
              first | exact ⟨none, ⟨0, rfl⟩, Kd.C_nil_ _ _, below_then HB2.out HB2.out.size HBW.out⟩ | exact ⟨none, 0, rfl, Nat.le_refl _, Kd.C_nil_ _ _, below_then HB2.out HB2.out.size HBW.out⟩
        · have d0 : decide ((i : Int) < (p.size : Int)) = false := decide_eq_false (by omega)
          have d0' : decide (i < p.size) = false := decide_eq_false hlt
          have HJ2 := Aside0.mk (show joinP zs = (z, x) by have := HJ.out; rw [List.drop_eq_nil_of_le (by show p.size ≤ i; omega), encGo] at this; exact this)
          have HBy := Aside0.mk (HY.out.bys HB.out)
          obtain ⟨nv, hnv⟩ : ∃ k, k = vs.length := ⟨_, rfl⟩
          have hzl : zs.length = vs.length := HBy.out.1.symm
          have HC := Aside0.mk (rows_of_vals (Kd.R_reads' HR.out).2.2 HBy.out)
          have Hcv := Aside0.mk (Kd.R_reads' HR.out).2.1
          rw [← hzl] at Hcv ⊢
          clear hnv hzl hvl
          go_wp2_with (fail)
          refine (refJoin_calls Av cv zs z x wr HC.out Hcv.out (rows_len HS.out (by have := HVL.out.2; omega)) HJ2.out).mono ?_
          rintro e w6 ⟨A1, c1, rfl, hG⟩
          have HC6 := Aside0.mk (And.intro hG.cap hG.row)
          have HB6 := Aside0.mk (below_then HB2.out HB2.out.size (below_then HB.out HB.out.size hG.keep))
          clear hG
          go_wp2_with (fail)
          go_ret2
          exact ⟨_, _, rfl, HC6.out.1, HC6.out.2, HB6.out⟩
end Go.Proofs.Ytijccobeljoikaa.Ms

/- msg: MsgEncodes: Encode answers the document's bytes or error; the message is left as it was. -/
namespace Go.Proofs.Ytijccobeljoikaa.Ms
open Go.RowKit Go.Proofs.YtijccobeljoikaaW.PrintWords Go.Proofs.YtijccobeljoikaaW.PrintLast
open Go.Proofs.Ytijccobeljoikaa.Plain Go.Proofs.Ytijccobeljoikaa.Walks
set_option linter.unusedVariables false
set_option linter.unusedSimpArgs false
set_option maxHeartbeats 16000000 in
set_option maxRecDepth 100000 in
theorem encodes_calls (m : S91) (a : Nat → Option Addr) (d : Nat → Nat) (w : World) (hM : Msg w m a d) (hF : Fit91 m) :
    Calls Try.prog 17 #[.agg #[.int .i64 m.kind, .int .i64 m.view, .int .i64 m.seq, .int .i64 m.client, .int .i64 m.stamp, .int .i64 m.entry.f0, .int .i64 m.entry.f1, .int .i64 m.entry.f2, .slice (a 0) m.entry.f3.length (d 0), .slice (a 1) m.digest.length (d 1), .slice (a 2) m.data.length (d 2), .slice (a 3) m.proof.length (d 3), .slice (a 4) m.proven.length (d 4)]] w fun e w' => e = .returned (.bool true) ∧ Below w.heap.size w w' := by
  have hu91 := Try.underlying91
  have HM := Aside0.mk hM
  have HF := Aside0.mk hF
  have HX0 := Aside0.mk (blk_new w (.cells #[.int .i64 m.kind, .int .i64 m.view, .int .i64 m.seq, .int .i64 m.client, .int .i64 m.stamp, .int .i64 m.entry.f0, .int .i64 m.entry.f1, .int .i64 m.entry.f2, .slice (a 0) m.entry.f3.length (d 0), .slice (a 1) m.digest.length (d 1), .slice (a 2) m.data.length (d 2), .slice (a 3) m.proof.length (d 3), .slice (a 4) m.proven.length (d 4)] 91))
  have HB0 := Aside0.mk (below_alloc (Below.refl w.heap.size w) (.cells #[.int .i64 m.kind, .int .i64 m.view, .int .i64 m.seq, .int .i64 m.client, .int .i64 m.stamp, .int .i64 m.entry.f0, .int .i64 m.entry.f1, .int .i64 m.entry.f2, .slice (a 0) m.entry.f3.length (d 0), .slice (a 1) m.digest.length (d 1), .slice (a 2) m.data.length (d 2), .slice (a 3) m.proof.length (d 3), .slice (a 4) m.proven.length (d 4)] 91))
  clear hM hF
  go_enter Try.func17, Try.ntmps17
  go_wp2_with (fail)
  generalize w.alloc (.cells #[.int .i64 m.kind, .int .i64 m.view, .int .i64 m.seq, .int .i64 m.client, .int .i64 m.stamp, .int .i64 m.entry.f0, .int .i64 m.entry.f1, .int .i64 m.entry.f2, .slice (a 0) m.entry.f3.length (d 0), .slice (a 1) m.digest.length (d 1), .slice (a 2) m.data.length (d 2), .slice (a 3) m.proof.length (d 3), .slice (a 4) m.proven.length (d 4)] 91) = w0 at HX0 HB0 ⊢
  refine (alive_calls w0).mono ?_
  rintro e w1 ⟨rfl, hB⟩
  have HX1 := Aside0.mk ((hB.block _ (blk_lt2 HX0.out)).trans HX0.out)
  have HB1 := Aside0.mk (below_then HB0.out HB0.out.size hB)
  have x0 : w1.cell? ⟨w.heap.size, 0, none⟩ = some (.int .i64 m.kind) := (blk_cell HX1.out 0).trans rfl
  have x1 : w1.cell? ⟨w.heap.size, 1, none⟩ = some (.int .i64 m.view) := (blk_cell HX1.out 1).trans rfl
  have x2 : w1.cell? ⟨w.heap.size, 2, none⟩ = some (.int .i64 m.seq) := (blk_cell HX1.out 2).trans rfl
  have x3 : w1.cell? ⟨w.heap.size, 3, none⟩ = some (.int .i64 m.client) := (blk_cell HX1.out 3).trans rfl
  have x4 : w1.cell? ⟨w.heap.size, 4, none⟩ = some (.int .i64 m.stamp) := (blk_cell HX1.out 4).trans rfl
  have x5 : w1.cell? ⟨w.heap.size, 5, none⟩ = some (.int .i64 m.entry.f0) := (blk_cell HX1.out 5).trans rfl
  have x6 : w1.cell? ⟨w.heap.size, 6, none⟩ = some (.int .i64 m.entry.f1) := (blk_cell HX1.out 6).trans rfl
  have x7 : w1.cell? ⟨w.heap.size, 7, none⟩ = some (.int .i64 m.entry.f2) := (blk_cell HX1.out 7).trans rfl
  have x8 : w1.cell? ⟨w.heap.size, 8, none⟩ = some (.slice (a 0) m.entry.f3.length (d 0)) := (blk_cell HX1.out 8).trans rfl
  have x9 : w1.cell? ⟨w.heap.size, 9, none⟩ = some (.slice (a 1) m.digest.length (d 1)) := (blk_cell HX1.out 9).trans rfl
  have x10 : w1.cell? ⟨w.heap.size, 10, none⟩ = some (.slice (a 2) m.data.length (d 2)) := (blk_cell HX1.out 10).trans rfl
  have x11 : w1.cell? ⟨w.heap.size, 11, none⟩ = some (.slice (a 3) m.proof.length (d 3)) := (blk_cell HX1.out 11).trans rfl
  have x12 : w1.cell? ⟨w.heap.size, 12, none⟩ = some (.slice (a 4) m.proven.length (d 4)) := (blk_cell HX1.out 12).trans rfl
  clear hB HX0 HB0
  go_wp2_with (fail)
  have hE := heavy_calls m a d 100000 w1 (HM.out.below HB1.out)
  with_reducible refine hE.mono ?_
  rintro e w2 ⟨q, rfl, hB⟩
  have HX2 := Aside0.mk ((hB.block _ (blk_lt2 HX1.out)).trans HX1.out)
  have HB2 := Aside0.mk (below_then HB1.out HB1.out.size hB)
  clear hB hE x0 x1 x2 x3 x4 x5 x6 x7 x8 x9 x10 x11 x12 HX1 HB1
  cases q with
  | true =>
    go_wp2_with (fail)
    go_ret
    exact ⟨rfl, HB2.out⟩
  | false =>
    have x0 : w2.cell? ⟨w.heap.size, 0, none⟩ = some (.int .i64 m.kind) := (blk_cell HX2.out 0).trans rfl
    have x1 : w2.cell? ⟨w.heap.size, 1, none⟩ = some (.int .i64 m.view) := (blk_cell HX2.out 1).trans rfl
    have x2 : w2.cell? ⟨w.heap.size, 2, none⟩ = some (.int .i64 m.seq) := (blk_cell HX2.out 2).trans rfl
    have x3 : w2.cell? ⟨w.heap.size, 3, none⟩ = some (.int .i64 m.client) := (blk_cell HX2.out 3).trans rfl
    have x4 : w2.cell? ⟨w.heap.size, 4, none⟩ = some (.int .i64 m.stamp) := (blk_cell HX2.out 4).trans rfl
    have x5 : w2.cell? ⟨w.heap.size, 5, none⟩ = some (.int .i64 m.entry.f0) := (blk_cell HX2.out 5).trans rfl
    have x6 : w2.cell? ⟨w.heap.size, 6, none⟩ = some (.int .i64 m.entry.f1) := (blk_cell HX2.out 6).trans rfl
    have x7 : w2.cell? ⟨w.heap.size, 7, none⟩ = some (.int .i64 m.entry.f2) := (blk_cell HX2.out 7).trans rfl
    have x8 : w2.cell? ⟨w.heap.size, 8, none⟩ = some (.slice (a 0) m.entry.f3.length (d 0)) := (blk_cell HX2.out 8).trans rfl
    have x9 : w2.cell? ⟨w.heap.size, 9, none⟩ = some (.slice (a 1) m.digest.length (d 1)) := (blk_cell HX2.out 9).trans rfl
    have x10 : w2.cell? ⟨w.heap.size, 10, none⟩ = some (.slice (a 2) m.data.length (d 2)) := (blk_cell HX2.out 10).trans rfl
    have x11 : w2.cell? ⟨w.heap.size, 11, none⟩ = some (.slice (a 3) m.proof.length (d 3)) := (blk_cell HX2.out 11).trans rfl
    have x12 : w2.cell? ⟨w.heap.size, 12, none⟩ = some (.slice (a 4) m.proven.length (d 4)) := (blk_cell HX2.out 12).trans rfl
    go_wp2_with (fail)
    have hE := copyMsg_calls m a d w2 (HM.out.below HB2.out) HF.out
    with_reducible refine hE.mono ?_
    rintro e w3 ⟨b, c, rfl, hM3, hB⟩
    have HX3 := Aside0.mk ((hB.block _ (blk_lt2 HX2.out)).trans HX2.out)
    have HB3 := Aside0.mk (below_then HB2.out HB2.out.size hB)
    have HM3 := Aside0.mk hM3
    clear hB hE hM3 x0 x1 x2 x3 x4 x5 x6 x7 x8 x9 x10 x11 x12 HX2 HB2
    have HN0 := Aside0.mk (blk_new w3 (.cells #[.int .i64 0, .int .i64 0, .int .i64 0, .int .i64 0, .int .i64 0, .int .i64 0, .int .i64 0, .int .i64 0, .slice none 0 0, .slice none 0 0, .slice none 0 0, .slice none 0 0, .slice none 0 0] 91))
    have HK0 := Aside0.mk (below_alloc (Below.refl w3.heap.size w3) (.cells #[.int .i64 0, .int .i64 0, .int .i64 0, .int .i64 0, .int .i64 0, .int .i64 0, .int .i64 0, .int .i64 0, .slice none 0 0, .slice none 0 0, .slice none 0 0, .slice none 0 0, .slice none 0 0] 91))
    go_upto_region 6 with (refine wpList_store_row rfl 91 (.tmp 3) (.tmp 13) rfl w3.heap.size #[.int .i64 m.kind, .int .i64 m.view, .int .i64 m.seq, .int .i64 m.client, .int .i64 m.stamp, .int .i64 m.entry.f0, .int .i64 m.entry.f1, .int .i64 m.entry.f2, .slice (b 0) m.entry.f3.length (c 0), .slice (b 1) m.digest.length (c 1), .slice (b 2) m.data.length (c 2), .slice (b 3) m.proof.length (c 3), .slice (b 4) m.proven.length (c 4)] rfl rfl 91 _ HN0.out size91 rfl (by simp [Value.oneCell']) ?_; have HN4 := Aside0.mk (setRow_heap _ _ _ #[.int .i64 m.kind, .int .i64 m.view, .int .i64 m.seq, .int .i64 m.client, .int .i64 m.stamp, .int .i64 m.entry.f0, .int .i64 m.entry.f1, .int .i64 m.entry.f2, .slice (b 0) m.entry.f3.length (c 0), .slice (b 1) m.digest.length (c 1), .slice (b 2) m.data.length (c 2), .slice (b 3) m.proof.length (c 3), .slice (b 4) m.proven.length (c 4)] _ _ HN0.out); have HK4 := Aside0.mk (below_setRow HK0.out (Nat.le_refl _) #[.int .i64 m.kind, .int .i64 m.view, .int .i64 m.seq, .int .i64 m.client, .int .i64 m.stamp, .int .i64 m.entry.f0, .int .i64 m.entry.f1, .int .i64 m.entry.f2, .slice (b 0) m.entry.f3.length (c 0), .slice (b 1) m.digest.length (c 1), .slice (b 2) m.data.length (c 2), .slice (b 3) m.proof.length (c 3), .slice (b 4) m.proven.length (c 4)]))
    generalize (w3.alloc (.cells #[.int .i64 0, .int .i64 0, .int .i64 0, .int .i64 0, .int .i64 0, .int .i64 0, .int .i64 0, .int .i64 0, .slice none 0 0, .slice none 0 0, .slice none 0 0, .slice none 0 0, .slice none 0 0] 91)).setRow w3.heap.size #[.int .i64 m.kind, .int .i64 m.view, .int .i64 m.seq, .int .i64 m.client, .int .i64 m.stamp, .int .i64 m.entry.f0, .int .i64 m.entry.f1, .int .i64 m.entry.f2, .slice (b 0) m.entry.f3.length (c 0), .slice (b 1) m.digest.length (c 1), .slice (b 2) m.data.length (c 2), .slice (b 3) m.proof.length (c 3), .slice (b 4) m.proven.length (c 4)] = w4 at HN4 HK4 ⊢
    have HX4 := Aside0.mk ((HK4.out.block _ (blk_lt2 HX3.out)).trans HX3.out)
    have HB4 := Aside0.mk (below_then HB3.out HB3.out.size HK4.out)
    have HM4 := Aside0.mk (HM3.out.below HK4.out)
    have n0 : w4.cell? ⟨w3.heap.size, 0, none⟩ = some (.int .i64 m.kind) := (blk_cell HN4.out 0).trans rfl
    have n1 : w4.cell? ⟨w3.heap.size, 1, none⟩ = some (.int .i64 m.view) := (blk_cell HN4.out 1).trans rfl
    have n2 : w4.cell? ⟨w3.heap.size, 2, none⟩ = some (.int .i64 m.seq) := (blk_cell HN4.out 2).trans rfl
    have n3 : w4.cell? ⟨w3.heap.size, 3, none⟩ = some (.int .i64 m.client) := (blk_cell HN4.out 3).trans rfl
    have n4 : w4.cell? ⟨w3.heap.size, 4, none⟩ = some (.int .i64 m.stamp) := (blk_cell HN4.out 4).trans rfl
    have n5 : w4.cell? ⟨w3.heap.size, 5, none⟩ = some (.int .i64 m.entry.f0) := (blk_cell HN4.out 5).trans rfl
    have n6 : w4.cell? ⟨w3.heap.size, 6, none⟩ = some (.int .i64 m.entry.f1) := (blk_cell HN4.out 6).trans rfl
    have n7 : w4.cell? ⟨w3.heap.size, 7, none⟩ = some (.int .i64 m.entry.f2) := (blk_cell HN4.out 7).trans rfl
    have n8 : w4.cell? ⟨w3.heap.size, 8, none⟩ = some (.slice (b 0) m.entry.f3.length (c 0)) := (blk_cell HN4.out 8).trans rfl
    have n9 : w4.cell? ⟨w3.heap.size, 9, none⟩ = some (.slice (b 1) m.digest.length (c 1)) := (blk_cell HN4.out 9).trans rfl
    have n10 : w4.cell? ⟨w3.heap.size, 10, none⟩ = some (.slice (b 2) m.data.length (c 2)) := (blk_cell HN4.out 10).trans rfl
    have n11 : w4.cell? ⟨w3.heap.size, 11, none⟩ = some (.slice (b 3) m.proof.length (c 3)) := (blk_cell HN4.out 11).trans rfl
    have n12 : w4.cell? ⟨w3.heap.size, 12, none⟩ = some (.slice (b 4) m.proven.length (c 4)) := (blk_cell HN4.out 12).trans rfl
    go_wp2_with (fail)
    obtain ⟨z, x, hz⟩ : ∃ z x, encP m = (z, x) := ⟨_, _, rfl⟩
    have HZ := Aside0.mk hz
    have hE := encode_calls m b c z x w4 HM4.out hz
    clear hz
    with_reducible refine hE.mono ?_
    rintro e w5 ⟨A1, c1, rfl, hc1, hC1, hB⟩
    have HX5 := Aside0.mk ((hB.block _ (blk_lt2 HX4.out)).trans HX4.out)
    have HN5 := Aside0.mk ((hB.block _ (blk_lt2 HN4.out)).trans HN4.out)
    have HB5 := Aside0.mk (below_then HB4.out HB4.out.size hB)
    have HM5 := Aside0.mk (HM4.out.below hB)
    have HC1 := Aside0.mk (And.intro hc1 hC1)
    clear hB hE hC1 hc1 n0 n1 n2 n3 n4 n5 n6 n7 n8 n9 n10 n11 n12 HX4 HB4 HM4
    have x0 : w5.cell? ⟨w.heap.size, 0, none⟩ = some (.int .i64 m.kind) := (blk_cell HX5.out 0).trans rfl
    have x1 : w5.cell? ⟨w.heap.size, 1, none⟩ = some (.int .i64 m.view) := (blk_cell HX5.out 1).trans rfl
    have x2 : w5.cell? ⟨w.heap.size, 2, none⟩ = some (.int .i64 m.seq) := (blk_cell HX5.out 2).trans rfl
    have x3 : w5.cell? ⟨w.heap.size, 3, none⟩ = some (.int .i64 m.client) := (blk_cell HX5.out 3).trans rfl
    have x4 : w5.cell? ⟨w.heap.size, 4, none⟩ = some (.int .i64 m.stamp) := (blk_cell HX5.out 4).trans rfl
    have x5 : w5.cell? ⟨w.heap.size, 5, none⟩ = some (.int .i64 m.entry.f0) := (blk_cell HX5.out 5).trans rfl
    have x6 : w5.cell? ⟨w.heap.size, 6, none⟩ = some (.int .i64 m.entry.f1) := (blk_cell HX5.out 6).trans rfl
    have x7 : w5.cell? ⟨w.heap.size, 7, none⟩ = some (.int .i64 m.entry.f2) := (blk_cell HX5.out 7).trans rfl
    have x8 : w5.cell? ⟨w.heap.size, 8, none⟩ = some (.slice (a 0) m.entry.f3.length (d 0)) := (blk_cell HX5.out 8).trans rfl
    have x9 : w5.cell? ⟨w.heap.size, 9, none⟩ = some (.slice (a 1) m.digest.length (d 1)) := (blk_cell HX5.out 9).trans rfl
    have x10 : w5.cell? ⟨w.heap.size, 10, none⟩ = some (.slice (a 2) m.data.length (d 2)) := (blk_cell HX5.out 10).trans rfl
    have x11 : w5.cell? ⟨w.heap.size, 11, none⟩ = some (.slice (a 3) m.proof.length (d 3)) := (blk_cell HX5.out 11).trans rfl
    have x12 : w5.cell? ⟨w.heap.size, 12, none⟩ = some (.slice (a 4) m.proven.length (d 4)) := (blk_cell HX5.out 12).trans rfl
    go_wp2_with (fail)
    have hE := refEncode66_calls m a d z x w5 (HM.out.below HB5.out) HZ.out
    with_reducible refine hE.mono ?_
    rintro e w6 ⟨A2, c2, rfl, hc2, hC2, hB⟩
    have HX6 := Aside0.mk ((hB.block _ (blk_lt2 HX5.out)).trans HX5.out)
    have HN6 := Aside0.mk ((hB.block _ (blk_lt2 HN5.out)).trans HN5.out)
    have HB6 := Aside0.mk (below_then HB5.out HB5.out.size hB)
    have HM6 := Aside0.mk (HM5.out.below hB)
    have HC6 := Aside0.mk (And.intro (Kd.C_below HC1.out.2 hB) (And.intro hc2 hC2))
    clear hB hE hC2 hc2 x0 x1 x2 x3 x4 x5 x6 x7 x8 x9 x10 x11 x12 HX5 HB5 HM5
    go_wp2_with (fail)
    have hE := sameBytes_is A1 c1 z A2 c2 z true w6 HC6.out.1 HC1.out.1 HC6.out.2.2 HC6.out.2.1 (by simp)
    with_reducible refine hE.mono ?_
    rintro e w7 ⟨rfl, hD⟩
    have hB := hD.below
    have HX7 := Aside0.mk ((hB.block _ (blk_lt2 HX6.out)).trans HX6.out)
    have HN7 := Aside0.mk ((hB.block _ (blk_lt2 HN6.out)).trans HN6.out)
    have HB7 := Aside0.mk (below_then HB6.out HB6.out.size hB)
    have HM7 := Aside0.mk (HM6.out.below hB)
    clear hB hE hD HX6 HB6 HM6
    have x0 : w7.cell? ⟨w.heap.size, 0, none⟩ = some (.int .i64 m.kind) := (blk_cell HX7.out 0).trans rfl
    have x1 : w7.cell? ⟨w.heap.size, 1, none⟩ = some (.int .i64 m.view) := (blk_cell HX7.out 1).trans rfl
    have x2 : w7.cell? ⟨w.heap.size, 2, none⟩ = some (.int .i64 m.seq) := (blk_cell HX7.out 2).trans rfl
    have x3 : w7.cell? ⟨w.heap.size, 3, none⟩ = some (.int .i64 m.client) := (blk_cell HX7.out 3).trans rfl
    have x4 : w7.cell? ⟨w.heap.size, 4, none⟩ = some (.int .i64 m.stamp) := (blk_cell HX7.out 4).trans rfl
    have x5 : w7.cell? ⟨w.heap.size, 5, none⟩ = some (.int .i64 m.entry.f0) := (blk_cell HX7.out 5).trans rfl
    have x6 : w7.cell? ⟨w.heap.size, 6, none⟩ = some (.int .i64 m.entry.f1) := (blk_cell HX7.out 6).trans rfl
    have x7 : w7.cell? ⟨w.heap.size, 7, none⟩ = some (.int .i64 m.entry.f2) := (blk_cell HX7.out 7).trans rfl
    have x8 : w7.cell? ⟨w.heap.size, 8, none⟩ = some (.slice (a 0) m.entry.f3.length (d 0)) := (blk_cell HX7.out 8).trans rfl
    have x9 : w7.cell? ⟨w.heap.size, 9, none⟩ = some (.slice (a 1) m.digest.length (d 1)) := (blk_cell HX7.out 9).trans rfl
    have x10 : w7.cell? ⟨w.heap.size, 10, none⟩ = some (.slice (a 2) m.data.length (d 2)) := (blk_cell HX7.out 10).trans rfl
    have x11 : w7.cell? ⟨w.heap.size, 11, none⟩ = some (.slice (a 3) m.proof.length (d 3)) := (blk_cell HX7.out 11).trans rfl
    have x12 : w7.cell? ⟨w.heap.size, 12, none⟩ = some (.slice (a 4) m.proven.length (d 4)) := (blk_cell HX7.out 12).trans rfl
    have n0 : w7.cell? ⟨w3.heap.size, 0, none⟩ = some (.int .i64 m.kind) := (blk_cell HN7.out 0).trans rfl
    have n1 : w7.cell? ⟨w3.heap.size, 1, none⟩ = some (.int .i64 m.view) := (blk_cell HN7.out 1).trans rfl
    have n2 : w7.cell? ⟨w3.heap.size, 2, none⟩ = some (.int .i64 m.seq) := (blk_cell HN7.out 2).trans rfl
    have n3 : w7.cell? ⟨w3.heap.size, 3, none⟩ = some (.int .i64 m.client) := (blk_cell HN7.out 3).trans rfl
    have n4 : w7.cell? ⟨w3.heap.size, 4, none⟩ = some (.int .i64 m.stamp) := (blk_cell HN7.out 4).trans rfl
    have n5 : w7.cell? ⟨w3.heap.size, 5, none⟩ = some (.int .i64 m.entry.f0) := (blk_cell HN7.out 5).trans rfl
    have n6 : w7.cell? ⟨w3.heap.size, 6, none⟩ = some (.int .i64 m.entry.f1) := (blk_cell HN7.out 6).trans rfl
    have n7 : w7.cell? ⟨w3.heap.size, 7, none⟩ = some (.int .i64 m.entry.f2) := (blk_cell HN7.out 7).trans rfl
    have n8 : w7.cell? ⟨w3.heap.size, 8, none⟩ = some (.slice (b 0) m.entry.f3.length (c 0)) := (blk_cell HN7.out 8).trans rfl
    have n9 : w7.cell? ⟨w3.heap.size, 9, none⟩ = some (.slice (b 1) m.digest.length (c 1)) := (blk_cell HN7.out 9).trans rfl
    have n10 : w7.cell? ⟨w3.heap.size, 10, none⟩ = some (.slice (b 2) m.data.length (c 2)) := (blk_cell HN7.out 10).trans rfl
    have n11 : w7.cell? ⟨w3.heap.size, 11, none⟩ = some (.slice (b 3) m.proof.length (c 3)) := (blk_cell HN7.out 11).trans rfl
    have n12 : w7.cell? ⟨w3.heap.size, 12, none⟩ = some (.slice (b 4) m.proven.length (c 4)) := (blk_cell HN7.out 12).trans rfl
    go_wp2_with (fail)
    have hE := sameMsg_calls m b a c d w7 HM7.out (HM.out.below HB7.out)
    with_reducible refine hE.mono ?_
    clear hE
    rintro e w8 ⟨rfl, hB⟩
    have HB8 := Aside0.mk (below_then HB7.out HB7.out.size hB)
    clear hB
    go_wp2_with (fail)
    go_ret
    exact ⟨rfl, HB8.out⟩
theorem encodes_opened {m : S91} {cs : Array Value} {W : World} (h : Opens.k91.K W m cs.toList) (hF : Fit91 m) :
    Calls Try.prog 17 #[.agg cs] W fun e w' => e = .returned (.bool true) ∧ Below W.heap.size W w' := by
  obtain ⟨a, d, rfl, hM⟩ := Opens.k91_open h
  exact encodes_calls m a d W hM hF
end Go.Proofs.Ytijccobeljoikaa.Ms
