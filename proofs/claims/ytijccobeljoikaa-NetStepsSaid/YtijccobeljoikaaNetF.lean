/- net.Net: Copy where there is room. -/
import Derived.Test.YtijccobeljoikaaNetE
namespace Go.Proofs.Ytijccobeljoikaa.Nt
open Go.RowKit Go.Proofs.YtijccobeljoikaaW.PrintWords Go.Proofs.YtijccobeljoikaaW.PrintLast Go.Proofs.YtijccobeljoikaaW.PrintMore
open Go.Proofs.Ytijccobeljoikaa.Walks
set_option linter.unusedVariables false
set_option linter.unusedSimpArgs false

theorem NetIs.drew {b : Nat} {w : World} {g : Nat} {room : Int} {v : Value} {ms : List S74} (h : NetIs b w g room v ms) : NetIs b w.drew g room v ms := ⟨blk_drew h.blk, Kd.R_drew h.row, h.ge, h.fits, h.many⟩
theorem copy_end {b : Nat} {w0 w W w1 w2 : World} {g : Nat} {room : Int} {v u v1 : Value} {ms : List S74} {m : S74} (hI : NetIs b W g room u ms) (hA : RowAt w v u) (hK : Kept w W (NetS g v))
    (hB1 : Below W.heap.size W w1) (hR : Kd.R k74 74 w2 b (fun _ => True) v1 (ms ++ [m])) (hB2 : Below b w0 w2) (hg : w1.grownBy w2 u.ownBlock) (hat : v1.ownBlock = u.ownBlock ∨ ∃ k, v1.ownBlock = some k ∧ w1.heap.size ≤ k)
    (hf : Fits m) (hmany : ms.length + 1 ≤ 4096) :
    NetIs b (w2.setCell ⟨g, 1, none⟩ v1) g room v1 (ms ++ [m]) ∧ RowAt w v v1 ∧ Kept w (w2.setCell ⟨g, 1, none⟩ v1) (NetS g v) ∧ Below b w0 (w2.setCell ⟨g, 1, none⟩ v1) := by
  have s1 := hB1.size
  have hbl1 := blk_below hI.blk hB1
  have hne : some g ≠ u.ownBlock := Kd.R_ne hI.row hI.blk (by decide)
  have hbl2 := blk_grown hbl1 hg hne
  have hsz : w.heap.size ≤ W.heap.size := hK.1
  refine ⟨⟨blk_put hbl2 1 v1 rfl, Kd.R_set hR hbl2 (by decide) 1 v1, hI.ge, ?_, by rw [List.length_append]; exact hmany⟩, ?_, ?_, hB2.setCell hI.ge _⟩
  · intro x hx
    rcases List.mem_append.1 hx with hx | hx
    · exact hI.fits x hx
    · rw [List.mem_singleton.1 hx]; exact hf
  · rcases hat with hat | ⟨k, hk, hks⟩
    · unfold RowAt at *; rw [hat]; exact hA
    · exact .inr ⟨k, hk, by omega⟩
  · have k1 : Kept w w1 (NetS g v) := Kept.below hK hB1
    refine Kept.setCell (Kept.of_grown hg k1 (fun k hk => ?_)) (.inl (.inl rfl)) _
    rcases hA with hA | ⟨k', hk', hks⟩
    · exact .inl (.inr (by rw [← hA, hk]))
    · rw [hk] at hk'; injection hk' with hk'; exact .inr (by omega)

set_option maxHeartbeats 4000000 in
set_option maxRecDepth 100000 in
theorem copy_ok (b : Nat) (w0 w : World) (g : Nat) (room : Int) (v : Value) (ms : List S74) (i : Nat) (hI : NetIs b w g room v ms) (hb : b ≤ w.heap.size) (hB : Below b w0 w) (hk : i < ms.length) (hf : ¬ room ≤ ms.length) (hroom2 : room ≤ 4096) :
    Calls Try.prog 59 #[.pointer (some ⟨g, 0, none⟩), .int .i64 (i : Int)] w fun e w' => e = .returned (.int .i64 0) ∧ ∃ v', NetIs b w' g room v' (ms ++ [ms[i]]) ∧ RowAt w v v' ∧ Kept w w' (NetS g v) ∧ Below b w0 w' := by
  obtain ⟨A1, c1, rfl, hl1, hC1⟩ := Kd.R_reads hI.row
  have g0 : w.cell? ⟨g, 0, none⟩ = some (.int .i64 room) := by rw [blk_cell hI.blk]; rfl
  have g1 : w.cell? ⟨g, 1, none⟩ = some (.slice A1 ms.length c1) := by rw [blk_cell hI.blk]; rfl
  have hu121 := Try.underlying121
  have hu74 := Try.underlying74
  have HI := Aside0.mk hI
  have hd : decide ((0 : Int) ≤ (i : Int) ∧ (i : Int) < (ms.length : Int)) = true := decide_eq_true ⟨by omega, by omega⟩
  have hq : decide (room ≤ (ms.length : Int)) = false := decide_eq_false hf
  have b1 : (0 ≤ (i : Int)) = True := eq_true (by omega)
  have b2 : ((i : Int) < (ms.length : Int)) = True := eq_true (by omega)
  obtain ⟨ad, A5, c5, A6, c6, e, hx0, hx1, hx2, hx3, hx4, hx5, hx6, hl5, hi5, hl6, hi6⟩ := at_T74 hC1 (i : Int) (by omega) (by omega)
  subst e
  obtain ⟨m, hm⟩ : ∃ m, m = rd_T74 ms (i : Int) := ⟨_, rfl⟩
  rw [← hm] at hx0 hx1 hx2 hx3 hx4 hx5 hx6 hl5 hi5 hl6 hi6
  rw [Int.toNat_natCast] at hx0 hx1 hx2 hx3 hx4 hx5 hx6
  have hmi : ms[i] = m := by rw [hm]; simp [rd_T74, List.getD_eq_getElem?_getD, hk]
  rw [hmi]
  have hfm : Fits m := hI.fits m (by rw [← hmi]; exact List.getElem_mem hk)
  have Hf := Aside0.mk hfm
  have Hl5 := Aside0.mk hl5
  have Hi5 := Aside0.mk hi5
  have Hl6 := Aside0.mk hl6
  have Hi6 := Aside0.mk hi6
  have HB := Aside0.mk (below_drewn (below_drewn hB))
  have HN := Aside0.mk hI.drew.drew
  have hmany : ms.length + 1 ≤ 4096 := by omega
  clear hI hl1 hC1 hm hmi hfm hl5 hi5 hl6 hi6 hB
  go_enter Try.func59, Try.ntmps59
  go_wp2_with (go_at_call 87; refine (there_calls b _ g room (.slice (some ad) ms.length c1) ms HI.out (i : Int)).mono ?_; rintro e w1 ⟨rfl, rfl⟩; rw [hd])
  go_region
  go_wp2_with (fail)
  go_region_law (first
    | (go_simp; go_at_call 86; refine (cloned_calls m A5 c5 A6 c6 _ Hl5.out (Kd.C_drew (Kd.C_drew Hi5.out)) Hl6.out (Kd.C_drew (Kd.C_drew Hi6.out)) Hf.out.1 Hf.out.2.1 Hf.out.2.2).mono ?_; rintro e w1 ⟨v5, v6, rfl, hM, hB1⟩; have HM := Aside0.mk hM; have HB1 := Aside0.mk hB1; have gk1 : w1.cell? ⟨g, 1, none⟩ = some (.slice (some ad) ms.length c1) := (by rw [blk_cell (blk_below HN.out.blk hB1)]; rfl); have gk2 : (w1.alloc (Obj.cells #[.int .i64 m.f0.f0, .int .i64 m.f0.f1, .int .i64 m.f1.f0.f0, .int .i64 m.f1.f0.f1, .int .i64 m.f1.f1, v5, v6] 74)).cell? ⟨g, 1, none⟩ = some (.slice (some ad) ms.length c1) := (by rw [blk_cell (blk_alloc (blk_below HN.out.blk hB1) _)]; rfl); simp only [mailV]; clear hM hB1)
    | (refine Kd.R_append_step k74 (w0 := w0) b (by simp [Region.wanted]) (.tmp 25) (.tmp 34) 58 74 (.agg #[(.int .i64 0), (.int .i64 0), (.int .i64 0), (.int .i64 0), (.int .i64 0), (.slice none 0 0), (.slice none 0 0)]) 88 rfl Try.underlying58 info74 rfl (by decide) (by omega) (.slice (some ad) ms.length c1) ms m [.int .i64 m.f0.f0, .int .i64 m.f0.f1, .int .i64 m.f1.f0.f0, .int .i64 m.f1.f0.f1, .int .i64 m.f1.f1, v5, v6] (fun _ => True) (fun k_ => True ∧ some k_ ≠ (Value.slice (some ad) ms.length c1).ownBlock) rfl rfl (post_M' HN.out.row hb HM.out) (fun _ h => h) (fun _ _ => trivial) (Kd.R_below HN.out.row HB1.out) (below_then HB.out hb HB1.out) (Nat.le_trans hb HB1.out.size) (by omega) ?_; intro v1 w2 hR2 hB2 hg2 hat2; obtain ⟨Av, cv, ev⟩ := Kd.R_slice hR2; subst ev; obtain ⟨nv, hnv⟩ : ∃ nv, nv = (ms ++ [m]).length := ⟨_, rfl⟩; rw [← hnv] at hR2 hat2 ⊢; have Hnv := Aside0.mk hnv; clear hnv; have hne := Kd.R_ne (Kd.R_below HN.out.row HB1.out) (blk_below HN.out.blk HB1.out) (by decide); have hb2 := blk_grown (blk_below HN.out.blk HB1.out) hg2 hne; have q1 : w2.cell? ⟨g, 1, none⟩ = some (.slice (some ad) ms.length c1) := (by rw [blk_cell hb2]; rfl); have q2 : w2.frozen? ⟨g, 1, none⟩ = false := blk_frozen hb2 1; have HR2 := Aside0.mk hR2; have HB2 := Aside0.mk hB2; have HG2 := Aside0.mk hg2; have HAT := Aside0.mk hat2; clear hR2 hB2 hg2 hat2 hne hb2))
  all_goals (try go_wp2)
  all_goals (
    go_ret
    exact ⟨rfl, _, copy_end HN.out (.inl rfl) (Kept.refl _ _) HB1.out HR2.out HB2.out HG2.out HAT.out Hf.out hmany⟩)
end Go.Proofs.Ytijccobeljoikaa.Nt
