/- Put together of my texts: MuM. -/
import Derived.Test.YtijccobeljoikaaMi21
import Derived.Deep.MidRow
/- msg: the document's Decode. -/
namespace Go.Proofs.Ytijccobeljoikaa.Ms
open Go.RowKit Go.Proofs.YtijccobeljoikaaW.PrintWords Go.Proofs.YtijccobeljoikaaW.PrintLast
open Go.Proofs.Ytijccobeljoikaa.Plain Go.Proofs.Ytijccobeljoikaa.Walks
set_option linter.unusedVariables false
set_option linter.unusedSimpArgs false
set_option maxHeartbeats 200000000 in
set_option maxRecDepth 100000 in
theorem refDecode69_calls (A : Option Addr) (c : Nat) (l : List Int) (o : Option S91) (w : World) (hC : Kd.C (Kd.int .u8) w A l.length l) (hc : l.length ≤ c) (hb : Byte l) (hl : l.length < 17592186044416) (ho : decO l = o) :
    Calls Try.prog 69 #[.slice A l.length c] w fun e w' => DecPost w o e w' := by
  have hu91 := Try.underlying91
  have hu87 := Try.underlying87
  have hu101 := Try.underlying101
  have hu9 := Try.underlying9
  have HC := Aside0.mk (And.intro hC hc)
  have HBL := Aside0.mk (And.intro hb hl)
  have HR00 := Aside0.mk ((Below.heap_alloc (w.alloc (.cells #[.int .i64 0, .int .i64 0, .int .i64 0, .int .i64 0, .int .i64 0, .int .i64 0, .int .i64 0, .int .i64 0, .slice none 0 0, .slice none 0 0, .slice none 0 0, .slice none 0 0, .slice none 0 0] 91)) (.cells #[.int .i64 0, .int .i64 0, .int .i64 0, .int .i64 0, .int .i64 0, .int .i64 0, .int .i64 0, .int .i64 0, .slice none 0 0, .slice none 0 0, .slice none 0 0, .slice none 0 0, .slice none 0 0] 91) w.heap.size (by simp)).trans (blk_new w (.cells #[.int .i64 0, .int .i64 0, .int .i64 0, .int .i64 0, .int .i64 0, .int .i64 0, .int .i64 0, .int .i64 0, .slice none 0 0, .slice none 0 0, .slice none 0 0, .slice none 0 0, .slice none 0 0] 91)))
  have HN00 := Aside0.mk (blk_new (w.alloc (.cells #[.int .i64 0, .int .i64 0, .int .i64 0, .int .i64 0, .int .i64 0, .int .i64 0, .int .i64 0, .int .i64 0, .slice none 0 0, .slice none 0 0, .slice none 0 0, .slice none 0 0, .slice none 0 0] 91)) (.cells #[.int .i64 0, .int .i64 0, .int .i64 0, .int .i64 0, .int .i64 0, .int .i64 0, .int .i64 0, .int .i64 0, .slice none 0 0, .slice none 0 0, .slice none 0 0, .slice none 0 0, .slice none 0 0] 91))
  have HB00 := Aside0.mk (below_alloc (below_alloc (Below.refl w.heap.size w) (.cells #[.int .i64 0, .int .i64 0, .int .i64 0, .int .i64 0, .int .i64 0, .int .i64 0, .int .i64 0, .int .i64 0, .slice none 0 0, .slice none 0 0, .slice none 0 0, .slice none 0 0, .slice none 0 0] 91)) (.cells #[.int .i64 0, .int .i64 0, .int .i64 0, .int .i64 0, .int .i64 0, .int .i64 0, .int .i64 0, .int .i64 0, .slice none 0 0, .slice none 0 0, .slice none 0 0, .slice none 0 0, .slice none 0 0] 91))
  rw [show (w.alloc (.cells #[.int .i64 0, .int .i64 0, .int .i64 0, .int .i64 0, .int .i64 0, .int .i64 0, .int .i64 0, .int .i64 0, .slice none 0 0, .slice none 0 0, .slice none 0 0, .slice none 0 0, .slice none 0 0] 91)).heap.size = w.heap.size + 1 by simp] at HN00
  go_enter Try.func69, Try.ntmps69
  go_upto_region 2 with (refine wpList_store_row rfl 91 (.tmp 4) (.tmp 23) rfl (w.heap.size + 1) #[.int .i64 0, .int .i64 0, .int .i64 0, .int .i64 0, .int .i64 0, .int .i64 0, .int .i64 0, .int .i64 0, .slice none 0 0, .slice none 0 0, .slice none 0 0, .slice none 0 0, .slice none 0 0] rfl rfl 91 _ HN00.out size91 rfl (by simp [Value.oneCell']) ?_)
  have HN0 := Aside0.mk (setRow_heap _ _ _ #[.int .i64 0, .int .i64 0, .int .i64 0, .int .i64 0, .int .i64 0, .int .i64 0, .int .i64 0, .int .i64 0, .slice none 0 0, .slice none 0 0, .slice none 0 0, .slice none 0 0, .slice none 0 0] _ _ HN00.out)
  have HR0 := Aside0.mk ((setRow_other ((w.alloc (.cells #[.int .i64 0, .int .i64 0, .int .i64 0, .int .i64 0, .int .i64 0, .int .i64 0, .int .i64 0, .int .i64 0, .slice none 0 0, .slice none 0 0, .slice none 0 0, .slice none 0 0, .slice none 0 0] 91)).alloc (.cells #[.int .i64 0, .int .i64 0, .int .i64 0, .int .i64 0, .int .i64 0, .int .i64 0, .int .i64 0, .int .i64 0, .slice none 0 0, .slice none 0 0, .slice none 0 0, .slice none 0 0, .slice none 0 0] 91)) (w.heap.size + 1) w.heap.size #[.int .i64 0, .int .i64 0, .int .i64 0, .int .i64 0, .int .i64 0, .int .i64 0, .int .i64 0, .int .i64 0, .slice none 0 0, .slice none 0 0, .slice none 0 0, .slice none 0 0, .slice none 0 0] (by omega)).trans HR00.out)
  have HB0 := Aside0.mk (below_setRow HB00.out (Nat.le_succ _) #[.int .i64 0, .int .i64 0, .int .i64 0, .int .i64 0, .int .i64 0, .int .i64 0, .int .i64 0, .int .i64 0, .slice none 0 0, .slice none 0 0, .slice none 0 0, .slice none 0 0, .slice none 0 0])
  generalize ((w.alloc (.cells #[.int .i64 0, .int .i64 0, .int .i64 0, .int .i64 0, .int .i64 0, .int .i64 0, .int .i64 0, .int .i64 0, .slice none 0 0, .slice none 0 0, .slice none 0 0, .slice none 0 0, .slice none 0 0] 91)).alloc (.cells #[.int .i64 0, .int .i64 0, .int .i64 0, .int .i64 0, .int .i64 0, .int .i64 0, .int .i64 0, .int .i64 0, .slice none 0 0, .slice none 0 0, .slice none 0 0, .slice none 0 0, .slice none 0 0] 91)).setRow (w.heap.size + 1) #[.int .i64 0, .int .i64 0, .int .i64 0, .int .i64 0, .int .i64 0, .int .i64 0, .int .i64 0, .int .i64 0, .slice none 0 0, .slice none 0 0, .slice none 0 0, .slice none 0 0, .slice none 0 0] = w0 at HN0 HR0 HB0 ⊢
  clear HR00 HN00 HB00
  go_wp2_with (fail)
  rcases splitO_cases l with ⟨rs, x, hs, hx, hf⟩ | ⟨s, hs, hf⟩
  · have : o = none := by rw [← ho, decO, hf]; rfl
    subst this
    refine (refSplit_calls A c l rs x w0 (Kd.C_below HC.out.1 HB0.out) HC.out.2 HBL.out.1 (by have := HBL.out.2; omega) hs).mono ?_
    rintro e w1 ⟨A1, c1, rfl, hG⟩
    have HN1 := Aside0.mk ((hG.keep.block _ (blk_lt2 HN0.out)).trans HN0.out)
    have HR1 := Aside0.mk ((hG.keep.block _ (blk_lt2 HR0.out)).trans HR0.out)
    have HB1 := Aside0.mk (below_then HB0.out HB0.out.size hG.keep)
    have b0 : (x != 0) = true := bne_iff_ne.mpr hx
    clear hG hC hc hb hl ho hf hs hx
    have n0 : w1.cell? ⟨w.heap.size + 1, 0, none⟩ = some (.int .i64 0) := (blk_cell HN1.out 0).trans rfl
    have n1 : w1.cell? ⟨w.heap.size + 1, 1, none⟩ = some (.int .i64 0) := (blk_cell HN1.out 1).trans rfl
    have n2 : w1.cell? ⟨w.heap.size + 1, 2, none⟩ = some (.int .i64 0) := (blk_cell HN1.out 2).trans rfl
    have n3 : w1.cell? ⟨w.heap.size + 1, 3, none⟩ = some (.int .i64 0) := (blk_cell HN1.out 3).trans rfl
    have n4 : w1.cell? ⟨w.heap.size + 1, 4, none⟩ = some (.int .i64 0) := (blk_cell HN1.out 4).trans rfl
    have n5 : w1.cell? ⟨w.heap.size + 1, 5, none⟩ = some (.int .i64 0) := (blk_cell HN1.out 5).trans rfl
    have n6 : w1.cell? ⟨w.heap.size + 1, 6, none⟩ = some (.int .i64 0) := (blk_cell HN1.out 6).trans rfl
    have n7 : w1.cell? ⟨w.heap.size + 1, 7, none⟩ = some (.int .i64 0) := (blk_cell HN1.out 7).trans rfl
    have n8 : w1.cell? ⟨w.heap.size + 1, 8, none⟩ = some (.slice none 0 0) := (blk_cell HN1.out 8).trans rfl
    have n9 : w1.cell? ⟨w.heap.size + 1, 9, none⟩ = some (.slice none 0 0) := (blk_cell HN1.out 9).trans rfl
    have n10 : w1.cell? ⟨w.heap.size + 1, 10, none⟩ = some (.slice none 0 0) := (blk_cell HN1.out 10).trans rfl
    have n11 : w1.cell? ⟨w.heap.size + 1, 11, none⟩ = some (.slice none 0 0) := (blk_cell HN1.out 11).trans rfl
    have n12 : w1.cell? ⟨w.heap.size + 1, 12, none⟩ = some (.slice none 0 0) := (blk_cell HN1.out 12).trans rfl
    go_wp2_with (refine wpList_store_row rfl 91 (.tmp 2) (.tmp 36) rfl w.heap.size #[.int .i64 0, .int .i64 0, .int .i64 0, .int .i64 0, .int .i64 0, .int .i64 0, .int .i64 0, .int .i64 0, .slice none 0 0, .slice none 0 0, .slice none 0 0, .slice none 0 0, .slice none 0 0] rfl rfl 91 _ HR1.out size91 rfl (by simp [Value.oneCell']) ?_; have HX9 := Aside0.mk (setRow_heap _ _ _ #[.int .i64 0, .int .i64 0, .int .i64 0, .int .i64 0, .int .i64 0, .int .i64 0, .int .i64 0, .int .i64 0, .slice none 0 0, .slice none 0 0, .slice none 0 0, .slice none 0 0, .slice none 0 0] _ _ HR1.out); have HB9 := Aside0.mk (below_setRow HB1.out (Nat.le_refl _) #[.int .i64 0, .int .i64 0, .int .i64 0, .int .i64 0, .int .i64 0, .int .i64 0, .int .i64 0, .int .i64 0, .slice none 0 0, .slice none 0 0, .slice none 0 0, .slice none 0 0, .slice none 0 0]))
    exact bodyPost_ret (v := .tuple #[.agg #[.int .i64 0, .int .i64 0, .int .i64 0, .int .i64 0, .int .i64 0, .int .i64 0, .int .i64 0, .int .i64 0, .slice none 0 0, .slice none 0 0, .slice none 0 0, .slice none 0 0, .slice none 0 0], .int .i64 12]) (results_row_tmp (p := 2) (u := 3) (ty := 91) rfl _ _ w.heap.size 91 _ _ _ rfl HX9.out hu91 rfl size91) rfl ⟨HB9.out, rfl⟩
  · obtain ⟨hj, hbs⟩ := splitO_some hb hf
    have HBs := Aside0.mk hbs
    have HLs := Aside0.mk (joinP_some hj).2.1
    have hln := (joinP_some hj).2.2
    have ho' := ho
    unfold decO at ho'
    rw [hf] at ho'
    simp only [Option.bind_some] at ho'
    refine (refSplit_calls A c l s 0 w0 (Kd.C_below HC.out.1 HB0.out) HC.out.2 HBL.out.1 (by have := HBL.out.2; omega) hs).mono ?_
    rintro e w1 ⟨A1, c1, rfl, hG⟩
    have HN1 := Aside0.mk ((hG.keep.block _ (blk_lt2 HN0.out)).trans HN0.out)
    have HR1 := Aside0.mk ((hG.keep.block _ (blk_lt2 HR0.out)).trans HR0.out)
    have HB1 := Aside0.mk (below_then HB0.out HB0.out.size hG.keep)
    have HG := Aside0.mk hG
    clear hG hC hc hb hl ho hf hs hj hbs
    cases s with
    | nil =>
      have : o = none := ho'.symm
      subst this
      clear ho'
      have n0 : w1.cell? ⟨w.heap.size + 1, 0, none⟩ = some (.int .i64 0) := (blk_cell HN1.out 0).trans rfl
      have n1 : w1.cell? ⟨w.heap.size + 1, 1, none⟩ = some (.int .i64 0) := (blk_cell HN1.out 1).trans rfl
      have n2 : w1.cell? ⟨w.heap.size + 1, 2, none⟩ = some (.int .i64 0) := (blk_cell HN1.out 2).trans rfl
      have n3 : w1.cell? ⟨w.heap.size + 1, 3, none⟩ = some (.int .i64 0) := (blk_cell HN1.out 3).trans rfl
      have n4 : w1.cell? ⟨w.heap.size + 1, 4, none⟩ = some (.int .i64 0) := (blk_cell HN1.out 4).trans rfl
      have n5 : w1.cell? ⟨w.heap.size + 1, 5, none⟩ = some (.int .i64 0) := (blk_cell HN1.out 5).trans rfl
      have n6 : w1.cell? ⟨w.heap.size + 1, 6, none⟩ = some (.int .i64 0) := (blk_cell HN1.out 6).trans rfl
      have n7 : w1.cell? ⟨w.heap.size + 1, 7, none⟩ = some (.int .i64 0) := (blk_cell HN1.out 7).trans rfl
      have n8 : w1.cell? ⟨w.heap.size + 1, 8, none⟩ = some (.slice none 0 0) := (blk_cell HN1.out 8).trans rfl
      have n9 : w1.cell? ⟨w.heap.size + 1, 9, none⟩ = some (.slice none 0 0) := (blk_cell HN1.out 9).trans rfl
      have n10 : w1.cell? ⟨w.heap.size + 1, 10, none⟩ = some (.slice none 0 0) := (blk_cell HN1.out 10).trans rfl
      have n11 : w1.cell? ⟨w.heap.size + 1, 11, none⟩ = some (.slice none 0 0) := (blk_cell HN1.out 11).trans rfl
      have n12 : w1.cell? ⟨w.heap.size + 1, 12, none⟩ = some (.slice none 0 0) := (blk_cell HN1.out 12).trans rfl
      go_wp2_with (refine wpList_store_row rfl 91 (.tmp 2) (.tmp 36) rfl w.heap.size #[.int .i64 0, .int .i64 0, .int .i64 0, .int .i64 0, .int .i64 0, .int .i64 0, .int .i64 0, .int .i64 0, .slice none 0 0, .slice none 0 0, .slice none 0 0, .slice none 0 0, .slice none 0 0] rfl rfl 91 _ HR1.out size91 rfl (by simp [Value.oneCell']) ?_; have HX9 := Aside0.mk (setRow_heap _ _ _ #[.int .i64 0, .int .i64 0, .int .i64 0, .int .i64 0, .int .i64 0, .int .i64 0, .int .i64 0, .int .i64 0, .slice none 0 0, .slice none 0 0, .slice none 0 0, .slice none 0 0, .slice none 0 0] _ _ HR1.out); have HB9 := Aside0.mk (below_setRow HB1.out (Nat.le_refl _) #[.int .i64 0, .int .i64 0, .int .i64 0, .int .i64 0, .int .i64 0, .int .i64 0, .int .i64 0, .int .i64 0, .slice none 0 0, .slice none 0 0, .slice none 0 0, .slice none 0 0, .slice none 0 0]))
      exact bodyPost_ret (v := .tuple #[.agg #[.int .i64 0, .int .i64 0, .int .i64 0, .int .i64 0, .int .i64 0, .int .i64 0, .int .i64 0, .int .i64 0, .slice none 0 0, .slice none 0 0, .slice none 0 0, .slice none 0 0, .slice none 0 0], .int .i64 12]) (results_row_tmp (p := 2) (u := 3) (ty := 91) rfl _ _ w.heap.size 91 _ _ _ rfl HX9.out hu91 rfl size91) rfl ⟨HB9.out, rfl⟩
    | cons s0 st =>
      rw [if_neg (by simp)] at ho'
      simp only [List.getD_cons_zero, List.drop_succ_cons, List.drop_zero] at ho'
      obtain ⟨g1, rfl, hg1⟩ := got_head HG.out (by simp)
      obtain ⟨A2, c2, y0, hR0⟩ := rows_at HG.out 0 (by simp)
      simp only [List.getElem_cons_zero] at y0 hR0
      have HRs := Aside0.mk hR0
      have Hb0 := Aside0.mk (HBs.out s0 (by simp))
      have Hl0 := Aside0.mk (HLs.out s0 (by simp))
      have hst : st.length + 1 ≤ 1024 := hln
      clear hg1 hR0 hln
      have HM0 := Aside0.mk (blk_new w1 (.cells #[.int .i64 0, .int .i64 0, .int .i64 0, .int .i64 0, .int .i64 0, .int .i64 0, .int .i64 0, .int .i64 0, .slice none 0 0, .slice none 0 0, .slice none 0 0, .slice none 0 0, .slice none 0 0] 91))
      have HK0 := Aside0.mk (below_alloc (Below.refl w1.heap.size w1) (.cells #[.int .i64 0, .int .i64 0, .int .i64 0, .int .i64 0, .int .i64 0, .int .i64 0, .int .i64 0, .int .i64 0, .slice none 0 0, .slice none 0 0, .slice none 0 0, .slice none 0 0, .slice none 0 0] 91))
      go_upto_region 6 with (refine wpList_store_row rfl 91 (.tmp 7) (.tmp 37) rfl w1.heap.size #[.int .i64 0, .int .i64 0, .int .i64 0, .int .i64 0, .int .i64 0, .int .i64 0, .int .i64 0, .int .i64 0, .slice none 0 0, .slice none 0 0, .slice none 0 0, .slice none 0 0, .slice none 0 0] rfl rfl 91 _ HM0.out size91 rfl (by simp [Value.oneCell']) ?_)
      have HM1 := Aside0.mk (setRow_heap _ _ _ #[.int .i64 0, .int .i64 0, .int .i64 0, .int .i64 0, .int .i64 0, .int .i64 0, .int .i64 0, .int .i64 0, .slice none 0 0, .slice none 0 0, .slice none 0 0, .slice none 0 0, .slice none 0 0] _ _ HM0.out)
      have HK1 := Aside0.mk (below_setRow HK0.out (Nat.le_refl _) #[.int .i64 0, .int .i64 0, .int .i64 0, .int .i64 0, .int .i64 0, .int .i64 0, .int .i64 0, .int .i64 0, .slice none 0 0, .slice none 0 0, .slice none 0 0, .slice none 0 0, .slice none 0 0])
      generalize (w1.alloc (.cells #[.int .i64 0, .int .i64 0, .int .i64 0, .int .i64 0, .int .i64 0, .int .i64 0, .int .i64 0, .int .i64 0, .slice none 0 0, .slice none 0 0, .slice none 0 0, .slice none 0 0, .slice none 0 0] 91)).setRow w1.heap.size #[.int .i64 0, .int .i64 0, .int .i64 0, .int .i64 0, .int .i64 0, .int .i64 0, .int .i64 0, .int .i64 0, .slice none 0 0, .slice none 0 0, .slice none 0 0, .slice none 0 0, .slice none 0 0] = w2 at HM1 HK1 ⊢
      obtain ⟨g7, hg7⟩ : ∃ g, g = w1.heap.size := ⟨_, rfl⟩
      have HG7 := Aside0.mk (show w0.heap.size ≤ g7 by rw [hg7]; exact HG.out.keep.size)
      rw [← hg7] at HM1 ⊢
      clear hg7 HM0 HK0
      have HN2 := Aside0.mk ((HK1.out.block _ (blk_lt2 HN1.out)).trans HN1.out)
      have HR2 := Aside0.mk ((HK1.out.block _ (blk_lt2 HR1.out)).trans HR1.out)
      have HB2 := Aside0.mk (below_then HB1.out HB1.out.size HK1.out)
      have HG2 := Aside0.mk (HG.out.andThen HK1.out)
      have y0 := cell_step y0 HK1.out
      have HRs2 := Aside0.mk (Kd.R_below HRs.out HK1.out)
      clear HN1 HR1 HB1 HRs HG HK1
      go_wp2_with (fail)
      obtain ⟨q0, hq0⟩ : ∃ q, intsO s0 1 = q := ⟨_, rfl⟩
      rw [hq0] at ho'
      refine (one111_calls A2 c2 s0 q0 w2 (Kd.R_reads' HRs2.out).2.2 (Kd.R_reads' HRs2.out).2.1 Hb0.out (by have := Hl0.out; omega) hq0).mono ?_
      rintro e w3 ⟨rfl, hB⟩
      have HG3 := Aside0.mk (HG2.out.andThen hB)
      have HM3 := Aside0.mk ((hB.block _ (blk_lt2 HM1.out)).trans HM1.out)
      clear hB HN2 HR2 HB2 HG2 HM1 y0
      cases q0 with
      | none =>
        have : o = none := ho'.symm
        subst this
        clear ho' hq0
        go_wp2_with (fail)
        refine (parts99_calls 0 w3).mono ?_
        rintro e w4 ⟨rfl, hB⟩
        have HG := Aside0.mk (HG3.out.andThen hB)
        clear hB
        have HNx := Aside0.mk ((HG.out.keep.block _ (blk_lt2 HN0.out)).trans HN0.out)
        have HRx := Aside0.mk ((HG.out.keep.block _ (blk_lt2 HR0.out)).trans HR0.out)
        have HBx := Aside0.mk (below_then HB0.out HB0.out.size HG.out.keep)
        have n0 : w4.cell? ⟨w.heap.size + 1, 0, none⟩ = some (.int .i64 0) := (blk_cell HNx.out 0).trans rfl
        have n1 : w4.cell? ⟨w.heap.size + 1, 1, none⟩ = some (.int .i64 0) := (blk_cell HNx.out 1).trans rfl
        have n2 : w4.cell? ⟨w.heap.size + 1, 2, none⟩ = some (.int .i64 0) := (blk_cell HNx.out 2).trans rfl
        have n3 : w4.cell? ⟨w.heap.size + 1, 3, none⟩ = some (.int .i64 0) := (blk_cell HNx.out 3).trans rfl
        have n4 : w4.cell? ⟨w.heap.size + 1, 4, none⟩ = some (.int .i64 0) := (blk_cell HNx.out 4).trans rfl
        have n5 : w4.cell? ⟨w.heap.size + 1, 5, none⟩ = some (.int .i64 0) := (blk_cell HNx.out 5).trans rfl
        have n6 : w4.cell? ⟨w.heap.size + 1, 6, none⟩ = some (.int .i64 0) := (blk_cell HNx.out 6).trans rfl
        have n7 : w4.cell? ⟨w.heap.size + 1, 7, none⟩ = some (.int .i64 0) := (blk_cell HNx.out 7).trans rfl
        have n8 : w4.cell? ⟨w.heap.size + 1, 8, none⟩ = some (.slice none 0 0) := (blk_cell HNx.out 8).trans rfl
        have n9 : w4.cell? ⟨w.heap.size + 1, 9, none⟩ = some (.slice none 0 0) := (blk_cell HNx.out 9).trans rfl
        have n10 : w4.cell? ⟨w.heap.size + 1, 10, none⟩ = some (.slice none 0 0) := (blk_cell HNx.out 10).trans rfl
        have n11 : w4.cell? ⟨w.heap.size + 1, 11, none⟩ = some (.slice none 0 0) := (blk_cell HNx.out 11).trans rfl
        have n12 : w4.cell? ⟨w.heap.size + 1, 12, none⟩ = some (.slice none 0 0) := (blk_cell HNx.out 12).trans rfl
        go_wp2_with (refine wpList_store_row rfl 91 (.tmp 2) (.tmp 61) rfl w.heap.size #[.int .i64 0, .int .i64 0, .int .i64 0, .int .i64 0, .int .i64 0, .int .i64 0, .int .i64 0, .int .i64 0, .slice none 0 0, .slice none 0 0, .slice none 0 0, .slice none 0 0, .slice none 0 0] rfl rfl 91 _ HRx.out size91 rfl (by simp [Value.oneCell']) ?_; have HX9 := Aside0.mk (setRow_heap _ _ _ #[.int .i64 0, .int .i64 0, .int .i64 0, .int .i64 0, .int .i64 0, .int .i64 0, .int .i64 0, .int .i64 0, .slice none 0 0, .slice none 0 0, .slice none 0 0, .slice none 0 0, .slice none 0 0] _ _ HRx.out); have HB9 := Aside0.mk (below_setRow HBx.out (Nat.le_refl _) #[.int .i64 0, .int .i64 0, .int .i64 0, .int .i64 0, .int .i64 0, .int .i64 0, .int .i64 0, .int .i64 0, .slice none 0 0, .slice none 0 0, .slice none 0 0, .slice none 0 0, .slice none 0 0]))
        exact bodyPost_ret (v := .tuple #[.agg #[.int .i64 0, .int .i64 0, .int .i64 0, .int .i64 0, .int .i64 0, .int .i64 0, .int .i64 0, .int .i64 0, .slice none 0 0, .slice none 0 0, .slice none 0 0, .slice none 0 0, .slice none 0 0], .int .i64 12]) (results_row_tmp (p := 2) (u := 3) (ty := 91) rfl _ _ w.heap.size 91 _ _ _ rfl HX9.out hu91 rfl size91) rfl ⟨HB9.out, rfl⟩
      | some vs =>
        obtain ⟨k, rfl⟩ := one (intsO_some Hb0.out hq0).2.1
        simp only [Option.bind_some, List.getD_cons_zero] at ho'
        clear hq0
        go_wp2_with (fail)
        refine (parts99_calls k w3).mono ?_
        obtain ⟨p, hp⟩ : ∃ p, partsS k = p := ⟨_, rfl⟩
        have HP := Aside0.mk hp
        have H9 := Aside0.mk (show ∀ b ∈ p.data.toList, b ∈ letters9 by rw [← hp]; exact (parts_nine k).2)
        have HND := Aside0.mk (show p.data.toList.Nodup by rw [← hp]; exact (parts_nine k).1)
        have hps : p.size ≤ 9 := by rw [← hp]; exact parts_small k
        rw [hp] at ho' ⊢
        rintro e w4 ⟨rfl, hB⟩
        have HG := Aside0.mk (HG3.out.andThen hB)
        have HM4 := Aside0.mk ((hB.block _ (blk_lt2 HM3.out)).trans HM3.out)
        clear hB HG3 HM3 hp
        by_cases hgood : p ≠ ⟨#[]⟩ ∧ (s0 :: st).length = 1 + p.size
        · rw [if_pos hgood] at ho'
          have hne : p.toList.isEmpty = false := by
            rw [List.isEmpty_eq_false_iff, ByteArray.toList_eq]
            intro e
            apply hgood.1
            obtain ⟨d⟩ := p
            have : d = #[] := by rw [← Array.toList_inj]; exact e
            rw [this]
          have hlen : st.length = p.size := by have := hgood.2; rw [List.length_cons] at this; omega
          have HLEN := Aside0.mk hlen
          have e1 : ((st.length : Int) + 1 == 1 + (p.size : Int)) = true := beq_iff_eq.mpr (by omega)
          have e2 : ((st.length : Int) + 1 != 1 + (p.size : Int)) = false := bne_eq_false_iff_eq.mpr (by omega)
          have x0 : w4.cell? ⟨g7, 0, none⟩ = some (.int .i64 0) := (blk_cell HM4.out 0).trans rfl
          have f0 : w4.frozen? ⟨g7, 0, none⟩ = false := blk_frozen HM4.out 0
          have HM5 : Aside0 ((w4.setCell ⟨g7, 0, none⟩ (.int .i64 k)).heap[g7]? = some (.cells #[.int .i64 k, .int .i64 0, .int .i64 0, .int .i64 0, .int .i64 0, .int .i64 0, .int .i64 0, .int .i64 0, .slice none 0 0, .slice none 0 0, .slice none 0 0, .slice none 0 0, .slice none 0 0] 91)) := ⟨blk_put HM4.out 0 (.int .i64 k) rfl⟩
          have HG5 := Aside0.mk (HG.out.set HM4.out (by simp [Kd.slice, Kd.int, Kd.scalar]) HG7.out 0 (.int .i64 k))
          clear hgood hlen
          go_wp2_with (fail)
          generalize w4.setCell ⟨g7, 0, none⟩ (.int .i64 k) = w5 at HM5 HG5 ⊢
          clear x0 f0 e1 e2 hne HM4 HG
          have HO5 := Aside0.mk ho'
          clear ho'
          go_loopw [9, 11] (fun u t wr => ∃ (okb : Bool) (i : Nat) (m1 : S91) (v : Nat → Value), u = .bool okb ∧ t = .int .i64 (i : Int) ∧ i ≤ p.size ∧ Aside0 (Got (Kd.slice 5 (Kd.int .u8)) 22 w0 wr (some ⟨g1, 0, none⟩) c1 (s0 :: st)) ∧ Aside0 (wr.heap[g7]? = some (.cells #[.int .i64 m1.kind, .int .i64 m1.view, .int .i64 m1.seq, .int .i64 m1.client, .int .i64 m1.stamp, .int .i64 m1.entry.f0, .int .i64 m1.entry.f1, .int .i64 m1.entry.f2, v 0, v 1, v 2, v 3, v 4] 91)) ∧ Aside0 (m1.kind = k) ∧ Aside0 (112 ∈ p.data.toList.drop i → m1.proven = []) ∧ Aside0 (okb = true → MsgO wr w0.heap.size m1 v ∧ (decGo m1 (p.data.toList.drop i) (st.drop i)).bind (fun m => if rightB m p then some m else none) = o) ∧ Aside0 (okb = false → o = none)) (fun _ t _ => p.size - (intOf t).toNat)
          case atStart => exact ⟨true, 0, { z91 with kind := k }, fun _ => .slice none 0 0, rfl, rfl, Nat.zero_le _, HG5, HM5, ⟨rfl⟩, ⟨fun _ => rfl⟩, ⟨fun _ => ⟨msgO_zero _ _ _, HO5.out⟩⟩, ⟨fun e => by cases e⟩⟩
          case round =>
            clear HG5 HM5 HO5
            obtain ⟨okb, i, m1, v, rfl, rfl, hi, HG, HM, HKD, HPV, HOK, HNO⟩ := hrel
            by_cases hlt : i < p.size
            · have d0 : decide ((i : Int) < (p.size : Int)) = true := decide_eq_true (by omega)
              have d0' : decide (i < p.size) = true := decide_eq_true hlt
              cases okb with
              | false =>
                have : o = none := HNO.out (by first | rfl | trivial)
                subst this
                have HNx := Aside0.mk ((HG.out.keep.block _ (blk_lt2 HN0.out)).trans HN0.out)
                have HRx := Aside0.mk ((HG.out.keep.block _ (blk_lt2 HR0.out)).trans HR0.out)
                have HBx := Aside0.mk (below_then HB0.out HB0.out.size HG.out.keep)
                have n0 : wr.cell? ⟨w.heap.size + 1, 0, none⟩ = some (.int .i64 0) := (blk_cell HNx.out 0).trans rfl
                have n1 : wr.cell? ⟨w.heap.size + 1, 1, none⟩ = some (.int .i64 0) := (blk_cell HNx.out 1).trans rfl
                have n2 : wr.cell? ⟨w.heap.size + 1, 2, none⟩ = some (.int .i64 0) := (blk_cell HNx.out 2).trans rfl
                have n3 : wr.cell? ⟨w.heap.size + 1, 3, none⟩ = some (.int .i64 0) := (blk_cell HNx.out 3).trans rfl
                have n4 : wr.cell? ⟨w.heap.size + 1, 4, none⟩ = some (.int .i64 0) := (blk_cell HNx.out 4).trans rfl
                have n5 : wr.cell? ⟨w.heap.size + 1, 5, none⟩ = some (.int .i64 0) := (blk_cell HNx.out 5).trans rfl
                have n6 : wr.cell? ⟨w.heap.size + 1, 6, none⟩ = some (.int .i64 0) := (blk_cell HNx.out 6).trans rfl
                have n7 : wr.cell? ⟨w.heap.size + 1, 7, none⟩ = some (.int .i64 0) := (blk_cell HNx.out 7).trans rfl
                have n8 : wr.cell? ⟨w.heap.size + 1, 8, none⟩ = some (.slice none 0 0) := (blk_cell HNx.out 8).trans rfl
                have n9 : wr.cell? ⟨w.heap.size + 1, 9, none⟩ = some (.slice none 0 0) := (blk_cell HNx.out 9).trans rfl
                have n10 : wr.cell? ⟨w.heap.size + 1, 10, none⟩ = some (.slice none 0 0) := (blk_cell HNx.out 10).trans rfl
                have n11 : wr.cell? ⟨w.heap.size + 1, 11, none⟩ = some (.slice none 0 0) := (blk_cell HNx.out 11).trans rfl
                have n12 : wr.cell? ⟨w.heap.size + 1, 12, none⟩ = some (.slice none 0 0) := (blk_cell HNx.out 12).trans rfl
                go_wp2_with (refine wpList_store_row rfl 91 (.tmp 2) (.tmp 216) rfl w.heap.size #[.int .i64 0, .int .i64 0, .int .i64 0, .int .i64 0, .int .i64 0, .int .i64 0, .int .i64 0, .int .i64 0, .slice none 0 0, .slice none 0 0, .slice none 0 0, .slice none 0 0, .slice none 0 0] rfl rfl 91 _ HRx.out size91 rfl (by simp [Value.oneCell']) ?_; have HX9 := Aside0.mk (setRow_heap _ _ _ #[.int .i64 0, .int .i64 0, .int .i64 0, .int .i64 0, .int .i64 0, .int .i64 0, .int .i64 0, .int .i64 0, .slice none 0 0, .slice none 0 0, .slice none 0 0, .slice none 0 0, .slice none 0 0] _ _ HRx.out); have HB9 := Aside0.mk (below_setRow HBx.out (Nat.le_refl _) #[.int .i64 0, .int .i64 0, .int .i64 0, .int .i64 0, .int .i64 0, .int .i64 0, .int .i64 0, .int .i64 0, .slice none 0 0, .slice none 0 0, .slice none 0 0, .slice none 0 0, .slice none 0 0]))
                exact bodyPost_ret (v := .tuple #[.agg #[.int .i64 0, .int .i64 0, .int .i64 0, .int .i64 0, .int .i64 0, .int .i64 0, .int .i64 0, .int .i64 0, .slice none 0 0, .slice none 0 0, .slice none 0 0, .slice none 0 0, .slice none 0 0], .int .i64 12]) (results_row_tmp (p := 2) (u := 3) (ty := 91) rfl _ _ w.heap.size 91 _ _ _ rfl HX9.out hu91 rfl size91) rfl ⟨HB9.out, rfl⟩
              | true =>
                have p0 : (0 ≤ (i : Int)) = True := eq_true (by omega)
                have p1 : ((i : Int) < (p.size : Int)) = True := eq_true (by omega)
                have p2 : (0 ≤ (i : Int) + 1) = True := eq_true (by omega)
                have his : i < st.length := by have := HLEN.out; omega
                have p3 : ((i : Int) + 1 < (st.length : Int) + 1) = True := eq_true (by omega)
                have hll : i < p.data.toList.length := hlt
                obtain ⟨b, hb⟩ : ∃ b, p[i]'hlt = b := ⟨_, rfl⟩
                have hbi : p.data.toList[i] = b := by rw [← hb]; rw [Array.getElem_toList]; rfl
                have hmem : b ∈ p.data.toList := by rw [← hbi]; exact List.getElem_mem hll
                have hb9 := H9.out b hmem
                obtain ⟨hmo, hoo⟩ := HOK.out rfl
                have HMO := Aside0.mk hmo
                have hdr : p.data.toList.drop i = b :: p.data.toList.drop (i + 1) := by rw [List.drop_eq_getElem_cons hll, hbi]
                have HPS := Aside0.mk (show 112 ∈ p.data.toList.drop (i + 1) → m1.proven = [] from fun h => HPV.out (by rw [hdr]; exact List.mem_cons_of_mem _ h))
                have HPB := Aside0.mk (show b = 112 → m1.proven = [] from fun h => HPV.out (by rw [hdr, h]; exact List.mem_cons_self))
                have hnd : (b :: p.data.toList.drop (i + 1)).Nodup := by rw [← hdr]; exact HND.out.sublist (List.drop_sublist i _)
                have HPN := Aside0.mk (show b = 112 → ¬ 112 ∈ p.data.toList.drop (i + 1) from fun h => h ▸ (List.nodup_cons.1 hnd).1)
                rw [hdr, List.drop_eq_getElem_cons his, decGo] at hoo
                clear hnd hdr
                simp only [List.getD_cons_zero, List.drop_succ_cons, List.drop_zero] at hoo
                obtain ⟨Ai, ci, y1, hR1⟩ := rows_at HG.out (i + 1) (by rw [List.length_cons]; omega)
                rw [List.getElem_cons_succ] at y1 hR1
                obtain ⟨q, hq⟩ : ∃ q, q = st[i] := ⟨_, rfl⟩
                have HBq := Aside0.mk (show Byte q from hq ▸ HBs.out _ (List.mem_cons_of_mem _ (List.getElem_mem his)))
                have HLq := Aside0.mk (show q.length ≤ 65536 from hq ▸ HLs.out _ (List.mem_cons_of_mem _ (List.getElem_mem his)))
                rw [← hq] at y1 hR1 hoo
                have HR1 := Aside0.mk hR1
                clear hbi hmem hq hR1 hmo HOK HNO
                simp only [letters9, List.mem_cons, List.not_mem_nil, or_false] at hb9
                rcases hb9 with rfl | rfl | rfl | rfl | rfl | rfl | rfl | rfl | rfl
                · as_aux_lemma =>
                    obtain ⟨t, ht⟩ : ∃ t, intsO q 1 = t := ⟨_, rfl⟩
                    have hr : readO m1 118 q = t.bind fun v => some { m1 with view := v.getD 0 0 } := by rw [← ht]; rfl
                    rw [hr] at hoo
                    go_wp2_with (fail)
                    refine (one111_calls Ai ci q t wr (Kd.R_reads' HR1.out).2.2 (Kd.R_reads' HR1.out).2.1 HBq.out (by have := HLq.out; omega) ht).mono ?_
                    rintro e w5 ⟨rfl, hB⟩
                    have HM5 := Aside0.mk ((hB.block _ (blk_lt2 HM.out)).trans HM.out)
                    have HG5 := Aside0.mk (HG.out.andThen hB)
                    have HMO5 := Aside0.mk (HMO.out.below hB)
                    have xk : w5.cell? ⟨g7, 1, none⟩ = some (.int .i64 m1.view) := (blk_cell HM5.out 1).trans rfl
                    have fk : w5.frozen? ⟨g7, 1, none⟩ = false := blk_frozen HM5.out 1
                    clear hB y1 hr
                    cases t with
                    | none =>
                      have hn : o = none := hoo.symm
                      clear hoo ht
                      go_wp2_with (fail)
                      exact ⟨⟨false, i + 1, { m1 with view := 0 }, v, rfl, by simp, by omega, ⟨HG5.out.set HM5.out (by simp [Kd.slice, Kd.int, Kd.scalar]) HG7.out 1 (.int .i64 0)⟩, ⟨blk_put HM5.out 1 (.int .i64 0) rfl⟩, ⟨HKD.out⟩, HPS, ⟨fun e => by cases e⟩, ⟨fun _ => hn⟩⟩, by simp only [intOf]; omega⟩
                    | some vs =>
                      obtain ⟨n, rfl⟩ := one (intsO_some HBq.out ht).2.1
                      have hn := hoo
                      clear hoo ht
                      go_wp2_with (fail)
                      exact ⟨⟨true, i + 1, { m1 with view := n }, v, rfl, by simp, by omega, ⟨HG5.out.set HM5.out (by simp [Kd.slice, Kd.int, Kd.scalar]) HG7.out 1 (.int .i64 n)⟩, ⟨blk_put HM5.out 1 (.int .i64 n) rfl⟩, ⟨HKD.out⟩, HPS, ⟨fun _ => ⟨(fun H => ⟨H.r0, H.r1, H.r2, H.r3, H.r4⟩) (HMO5.out.set HM5.out 1 (.int .i64 n)), hn⟩⟩, ⟨fun e => by cases e⟩⟩, by simp only [intOf]; omega⟩
                · as_aux_lemma =>
                    obtain ⟨t, ht⟩ : ∃ t, intsO q 1 = t := ⟨_, rfl⟩
                    have hr : readO m1 115 q = t.bind fun v => some { m1 with seq := v.getD 0 0 } := by rw [← ht]; rfl
                    rw [hr] at hoo
                    go_wp2_with (fail)
                    refine (one111_calls Ai ci q t wr (Kd.R_reads' HR1.out).2.2 (Kd.R_reads' HR1.out).2.1 HBq.out (by have := HLq.out; omega) ht).mono ?_
                    rintro e w5 ⟨rfl, hB⟩
                    have HM5 := Aside0.mk ((hB.block _ (blk_lt2 HM.out)).trans HM.out)
                    have HG5 := Aside0.mk (HG.out.andThen hB)
                    have HMO5 := Aside0.mk (HMO.out.below hB)
                    have xk : w5.cell? ⟨g7, 2, none⟩ = some (.int .i64 m1.seq) := (blk_cell HM5.out 2).trans rfl
                    have fk : w5.frozen? ⟨g7, 2, none⟩ = false := blk_frozen HM5.out 2
                    clear hB y1 hr
                    cases t with
                    | none =>
                      have hn : o = none := hoo.symm
                      clear hoo ht
                      go_wp2_with (fail)
                      exact ⟨⟨false, i + 1, { m1 with seq := 0 }, v, rfl, by simp, by omega, ⟨HG5.out.set HM5.out (by simp [Kd.slice, Kd.int, Kd.scalar]) HG7.out 2 (.int .i64 0)⟩, ⟨blk_put HM5.out 2 (.int .i64 0) rfl⟩, ⟨HKD.out⟩, HPS, ⟨fun e => by cases e⟩, ⟨fun _ => hn⟩⟩, by simp only [intOf]; omega⟩
                    | some vs =>
                      obtain ⟨n, rfl⟩ := one (intsO_some HBq.out ht).2.1
                      have hn := hoo
                      clear hoo ht
                      go_wp2_with (fail)
                      exact ⟨⟨true, i + 1, { m1 with seq := n }, v, rfl, by simp, by omega, ⟨HG5.out.set HM5.out (by simp [Kd.slice, Kd.int, Kd.scalar]) HG7.out 2 (.int .i64 n)⟩, ⟨blk_put HM5.out 2 (.int .i64 n) rfl⟩, ⟨HKD.out⟩, HPS, ⟨fun _ => ⟨(fun H => ⟨H.r0, H.r1, H.r2, H.r3, H.r4⟩) (HMO5.out.set HM5.out 2 (.int .i64 n)), hn⟩⟩, ⟨fun e => by cases e⟩⟩, by simp only [intOf]; omega⟩
                · as_aux_lemma =>
                    obtain ⟨t, ht⟩ : ∃ t, intsO q 1 = t := ⟨_, rfl⟩
                    have hr : readO m1 99 q = t.bind fun v => some { m1 with client := v.getD 0 0 } := by rw [← ht]; rfl
                    rw [hr] at hoo
                    go_wp2_with (fail)
                    refine (one111_calls Ai ci q t wr (Kd.R_reads' HR1.out).2.2 (Kd.R_reads' HR1.out).2.1 HBq.out (by have := HLq.out; omega) ht).mono ?_
                    rintro e w5 ⟨rfl, hB⟩
                    have HM5 := Aside0.mk ((hB.block _ (blk_lt2 HM.out)).trans HM.out)
                    have HG5 := Aside0.mk (HG.out.andThen hB)
                    have HMO5 := Aside0.mk (HMO.out.below hB)
                    have xk : w5.cell? ⟨g7, 3, none⟩ = some (.int .i64 m1.client) := (blk_cell HM5.out 3).trans rfl
                    have fk : w5.frozen? ⟨g7, 3, none⟩ = false := blk_frozen HM5.out 3
                    clear hB y1 hr
                    cases t with
                    | none =>
                      have hn : o = none := hoo.symm
                      clear hoo ht
                      go_wp2_with (fail)
                      exact ⟨⟨false, i + 1, { m1 with client := 0 }, v, rfl, by simp, by omega, ⟨HG5.out.set HM5.out (by simp [Kd.slice, Kd.int, Kd.scalar]) HG7.out 3 (.int .i64 0)⟩, ⟨blk_put HM5.out 3 (.int .i64 0) rfl⟩, ⟨HKD.out⟩, HPS, ⟨fun e => by cases e⟩, ⟨fun _ => hn⟩⟩, by simp only [intOf]; omega⟩
                    | some vs =>
                      obtain ⟨n, rfl⟩ := one (intsO_some HBq.out ht).2.1
                      have hn := hoo
                      clear hoo ht
                      go_wp2_with (fail)
                      exact ⟨⟨true, i + 1, { m1 with client := n }, v, rfl, by simp, by omega, ⟨HG5.out.set HM5.out (by simp [Kd.slice, Kd.int, Kd.scalar]) HG7.out 3 (.int .i64 n)⟩, ⟨blk_put HM5.out 3 (.int .i64 n) rfl⟩, ⟨HKD.out⟩, HPS, ⟨fun _ => ⟨(fun H => ⟨H.r0, H.r1, H.r2, H.r3, H.r4⟩) (HMO5.out.set HM5.out 3 (.int .i64 n)), hn⟩⟩, ⟨fun e => by cases e⟩⟩, by simp only [intOf]; omega⟩
                · as_aux_lemma =>
                    obtain ⟨t, ht⟩ : ∃ t, intsO q 1 = t := ⟨_, rfl⟩
                    have hr : readO m1 116 q = t.bind fun v => some { m1 with stamp := v.getD 0 0 } := by rw [← ht]; rfl
                    rw [hr] at hoo
                    go_wp2_with (fail)
                    refine (one111_calls Ai ci q t wr (Kd.R_reads' HR1.out).2.2 (Kd.R_reads' HR1.out).2.1 HBq.out (by have := HLq.out; omega) ht).mono ?_
                    rintro e w5 ⟨rfl, hB⟩
                    have HM5 := Aside0.mk ((hB.block _ (blk_lt2 HM.out)).trans HM.out)
                    have HG5 := Aside0.mk (HG.out.andThen hB)
                    have HMO5 := Aside0.mk (HMO.out.below hB)
                    have xk : w5.cell? ⟨g7, 4, none⟩ = some (.int .i64 m1.stamp) := (blk_cell HM5.out 4).trans rfl
                    have fk : w5.frozen? ⟨g7, 4, none⟩ = false := blk_frozen HM5.out 4
                    clear hB y1 hr
                    cases t with
                    | none =>
                      have hn : o = none := hoo.symm
                      clear hoo ht
                      go_wp2_with (fail)
                      exact ⟨⟨false, i + 1, { m1 with stamp := 0 }, v, rfl, by simp, by omega, ⟨HG5.out.set HM5.out (by simp [Kd.slice, Kd.int, Kd.scalar]) HG7.out 4 (.int .i64 0)⟩, ⟨blk_put HM5.out 4 (.int .i64 0) rfl⟩, ⟨HKD.out⟩, HPS, ⟨fun e => by cases e⟩, ⟨fun _ => hn⟩⟩, by simp only [intOf]; omega⟩
                    | some vs =>
                      obtain ⟨n, rfl⟩ := one (intsO_some HBq.out ht).2.1
                      have hn := hoo
                      clear hoo ht
                      go_wp2_with (fail)
                      exact ⟨⟨true, i + 1, { m1 with stamp := n }, v, rfl, by simp, by omega, ⟨HG5.out.set HM5.out (by simp [Kd.slice, Kd.int, Kd.scalar]) HG7.out 4 (.int .i64 n)⟩, ⟨blk_put HM5.out 4 (.int .i64 n) rfl⟩, ⟨HKD.out⟩, HPS, ⟨fun _ => ⟨(fun H => ⟨H.r0, H.r1, H.r2, H.r3, H.r4⟩) (HMO5.out.set HM5.out 4 (.int .i64 n)), hn⟩⟩, ⟨fun e => by cases e⟩⟩, by simp only [intOf]; omega⟩
                · as_aux_lemma =>
                    obtain ⟨t, ht⟩ : ∃ t, entryO q = t := ⟨_, rfl⟩
                    have hr : readO m1 101 q = t.bind fun e => some { m1 with entry := e } := by rw [← ht]; rfl
                    rw [hr] at hoo
                    go_wp2_with (fail)
                    refine (refRead80_calls Ai ci q t wr (Kd.R_reads' HR1.out).2.2 (Kd.R_reads' HR1.out).2.1 HBq.out (by have := HLq.out; omega) ht).mono ?_
                    rintro e w5 ⟨hB, hh⟩
                    have HM5 := Aside0.mk ((hB.block _ (blk_lt2 HM.out)).trans HM.out)
                    have HG5 := Aside0.mk (HG.out.andThen hB)
                    have HMO5 := Aside0.mk (HMO.out.below hB)
                    have HBS := Aside0.mk HG.out.keep.size
                    clear hB y1 hr ht
                    cases t with
                    | none =>
                      have hn : o = none := hoo.symm
                      subst hh
                      clear hoo
                      have HX := Aside0.mk (Kd.R_nil (Kd.int .u8) 5 w5 w0.heap.size (fun k => w0.heap.size ≤ k))
                      have x5 : w5.cell? ⟨g7, 5, none⟩ = some (.int .i64 m1.entry.f0) := (blk_cell HM5.out 5).trans rfl
                      have f5 : w5.frozen? ⟨g7, 5, none⟩ = false := blk_frozen HM5.out 5
                      have HE5 := Aside0.mk (blk_put HM5.out 5 (.int .i64 0) rfl)
                      have HMS5 := Aside0.mk (HMO5.out.set HM5.out 5 (.int .i64 0))
                      have HGS5 := Aside0.mk (HG5.out.set HM5.out (by simp [Kd.slice, Kd.int, Kd.scalar]) HG7.out 5 (.int .i64 0))
                      have HXS5 := Aside0.mk (Kd.R_set HX.out HM5.out (by simp [Kd.int, Kd.scalar]) 5 (.int .i64 0))
                      have x6 : (w5.setCell ⟨g7, 5, none⟩ (.int .i64 0)).cell? ⟨g7, 6, none⟩ = some (.int .i64 m1.entry.f1) := (blk_cell HE5.out 6).trans rfl
                      have f6 : (w5.setCell ⟨g7, 5, none⟩ (.int .i64 0)).frozen? ⟨g7, 6, none⟩ = false := blk_frozen HE5.out 6
                      have HE6 := Aside0.mk (blk_put HE5.out 6 (.int .i64 0) rfl)
                      have HMS6 := Aside0.mk (HMS5.out.set HE5.out 6 (.int .i64 0))
                      have HGS6 := Aside0.mk (HGS5.out.set HE5.out (by simp [Kd.slice, Kd.int, Kd.scalar]) HG7.out 6 (.int .i64 0))
                      have HXS6 := Aside0.mk (Kd.R_set HXS5.out HE5.out (by simp [Kd.int, Kd.scalar]) 6 (.int .i64 0))
                      have x7 : ((w5.setCell ⟨g7, 5, none⟩ (.int .i64 0)).setCell ⟨g7, 6, none⟩ (.int .i64 0)).cell? ⟨g7, 7, none⟩ = some (.int .i64 m1.entry.f2) := (blk_cell HE6.out 7).trans rfl
                      have f7 : ((w5.setCell ⟨g7, 5, none⟩ (.int .i64 0)).setCell ⟨g7, 6, none⟩ (.int .i64 0)).frozen? ⟨g7, 7, none⟩ = false := blk_frozen HE6.out 7
                      have HE7 := Aside0.mk (blk_put HE6.out 7 (.int .i64 0) rfl)
                      have HMS7 := Aside0.mk (HMS6.out.set HE6.out 7 (.int .i64 0))
                      have HGS7 := Aside0.mk (HGS6.out.set HE6.out (by simp [Kd.slice, Kd.int, Kd.scalar]) HG7.out 7 (.int .i64 0))
                      have HXS7 := Aside0.mk (Kd.R_set HXS6.out HE6.out (by simp [Kd.int, Kd.scalar]) 7 (.int .i64 0))
                      have x8 : (((w5.setCell ⟨g7, 5, none⟩ (.int .i64 0)).setCell ⟨g7, 6, none⟩ (.int .i64 0)).setCell ⟨g7, 7, none⟩ (.int .i64 0)).cell? ⟨g7, 8, none⟩ = some (v 0) := (blk_cell HE7.out 8).trans rfl
                      have f8 : (((w5.setCell ⟨g7, 5, none⟩ (.int .i64 0)).setCell ⟨g7, 6, none⟩ (.int .i64 0)).setCell ⟨g7, 7, none⟩ (.int .i64 0)).frozen? ⟨g7, 8, none⟩ = false := blk_frozen HE7.out 8
                      have HE8 := Aside0.mk (blk_put HE7.out 8 (.slice none 0 0) rfl)
                      have HMS8 := Aside0.mk (HMS7.out.set HE7.out 8 (.slice none 0 0))
                      have HGS8 := Aside0.mk (HGS7.out.set HE7.out (by simp [Kd.slice, Kd.int, Kd.scalar]) HG7.out 8 (.slice none 0 0))
                      have HXS8 := Aside0.mk (Kd.R_set HXS7.out HE7.out (by simp [Kd.int, Kd.scalar]) 8 (.slice none 0 0))
                      go_wp2_with (fail)
                      exact ⟨⟨false, i + 1, { m1 with entry := z87 }, (fun n => if n = 0 then .slice none 0 0 else v n), rfl, by simp, by omega, HGS8, HE8, ⟨HKD.out⟩, HPS, ⟨fun e => by cases e⟩, ⟨fun _ => hn⟩⟩, by simp only [intOf]; omega⟩
                    | some x =>
                      obtain ⟨A5, c5, rfl, hX⟩ := hh
                      have hn : (decGo { m1 with entry := x } (p.data.toList.drop (i + 1)) (st.drop (i + 1))).bind (fun m => if rightB m p then some m else none) = o := hoo
                      have HX := Aside0.mk (Kd.R_mono (Kd.R_lower hX HBS.out) (fun k hk => Nat.le_trans HBS.out hk))
                      clear hoo hX
                      have x5 : w5.cell? ⟨g7, 5, none⟩ = some (.int .i64 m1.entry.f0) := (blk_cell HM5.out 5).trans rfl
                      have f5 : w5.frozen? ⟨g7, 5, none⟩ = false := blk_frozen HM5.out 5
                      have HE5 := Aside0.mk (blk_put HM5.out 5 (.int .i64 x.f0) rfl)
                      have HMS5 := Aside0.mk (HMO5.out.set HM5.out 5 (.int .i64 x.f0))
                      have HGS5 := Aside0.mk (HG5.out.set HM5.out (by simp [Kd.slice, Kd.int, Kd.scalar]) HG7.out 5 (.int .i64 x.f0))
                      have HXS5 := Aside0.mk (Kd.R_set HX.out HM5.out (by simp [Kd.int, Kd.scalar]) 5 (.int .i64 x.f0))
                      have x6 : (w5.setCell ⟨g7, 5, none⟩ (.int .i64 x.f0)).cell? ⟨g7, 6, none⟩ = some (.int .i64 m1.entry.f1) := (blk_cell HE5.out 6).trans rfl
                      have f6 : (w5.setCell ⟨g7, 5, none⟩ (.int .i64 x.f0)).frozen? ⟨g7, 6, none⟩ = false := blk_frozen HE5.out 6
                      have HE6 := Aside0.mk (blk_put HE5.out 6 (.int .i64 x.f1) rfl)
                      have HMS6 := Aside0.mk (HMS5.out.set HE5.out 6 (.int .i64 x.f1))
                      have HGS6 := Aside0.mk (HGS5.out.set HE5.out (by simp [Kd.slice, Kd.int, Kd.scalar]) HG7.out 6 (.int .i64 x.f1))
                      have HXS6 := Aside0.mk (Kd.R_set HXS5.out HE5.out (by simp [Kd.int, Kd.scalar]) 6 (.int .i64 x.f1))
                      have x7 : ((w5.setCell ⟨g7, 5, none⟩ (.int .i64 x.f0)).setCell ⟨g7, 6, none⟩ (.int .i64 x.f1)).cell? ⟨g7, 7, none⟩ = some (.int .i64 m1.entry.f2) := (blk_cell HE6.out 7).trans rfl
                      have f7 : ((w5.setCell ⟨g7, 5, none⟩ (.int .i64 x.f0)).setCell ⟨g7, 6, none⟩ (.int .i64 x.f1)).frozen? ⟨g7, 7, none⟩ = false := blk_frozen HE6.out 7
                      have HE7 := Aside0.mk (blk_put HE6.out 7 (.int .i64 x.f2) rfl)
                      have HMS7 := Aside0.mk (HMS6.out.set HE6.out 7 (.int .i64 x.f2))
                      have HGS7 := Aside0.mk (HGS6.out.set HE6.out (by simp [Kd.slice, Kd.int, Kd.scalar]) HG7.out 7 (.int .i64 x.f2))
                      have HXS7 := Aside0.mk (Kd.R_set HXS6.out HE6.out (by simp [Kd.int, Kd.scalar]) 7 (.int .i64 x.f2))
                      have x8 : (((w5.setCell ⟨g7, 5, none⟩ (.int .i64 x.f0)).setCell ⟨g7, 6, none⟩ (.int .i64 x.f1)).setCell ⟨g7, 7, none⟩ (.int .i64 x.f2)).cell? ⟨g7, 8, none⟩ = some (v 0) := (blk_cell HE7.out 8).trans rfl
                      have f8 : (((w5.setCell ⟨g7, 5, none⟩ (.int .i64 x.f0)).setCell ⟨g7, 6, none⟩ (.int .i64 x.f1)).setCell ⟨g7, 7, none⟩ (.int .i64 x.f2)).frozen? ⟨g7, 8, none⟩ = false := blk_frozen HE7.out 8
                      have HE8 := Aside0.mk (blk_put HE7.out 8 (.slice A5 x.f3.length c5) rfl)
                      have HMS8 := Aside0.mk (HMS7.out.set HE7.out 8 (.slice A5 x.f3.length c5))
                      have HGS8 := Aside0.mk (HGS7.out.set HE7.out (by simp [Kd.slice, Kd.int, Kd.scalar]) HG7.out 8 (.slice A5 x.f3.length c5))
                      have HXS8 := Aside0.mk (Kd.R_set HXS7.out HE7.out (by simp [Kd.int, Kd.scalar]) 8 (.slice A5 x.f3.length c5))
                      go_wp2_with (fail)
                      exact ⟨⟨true, i + 1, { m1 with entry := x }, (fun n => if n = 0 then .slice A5 x.f3.length c5 else v n), rfl, by simp, by omega, HGS8, HE8, ⟨HKD.out⟩, HPS, ⟨fun _ => ⟨⟨HXS8.out, HMS8.out.r1, HMS8.out.r2, HMS8.out.r3, HMS8.out.r4⟩, hn⟩⟩, ⟨fun e => by cases e⟩⟩, by simp only [intOf]; omega⟩
                · as_aux_lemma =>
                    have hn : (decGo { m1 with digest := q } (p.data.toList.drop (i + 1)) (st.drop (i + 1))).bind (fun m => if rightB m p then some m else none) = o := hoo
                    clear hoo
                    have xk : wr.cell? ⟨g7, 9, none⟩ = some (v 1) := (blk_cell HM.out 9).trans rfl
                    have fk : wr.frozen? ⟨g7, 9, none⟩ = false := blk_frozen HM.out 9
                    have HS := Aside0.mk (HMO.out.set HM.out 9 (.slice Ai q.length ci))
                    have HSq := Aside0.mk (Kd.R_set HR1.out HM.out (by simp [Kd.int, Kd.scalar]) 9 (.slice Ai q.length ci))
                    go_wp2_with (fail)
                    exact ⟨⟨true, i + 1, { m1 with digest := q }, (fun n => if n = 1 then .slice Ai q.length ci else v n), rfl, by simp, by omega, ⟨HG.out.set HM.out (by simp [Kd.slice, Kd.int, Kd.scalar]) HG7.out 9 (.slice Ai q.length ci)⟩, ⟨blk_put HM.out 9 (.slice Ai q.length ci) rfl⟩, ⟨HKD.out⟩, HPS, ⟨fun _ => ⟨⟨HS.out.r0, HSq.out, HS.out.r2, HS.out.r3, HS.out.r4⟩, hn⟩⟩, ⟨fun e => by cases e⟩⟩, by simp only [intOf]; omega⟩
                · as_aux_lemma =>
                    have hn : (decGo { m1 with data := q } (p.data.toList.drop (i + 1)) (st.drop (i + 1))).bind (fun m => if rightB m p then some m else none) = o := hoo
                    clear hoo
                    have xk : wr.cell? ⟨g7, 10, none⟩ = some (v 2) := (blk_cell HM.out 10).trans rfl
                    have fk : wr.frozen? ⟨g7, 10, none⟩ = false := blk_frozen HM.out 10
                    have HS := Aside0.mk (HMO.out.set HM.out 10 (.slice Ai q.length ci))
                    have HSq := Aside0.mk (Kd.R_set HR1.out HM.out (by simp [Kd.int, Kd.scalar]) 10 (.slice Ai q.length ci))
                    go_wp2_with (fail)
                    exact ⟨⟨true, i + 1, { m1 with data := q }, (fun n => if n = 2 then .slice Ai q.length ci else v n), rfl, by simp, by omega, ⟨HG.out.set HM.out (by simp [Kd.slice, Kd.int, Kd.scalar]) HG7.out 10 (.slice Ai q.length ci)⟩, ⟨blk_put HM.out 10 (.slice Ai q.length ci) rfl⟩, ⟨HKD.out⟩, HPS, ⟨fun _ => ⟨⟨HS.out.r0, HS.out.r1, HSq.out, HS.out.r3, HS.out.r4⟩, hn⟩⟩, ⟨fun e => by cases e⟩⟩, by simp only [intOf]; omega⟩
                · as_aux_lemma =>
                    obtain ⟨t, ht⟩ : ∃ t, allO letterO q = t := ⟨_, rfl⟩
                    have hr : readO m1 108 q = t.bind fun l => some { m1 with proof := l } := by rw [← ht]; rfl
                    rw [hr] at hoo
                    go_wp2_with (fail)
                    refine (reads112_calls Ai ci q t wr (Kd.R_reads' HR1.out).2.2 (Kd.R_reads' HR1.out).2.1 HBq.out (by have := HLq.out; omega) ht).mono ?_
                    rintro e w5 ⟨hB, hh⟩
                    have HM5 := Aside0.mk ((hB.block _ (blk_lt2 HM.out)).trans HM.out)
                    have HG5 := Aside0.mk (HG.out.andThen hB)
                    have HMO5 := Aside0.mk (HMO.out.below hB)
                    have HBS := Aside0.mk HG.out.keep.size
                    have xk : w5.cell? ⟨g7, 11, none⟩ = some (v 3) := (blk_cell HM5.out 11).trans rfl
                    have fk : w5.frozen? ⟨g7, 11, none⟩ = false := blk_frozen HM5.out 11
                    clear hB y1 hr ht
                    cases t with
                    | none =>
                      have hn : o = none := hoo.symm
                      subst hh
                      clear hoo
                      go_wp2_with (fail)
                      exact ⟨⟨false, i + 1, { m1 with proof := [] }, (fun n => if n = 3 then .slice none 0 0 else v n), rfl, by simp, by omega, ⟨HG5.out.set HM5.out (by simp [Kd.slice, Kd.int, Kd.scalar]) HG7.out 11 (.slice none 0 0)⟩, ⟨blk_put HM5.out 11 (.slice none 0 0) rfl⟩, ⟨HKD.out⟩, HPS, ⟨fun e => by cases e⟩, ⟨fun _ => hn⟩⟩, by simp only [intOf]; omega⟩
                    | some xs =>
                      obtain ⟨A5, c5, rfl, hX⟩ := hh
                      have hn : (decGo { m1 with proof := xs } (p.data.toList.drop (i + 1)) (st.drop (i + 1))).bind (fun m => if rightB m p then some m else none) = o := hoo
                      have HX := Aside0.mk (Kd.R_mono (Kd.R_lower hX HBS.out) (fun k hk => Nat.le_trans HBS.out hk))
                      clear hoo hX
                      have HS := Aside0.mk (HMO5.out.set HM5.out 11 (.slice A5 xs.length c5))
                      have HSq := Aside0.mk (Kd.R_set HX.out HM5.out (by simp [k72, k70, Kd.iso, Kd.pair, Kd.slice, Kd.int, Kd.scalar]) 11 (.slice A5 xs.length c5))
                      go_wp2_with (fail)
                      exact ⟨⟨true, i + 1, { m1 with proof := xs }, (fun n => if n = 3 then .slice A5 xs.length c5 else v n), rfl, by simp, by omega, ⟨HG5.out.set HM5.out (by simp [Kd.slice, Kd.int, Kd.scalar]) HG7.out 11 (.slice A5 xs.length c5)⟩, ⟨blk_put HM5.out 11 (.slice A5 xs.length c5) rfl⟩, ⟨HKD.out⟩, HPS, ⟨fun _ => ⟨⟨HS.out.r0, HS.out.r1, HS.out.r2, HSq.out, HS.out.r4⟩, hn⟩⟩, ⟨fun e => by cases e⟩⟩, by simp only [intOf]; omega⟩
                · obtain ⟨t, ht⟩ : ∃ t, allO provenO q = t := ⟨_, rfl⟩
                  have hr : readO m1 112 q = t.bind fun l => some { m1 with proven := l } := by rw [← ht]; rfl
                  rw [hr] at hoo
                  obtain ⟨rs, x, hs, hx0, hx1⟩ := split_any q t ht HBq.out
                  have HT0 := Aside0.mk (show t = none → o = none from fun e => by subst e; exact hoo.symm)
                  have HTS := Aside0.mk (show ∀ l, t = some l → (decGo { m1 with proven := l } (p.data.toList.drop (i + 1)) (st.drop (i + 1))).bind (fun m => if rightB m p then some m else none) = o from fun l e => by subst e; exact hoo)
                  have HX := Aside0.mk hx0
                  clear hr hoo ht
                  obtain ⟨ok0, hok⟩ : ∃ b, (x == (0 : Int)) = b := ⟨_, rfl⟩
                  have HA0 := Aside0.mk (show ok0 = true → x = 0 ∧ (mapO provenO (rs.drop 0)).bind (fun ys => some ([] ++ ys)) = t from fun e => have h0 : x = 0 := eq_of_beq (hok.trans e); ⟨h0, by rw [List.drop_zero, (hx0 h0).2.2]; cases t <;> rfl⟩)
                  have HA1 := Aside0.mk (show ok0 = false → t = none from fun e => hx1 (by rw [e] at hok; exact beq_eq_false_iff_ne.1 hok))
                  have hmp : { m1 with proven := [] } = m1 := by have h0 := HPB.out rfl; cases m1; simp only at h0; subst h0; rfl
                  clear hx0 hx1
                  go_wp2_with (fail)
                  refine (refSplit_calls Ai ci q rs x wr (Kd.R_reads' HR1.out).2.2 (Kd.R_reads' HR1.out).2.1 HBq.out (by have := HLq.out; omega) hs).mono ?_
                  rintro e w5 ⟨A6, c6, rfl, hG6⟩
                  have HM5 := Aside0.mk ((hG6.keep.block _ (blk_lt2 HM.out)).trans HM.out)
                  have HG5 := Aside0.mk (HG.out.andThen hG6.keep)
                  have HMO5 := Aside0.mk (HMO.out.below hG6.keep)
                  have HS5 := Aside0.mk (hG6.lift HG.out.keep)
                  rw [← hmp] at HMO5
                  clear hG6 y1 hs hmp HM HG HMO HR1 HBq HLq HPB HPS HPV
                  go_wp2_with (fail)
                  go_loopw [9, 16] (fun u y wr => ∃ (okk : Bool) (kk : Nat) (xs : List S101) (v : Nat → Value), u = .bool okk ∧ y = .int .i64 (kk : Int) ∧ kk ≤ rs.length ∧ Aside0 (Got (Kd.slice 5 (Kd.int .u8)) 22 w0 wr (some ⟨g1, 0, none⟩) c1 (s0 :: st)) ∧ Aside0 (Got (Kd.slice 5 (Kd.int .u8)) 22 w0 wr A6 c6 rs) ∧ Aside0 (wr.heap[g7]? = some (.cells #[.int .i64 m1.kind, .int .i64 m1.view, .int .i64 m1.seq, .int .i64 m1.client, .int .i64 m1.stamp, .int .i64 m1.entry.f0, .int .i64 m1.entry.f1, .int .i64 m1.entry.f2, v 0, v 1, v 2, v 3, v 4] 91)) ∧ Aside0 (MsgO wr w0.heap.size { m1 with proven := xs } v) ∧ Aside0 (xs.length = kk) ∧ Aside0 (okk = true → x = 0 ∧ (mapO provenO (rs.drop kk)).bind (fun ys => some (xs ++ ys)) = t) ∧ Aside0 (okk = false → t = none)) (fun _ y _ => rs.length - (intOf y).toNat)
                  case atStart => exact ⟨ok0, 0, [], v, rfl, rfl, Nat.zero_le _, HG5, HS5, HM5, HMO5, ⟨rfl⟩, HA0, HA1⟩
                  case round =>
                    clear HG5 HS5 HM5 HMO5 HA0 HA1 hok d0 d0'
                    obtain ⟨okk, kk, xs, v, rfl, rfl, hkk, HG, HS, HM, HMO, HLX, HK1, HK0⟩ := hrel
                    by_cases hlt2 : kk < rs.length
                    · have d1 : decide ((kk : Int) < (rs.length : Int)) = true := decide_eq_true (by omega)
                      have d1' : decide (kk < rs.length) = true := decide_eq_true (by omega)
                      cases okk with
                      | false =>
                        have hn : o = none := HT0.out (HK0.out rfl)
                        go_wp2_with (fail)
                        exact ⟨⟨false, i + 1, { m1 with proven := xs }, v, rfl, by simp, by omega, HG, HM, ⟨HKD.out⟩, ⟨fun h => absurd h (HPN.out (by first | rfl | trivial))⟩, ⟨fun e => by cases e⟩, ⟨fun _ => hn⟩⟩, by simp only [intOf]; omega⟩
                      | true =>
                        obtain ⟨g6, Ak, ck, hA, y1, hck, hCk⟩ := rows_any HS.out kk hlt2
                        subst hA
                        obtain ⟨r, hr⟩ : ∃ r, r = rs[kk] := ⟨_, rfl⟩
                        rw [← hr] at y1 hck hCk
                        obtain ⟨hx, hoo⟩ := HK1.out rfl
                        have HBr := Aside0.mk (show Byte r from hr ▸ ((HX.out hx).1 _ (List.getElem_mem hlt2)).1)
                        have HLr := Aside0.mk (show r.length ≤ 65536 from hr ▸ ((HX.out hx).1 _ (List.getElem_mem hlt2)).2)
                        have HLL := Aside0.mk (HX.out hx).2.1
                        rw [mapO_step hlt2, ← hr, provenO_head] at hoo
                        obtain ⟨h, hh⟩ : ∃ h, headO r 3 2 = h := ⟨_, rfl⟩
                        rw [hh] at hoo
                        have HCk := Aside0.mk hCk
                        have Hck := Aside0.mk hck
                        have HH := Aside0.mk hh
                        have HOO := Aside0.mk hoo
                        have HXZ := Aside0.mk hx
                        clear hCk hck hr hh hoo hx
                        have e0 : (0 ≤ (kk : Int)) = True := eq_true (by omega)
                        have e1 : ((kk : Int) < (rs.length : Int)) = True := eq_true (by omega)
                        obtain ⟨u4, c4, ev⟩ := Kd.R_slice HMO.out.r4
                        have HEV := Aside0.mk ev
                        clear ev
                        have HX0 := Aside0.mk (blk_new wr (.cells #[.int .i64 0, .int .i64 0, .int .i64 0, .int .i64 0, .int .i64 0, .slice none 0 0, .slice none 0 0] 101))
                        have HK00 := Aside0.mk (below_alloc (Below.refl wr.heap.size wr) (.cells #[.int .i64 0, .int .i64 0, .int .i64 0, .int .i64 0, .int .i64 0, .slice none 0 0, .slice none 0 0] 101))
                        go_upto_region 40 with (refine wpList_store_row rfl 101 (.tmp 17) (.tmp 155) rfl wr.heap.size #[.int .i64 0, .int .i64 0, .int .i64 0, .int .i64 0, .int .i64 0, .slice none 0 0, .slice none 0 0] rfl rfl 101 _ HX0.out size101 rfl (by simp [Value.oneCell']) ?_)
                        have HX1 := Aside0.mk (setRow_heap _ _ _ #[.int .i64 0, .int .i64 0, .int .i64 0, .int .i64 0, .int .i64 0, .slice none 0 0, .slice none 0 0] _ _ HX0.out)
                        have HB1 := Aside0.mk (below_setRow HK00.out (Nat.le_refl _) #[.int .i64 0, .int .i64 0, .int .i64 0, .int .i64 0, .int .i64 0, .slice none 0 0, .slice none 0 0])
                        generalize (wr.alloc (.cells #[.int .i64 0, .int .i64 0, .int .i64 0, .int .i64 0, .int .i64 0, .slice none 0 0, .slice none 0 0] 101)).setRow wr.heap.size #[.int .i64 0, .int .i64 0, .int .i64 0, .int .i64 0, .int .i64 0, .slice none 0 0, .slice none 0 0] = wa at HX1 HB1 ⊢
                        obtain ⟨gx, hgx⟩ : ∃ g, g = wr.heap.size := ⟨_, rfl⟩
                        have HGX := Aside0.mk (show wr.heap.size ≤ gx by omega)
                        rw [← hgx] at HX1 ⊢
                        clear hgx HX0 HK00
                        have y1 := cell_step y1 HB1.out
                        have HCa := Aside0.mk (Kd.C_below HCk.out HB1.out)
                        go_wp2_with (fail)
                        refine (fields113_32 Ak ck r h wa HCa.out Hck.out HBr.out (by have := HLr.out; omega) HH.out).mono ?_
                        rintro e wb hF
                        clear y1 HCa
                        cases h with
                        | none =>
                          obtain ⟨⟨u1, u2, rfl⟩, hB⟩ := hF
                          have hn : o = none := HT0.out HOO.out.symm
                          have HBb := Aside0.mk (below_then HB1.out HB1.out.size hB)
                          have HG := Aside0.mk (HG.out.andThen HBb.out)
                          have HM := Aside0.mk ((HBb.out.block _ (blk_lt2 HM.out)).trans HM.out)
                          clear hB
                          go_wp2_with (fail)
                          exact ⟨⟨false, i + 1, { m1 with proven := xs }, v, rfl, by simp, by omega, HG, HM, ⟨HKD.out⟩, ⟨fun h => absurd h (HPN.out (by first | rfl | trivial))⟩, ⟨fun e => by cases e⟩, ⟨fun _ => hn⟩⟩, by simp only [intOf]; omega⟩
                        | some t2 =>
                          obtain ⟨hn1, hn2, hbt, _⟩ := headO_some HBr.out HH.out
                          obtain ⟨ts, vs⟩ := t2
                          dsimp only at hn1 hn2 hbt
                          obtain ⟨s3, s1, s2, rfl⟩ := three hn1
                          obtain ⟨v0, v1, rfl⟩ := two hn2
                          have Hb1 := Aside0.mk (hbt s1 (by simp))
                          have Hb2 := Aside0.mk (hbt s2 (by simp))
                          obtain ⟨gt, ct, gv, cv, rfl, hGt, hGv⟩ := hF
                          have HBb := Aside0.mk (below_then HB1.out HB1.out.size hGt.keep)
                          have HXb := Aside0.mk ((hGt.keep.block _ (blk_lt2 HX1.out)).trans HX1.out)
                          have HT := Aside0.mk (hGt.lift HB1.out)
                          have HV := Aside0.mk (hGv.lift HB1.out)
                          obtain ⟨y, hy⟩ : ∃ y, (entryO s1).getD z87 = y := ⟨_, rfl⟩
                          obtain ⟨ye, hye⟩ : ∃ y, (if (entryO s1).isSome then (0 : Int) else 12) = y := ⟨_, rfl⟩
                          obtain ⟨zs, hz⟩ : ∃ y, (allO letterO s2).getD [] = y := ⟨_, rfl⟩
                          obtain ⟨zb, hzb⟩ : ∃ y, (allO letterO s2).isSome = y := ⟨_, rfl⟩
                          have HQ := Aside0.mk (And.intro hy (And.intro hye (And.intro hz hzb)))
                          have HST := Aside0.mk (proven_step hy hye hz hzb HOO.out)
                          clear hGt hGv hbt hn1 hn2 hy hye hz hzb HH HOO HBr HLr HX1
                          generalize hW : wb = wc0 at HBb HXb HT HV ⊢
                          clear hW
                          have z0 := nums_at HV.out 0 (by simp)
                          simp only [List.getElem_cons_zero] at z0
                          have x0 : wc0.cell? ⟨gx, 0, none⟩ = some (.int .i64 0) := (blk_cell HXb.out 0).trans rfl
                          have f0 : wc0.frozen? ⟨gx, 0, none⟩ = false := blk_frozen HXb.out 0
                          have HXS0 : Aside0 ((wc0.setCell ⟨gx, 0, none⟩ (.int .i64 v0)).heap[gx]? = some (.cells #[.int .i64 v0, .int .i64 0, .int .i64 0, .int .i64 0, .int .i64 0, .slice none 0 0, .slice none 0 0] 101)) := ⟨blk_put HXb.out 0 (.int .i64 v0) rfl⟩
                          have HBS0 := Aside0.mk (below_set (j := 0) (v := .int .i64 v0) HBb.out HGX.out)
                          have HTS0 := Aside0.mk (Got.set HT.out HXb.out (by simp [Kd.slice, Kd.int, Kd.scalar]) HGX.out 0 (.int .i64 v0))
                          have HVS0 := Aside0.mk (Got.set HV.out HXb.out (by simp [Kd.slice, Kd.int, Kd.scalar]) HGX.out 0 (.int .i64 v0))
                          have z1 := nums_at HVS0.out 1 (by simp)
                          simp only [List.getElem_cons_succ, List.getElem_cons_zero] at z1
                          have x1 : (wc0.setCell ⟨gx, 0, none⟩ (.int .i64 v0)).cell? ⟨gx, 1, none⟩ = some (.int .i64 0) := (blk_cell HXS0.out 1).trans rfl
                          have f1 : (wc0.setCell ⟨gx, 0, none⟩ (.int .i64 v0)).frozen? ⟨gx, 1, none⟩ = false := blk_frozen HXS0.out 1
                          have HXS1 : Aside0 (((wc0.setCell ⟨gx, 0, none⟩ (.int .i64 v0)).setCell ⟨gx, 1, none⟩ (.int .i64 v1)).heap[gx]? = some (.cells #[.int .i64 v0, .int .i64 v1, .int .i64 0, .int .i64 0, .int .i64 0, .slice none 0 0, .slice none 0 0] 101)) := ⟨blk_put HXS0.out 1 (.int .i64 v1) rfl⟩
                          have HBS1 := Aside0.mk (below_set (j := 1) (v := .int .i64 v1) HBS0.out HGX.out)
                          have HTS1 := Aside0.mk (Got.set HTS0.out HXS0.out (by simp [Kd.slice, Kd.int, Kd.scalar]) HGX.out 1 (.int .i64 v1))
                          obtain ⟨At, at_, t1, hRt⟩ := rows_at HTS1.out 1 (by simp)
                          simp only [List.getElem_cons_succ, List.getElem_cons_zero] at t1 hRt
                          have HRt := Aside0.mk hRt
                          clear hRt
                          go_wp2_with (fail)
                          have HX2 := HXS1
                          have HT2 := HTS1
                          have HB2 := HBS1
                          generalize ((wc0.setCell ⟨gx, 0, none⟩ (.int .i64 v0)).setCell ⟨gx, 1, none⟩ (.int .i64 v1)) = wc at HX2 HT2 HB2 HRt ⊢
                          clear x0 f0 x1 f1 z0 z1 t1 HXb HT HV HBb HXS0 HXS1 HTS0 HTS1 HVS0 HBS0 HBS1
                          refine (refRead80_own At at_ s1 y ye wc (Kd.R_reads' HRt.out).2.2 (Kd.R_reads' HRt.out).2.1 Hb1.out.1 (by have := Hb1.out.2; omega) HQ.out.1 HQ.out.2.1).mono ?_
                          rintro e wd ⟨hB, A5, c5, rfl, hR5⟩
                          have HX3 := Aside0.mk ((hB.block _ (blk_lt2 HX2.out)).trans HX2.out)
                          have HT3 := Aside0.mk (HT2.out.andThen hB)
                          have HB3 := Aside0.mk (below_then HB2.out HB2.out.size hB)
                          have HR3 := Aside0.mk (Kd.R_mono (Kd.R_lower hR5 HB2.out.size) (fun k hk => Nat.le_trans HB2.out.size hk))
                          have HN0 := Aside0.mk (blk_new wd (.cells #[.int .i64 0, .int .i64 0, .int .i64 0, .slice none 0 0] 87))
                          have HK00 := Aside0.mk (below_alloc (Below.refl wd.heap.size wd) (.cells #[.int .i64 0, .int .i64 0, .int .i64 0, .slice none 0 0] 87))
                          clear hB hR5 HX2 HT2 HB2 HRt
                          go_upto_region 46 with (refine wpList_store_row rfl 87 (.tmp 21) (.tmp 181) rfl wd.heap.size #[.int .i64 y.f0, .int .i64 y.f1, .int .i64 y.f2, .slice A5 y.f3.length c5] rfl rfl 87 _ HN0.out size87 rfl (by simp [Value.oneCell']) ?_)
                          have HN1 := Aside0.mk (setRow_heap _ _ _ #[.int .i64 y.f0, .int .i64 y.f1, .int .i64 y.f2, .slice A5 y.f3.length c5] _ _ HN0.out)
                          have HK1_ := Aside0.mk (below_setRow HK00.out (Nat.le_refl _) #[.int .i64 y.f0, .int .i64 y.f1, .int .i64 y.f2, .slice A5 y.f3.length c5])
                          generalize (wd.alloc (.cells #[.int .i64 0, .int .i64 0, .int .i64 0, .slice none 0 0] 87)).setRow wd.heap.size #[.int .i64 y.f0, .int .i64 y.f1, .int .i64 y.f2, .slice A5 y.f3.length c5] = we at HN1 HK1_ ⊢
                          have HX4 := Aside0.mk ((HK1_.out.block _ (blk_lt2 HX3.out)).trans HX3.out)
                          have HT4 := Aside0.mk (HT3.out.andThen HK1_.out)
                          have HB4 := Aside0.mk (below_then HB3.out HB3.out.size HK1_.out)
                          have HR4 := Aside0.mk (Kd.R_below HR3.out HK1_.out)
                          clear HX3 HT3 HB3 HR3 HN0 HK00 HK1_
                          have n0 : we.cell? ⟨wd.heap.size, 0, none⟩ = some (.int .i64 y.f0) := (blk_cell HN1.out 0).trans rfl
                          have n1 : we.cell? ⟨wd.heap.size, 1, none⟩ = some (.int .i64 y.f1) := (blk_cell HN1.out 1).trans rfl
                          have n2 : we.cell? ⟨wd.heap.size, 2, none⟩ = some (.int .i64 y.f2) := (blk_cell HN1.out 2).trans rfl
                          have n3 : we.cell? ⟨wd.heap.size, 3, none⟩ = some (.slice A5 y.f3.length c5) := (blk_cell HN1.out 3).trans rfl
                          have x2 : we.cell? ⟨gx, 2, none⟩ = some (.int .i64 0) := (blk_cell HX4.out 2).trans rfl
                          have f2 : we.frozen? ⟨gx, 2, none⟩ = false := blk_frozen HX4.out 2
                          have HXS2 : Aside0 ((we.setCell ⟨gx, 2, none⟩ (.int .i64 y.f0)).heap[gx]? = some (.cells #[.int .i64 v0, .int .i64 v1, .int .i64 y.f0, .int .i64 0, .int .i64 0, .slice none 0 0, .slice none 0 0] 101)) := ⟨blk_put HX4.out 2 (.int .i64 y.f0) rfl⟩
                          have HBS2 := Aside0.mk (below_set (j := 2) (v := .int .i64 y.f0) HB4.out HGX.out)
                          have HTS2 := Aside0.mk (Got.set HT4.out HX4.out (by simp [Kd.slice, Kd.int, Kd.scalar]) HGX.out 2 (.int .i64 y.f0))
                          have HRS2 := Aside0.mk (Kd.R_set HR4.out HX4.out (by simp [k72, k70, Kd.iso, Kd.pair, Kd.slice, Kd.int, Kd.scalar]) 2 (.int .i64 y.f0))
                          have x3 : (we.setCell ⟨gx, 2, none⟩ (.int .i64 y.f0)).cell? ⟨gx, 3, none⟩ = some (.int .i64 0) := (blk_cell HXS2.out 3).trans rfl
                          have f3 : (we.setCell ⟨gx, 2, none⟩ (.int .i64 y.f0)).frozen? ⟨gx, 3, none⟩ = false := blk_frozen HXS2.out 3
                          have HXS3 : Aside0 (((we.setCell ⟨gx, 2, none⟩ (.int .i64 y.f0)).setCell ⟨gx, 3, none⟩ (.int .i64 y.f1)).heap[gx]? = some (.cells #[.int .i64 v0, .int .i64 v1, .int .i64 y.f0, .int .i64 y.f1, .int .i64 0, .slice none 0 0, .slice none 0 0] 101)) := ⟨blk_put HXS2.out 3 (.int .i64 y.f1) rfl⟩
                          have HBS3 := Aside0.mk (below_set (j := 3) (v := .int .i64 y.f1) HBS2.out HGX.out)
                          have HTS3 := Aside0.mk (Got.set HTS2.out HXS2.out (by simp [Kd.slice, Kd.int, Kd.scalar]) HGX.out 3 (.int .i64 y.f1))
                          have HRS3 := Aside0.mk (Kd.R_set HRS2.out HXS2.out (by simp [k72, k70, Kd.iso, Kd.pair, Kd.slice, Kd.int, Kd.scalar]) 3 (.int .i64 y.f1))
                          have x4 : ((we.setCell ⟨gx, 2, none⟩ (.int .i64 y.f0)).setCell ⟨gx, 3, none⟩ (.int .i64 y.f1)).cell? ⟨gx, 4, none⟩ = some (.int .i64 0) := (blk_cell HXS3.out 4).trans rfl
                          have f4 : ((we.setCell ⟨gx, 2, none⟩ (.int .i64 y.f0)).setCell ⟨gx, 3, none⟩ (.int .i64 y.f1)).frozen? ⟨gx, 4, none⟩ = false := blk_frozen HXS3.out 4
                          have HXS4 : Aside0 ((((we.setCell ⟨gx, 2, none⟩ (.int .i64 y.f0)).setCell ⟨gx, 3, none⟩ (.int .i64 y.f1)).setCell ⟨gx, 4, none⟩ (.int .i64 y.f2)).heap[gx]? = some (.cells #[.int .i64 v0, .int .i64 v1, .int .i64 y.f0, .int .i64 y.f1, .int .i64 y.f2, .slice none 0 0, .slice none 0 0] 101)) := ⟨blk_put HXS3.out 4 (.int .i64 y.f2) rfl⟩
                          have HBS4 := Aside0.mk (below_set (j := 4) (v := .int .i64 y.f2) HBS3.out HGX.out)
                          have HTS4 := Aside0.mk (Got.set HTS3.out HXS3.out (by simp [Kd.slice, Kd.int, Kd.scalar]) HGX.out 4 (.int .i64 y.f2))
                          have HRS4 := Aside0.mk (Kd.R_set HRS3.out HXS3.out (by simp [k72, k70, Kd.iso, Kd.pair, Kd.slice, Kd.int, Kd.scalar]) 4 (.int .i64 y.f2))
                          have x5 : (((we.setCell ⟨gx, 2, none⟩ (.int .i64 y.f0)).setCell ⟨gx, 3, none⟩ (.int .i64 y.f1)).setCell ⟨gx, 4, none⟩ (.int .i64 y.f2)).cell? ⟨gx, 5, none⟩ = some (.slice none 0 0) := (blk_cell HXS4.out 5).trans rfl
                          have f5 : (((we.setCell ⟨gx, 2, none⟩ (.int .i64 y.f0)).setCell ⟨gx, 3, none⟩ (.int .i64 y.f1)).setCell ⟨gx, 4, none⟩ (.int .i64 y.f2)).frozen? ⟨gx, 5, none⟩ = false := blk_frozen HXS4.out 5
                          have HXS5 : Aside0 (((((we.setCell ⟨gx, 2, none⟩ (.int .i64 y.f0)).setCell ⟨gx, 3, none⟩ (.int .i64 y.f1)).setCell ⟨gx, 4, none⟩ (.int .i64 y.f2)).setCell ⟨gx, 5, none⟩ (.slice A5 y.f3.length c5)).heap[gx]? = some (.cells #[.int .i64 v0, .int .i64 v1, .int .i64 y.f0, .int .i64 y.f1, .int .i64 y.f2, .slice A5 y.f3.length c5, .slice none 0 0] 101)) := ⟨blk_put HXS4.out 5 (.slice A5 y.f3.length c5) rfl⟩
                          have HBS5 := Aside0.mk (below_set (j := 5) (v := .slice A5 y.f3.length c5) HBS4.out HGX.out)
                          have HTS5 := Aside0.mk (Got.set HTS4.out HXS4.out (by simp [Kd.slice, Kd.int, Kd.scalar]) HGX.out 5 (.slice A5 y.f3.length c5))
                          have HRS5 := Aside0.mk (Kd.R_set HRS4.out HXS4.out (by simp [k72, k70, Kd.iso, Kd.pair, Kd.slice, Kd.int, Kd.scalar]) 5 (.slice A5 y.f3.length c5))
                          obtain ⟨Au, cu, t2, hRu⟩ := rows_at HTS5.out 2 (by simp)
                          simp only [List.getElem_cons_succ, List.getElem_cons_zero] at t2 hRu
                          have HRu := Aside0.mk hRu
                          clear hRu
                          go_wp2_with (fail)
                          have HX5 := HXS5
                          have HT5 := HTS5
                          have HB5 := HBS5
                          have HR5 := HRS5
                          generalize ((((we.setCell ⟨gx, 2, none⟩ (.int .i64 y.f0)).setCell ⟨gx, 3, none⟩ (.int .i64 y.f1)).setCell ⟨gx, 4, none⟩ (.int .i64 y.f2)).setCell ⟨gx, 5, none⟩ (.slice A5 y.f3.length c5)) = wf at HX5 HT5 HB5 HR5 HRu ⊢
                          clear x2 f2 x3 f3 x4 f4 x5 f5 n0 n1 n2 n3 t2 HX4 HT4 HB4 HR4 HN1 HXS2 HTS2 HBS2 HRS2 HXS3 HTS3 HBS3 HRS3 HXS4 HTS4 HBS4 HRS4 HXS5 HTS5 HBS5 HRS5
                          refine (reads112_own Au cu s2 zs zb wf (Kd.R_reads' HRu.out).2.2 (Kd.R_reads' HRu.out).2.1 Hb2.out.1 (by have := Hb2.out.2; omega) HQ.out.2.2.1 HQ.out.2.2.2).mono ?_
                          rintro e wg ⟨hB, A7, c7, rfl, hR7⟩
                          have HX6 := Aside0.mk ((hB.block _ (blk_lt2 HX5.out)).trans HX5.out)
                          have HT6 := Aside0.mk (HT5.out.andThen hB)
                          have HB6 := Aside0.mk (below_then HB5.out HB5.out.size hB)
                          have HR6 := Aside0.mk (Kd.R_below HR5.out hB)
                          have HL6 := Aside0.mk (Kd.R_mono (Kd.R_lower hR7 HB5.out.size) (fun k hk => Nat.le_trans HB5.out.size hk))
                          clear hB hR7 HX5 HT5 HB5 HR5 HRu
                          have x6 : wg.cell? ⟨gx, 6, none⟩ = some (.slice none 0 0) := (blk_cell HX6.out 6).trans rfl
                          have f6 : wg.frozen? ⟨gx, 6, none⟩ = false := blk_frozen HX6.out 6
                          have HXS6 : Aside0 ((wg.setCell ⟨gx, 6, none⟩ (.slice A7 zs.length c7)).heap[gx]? = some (.cells #[.int .i64 v0, .int .i64 v1, .int .i64 y.f0, .int .i64 y.f1, .int .i64 y.f2, .slice A5 y.f3.length c5, .slice A7 zs.length c7] 101)) := ⟨blk_put HX6.out 6 (.slice A7 zs.length c7) rfl⟩
                          have HBS6 := Aside0.mk (below_set (j := 6) (v := .slice A7 zs.length c7) HB6.out HGX.out)
                          have HTS6 := Aside0.mk (Got.set HT6.out HX6.out (by simp [Kd.slice, Kd.int, Kd.scalar]) HGX.out 6 (.slice A7 zs.length c7))
                          have HRS6 := Aside0.mk (Kd.R_set HR6.out HX6.out (by simp [k72, k70, Kd.iso, Kd.pair, Kd.slice, Kd.int, Kd.scalar]) 6 (.slice A7 zs.length c7))
                          have HLS6 := Aside0.mk (Kd.R_set HL6.out HX6.out (by simp [k72, k70, Kd.iso, Kd.pair, Kd.slice, Kd.int, Kd.scalar]) 6 (.slice A7 zs.length c7))
                          go_upto_region 48 with (fail)
                          have HX7 := HXS6
                          have HB7 := HBS6
                          have HR7 := HRS6
                          have HL7 := HLS6
                          generalize (wg.setCell ⟨gx, 6, none⟩ (.slice A7 zs.length c7)) = wh at HX7 HB7 HR7 HL7 ⊢
                          clear x6 f6 HX6 HT6 HB6 HR6 HL6 HXS6 HTS6 HBS6 HRS6 HLS6
                          have HM7 := Aside0.mk ((HB7.out.block _ (blk_lt2 HM.out)).trans HM.out)
                          have HG7_ := Aside0.mk (HG.out.andThen HB7.out)
                          have HS7 := Aside0.mk (HS.out.andThen HB7.out)
                          have HMO7 := Aside0.mk (HMO.out.below HB7.out)
                          have HV4 := Aside0.mk (show Kd.R k101 101 wr w0.heap.size (fun k_ => w0.heap.size ≤ k_) (.slice u4 xs.length c4) xs from HEV.out ▸ HMO.out.r4)
                          have HV7 := Aside0.mk (Kd.R_below HV4.out HB7.out)
                          have HXM := Aside0.mk (Kd.M_lower_ k101 HG.out.keep.size (k101_mkM wh wr.heap.size (fun k_ => wr.heap.size ≤ k_) ⟨v0, v1, y, zs⟩ HR7.out HL7.out))
                          have hsz := HG7_.out.keep.size
                          have hll : xs.length ≤ 1024 := by have := HLX.out; have := HLL.out; omega
                          have hsz2 := HG.out.keep.size
                          have hkb : kk ≤ 1024 := by have := HLX.out; omega
                          have hxl : xs.length < rs.length := by have := HLX.out; omega
                          have k7 : wh.cell? ⟨g7, 12, none⟩ = some (.slice u4 xs.length c4) := ((blk_cell HM7.out 12).trans rfl).trans (congrArg some HEV.out)
                          have j0 : wh.cell? ⟨gx, 0, none⟩ = some (.int .i64 v0) := (blk_cell HX7.out 0).trans rfl
                          have j1 : wh.cell? ⟨gx, 1, none⟩ = some (.int .i64 v1) := (blk_cell HX7.out 1).trans rfl
                          have j2 : wh.cell? ⟨gx, 2, none⟩ = some (.int .i64 y.f0) := (blk_cell HX7.out 2).trans rfl
                          have j3 : wh.cell? ⟨gx, 3, none⟩ = some (.int .i64 y.f1) := (blk_cell HX7.out 3).trans rfl
                          have j4 : wh.cell? ⟨gx, 4, none⟩ = some (.int .i64 y.f2) := (blk_cell HX7.out 4).trans rfl
                          have j5 : wh.cell? ⟨gx, 5, none⟩ = some (.slice A5 y.f3.length c5) := (blk_cell HX7.out 5).trans rfl
                          have j6 : wh.cell? ⟨gx, 6, none⟩ = some (.slice A7 zs.length c7) := (blk_cell HX7.out 6).trans rfl
                          cases zb with
                          | false =>
                            have ht := HST.out.2 rfl
                            go_wp2_with (at_builtin; refine Kd.R_append k101 (w0 := w0) w0.heap.size rfl (.tmp 199) (.tmp 201) 89 101 (.agg #[.int .i64 0, .int .i64 0, .int .i64 0, .int .i64 0, .int .i64 0, .slice none 0 0, .slice none 0 0]) 88 rfl Try.underlying89 info101 rfl (by decide) (by omega) (.slice u4 xs.length c4) xs ⟨v0, v1, y, zs⟩ [.int .i64 v0, .int .i64 v1, .int .i64 y.f0, .int .i64 y.f1, .int .i64 y.f2, .slice A5 y.f3.length c5, .slice A7 zs.length c7] (fun k_ => w0.heap.size ≤ k_) (fun k_ => wr.heap.size ≤ k_) rfl rfl HXM.out (fun k hk => ⟨Nat.le_trans hsz2 hk, fun e => by have := Kd.R_lt_ HV4.out k e.symm; omega⟩) (fun k hk => by omega) HV7.out HG7_.out.keep hsz (by omega) ?_; intro v3 w3 hR3 hB3 hg3 hat3; obtain ⟨A3, c3, rfl⟩ := Kd.R_slice hR3; rw [List.length_append, show ([(⟨v0, v1, y, zs⟩ : S101)]).length = 1 from rfl] at hR3; have HM8 := Aside0.mk (blk_apart HM7.out (Kd.R_typed HV7.out) (by decide) hg3); have HG8 := Aside0.mk (HG7_.out.grown (Kd.R_typed HV7.out) (by simp [Kd.slice, Kd.int, Kd.scalar]) hg3 hB3); have HS8 := Aside0.mk (HS7.out.grown (Kd.R_typed HV7.out) (by simp [Kd.slice, Kd.int, Kd.scalar]) hg3 hB3); have HMO8 := Aside0.mk (HMO7.out.push (Kd.R_typed HV7.out) hg3 hR3 HM8.out 12); have k8 : w3.cell? ⟨g7, 12, none⟩ = some (v 4) := (blk_cell HM8.out 12).trans rfl; have l8 : w3.frozen? ⟨g7, 12, none⟩ = false := blk_frozen HM8.out 12; clear hR3 hB3 hg3 hat3)
                            exact ⟨⟨false, kk + 1, xs ++ [⟨v0, v1, y, zs⟩], fun n => if n = 4 then .slice A3 (xs.length + 1) c3 else v n, rfl, by simp, by omega, ⟨Got.set HG8.out HM8.out (by simp [Kd.slice, Kd.int, Kd.scalar]) HG7.out 12 _⟩, ⟨Got.set HS8.out HM8.out (by simp [Kd.slice, Kd.int, Kd.scalar]) HG7.out 12 _⟩, ⟨blk_put HM8.out 12 _ rfl⟩, HMO8, ⟨by rw [List.length_append, HLX.out]; rfl⟩, ⟨fun e => by cases e⟩, ⟨fun _ => ht⟩⟩, by simp only [intOf]; omega⟩
                          | true =>
                            obtain ⟨okn, hokn⟩ : ∃ b, (ye == (0 : Int)) = b := ⟨_, rfl⟩
                            have HS0 := Aside0.mk HST.out
                            rw [hokn] at HS0
                            clear HST
                            go_wp2_with (at_builtin; refine Kd.R_append k101 (w0 := w0) w0.heap.size rfl (.tmp 199) (.tmp 201) 89 101 (.agg #[.int .i64 0, .int .i64 0, .int .i64 0, .int .i64 0, .int .i64 0, .slice none 0 0, .slice none 0 0]) 88 rfl Try.underlying89 info101 rfl (by decide) (by omega) (.slice u4 xs.length c4) xs ⟨v0, v1, y, zs⟩ [.int .i64 v0, .int .i64 v1, .int .i64 y.f0, .int .i64 y.f1, .int .i64 y.f2, .slice A5 y.f3.length c5, .slice A7 zs.length c7] (fun k_ => w0.heap.size ≤ k_) (fun k_ => wr.heap.size ≤ k_) rfl rfl HXM.out (fun k hk => ⟨Nat.le_trans hsz2 hk, fun e => by have := Kd.R_lt_ HV4.out k e.symm; omega⟩) (fun k hk => by omega) HV7.out HG7_.out.keep hsz (by omega) ?_; intro v3 w3 hR3 hB3 hg3 hat3; obtain ⟨A3, c3, rfl⟩ := Kd.R_slice hR3; rw [List.length_append, show ([(⟨v0, v1, y, zs⟩ : S101)]).length = 1 from rfl] at hR3; have HM8 := Aside0.mk (blk_apart HM7.out (Kd.R_typed HV7.out) (by decide) hg3); have HG8 := Aside0.mk (HG7_.out.grown (Kd.R_typed HV7.out) (by simp [Kd.slice, Kd.int, Kd.scalar]) hg3 hB3); have HS8 := Aside0.mk (HS7.out.grown (Kd.R_typed HV7.out) (by simp [Kd.slice, Kd.int, Kd.scalar]) hg3 hB3); have HMO8 := Aside0.mk (HMO7.out.push (Kd.R_typed HV7.out) hg3 hR3 HM8.out 12); have k8 : w3.cell? ⟨g7, 12, none⟩ = some (v 4) := (blk_cell HM8.out 12).trans rfl; have l8 : w3.frozen? ⟨g7, 12, none⟩ = false := blk_frozen HM8.out 12; clear hR3 hB3 hg3 hat3)
                            exact ⟨⟨okn, kk + 1, xs ++ [⟨v0, v1, y, zs⟩], fun n => if n = 4 then .slice A3 (xs.length + 1) c3 else v n, rfl, by simp, by omega, ⟨Got.set HG8.out HM8.out (by simp [Kd.slice, Kd.int, Kd.scalar]) HG7.out 12 _⟩, ⟨Got.set HS8.out HM8.out (by simp [Kd.slice, Kd.int, Kd.scalar]) HG7.out 12 _⟩, ⟨blk_put HM8.out 12 _ rfl⟩, HMO8, ⟨by rw [List.length_append, HLX.out]; rfl⟩, ⟨fun e => ⟨HXZ.out, HS0.out.1 (by rw [e]; rfl)⟩⟩, ⟨fun e => HS0.out.2 (by rw [e]; rfl)⟩⟩, by simp only [intOf]; omega⟩
                    · have d1 : decide ((kk : Int) < (rs.length : Int)) = false := decide_eq_false (by omega)
                      have d1' : decide (kk < rs.length) = false := decide_eq_false (by omega)
                      cases okk with
                      | false =>
                        have hn : o = none := HT0.out (HK0.out rfl)
                        go_wp2_with (fail)
                        exact ⟨⟨false, i + 1, { m1 with proven := xs }, v, rfl, by simp, by omega, HG, HM, ⟨HKD.out⟩, ⟨fun h => absurd h (HPN.out (by first | rfl | trivial))⟩, ⟨fun e => by cases e⟩, ⟨fun _ => hn⟩⟩, by simp only [intOf]; omega⟩
                      | true =>
                        have hh := (HK1.out rfl).2
                        rw [List.drop_eq_nil_of_le (by omega)] at hh
                        have hn := HTS.out xs (by rw [← hh]; simp [mapO])
                        clear hh
                        go_wp2_with (fail)
                        exact ⟨⟨true, i + 1, { m1 with proven := xs }, v, rfl, by simp, by omega, HG, HM, ⟨HKD.out⟩, ⟨fun h => absurd h (HPN.out (by first | rfl | trivial))⟩, ⟨fun _ => ⟨HMO.out, hn⟩⟩, ⟨fun e => by cases e⟩⟩, by simp only [intOf]; omega⟩
            · have d0 : decide ((i : Int) < (p.size : Int)) = false := decide_eq_false (by omega)
              have d0' : decide (i < p.size) = false := decide_eq_false hlt
              cases okb with
              | false =>
                have : o = none := HNO.out (by first | rfl | trivial)
                subst this
                have HNx := Aside0.mk ((HG.out.keep.block _ (blk_lt2 HN0.out)).trans HN0.out)
                have HRx := Aside0.mk ((HG.out.keep.block _ (blk_lt2 HR0.out)).trans HR0.out)
                have HBx := Aside0.mk (below_then HB0.out HB0.out.size HG.out.keep)
                have n0 : wr.cell? ⟨w.heap.size + 1, 0, none⟩ = some (.int .i64 0) := (blk_cell HNx.out 0).trans rfl
                have n1 : wr.cell? ⟨w.heap.size + 1, 1, none⟩ = some (.int .i64 0) := (blk_cell HNx.out 1).trans rfl
                have n2 : wr.cell? ⟨w.heap.size + 1, 2, none⟩ = some (.int .i64 0) := (blk_cell HNx.out 2).trans rfl
                have n3 : wr.cell? ⟨w.heap.size + 1, 3, none⟩ = some (.int .i64 0) := (blk_cell HNx.out 3).trans rfl
                have n4 : wr.cell? ⟨w.heap.size + 1, 4, none⟩ = some (.int .i64 0) := (blk_cell HNx.out 4).trans rfl
                have n5 : wr.cell? ⟨w.heap.size + 1, 5, none⟩ = some (.int .i64 0) := (blk_cell HNx.out 5).trans rfl
                have n6 : wr.cell? ⟨w.heap.size + 1, 6, none⟩ = some (.int .i64 0) := (blk_cell HNx.out 6).trans rfl
                have n7 : wr.cell? ⟨w.heap.size + 1, 7, none⟩ = some (.int .i64 0) := (blk_cell HNx.out 7).trans rfl
                have n8 : wr.cell? ⟨w.heap.size + 1, 8, none⟩ = some (.slice none 0 0) := (blk_cell HNx.out 8).trans rfl
                have n9 : wr.cell? ⟨w.heap.size + 1, 9, none⟩ = some (.slice none 0 0) := (blk_cell HNx.out 9).trans rfl
                have n10 : wr.cell? ⟨w.heap.size + 1, 10, none⟩ = some (.slice none 0 0) := (blk_cell HNx.out 10).trans rfl
                have n11 : wr.cell? ⟨w.heap.size + 1, 11, none⟩ = some (.slice none 0 0) := (blk_cell HNx.out 11).trans rfl
                have n12 : wr.cell? ⟨w.heap.size + 1, 12, none⟩ = some (.slice none 0 0) := (blk_cell HNx.out 12).trans rfl
                go_wp2_with (refine wpList_store_row rfl 91 (.tmp 2) (.tmp 216) rfl w.heap.size #[.int .i64 0, .int .i64 0, .int .i64 0, .int .i64 0, .int .i64 0, .int .i64 0, .int .i64 0, .int .i64 0, .slice none 0 0, .slice none 0 0, .slice none 0 0, .slice none 0 0, .slice none 0 0] rfl rfl 91 _ HRx.out size91 rfl (by simp [Value.oneCell']) ?_; have HX9 := Aside0.mk (setRow_heap _ _ _ #[.int .i64 0, .int .i64 0, .int .i64 0, .int .i64 0, .int .i64 0, .int .i64 0, .int .i64 0, .int .i64 0, .slice none 0 0, .slice none 0 0, .slice none 0 0, .slice none 0 0, .slice none 0 0] _ _ HRx.out); have HB9 := Aside0.mk (below_setRow HBx.out (Nat.le_refl _) #[.int .i64 0, .int .i64 0, .int .i64 0, .int .i64 0, .int .i64 0, .int .i64 0, .int .i64 0, .int .i64 0, .slice none 0 0, .slice none 0 0, .slice none 0 0, .slice none 0 0, .slice none 0 0]))
                exact bodyPost_ret (v := .tuple #[.agg #[.int .i64 0, .int .i64 0, .int .i64 0, .int .i64 0, .int .i64 0, .int .i64 0, .int .i64 0, .int .i64 0, .slice none 0 0, .slice none 0 0, .slice none 0 0, .slice none 0 0, .slice none 0 0], .int .i64 12]) (results_row_tmp (p := 2) (u := 3) (ty := 91) rfl _ _ w.heap.size 91 _ _ _ rfl HX9.out hu91 rfl size91) rfl ⟨HB9.out, rfl⟩
              | true =>
                as_aux_lemma =>
                  obtain ⟨hmo, hoo⟩ := HOK.out (by first | rfl | trivial)
                  rw [List.drop_eq_nil_of_le (by show p.size ≤ i; omega), decGo] at hoo
                  simp only [Option.bind_some] at hoo
                  have HMO := Aside0.mk hmo
                  obtain ⟨a, d, q0, q1, q2, q3, q4, hMsg⟩ := hmo.opened
                  have HE := Aside0.mk (And.intro q0 (And.intro q1 (And.intro q2 (And.intro q3 q4))))
                  have HMX := Aside0.mk (show wr.heap[g7]? = some (.cells #[.int .i64 m1.kind, .int .i64 m1.view, .int .i64 m1.seq, .int .i64 m1.client, .int .i64 m1.stamp, .int .i64 m1.entry.f0, .int .i64 m1.entry.f1, .int .i64 m1.entry.f2, .slice (a 0) m1.entry.f3.length (d 0), .slice (a 1) m1.digest.length (d 1), .slice (a 2) m1.data.length (d 2), .slice (a 3) m1.proof.length (d 3), .slice (a 4) m1.proven.length (d 4)] 91) by rw [← q0, ← q1, ← q2, ← q3, ← q4]; exact HM.out)
                  have HMsg := Aside0.mk hMsg
                  clear q0 q1 q2 q3 q4 hMsg hmo HOK HNO
                  have x0 : wr.cell? ⟨g7, 0, none⟩ = some (.int .i64 m1.kind) := (blk_cell HMX.out 0).trans rfl
                  have x1 : wr.cell? ⟨g7, 1, none⟩ = some (.int .i64 m1.view) := (blk_cell HMX.out 1).trans rfl
                  have x2 : wr.cell? ⟨g7, 2, none⟩ = some (.int .i64 m1.seq) := (blk_cell HMX.out 2).trans rfl
                  have x3 : wr.cell? ⟨g7, 3, none⟩ = some (.int .i64 m1.client) := (blk_cell HMX.out 3).trans rfl
                  have x4 : wr.cell? ⟨g7, 4, none⟩ = some (.int .i64 m1.stamp) := (blk_cell HMX.out 4).trans rfl
                  have x5 : wr.cell? ⟨g7, 5, none⟩ = some (.int .i64 m1.entry.f0) := (blk_cell HMX.out 5).trans rfl
                  have x6 : wr.cell? ⟨g7, 6, none⟩ = some (.int .i64 m1.entry.f1) := (blk_cell HMX.out 6).trans rfl
                  have x7 : wr.cell? ⟨g7, 7, none⟩ = some (.int .i64 m1.entry.f2) := (blk_cell HMX.out 7).trans rfl
                  have x8 : wr.cell? ⟨g7, 8, none⟩ = some (.slice (a 0) m1.entry.f3.length (d 0)) := (blk_cell HMX.out 8).trans rfl
                  have x9 : wr.cell? ⟨g7, 9, none⟩ = some (.slice (a 1) m1.digest.length (d 1)) := (blk_cell HMX.out 9).trans rfl
                  have x10 : wr.cell? ⟨g7, 10, none⟩ = some (.slice (a 2) m1.data.length (d 2)) := (blk_cell HMX.out 10).trans rfl
                  have x11 : wr.cell? ⟨g7, 11, none⟩ = some (.slice (a 3) m1.proof.length (d 3)) := (blk_cell HMX.out 11).trans rfl
                  have x12 : wr.cell? ⟨g7, 12, none⟩ = some (.slice (a 4) m1.proven.length (d 4)) := (blk_cell HMX.out 12).trans rfl
                  go_wp2_with (fail)
                  have hE := right100_calls m1 a d p (by rw [HKD.out]; exact HP.out) (by omega) wr HMsg.out
                  with_reducible refine hE.mono ?_
                  clear hE
                  rintro e w6 ⟨rfl, hB⟩
                  have HG := Aside0.mk (HG.out.andThen hB)
                  have HMX6 := Aside0.mk ((hB.block _ (blk_lt2 HMX.out)).trans HMX.out)
                  have HMO6 := Aside0.mk (HMO.out.below hB)
                  clear hB x0 x1 x2 x3 x4 x5 x6 x7 x8 x9 x10 x11 x12
                  obtain ⟨q, hq⟩ : ∃ q, rightB m1 p = q := ⟨_, rfl⟩
                  rw [hq] at hoo ⊢
                  clear hq
                  cases q with
                  | false =>
                    have : o = none := hoo.symm
                    subst this
                    have HNx := Aside0.mk ((HG.out.keep.block _ (blk_lt2 HN0.out)).trans HN0.out)
                    have HRx := Aside0.mk ((HG.out.keep.block _ (blk_lt2 HR0.out)).trans HR0.out)
                    have HBx := Aside0.mk (below_then HB0.out HB0.out.size HG.out.keep)
                    have n0 : w6.cell? ⟨w.heap.size + 1, 0, none⟩ = some (.int .i64 0) := (blk_cell HNx.out 0).trans rfl
                    have n1 : w6.cell? ⟨w.heap.size + 1, 1, none⟩ = some (.int .i64 0) := (blk_cell HNx.out 1).trans rfl
                    have n2 : w6.cell? ⟨w.heap.size + 1, 2, none⟩ = some (.int .i64 0) := (blk_cell HNx.out 2).trans rfl
                    have n3 : w6.cell? ⟨w.heap.size + 1, 3, none⟩ = some (.int .i64 0) := (blk_cell HNx.out 3).trans rfl
                    have n4 : w6.cell? ⟨w.heap.size + 1, 4, none⟩ = some (.int .i64 0) := (blk_cell HNx.out 4).trans rfl
                    have n5 : w6.cell? ⟨w.heap.size + 1, 5, none⟩ = some (.int .i64 0) := (blk_cell HNx.out 5).trans rfl
                    have n6 : w6.cell? ⟨w.heap.size + 1, 6, none⟩ = some (.int .i64 0) := (blk_cell HNx.out 6).trans rfl
                    have n7 : w6.cell? ⟨w.heap.size + 1, 7, none⟩ = some (.int .i64 0) := (blk_cell HNx.out 7).trans rfl
                    have n8 : w6.cell? ⟨w.heap.size + 1, 8, none⟩ = some (.slice none 0 0) := (blk_cell HNx.out 8).trans rfl
                    have n9 : w6.cell? ⟨w.heap.size + 1, 9, none⟩ = some (.slice none 0 0) := (blk_cell HNx.out 9).trans rfl
                    have n10 : w6.cell? ⟨w.heap.size + 1, 10, none⟩ = some (.slice none 0 0) := (blk_cell HNx.out 10).trans rfl
                    have n11 : w6.cell? ⟨w.heap.size + 1, 11, none⟩ = some (.slice none 0 0) := (blk_cell HNx.out 11).trans rfl
                    have n12 : w6.cell? ⟨w.heap.size + 1, 12, none⟩ = some (.slice none 0 0) := (blk_cell HNx.out 12).trans rfl
                    go_wp2_with (refine wpList_store_row rfl 91 (.tmp 2) (.tmp 216) rfl w.heap.size #[.int .i64 0, .int .i64 0, .int .i64 0, .int .i64 0, .int .i64 0, .int .i64 0, .int .i64 0, .int .i64 0, .slice none 0 0, .slice none 0 0, .slice none 0 0, .slice none 0 0, .slice none 0 0] rfl rfl 91 _ HRx.out size91 rfl (by simp [Value.oneCell']) ?_; have HX9 := Aside0.mk (setRow_heap _ _ _ #[.int .i64 0, .int .i64 0, .int .i64 0, .int .i64 0, .int .i64 0, .int .i64 0, .int .i64 0, .int .i64 0, .slice none 0 0, .slice none 0 0, .slice none 0 0, .slice none 0 0, .slice none 0 0] _ _ HRx.out); have HB9 := Aside0.mk (below_setRow HBx.out (Nat.le_refl _) #[.int .i64 0, .int .i64 0, .int .i64 0, .int .i64 0, .int .i64 0, .int .i64 0, .int .i64 0, .int .i64 0, .slice none 0 0, .slice none 0 0, .slice none 0 0, .slice none 0 0, .slice none 0 0]))
                    exact bodyPost_ret (v := .tuple #[.agg #[.int .i64 0, .int .i64 0, .int .i64 0, .int .i64 0, .int .i64 0, .int .i64 0, .int .i64 0, .int .i64 0, .slice none 0 0, .slice none 0 0, .slice none 0 0, .slice none 0 0, .slice none 0 0], .int .i64 12]) (results_row_tmp (p := 2) (u := 3) (ty := 91) rfl _ _ w.heap.size 91 _ _ _ rfl HX9.out hu91 rfl size91) rfl ⟨HB9.out, rfl⟩
                  | true =>
                    have : o = some m1 := hoo.symm
                    subst this
                    have HRx := Aside0.mk ((HG.out.keep.block _ (blk_lt2 HR0.out)).trans HR0.out)
                    have HBx := Aside0.mk (below_then HB0.out HB0.out.size HG.out.keep)
                    have x0 : w6.cell? ⟨g7, 0, none⟩ = some (.int .i64 m1.kind) := (blk_cell HMX6.out 0).trans rfl
                    have x1 : w6.cell? ⟨g7, 1, none⟩ = some (.int .i64 m1.view) := (blk_cell HMX6.out 1).trans rfl
                    have x2 : w6.cell? ⟨g7, 2, none⟩ = some (.int .i64 m1.seq) := (blk_cell HMX6.out 2).trans rfl
                    have x3 : w6.cell? ⟨g7, 3, none⟩ = some (.int .i64 m1.client) := (blk_cell HMX6.out 3).trans rfl
                    have x4 : w6.cell? ⟨g7, 4, none⟩ = some (.int .i64 m1.stamp) := (blk_cell HMX6.out 4).trans rfl
                    have x5 : w6.cell? ⟨g7, 5, none⟩ = some (.int .i64 m1.entry.f0) := (blk_cell HMX6.out 5).trans rfl
                    have x6 : w6.cell? ⟨g7, 6, none⟩ = some (.int .i64 m1.entry.f1) := (blk_cell HMX6.out 6).trans rfl
                    have x7 : w6.cell? ⟨g7, 7, none⟩ = some (.int .i64 m1.entry.f2) := (blk_cell HMX6.out 7).trans rfl
                    have x8 : w6.cell? ⟨g7, 8, none⟩ = some (.slice (a 0) m1.entry.f3.length (d 0)) := (blk_cell HMX6.out 8).trans rfl
                    have x9 : w6.cell? ⟨g7, 9, none⟩ = some (.slice (a 1) m1.digest.length (d 1)) := (blk_cell HMX6.out 9).trans rfl
                    have x10 : w6.cell? ⟨g7, 10, none⟩ = some (.slice (a 2) m1.data.length (d 2)) := (blk_cell HMX6.out 10).trans rfl
                    have x11 : w6.cell? ⟨g7, 11, none⟩ = some (.slice (a 3) m1.proof.length (d 3)) := (blk_cell HMX6.out 11).trans rfl
                    have x12 : w6.cell? ⟨g7, 12, none⟩ = some (.slice (a 4) m1.proven.length (d 4)) := (blk_cell HMX6.out 12).trans rfl
                    go_wp2_with (refine wpList_store_row rfl 91 (.tmp 2) (.tmp 217) rfl w.heap.size #[.int .i64 m1.kind, .int .i64 m1.view, .int .i64 m1.seq, .int .i64 m1.client, .int .i64 m1.stamp, .int .i64 m1.entry.f0, .int .i64 m1.entry.f1, .int .i64 m1.entry.f2, .slice (a 0) m1.entry.f3.length (d 0), .slice (a 1) m1.digest.length (d 1), .slice (a 2) m1.data.length (d 2), .slice (a 3) m1.proof.length (d 3), .slice (a 4) m1.proven.length (d 4)] rfl rfl 91 _ HRx.out size91 rfl (by simp [Value.oneCell']) ?_; have HX9 := Aside0.mk (setRow_heap _ _ _ #[.int .i64 m1.kind, .int .i64 m1.view, .int .i64 m1.seq, .int .i64 m1.client, .int .i64 m1.stamp, .int .i64 m1.entry.f0, .int .i64 m1.entry.f1, .int .i64 m1.entry.f2, .slice (a 0) m1.entry.f3.length (d 0), .slice (a 1) m1.digest.length (d 1), .slice (a 2) m1.data.length (d 2), .slice (a 3) m1.proof.length (d 3), .slice (a 4) m1.proven.length (d 4)] _ _ HRx.out); have HB9 := Aside0.mk (below_setRow HBx.out (Nat.le_refl _) #[.int .i64 m1.kind, .int .i64 m1.view, .int .i64 m1.seq, .int .i64 m1.client, .int .i64 m1.stamp, .int .i64 m1.entry.f0, .int .i64 m1.entry.f1, .int .i64 m1.entry.f2, .slice (a 0) m1.entry.f3.length (d 0), .slice (a 1) m1.digest.length (d 1), .slice (a 2) m1.data.length (d 2), .slice (a 3) m1.proof.length (d 3), .slice (a 4) m1.proven.length (d 4)]); have HM9 := Aside0.mk (HMO6.out.row HRx.out #[.int .i64 m1.kind, .int .i64 m1.view, .int .i64 m1.seq, .int .i64 m1.client, .int .i64 m1.stamp, .int .i64 m1.entry.f0, .int .i64 m1.entry.f1, .int .i64 m1.entry.f2, .slice (a 0) m1.entry.f3.length (d 0), .slice (a 1) m1.digest.length (d 1), .slice (a 2) m1.data.length (d 2), .slice (a 3) m1.proof.length (d 3), .slice (a 4) m1.proven.length (d 4)]))
                    exact bodyPost_ret (v := .tuple #[.agg #[.int .i64 m1.kind, .int .i64 m1.view, .int .i64 m1.seq, .int .i64 m1.client, .int .i64 m1.stamp, .int .i64 m1.entry.f0, .int .i64 m1.entry.f1, .int .i64 m1.entry.f2, .slice (a 0) m1.entry.f3.length (d 0), .slice (a 1) m1.digest.length (d 1), .slice (a 2) m1.data.length (d 2), .slice (a 3) m1.proof.length (d 3), .slice (a 4) m1.proven.length (d 4)], .int .i64 0]) (results_row_tmp (p := 2) (u := 3) (ty := 91) rfl _ _ w.heap.size 91 _ _ _ rfl HX9.out hu91 rfl size91) rfl ⟨HB9.out, a, d, rfl, HM9.out.msg HE.out.1 HE.out.2.1 HE.out.2.2.1 HE.out.2.2.2.1 HE.out.2.2.2.2⟩
        · rw [if_neg hgood] at ho'
          have : o = none := ho'.symm
          subst this
          by_cases hlen : st.length = p.size
          · have hp0 : p = ⟨#[]⟩ := Classical.not_not.1 (fun h => hgood ⟨h, by rw [List.length_cons]; omega⟩)
            subst hp0
            have hst0 : st = [] := List.length_eq_zero_iff.1 hlen
            subst hst0
            clear hgood ho' hlen
            have HNx := Aside0.mk ((HG.out.keep.block _ (blk_lt2 HN0.out)).trans HN0.out)
            have HRx := Aside0.mk ((HG.out.keep.block _ (blk_lt2 HR0.out)).trans HR0.out)
            have HBx := Aside0.mk (below_then HB0.out HB0.out.size HG.out.keep)
            have n0 : w4.cell? ⟨w.heap.size + 1, 0, none⟩ = some (.int .i64 0) := (blk_cell HNx.out 0).trans rfl
            have n1 : w4.cell? ⟨w.heap.size + 1, 1, none⟩ = some (.int .i64 0) := (blk_cell HNx.out 1).trans rfl
            have n2 : w4.cell? ⟨w.heap.size + 1, 2, none⟩ = some (.int .i64 0) := (blk_cell HNx.out 2).trans rfl
            have n3 : w4.cell? ⟨w.heap.size + 1, 3, none⟩ = some (.int .i64 0) := (blk_cell HNx.out 3).trans rfl
            have n4 : w4.cell? ⟨w.heap.size + 1, 4, none⟩ = some (.int .i64 0) := (blk_cell HNx.out 4).trans rfl
            have n5 : w4.cell? ⟨w.heap.size + 1, 5, none⟩ = some (.int .i64 0) := (blk_cell HNx.out 5).trans rfl
            have n6 : w4.cell? ⟨w.heap.size + 1, 6, none⟩ = some (.int .i64 0) := (blk_cell HNx.out 6).trans rfl
            have n7 : w4.cell? ⟨w.heap.size + 1, 7, none⟩ = some (.int .i64 0) := (blk_cell HNx.out 7).trans rfl
            have n8 : w4.cell? ⟨w.heap.size + 1, 8, none⟩ = some (.slice none 0 0) := (blk_cell HNx.out 8).trans rfl
            have n9 : w4.cell? ⟨w.heap.size + 1, 9, none⟩ = some (.slice none 0 0) := (blk_cell HNx.out 9).trans rfl
            have n10 : w4.cell? ⟨w.heap.size + 1, 10, none⟩ = some (.slice none 0 0) := (blk_cell HNx.out 10).trans rfl
            have n11 : w4.cell? ⟨w.heap.size + 1, 11, none⟩ = some (.slice none 0 0) := (blk_cell HNx.out 11).trans rfl
            have n12 : w4.cell? ⟨w.heap.size + 1, 12, none⟩ = some (.slice none 0 0) := (blk_cell HNx.out 12).trans rfl
            go_wp2_with (refine wpList_store_row rfl 91 (.tmp 2) (.tmp 61) rfl w.heap.size #[.int .i64 0, .int .i64 0, .int .i64 0, .int .i64 0, .int .i64 0, .int .i64 0, .int .i64 0, .int .i64 0, .slice none 0 0, .slice none 0 0, .slice none 0 0, .slice none 0 0, .slice none 0 0] rfl rfl 91 _ HRx.out size91 rfl (by simp [Value.oneCell']) ?_; have HX9 := Aside0.mk (setRow_heap _ _ _ #[.int .i64 0, .int .i64 0, .int .i64 0, .int .i64 0, .int .i64 0, .int .i64 0, .int .i64 0, .int .i64 0, .slice none 0 0, .slice none 0 0, .slice none 0 0, .slice none 0 0, .slice none 0 0] _ _ HRx.out); have HB9 := Aside0.mk (below_setRow HBx.out (Nat.le_refl _) #[.int .i64 0, .int .i64 0, .int .i64 0, .int .i64 0, .int .i64 0, .int .i64 0, .int .i64 0, .int .i64 0, .slice none 0 0, .slice none 0 0, .slice none 0 0, .slice none 0 0, .slice none 0 0]))
            exact bodyPost_ret (v := .tuple #[.agg #[.int .i64 0, .int .i64 0, .int .i64 0, .int .i64 0, .int .i64 0, .int .i64 0, .int .i64 0, .int .i64 0, .slice none 0 0, .slice none 0 0, .slice none 0 0, .slice none 0 0, .slice none 0 0], .int .i64 12]) (results_row_tmp (p := 2) (u := 3) (ty := 91) rfl _ _ w.heap.size 91 _ _ _ rfl HX9.out hu91 rfl size91) rfl ⟨HB9.out, rfl⟩
          · have e1 : ((st.length : Int) + 1 == 1 + (p.size : Int)) = false := beq_eq_false_iff_ne.mpr (by omega)
            have e2 : ((st.length : Int) + 1 != 1 + (p.size : Int)) = true := bne_iff_ne.mpr (by omega)
            clear hgood ho' hlen
            have HNx := Aside0.mk ((HG.out.keep.block _ (blk_lt2 HN0.out)).trans HN0.out)
            have HRx := Aside0.mk ((HG.out.keep.block _ (blk_lt2 HR0.out)).trans HR0.out)
            have HBx := Aside0.mk (below_then HB0.out HB0.out.size HG.out.keep)
            have n0 : w4.cell? ⟨w.heap.size + 1, 0, none⟩ = some (.int .i64 0) := (blk_cell HNx.out 0).trans rfl
            have n1 : w4.cell? ⟨w.heap.size + 1, 1, none⟩ = some (.int .i64 0) := (blk_cell HNx.out 1).trans rfl
            have n2 : w4.cell? ⟨w.heap.size + 1, 2, none⟩ = some (.int .i64 0) := (blk_cell HNx.out 2).trans rfl
            have n3 : w4.cell? ⟨w.heap.size + 1, 3, none⟩ = some (.int .i64 0) := (blk_cell HNx.out 3).trans rfl
            have n4 : w4.cell? ⟨w.heap.size + 1, 4, none⟩ = some (.int .i64 0) := (blk_cell HNx.out 4).trans rfl
            have n5 : w4.cell? ⟨w.heap.size + 1, 5, none⟩ = some (.int .i64 0) := (blk_cell HNx.out 5).trans rfl
            have n6 : w4.cell? ⟨w.heap.size + 1, 6, none⟩ = some (.int .i64 0) := (blk_cell HNx.out 6).trans rfl
            have n7 : w4.cell? ⟨w.heap.size + 1, 7, none⟩ = some (.int .i64 0) := (blk_cell HNx.out 7).trans rfl
            have n8 : w4.cell? ⟨w.heap.size + 1, 8, none⟩ = some (.slice none 0 0) := (blk_cell HNx.out 8).trans rfl
            have n9 : w4.cell? ⟨w.heap.size + 1, 9, none⟩ = some (.slice none 0 0) := (blk_cell HNx.out 9).trans rfl
            have n10 : w4.cell? ⟨w.heap.size + 1, 10, none⟩ = some (.slice none 0 0) := (blk_cell HNx.out 10).trans rfl
            have n11 : w4.cell? ⟨w.heap.size + 1, 11, none⟩ = some (.slice none 0 0) := (blk_cell HNx.out 11).trans rfl
            have n12 : w4.cell? ⟨w.heap.size + 1, 12, none⟩ = some (.slice none 0 0) := (blk_cell HNx.out 12).trans rfl
            go_wp2_with (refine wpList_store_row rfl 91 (.tmp 2) (.tmp 61) rfl w.heap.size #[.int .i64 0, .int .i64 0, .int .i64 0, .int .i64 0, .int .i64 0, .int .i64 0, .int .i64 0, .int .i64 0, .slice none 0 0, .slice none 0 0, .slice none 0 0, .slice none 0 0, .slice none 0 0] rfl rfl 91 _ HRx.out size91 rfl (by simp [Value.oneCell']) ?_; have HX9 := Aside0.mk (setRow_heap _ _ _ #[.int .i64 0, .int .i64 0, .int .i64 0, .int .i64 0, .int .i64 0, .int .i64 0, .int .i64 0, .int .i64 0, .slice none 0 0, .slice none 0 0, .slice none 0 0, .slice none 0 0, .slice none 0 0] _ _ HRx.out); have HB9 := Aside0.mk (below_setRow HBx.out (Nat.le_refl _) #[.int .i64 0, .int .i64 0, .int .i64 0, .int .i64 0, .int .i64 0, .int .i64 0, .int .i64 0, .int .i64 0, .slice none 0 0, .slice none 0 0, .slice none 0 0, .slice none 0 0, .slice none 0 0]))
            exact bodyPost_ret (v := .tuple #[.agg #[.int .i64 0, .int .i64 0, .int .i64 0, .int .i64 0, .int .i64 0, .int .i64 0, .int .i64 0, .int .i64 0, .slice none 0 0, .slice none 0 0, .slice none 0 0, .slice none 0 0, .slice none 0 0], .int .i64 12]) (results_row_tmp (p := 2) (u := 3) (ty := 91) rfl _ _ w.heap.size 91 _ _ _ rfl HX9.out hu91 rfl size91) rfl ⟨HB9.out, rfl⟩
end Go.Proofs.Ytijccobeljoikaa.Ms
