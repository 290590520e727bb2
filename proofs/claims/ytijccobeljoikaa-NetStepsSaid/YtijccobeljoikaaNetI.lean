/- net.Net: Take of a mail that is there. -/
import Derived.Test.YtijccobeljoikaaNetH
namespace Go.Proofs.Ytijccobeljoikaa.Nt
open Go.RowKit Go.Proofs.YtijccobeljoikaaW.PrintWords Go.Proofs.YtijccobeljoikaaW.PrintLast Go.Proofs.YtijccobeljoikaaW.PrintMore
open Go.Proofs.Ytijccobeljoikaa.Walks
set_option linter.unusedVariables false
set_option linter.unusedSimpArgs false

/-- While the taken mail is laid into the result's box. -/
structure TFin (b : Nat) (w0 w W : World) (g gr : Nat) (room : Int) (v' : Value) (ms' : List S74) (v5 v6 : Value) (xs : List Int) (tags : List (List Int)) (S : Nat → Prop) : Prop where
  r5 : Kd.R (Kd.int .u8) 5 W b (fun k => True ∧ k ≠ gr) v5 xs
  r6 : Kd.R (Kd.slice 5 (Kd.int .u8)) 22 W b (fun k => True ∧ k ≠ gr) v6 tags
  blk : W.heap[g]? = some (.cells #[.int .i64 room, v'] 121 (0, 0))
  row : Kd.R k74 74 W b (fun k => k < w.heap.size) v' ms'
  box : ∃ cells, W.heap[w.heap.size]? = some (.cells cells 74 (0, 0))
  kept : Kept w W S
  below : Below b w0 W
  base : b ≤ w.heap.size
theorem TFin.set {b : Nat} {w0 w W : World} {g gr : Nat} {room : Int} {v' : Value} {ms' : List S74} {v5 v6 : Value} {xs : List Int} {tags : List (List Int)} {S : Nat → Prop} (h : TFin b w0 w W g gr room v' ms' v5 v6 xs tags S) (j : Nat) (u : Value) :
    TFin b w0 w (W.setCell ⟨w.heap.size, j, none⟩ u) g gr room v' ms' v5 v6 xs tags S := by
  obtain ⟨cells, hb⟩ := h.box
  exact ⟨Kd.R_set h.r5 hb (by decide) j u, Kd.R_set h.r6 hb (by decide) j u, blk_far h.blk (blk_ne h.blk hb (by decide)) _, Kd.R_far h.row (fun k hk => Nat.ne_of_lt hk) u, ⟨_, blk_set hb j u⟩, Kept.setCell h.kept (.inr (Nat.le_refl _)) _, h.below.setCell h.base _, h.base⟩
theorem TFin.start {b : Nat} {w0 w W2 w3 : World} {g gr : Nat} {room : Int} {u v' : Value} {ms' : List S74} {v5 v6 : Value} {xs : List Int} {tags : List (List Int)} {cells : Array Value} (hgr : gr < w.heap.size) (hb : b ≤ w.heap.size) (hge : b ≤ g)
    (h5 : Kd.R (Kd.int .u8) 5 w b (fun k => True ∧ k ≠ gr) v5 xs) (h6 : Kd.R (Kd.slice 5 (Kd.int .u8)) 22 w b (fun k => True ∧ k ≠ gr) v6 tags) (hB2 : Below w.heap.size w W2) (hblk : W2.heap[g]? = some (.cells #[.int .i64 room, u] 121 (0, 0))) (hne : g ≠ gr)
    (hbox : W2.heap[w.heap.size]? = some (.cells cells 74 (0, 0))) (hR : Kd.R k74 74 w3 b (fun k => k < w.heap.size) v' ms') (hB3 : Below b w0 w3) (hG : W2.grownBy w3 (some gr)) {v : Value} (hv : v.ownBlock = some gr) :
    TFin b w0 w (w3.setCell ⟨g, 1, none⟩ v') g gr room v' ms' v5 v6 xs tags (NetS g v) := by
  have n1 : some g ≠ some gr := fun h => hne (by injection h)
  have n2 : some w.heap.size ≠ some gr := fun h => by injection h with h; omega
  have hb3 := blk_grown hblk hG n1
  have hx3 := blk_grown hbox hG n2
  refine ⟨Kd.R_set (Kd.R_grown (Kd.R_below h5 hB2) hG (fun k hk he => hk.2 (by injection he))) hb3 (by decide) 1 v', Kd.R_set (Kd.R_grown (Kd.R_below h6 hB2) hG (fun k hk he => hk.2 (by injection he))) hb3 (by decide) 1 v', blk_put hb3 1 v' rfl, Kd.R_set hR hb3 (by decide) 1 v', ⟨_, blk_far hx3 (fun he => blk_ne hb3 hx3 (by decide) he.symm) _⟩, ?_, hB3.setCell hge _, hb⟩
  refine Kept.setCell (Kept.of_grown hG (Kept.of_below hB2 _) (fun k hk => .inl (.inr (by rw [hv, hk])))) (.inl (.inl rfl)) _

set_option maxHeartbeats 4000000 in
set_option maxRecDepth 100000 in
theorem take_ok (b : Nat) (w0 w : World) (g : Nat) (room : Int) (v : Value) (ms : List S74) (i : Nat) (hI : NetIs b w g room v ms) (hb : b ≤ w.heap.size) (hB : Below b w0 w) (hk : i < ms.length) :
    Calls Try.prog 56 #[.pointer (some ⟨g, 0, none⟩), .int .i64 (i : Int)] w fun e w' => ∃ v5 v6 v', e = .returned (.tuple #[.agg (mailV ms[i] v5 v6), .bool true]) ∧ k74.M w' b (fun k => some k ≠ v.ownBlock ∧ k ≠ g) ms[i] (mailV ms[i] v5 v6).toList ∧ NetIs b w' g room v' (ms.eraseIdx i) ∧ v'.ownBlock = v.ownBlock ∧ Kept w w' (NetS g v) ∧ Below b w0 w' := by
  obtain ⟨gr, c, rfl, hgb, hgl, cells, hgc⟩ := Kd.R_form hI.row (by omega)
  have hgw : g < w.heap.size := blk_lt hI.blk
  have hrw : Kd.R k74 74 w b (fun k => k < w.heap.size) (.slice (some ⟨gr, 0, none⟩) ms.length c) ms := Kd.R_mono (Kd.R_bound hI.row) (fun k hk => hk.2.2.1)
  have hne : g ≠ gr := blk_ne hI.blk hgc (by decide)
  have hge := hI.ge
  have hfits := hI.fits
  have hmany := hI.many
  obtain ⟨c7, hcl, hM, hcell, hfr⟩ := Kd.R_elem hI.row z74 (i : Int) (by omega) (by omega)
  obtain ⟨m, hm⟩ : ∃ m, m = ms[i] := ⟨_, rfl⟩
  have hgd : ms.getD (i : Int).toNat z74 = m := by rw [hm]; simp [List.getD_eq_getElem?_getD, hk]
  rw [hgd] at hM
  rw [← hm]
  obtain ⟨v5, v6, rfl, h5, h6⟩ := k74_openM hM
  obtain ⟨A5, c5, e5⟩ := Kd.R_slice h5
  subst e5
  obtain ⟨A6, c6, e6⟩ := Kd.R_slice h6
  subst e6
  rw [Int.toNat_natCast] at hcell
  have o1 : ∀ (o : Obj) (k : Nat), (w.alloc o).heap[gr]? = w.heap[gr]? := fun o _ => Below.heap_alloc w o gr hgl
  obtain ⟨W1, hW1⟩ : ∃ W1, W1 = w.alloc (Obj.cells #[.int .i64 0, .int .i64 0, .int .i64 0, .int .i64 0, .int .i64 0, .slice none 0 0, .slice none 0 0] 74) := ⟨_, rfl⟩
  have hB1 : Below w.heap.size w W1 := by rw [hW1]; exact below_alloc (Below.refl _ _) _
  have s1 : W1.heap.size = w.heap.size + 1 := by rw [hW1]; exact Array.size_push ..
  have cellW : ∀ j u, [Value.int .i64 m.f0.f0, .int .i64 m.f0.f1, .int .i64 m.f1.f0.f0, .int .i64 m.f1.f0.f1, .int .i64 m.f1.f1, .slice A5 m.f1.f2.length c5, .slice A6 m.f1.f3.length c6][j]? = some u → W1.cell? ⟨gr, i * 7 + j, none⟩ = some u := fun j u hu => by
    have h7 : w.cell? ⟨gr, i * 7 + j, none⟩ = some u := hcell j u hu
    exact (hB1.cell (World.block_lt_of_cell? w _ h7)).trans h7
  have x0 : W1.cell? ⟨gr, i * 7, none⟩ = some (.int .i64 m.f0.f0) := cellW 0 _ rfl
  have x1 := cellW 1 _ rfl
  have x2 := cellW 2 _ rfl
  have x3 := cellW 3 _ rfl
  have x4 := cellW 4 _ rfl
  have x5 := cellW 5 _ rfl
  have x6 := cellW 6 _ rfl
  have HI := Aside0.mk (hI.below hB1)
  have gk : W1.cell? ⟨g, 1, none⟩ = some (.slice (some ⟨gr, 0, none⟩) ms.length c) := by rw [blk_cell HI.out.blk]; rfl
  have hd : decide ((0 : Int) ≤ (i : Int) ∧ (i : Int) < (ms.length : Int)) = true := decide_eq_true ⟨by omega, by omega⟩
  have b1 : (0 ≤ (i : Int)) = True := eq_true (by omega)
  have b2 : ((i : Int) < (ms.length : Int)) = True := eq_true (by omega)
  have hu74 := Try.underlying74
  have hu121 := Try.underlying121
  have H5 := Aside0.mk h5
  have H6 := Aside0.mk h6
  have HW1 := Aside0.mk hW1
  have HB := Aside0.mk hB
  have HB1 := Aside0.mk hB1
  have Hm := Aside0.mk hm
  have Hs1 := Aside0.mk s1
  clear hW1 hB1 hcell hM h5 h6 hB hI cellW o1 hgd hm hfr hcl s1
  go_enter Try.func56, Try.ntmps56
  go_upto_region 1 with (fail)
  rw [← HW1.out]
  go_upto_region 4 with (go_at_call 87; refine (there_calls b _ g room (.slice (some ⟨gr, 0, none⟩) ms.length c) ms HI.out (i : Int)).mono ?_; rintro e w1 ⟨rfl, hw⟩; rw [hd, hw]; clear hw)
  obtain ⟨W2, hW2⟩ : ∃ W2, W2 = W1.alloc (Obj.cells #[.int .i64 m.f0.f0, .int .i64 m.f0.f1, .int .i64 m.f1.f0.f0, .int .i64 m.f1.f0.f1, .int .i64 m.f1.f1, .slice A5 m.f1.f2.length c5, .slice A6 m.f1.f3.length c6] 74) := ⟨_, rfl⟩
  rw [← hW2]
  have HI2 := Aside0.mk (show NetIs b W2 g room (.slice (some ⟨gr, 0, none⟩) ms.length c) ms by rw [hW2]; exact HI.out.below (below_alloc (Below.refl _ _) _))
  have gk2 : W2.cell? ⟨g, 1, none⟩ = some (.slice (some ⟨gr, 0, none⟩) ms.length c) := by rw [blk_cell HI2.out.blk]; rfl
  have HBX := Aside0.mk (show W2.heap[W1.heap.size]? = some (.cells #[.int .i64 m.f0.f0, .int .i64 m.f0.f1, .int .i64 m.f1.f0.f0, .int .i64 m.f1.f0.f1, .int .i64 m.f1.f1, .slice A5 m.f1.f2.length c5, .slice A6 m.f1.f3.length c6] 74 (0, 0)) by rw [hW2]; exact blk_new _ _)
  have HBR := Aside0.mk (show W2.heap[w.heap.size]? = some (.cells #[.int .i64 0, .int .i64 0, .int .i64 0, .int .i64 0, .int .i64 0, .slice none 0 0, .slice none 0 0] 74 (0, 0)) by rw [hW2, HW1.out]; exact blk_alloc (blk_new _ _) _)
  have HB2 := Aside0.mk (show Below w.heap.size w W2 by rw [hW2]; exact below_alloc HB1.out _)
  have hbs : b ≤ W2.heap.size := Nat.le_trans hb HB2.out.size
  have HBB := Aside0.mk (show Below b w0 W2 by rw [hW2, HW1.out]; exact (HB.out.alloc hb _).alloc (Nat.le_trans hb (below_alloc (Below.refl w.heap.size w) _).size) _)
  clear hW2 x0 x1 x2 x3 x4 x5 x6 gk
  have hw64 : wrap64 ((i : Int) + 1) = (i : Int) + 1 := by unfold wrap64; omega
  have Hrw := Aside0.mk (Kd.R_below hrw HB2.out)
  have HNE := Aside0.mk hne
  have ng : ∀ q, w.heap.size ≤ q → q ≠ g := fun q hq => by omega
  have nr : ∀ q, w.heap.size ≤ q → some q ≠ some gr := fun q hq he => by injection he with he; omega
  have NG := Aside0.mk ng
  have NR := Aside0.mk nr
  have HFits := Aside0.mk hfits
  clear hrw hne ng nr hfits
  go_wp2_with (go_at_call 88; refine (delete_calls b w0 _ gr ms.length i c (fun k => k < w.heap.size) ms Hrw.out hk hbs HBB.out hmany).mono ?_; rintro e w3 ⟨rfl, hR3, hB3, hG3⟩; have hg3 := blk_grown HI2.out.blk hG3 (fun he => HNE.out (by injection he)); have q1 : w3.cell? ⟨g, 1, none⟩ = some (.slice (some ⟨gr, 0, none⟩) ms.length c) := (by rw [blk_cell hg3]; rfl); have q2 : w3.frozen? ⟨g, 1, none⟩ = false := blk_frozen hg3 1; have hx4 := blk_far (p := ⟨g, 1, none⟩) (blk_grown HBX.out hG3 (NR.out _ (by have := Hs1.out; omega))) (NG.out _ (by have := Hs1.out; omega)) (.slice (some ⟨gr, 0, none⟩) (ms.length - 1) c); have hr4 := blk_far (p := ⟨g, 1, none⟩) (blk_grown HBR.out hG3 (NR.out _ (Nat.le_refl _))) (NG.out _ (Nat.le_refl _)) (.slice (some ⟨gr, 0, none⟩) (ms.length - 1) c); have y0 : (w3.setCell ⟨g, 1, none⟩ (.slice (some ⟨gr, 0, none⟩) (ms.length - 1) c)).cell? ⟨W1.heap.size, 0, none⟩ = some (.int .i64 m.f0.f0) := (by rw [blk_cell hx4]; rfl); have y1 : (w3.setCell ⟨g, 1, none⟩ (.slice (some ⟨gr, 0, none⟩) (ms.length - 1) c)).cell? ⟨W1.heap.size, 1, none⟩ = some (.int .i64 m.f0.f1) := (by rw [blk_cell hx4]; rfl); have y2 : (w3.setCell ⟨g, 1, none⟩ (.slice (some ⟨gr, 0, none⟩) (ms.length - 1) c)).cell? ⟨W1.heap.size, 2, none⟩ = some (.int .i64 m.f1.f0.f0) := (by rw [blk_cell hx4]; rfl); have y3 : (w3.setCell ⟨g, 1, none⟩ (.slice (some ⟨gr, 0, none⟩) (ms.length - 1) c)).cell? ⟨W1.heap.size, 3, none⟩ = some (.int .i64 m.f1.f0.f1) := (by rw [blk_cell hx4]; rfl); have y4 : (w3.setCell ⟨g, 1, none⟩ (.slice (some ⟨gr, 0, none⟩) (ms.length - 1) c)).cell? ⟨W1.heap.size, 4, none⟩ = some (.int .i64 m.f1.f1) := (by rw [blk_cell hx4]; rfl); have y5 : (w3.setCell ⟨g, 1, none⟩ (.slice (some ⟨gr, 0, none⟩) (ms.length - 1) c)).cell? ⟨W1.heap.size, 5, none⟩ = some (.slice A5 m.f1.f2.length c5) := (by rw [blk_cell hx4]; rfl); have y6 : (w3.setCell ⟨g, 1, none⟩ (.slice (some ⟨gr, 0, none⟩) (ms.length - 1) c)).cell? ⟨W1.heap.size, 6, none⟩ = some (.slice A6 m.f1.f3.length c6) := (by rw [blk_cell hx4]; rfl); have k0 : (w3.setCell ⟨g, 1, none⟩ (.slice (some ⟨gr, 0, none⟩) (ms.length - 1) c)).cell? ⟨w.heap.size, 0, none⟩ = some (.int .i64 0) := (by rw [blk_cell hr4]; rfl); have n0 : (w3.setCell ⟨g, 1, none⟩ (.slice (some ⟨gr, 0, none⟩) (ms.length - 1) c)).frozen? ⟨w.heap.size, 0, none⟩ = false := blk_frozen hr4 0; have k1 : (w3.setCell ⟨g, 1, none⟩ (.slice (some ⟨gr, 0, none⟩) (ms.length - 1) c)).cell? ⟨w.heap.size, 1, none⟩ = some (.int .i64 0) := (by rw [blk_cell hr4]; rfl); have n1 : (w3.setCell ⟨g, 1, none⟩ (.slice (some ⟨gr, 0, none⟩) (ms.length - 1) c)).frozen? ⟨w.heap.size, 1, none⟩ = false := blk_frozen hr4 1; have k2 : (w3.setCell ⟨g, 1, none⟩ (.slice (some ⟨gr, 0, none⟩) (ms.length - 1) c)).cell? ⟨w.heap.size, 2, none⟩ = some (.int .i64 0) := (by rw [blk_cell hr4]; rfl); have n2 : (w3.setCell ⟨g, 1, none⟩ (.slice (some ⟨gr, 0, none⟩) (ms.length - 1) c)).frozen? ⟨w.heap.size, 2, none⟩ = false := blk_frozen hr4 2; have k3 : (w3.setCell ⟨g, 1, none⟩ (.slice (some ⟨gr, 0, none⟩) (ms.length - 1) c)).cell? ⟨w.heap.size, 3, none⟩ = some (.int .i64 0) := (by rw [blk_cell hr4]; rfl); have n3 : (w3.setCell ⟨g, 1, none⟩ (.slice (some ⟨gr, 0, none⟩) (ms.length - 1) c)).frozen? ⟨w.heap.size, 3, none⟩ = false := blk_frozen hr4 3; have k4 : (w3.setCell ⟨g, 1, none⟩ (.slice (some ⟨gr, 0, none⟩) (ms.length - 1) c)).cell? ⟨w.heap.size, 4, none⟩ = some (.int .i64 0) := (by rw [blk_cell hr4]; rfl); have n4 : (w3.setCell ⟨g, 1, none⟩ (.slice (some ⟨gr, 0, none⟩) (ms.length - 1) c)).frozen? ⟨w.heap.size, 4, none⟩ = false := blk_frozen hr4 4; have k5 : (w3.setCell ⟨g, 1, none⟩ (.slice (some ⟨gr, 0, none⟩) (ms.length - 1) c)).cell? ⟨w.heap.size, 5, none⟩ = some (.slice none 0 0) := (by rw [blk_cell hr4]; rfl); have n5 : (w3.setCell ⟨g, 1, none⟩ (.slice (some ⟨gr, 0, none⟩) (ms.length - 1) c)).frozen? ⟨w.heap.size, 5, none⟩ = false := blk_frozen hr4 5; have k6 : (w3.setCell ⟨g, 1, none⟩ (.slice (some ⟨gr, 0, none⟩) (ms.length - 1) c)).cell? ⟨w.heap.size, 6, none⟩ = some (.slice none 0 0) := (by rw [blk_cell hr4]; rfl); have n6 : (w3.setCell ⟨g, 1, none⟩ (.slice (some ⟨gr, 0, none⟩) (ms.length - 1) c)).frozen? ⟨w.heap.size, 6, none⟩ = false := blk_frozen hr4 6; have HT := Aside0.mk (TFin.start (v := .slice (some ⟨gr, 0, none⟩) ms.length c) hgl hb hge H5.out H6.out HB2.out HI2.out.blk HNE.out HBR.out hR3 hB3 hG3 rfl); have HR4 := Aside0.mk hr4; clear hR3 hB3 hG3 hg3 hx4 hr4)
  refine bodyPost_ret (results_ct rfl _ _ w.heap.size 74 #[.int .i64 m.f0.f0, .int .i64 m.f0.f1, .int .i64 m.f1.f0.f0, .int .i64 m.f1.f0.f1, .int .i64 m.f1.f1, .slice A5 m.f1.f2.length c5, .slice A6 m.f1.f3.length c6] (0, 0) _ rfl (box7 HR4.out _ _ _ _ _ _ _) Try.underlying74 rfl (by kernel_rfl)) rfl ?_
  have T := ((((((HT.out.set 0 (.int .i64 m.f0.f0)).set 1 (.int .i64 m.f0.f1)).set 2 (.int .i64 m.f1.f0.f0)).set 3 (.int .i64 m.f1.f0.f1)).set 4 (.int .i64 m.f1.f1)).set 5 (.slice A5 m.f1.f2.length c5)).set 6 (.slice A6 m.f1.f3.length c6)
  have hok : ∀ k, ((True ∧ k ≠ gr) ∧ k ≠ g) → (some k ≠ (Value.slice (some ⟨gr, 0, none⟩) ms.length c).ownBlock ∧ k ≠ g) := fun k hk => ⟨fun he => hk.1.2 (by simpa [Value.ownBlock] using he), hk.2⟩
  exact ⟨_, _, _, rfl, k74_mkM _ _ _ m (Kd.R_mono (Kd.R_types T.r5 T.blk (by decide)) hok) (Kd.R_mono (Kd.R_types T.r6 T.blk (by decide)) hok), ⟨T.blk, Kd.R_mono T.row (fun _ _ => trivial), hge, fun x hx => HFits.out x (List.mem_of_mem_eraseIdx hx), Nat.le_trans (List.length_eraseIdx_le ..) hmany⟩, rfl, T.kept, T.below⟩
end Go.Proofs.Ytijccobeljoikaa.Nt
