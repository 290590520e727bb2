/- net.cloned: a mail as new memory. -/
import Derived.Test.YtijccobeljoikaaNtx0
import Derived.Test.YtijccobeljoikaaNetA
import Derived.Deep.RegionLaw
import Derived.Deep.RegionWith
namespace Go.Proofs.Ytijccobeljoikaa.Nt
open Go.RowKit Go.Proofs.YtijccobeljoikaaW.PrintWords Go.Proofs.YtijccobeljoikaaW.PrintLast Go.Proofs.YtijccobeljoikaaW.PrintMore
open Go.Proofs.Ytijccobeljoikaa.Walks
set_option linter.unusedVariables false
set_option linter.unusedSimpArgs false

/-- A mail's cells: numbers, and where its two slices lie. -/
def mailV (m : S74) (v5 v6 : Value) : Array Value := #[.int .i64 m.f0.f0, .int .i64 m.f0.f1, .int .i64 m.f1.f0.f0, .int .i64 m.f1.f0.f1, .int .i64 m.f1.f1, v5, v6]

theorem two_boxes (w : World) (o1 o2 : Obj) : ((w.alloc o1).alloc o2).heap[w.heap.size]? = some o1 ∧ ((w.alloc o1).alloc o2).heap[w.heap.size + 1]? = some o2 ∧ Below w.heap.size w ((w.alloc o1).alloc o2) ∧ ((w.alloc o1).alloc o2).heap.size = w.heap.size + 2 := by
  have e : (w.alloc o1).heap.size = w.heap.size + 1 := Array.size_push ..
  refine ⟨blk_alloc (blk_new w o1) o2, by rw [← e]; exact blk_new _ _, ((Below.refl _ _).alloc (Nat.le_refl _) _).alloc (by omega) _, (Array.size_push ..).trans (by rw [e])⟩

/-- Behind the two clonings: the box of the mail, with its two slices new; the box of the result. -/
def Mid (w wc : World) (m00 m01 m10 m11 m2 : Int) (xs : List Int) (src : List Cell) : Prop :=
  ∃ v5 v6, wc.heap[w.heap.size]? = some (.cells #[.int .i64 m00, .int .i64 m01, .int .i64 m10, .int .i64 m11, .int .i64 m2, v5, v6] 74 (0, 0)) ∧
    wc.heap[w.heap.size + 1]? = some (.cells #[.int .i64 0, .int .i64 0, .int .i64 0, .int .i64 0, .int .i64 0, .slice none 0 0, .slice none 0 0] 74 (0, 0)) ∧
    Kd.R (Kd.int .u8) 5 wc w.heap.size (fun _ => True) v5 xs ∧ cellK.R 22 wc w.heap.size (fun _ => True) v6 src ∧ Below w.heap.size w wc
theorem mid_of {w W w1 w2 : World} {m00 m01 m10 m11 m2 : Int} {xs : List Int} {src : List Cell} {u5 u6 v5 v6 : Value}
    (hb1 : W.heap[w.heap.size]? = some (.cells #[.int .i64 m00, .int .i64 m01, .int .i64 m10, .int .i64 m11, .int .i64 m2, u5, u6] 74 (0, 0)))
    (hb2 : W.heap[w.heap.size + 1]? = some (.cells #[.int .i64 0, .int .i64 0, .int .i64 0, .int .i64 0, .int .i64 0, .slice none 0 0, .slice none 0 0] 74 (0, 0)))
    (hB0 : Below w.heap.size w W) (h5 : Kd.R (Kd.int .u8) 5 w1 W.heap.size (fun _ => True) v5 xs) (hB1 : Below W.heap.size W w1) (h6 : cellK.R 22 w2 w1.heap.size (fun _ => True) v6 src) (hB2 : Below w1.heap.size w1 w2) :
    Mid w ((w2.setCell ⟨w.heap.size, 5, none⟩ v5).setCell ⟨w.heap.size, 6, none⟩ v6) m00 m01 m10 m11 m2 xs src ∧ Mid w ((w2.setCell ⟨w.heap.size, 6, none⟩ v6).setCell ⟨w.heap.size, 5, none⟩ v5) m00 m01 m10 m11 m2 xs src := by
  have s0 := hB0.size
  have s1 := hB1.size
  have hb1' := blk_below (blk_below hb1 hB1) hB2
  have hb2' := blk_below (blk_below hb2 hB1) hB2
  have h5' := Kd.R_lower (base' := w.heap.size) (Kd.R_below h5 hB2) (by omega)
  have h6' := Kd.R_lower (base' := w.heap.size) h6 (by omega)
  have hB : Below w.heap.size w w2 := below_then (below_then hB0 s0 hB1) (by omega) hB2
  constructor
  · have k1 := blk_put hb1' 5 v5 rfl
    refine ⟨v5, v6, blk_put k1 6 v6 rfl, blk_far (blk_far hb2' (by simp) _) (by simp) _, Kd.R_set (Kd.R_set h5' hb1' (by decide) 5 v5) k1 (by decide) 6 v6, Kd.R_set (Kd.R_set h6' hb1' (by decide) 5 v5) k1 (by decide) 6 v6, below_set (below_set hB (Nat.le_refl _)) (Nat.le_refl _)⟩
  · have k1 := blk_put hb1' 6 v6 rfl
    refine ⟨v5, v6, blk_put k1 5 v5 rfl, blk_far (blk_far hb2' (by simp) _) (by simp) _, Kd.R_set (Kd.R_set h5' hb1' (by decide) 6 v6) k1 (by decide) 5 v5, Kd.R_set (Kd.R_set h6' hb1' (by decide) 6 v6) k1 (by decide) 5 v5, below_set (below_set hB (Nat.le_refl _)) (Nat.le_refl _)⟩

/-- At the head of the round: the first i tags are new, the others as they came. -/
structure Ring (w wr : World) (m00 m01 m10 m11 m2 : Int) (xs : List Int) (tags : List (List Int)) (src : List Cell) (v5 v6 : Value) (i : Nat) (cs : List Cell) : Prop where
  b1 : wr.heap[w.heap.size]? = some (.cells #[.int .i64 m00, .int .i64 m01, .int .i64 m10, .int .i64 m11, .int .i64 m2, v5, v6] 74 (0, 0))
  b2 : wr.heap[w.heap.size + 1]? = some (.cells #[.int .i64 0, .int .i64 0, .int .i64 0, .int .i64 0, .int .i64 0, .slice none 0 0, .slice none 0 0] 74 (0, 0))
  r5 : Kd.R (Kd.int .u8) 5 wr w.heap.size (fun _ => True) v5 xs
  r6 : cellK.R 22 wr w.heap.size (fun _ => True) v6 cs
  len : cs.length = src.length
  done : ∀ (j : Nat) (x : List Int) (c : Cell), j < i → tags[j]? = some x → cs[j]? = some c → Kd.R (Kd.int .u8) 5 wr w.heap.size (fun _ => True) c.val x
  todo : ∀ j, i ≤ j → cs[j]? = src[j]?
  below : Below w.heap.size w wr
theorem Ring.drew {w wr : World} {m00 m01 m10 m11 m2 : Int} {xs : List Int} {tags : List (List Int)} {src : List Cell} {v5 v6 : Value} {i : Nat} {cs : List Cell} (h : Ring w wr m00 m01 m10 m11 m2 xs tags src v5 v6 i cs) : Ring w wr.drew m00 m01 m10 m11 m2 xs tags src v5 v6 i cs :=
  ⟨h.b1, h.b2, Kd.R_drew h.r5, Kd.R_drew h.r6, h.len, fun j x c h1 h2 h3 => Kd.R_drew (h.done j x c h1 h2 h3), h.todo, below_drew1 h.below⟩
theorem Ring.start {w wc : World} {m00 m01 m10 m11 m2 : Int} {xs : List Int} {tags : List (List Int)} {src : List Cell} {v5 v6 : Value}
    (hb1 : wc.heap[w.heap.size]? = some (.cells #[.int .i64 m00, .int .i64 m01, .int .i64 m10, .int .i64 m11, .int .i64 m2, v5, v6] 74 (0, 0)))
    (hb2 : wc.heap[w.heap.size + 1]? = some (.cells #[.int .i64 0, .int .i64 0, .int .i64 0, .int .i64 0, .int .i64 0, .slice none 0 0, .slice none 0 0] 74 (0, 0)))
    (h5 : Kd.R (Kd.int .u8) 5 wc w.heap.size (fun _ => True) v5 xs) (h6 : cellK.R 22 wc w.heap.size (fun _ => True) v6 src) (hB : Below w.heap.size w wc) : Ring w wc m00 m01 m10 m11 m2 xs tags src v5 v6 0 src :=
  ⟨hb1, hb2, h5, h6, rfl, fun j x c h => by omega, fun _ _ => rfl, hB⟩
theorem Ring.step {w wr w1 : World} {m00 m01 m10 m11 m2 : Int} {xs : List Int} {tags : List (List Int)} {src : List Cell} {v5 : Value} {i g n c60 : Nat} {cs : List Cell} {x : List Int} {v : Value} (hv : v.oneCell' = true)
    (h : Ring w wr m00 m01 m10 m11 m2 xs tags src v5 (.slice (some ⟨g, 0, none⟩) n c60) i cs) (hx : tags[i]? = some x) (hR : Kd.R (Kd.int .u8) 5 w1 wr.heap.size (fun _ => True) v x) (hB : Below wr.heap.size wr w1) :
    Ring w (w1.setCell ⟨g, i, none⟩ v) m00 m01 m10 m11 m2 xs tags src v5 (.slice (some ⟨g, 0, none⟩) n c60) (i + 1) (cs.set i ⟨v, hv⟩) := by
  have r6 := Kd.R_below h.r6 hB
  have r5 := Kd.R_below h.r5 hB
  have rv := Kd.R_lower (base' := w.heap.size) hR h.below.size
  obtain ⟨cells, hg⟩ := Kd.R_typed r6 g (by simp [Value.ownBlock])
  have hgb : w.heap.size ≤ g := Kd.R_base r6 g (by simp [Value.ownBlock])
  have b1 := blk_below h.b1 hB
  have b2 := blk_below h.b2 hB
  have n1 := blk_ne b1 hg (by decide)
  have n2 := blk_ne b2 hg (by decide)
  have r6' := Kd.R_putn (enc := Subtype.val) (h1 := fun x => x.2) r6 (i : Int) (⟨v, hv⟩ : Cell)
  rw [Int.toNat_natCast] at r6'
  refine ⟨blk_far b1 n1 _, blk_far b2 n2 _, Kd.R_set r5 hg (by decide) i v, r6', by rw [List.length_set]; exact h.len, ?_, ?_, below_set (below_step h.below hB) hgb⟩
  · intro j y c hj hy hc
    by_cases e : j = i
    · subst e
      rw [hx] at hy
      injection hy with hy
      subst hy
      have hl : j < cs.length := by have := (List.getElem?_eq_some_iff.1 hc).1; rwa [List.length_set] at this
      rw [List.getElem?_set_self hl] at hc
      injection hc with hc
      subst hc
      exact Kd.R_set rv hg (by decide) j v
    · rw [List.getElem?_set_ne (Ne.symm e)] at hc
      exact Kd.R_set (Kd.R_below (h.done j y c (by omega) hy hc) hB) hg (by decide) i v
  · intro j hj
    rw [List.getElem?_set_ne (by omega)]
    exact h.todo j (by omega)
theorem Ring.rows {w wr : World} {m00 m01 m10 m11 m2 : Int} {xs : List Int} {tags : List (List Int)} {src : List Cell} {v5 v6 : Value} {i : Nat} {cs : List Cell} (h : Ring w wr m00 m01 m10 m11 m2 xs tags src v5 v6 i cs) (hl : src.length = tags.length) (hi : src.length ≤ i) :
    Kd.R (Kd.slice 5 (Kd.int .u8)) 22 wr w.heap.size (fun _ => True) v6 tags := by
  obtain ⟨h0, inner, hown, hr⟩ := h.r6
  have hlen : cs.length = tags.length := h.len.trans hl
  refine ⟨h0, inner, by rw [← hlen]; exact hown, by rw [hr.1, hlen]; rfl, fun j x hx => ?_⟩
  have hj : j < tags.length := (List.getElem?_eq_some_iff.1 hx).1
  have hc : cs[j]? = some cs[j] := List.getElem?_eq_getElem (by omega)
  have hseg := hr.2 j _ hc
  refine ⟨cs[j].val, hseg, Kd.R_apart' (h.done j x _ (by omega) hx hc) (Kd.R_typed h.r6) (by decide)⟩
/-- The mail as it goes back, while its cells are laid into the result's box. -/
structure Fin7 (w W : World) (xs : List Int) (tags : List (List Int)) (v5 v6 : Value) : Prop where
  r5 : Kd.R (Kd.int .u8) 5 W w.heap.size (fun _ => True) v5 xs
  r6 : Kd.R (Kd.slice 5 (Kd.int .u8)) 22 W w.heap.size (fun _ => True) v6 tags
  box : ∃ cells, W.heap[w.heap.size + 1]? = some (.cells cells 74 (0, 0))
  below : Below w.heap.size w W
theorem Ring.fin {w wr : World} {m00 m01 m10 m11 m2 : Int} {xs : List Int} {tags : List (List Int)} {src : List Cell} {v5 v6 : Value} {i : Nat} {cs : List Cell} (h : Ring w wr m00 m01 m10 m11 m2 xs tags src v5 v6 i cs) (hl : src.length = tags.length) (hi : src.length ≤ i) : Fin7 w wr xs tags v5 v6 :=
  ⟨h.r5, h.rows hl hi, ⟨_, h.b2⟩, h.below⟩
theorem Fin7.set {w W : World} {xs : List Int} {tags : List (List Int)} {v5 v6 : Value} (h : Fin7 w W xs tags v5 v6) (j : Nat) (u : Value) : Fin7 w (W.setCell ⟨w.heap.size + 1, j, none⟩ u) xs tags v5 v6 := by
  obtain ⟨cells, hb⟩ := h.box
  exact ⟨Kd.R_set h.r5 hb (by decide) j u, Kd.R_set h.r6 hb (by decide) j u, ⟨_, blk_set hb j u⟩, below_set h.below (by omega)⟩
theorem Fin7.mail {w W : World} {xs : List Int} {tags : List (List Int)} {v5 v6 : Value} (h : Fin7 w W xs tags v5 v6) (m00 m01 m10 m11 m2 : Int) :
    k74.M W w.heap.size (fun k => w.heap.size ≤ k) ⟨⟨m00, m01⟩, ⟨⟨m10, m11⟩, m2, xs, tags⟩⟩ [.int .i64 m00, .int .i64 m01, .int .i64 m10, .int .i64 m11, .int .i64 m2, v5, v6] :=
  k74_mkM _ _ _ _ (Kd.R_mono (Kd.R_bound h.r5) (fun k hk => hk.2.1)) (Kd.R_mono (Kd.R_bound h.r6) (fun k hk => hk.2.1))

theorem box7 {wr : World} {b t : Nat} {z0 z1 z2 z3 z4 z5 z6 : Value} (h : wr.heap[b]? = some (.cells #[z0, z1, z2, z3, z4, z5, z6] t (0, 0))) (u0 u1 u2 u3 u4 u5 u6 : Value) :
    (((((((wr.setCell ⟨b, 0, none⟩ u0).setCell ⟨b, 1, none⟩ u1).setCell ⟨b, 2, none⟩ u2).setCell ⟨b, 3, none⟩ u3).setCell ⟨b, 4, none⟩ u4).setCell ⟨b, 5, none⟩ u5).setCell ⟨b, 6, none⟩ u6).heap[b]? = some (.cells #[u0, u1, u2, u3, u4, u5, u6] t (0, 0)) := by
  have h0 : (wr.setCell ⟨b, 0, none⟩ u0).heap[b]? = some (.cells #[u0, z1, z2, z3, z4, z5, z6] t (0, 0)) := blk_put h 0 u0 rfl
  have h1 : ((wr.setCell ⟨b, 0, none⟩ u0).setCell ⟨b, 1, none⟩ u1).heap[b]? = some (.cells #[u0, u1, z2, z3, z4, z5, z6] t (0, 0)) := blk_put h0 1 u1 rfl
  have h2 : (((wr.setCell ⟨b, 0, none⟩ u0).setCell ⟨b, 1, none⟩ u1).setCell ⟨b, 2, none⟩ u2).heap[b]? = some (.cells #[u0, u1, u2, z3, z4, z5, z6] t (0, 0)) := blk_put h1 2 u2 rfl
  have h3 : ((((wr.setCell ⟨b, 0, none⟩ u0).setCell ⟨b, 1, none⟩ u1).setCell ⟨b, 2, none⟩ u2).setCell ⟨b, 3, none⟩ u3).heap[b]? = some (.cells #[u0, u1, u2, u3, z4, z5, z6] t (0, 0)) := blk_put h2 3 u3 rfl
  have h4 : (((((wr.setCell ⟨b, 0, none⟩ u0).setCell ⟨b, 1, none⟩ u1).setCell ⟨b, 2, none⟩ u2).setCell ⟨b, 3, none⟩ u3).setCell ⟨b, 4, none⟩ u4).heap[b]? = some (.cells #[u0, u1, u2, u3, u4, z5, z6] t (0, 0)) := blk_put h3 4 u4 rfl
  have h5 : ((((((wr.setCell ⟨b, 0, none⟩ u0).setCell ⟨b, 1, none⟩ u1).setCell ⟨b, 2, none⟩ u2).setCell ⟨b, 3, none⟩ u3).setCell ⟨b, 4, none⟩ u4).setCell ⟨b, 5, none⟩ u5).heap[b]? = some (.cells #[u0, u1, u2, u3, u4, u5, z6] t (0, 0)) := blk_put h4 5 u5 rfl
  have h6 : (((((((wr.setCell ⟨b, 0, none⟩ u0).setCell ⟨b, 1, none⟩ u1).setCell ⟨b, 2, none⟩ u2).setCell ⟨b, 3, none⟩ u3).setCell ⟨b, 4, none⟩ u4).setCell ⟨b, 5, none⟩ u5).setCell ⟨b, 6, none⟩ u6).heap[b]? = some (.cells #[u0, u1, u2, u3, u4, u5, u6] t (0, 0)) := blk_put h5 6 u6 rfl
  exact h6

set_option maxHeartbeats 4000000 in
set_option maxRecDepth 100000 in
theorem cloned_calls (m : S74) (A5 : Option Addr) (c5 : Nat) (A6 : Option Addr) (c6 : Nat) (w : World) (hc5 : m.f1.f2.length ≤ c5) (h5 : (Kd.int .u8).C w A5 m.f1.f2.length m.f1.f2) (hc6 : m.f1.f3.length ≤ c6) (h6 : (Kd.slice 5 (Kd.int .u8)).C w A6 m.f1.f3.length m.f1.f3)
    (hl5 : m.f1.f2.length < 140737488355328) (hl6 : m.f1.f3.length * 24 ≤ 140737488355328) (hlr : ∀ r ∈ m.f1.f3, r.length < 140737488355328) :
    Calls Try.prog 86 #[.agg (mailV m (.slice A5 m.f1.f2.length c5) (.slice A6 m.f1.f3.length c6))] w fun e w' => ∃ v5 v6, e = .returned (.agg (mailV m v5 v6)) ∧ k74.M w' w.heap.size (fun k => w.heap.size ≤ k) m (mailV m v5 v6).toList ∧ Below w.heap.size w w' := by
  obtain ⟨⟨m00, m01⟩, ⟨⟨m10, m11⟩, m2, xs, tags⟩⟩ := m
  simp only [mailV] at *
  obtain ⟨src, hsrc, hK⟩ := cells_of_C (d := Kd.slice 5 (Kd.int .u8)) rfl h6
  have H5 := Aside0.mk h5
  have Hc5 := Aside0.mk hc5
  have Hs := Aside0.mk hsrc
  have HK := Aside0.mk hK
  have Hc6 := Aside0.mk hc6
  have Hlr := Aside0.mk hlr
  clear h5 hc5 hsrc hK hc6 h6 hlr
  have hu74 := Try.underlying74
  have hu72 := Try.underlying72
  go_enter Try.func86, Try.ntmps86
  go_wp2_with (fail)
  obtain ⟨W0, hW0⟩ : ∃ W0, W0 = World.alloc (World.alloc w (Obj.cells #[.int .i64 m00, .int .i64 m01, .int .i64 m10, .int .i64 m11, .int .i64 m2, .slice A5 xs.length c5, .slice A6 tags.length c6] 74)) (Obj.cells #[.int .i64 0, .int .i64 0, .int .i64 0, .int .i64 0, .int .i64 0, .slice none 0 0, .slice none 0 0] 74) := ⟨_, rfl⟩
  rw [← hW0]
  obtain ⟨hb1, hb2, hB0, hsz⟩ := two_boxes w (Obj.cells #[.int .i64 m00, .int .i64 m01, .int .i64 m10, .int .i64 m11, .int .i64 m2, .slice A5 xs.length c5, .slice A6 tags.length c6] 74) (Obj.cells #[.int .i64 0, .int .i64 0, .int .i64 0, .int .i64 0, .int .i64 0, .slice none 0 0, .slice none 0 0] 74)
  rw [← hW0] at hb1 hb2 hB0 hsz
  clear hW0
  have g5 : W0.cell? ⟨w.heap.size, 5, none⟩ = some (.slice A5 xs.length c5) := by rw [blk_cell hb1]; rfl
  have g6 : W0.cell? ⟨w.heap.size, 6, none⟩ = some (.slice A6 tags.length c6) := by rw [blk_cell hb1]; rfl
  have Hb1 := Aside0.mk (blk_drew hb1)
  have Hb2 := Aside0.mk (blk_drew hb2)
  have HB0 := Aside0.mk (below_drew1 hB0)
  have Hsz := Aside0.mk (show W0.drew.heap.size = w.heap.size + 2 from hsz)
  clear hb1 hb2 hB0 hsz
  have Hcl := Aside0.mk (show cloneF xs = some xs from if_pos hl5)
  go_cut [18] (fun v18 wc => Aside0 (Mid w wc m00 m01 m10 m11 m2 xs src))
  case first =>
    go_region_law (first
      | (go_simp; go_at_call 85; refine (clone_calls A5 c5 xs xs _ (Kd.C_below H5.out HB0.out) Hc5.out Hcl.out).mono ?_; rintro e w1 ⟨v5, rfl, hR, hB⟩; obtain ⟨A50, c50, e50⟩ := Kd.R_slice hR; subst e50; have HR5 := Aside0.mk hR; have HB1 := Aside0.mk hB; have g61 : w1.cell? ⟨w.heap.size, 6, none⟩ = some (.slice A6 tags.length c6) := (by rw [blk_cell (blk_below Hb1.out hB)]; rfl); clear hR hB)
      | (go_simp; go_at_call 126; refine (cloneRows_calls A6 tags.length c6 src _ (Kd.C_below (Kd.C_below Hs.out HB0.out) (below_then (Below.refl _ _) (Nat.le_refl _) HB1.out)) Hc6.out hl6).mono ?_; rintro e w2 ⟨v6, rfl, hR, hB⟩; obtain ⟨A60, c60, e60⟩ := Kd.R_slice hR; subst e60; have g52 : w2.cell? ⟨w.heap.size, 5, none⟩ = some (.slice A5 xs.length c5) := (by rw [blk_cell (blk_below (blk_below Hb1.out HB1.out) hB)]; rfl); have g62 : w2.cell? ⟨w.heap.size, 6, none⟩ = some (.slice A6 tags.length c6) := (by rw [blk_cell (blk_below (blk_below Hb1.out HB1.out) hB)]; rfl); have HR6 := Aside0.mk hR; have HB2 := Aside0.mk hB; have f52 : w2.frozen? ⟨w.heap.size, 5, none⟩ = false := (blk_frozen (blk_below (blk_below Hb1.out HB1.out) hB) 5); have f62 : w2.frozen? ⟨w.heap.size, 6, none⟩ = false := (blk_frozen (blk_below (blk_below Hb1.out HB1.out) hB) 6); clear hR hB))
    all_goals (try go_wp2)
    all_goals (go_meet; case rel => first | exact ⟨(mid_of Hb1.out Hb2.out HB0.out HR5.out HB1.out HR6.out HB2.out).1⟩ | exact ⟨(mid_of Hb1.out Hb2.out HB0.out HR5.out HB1.out HR6.out HB2.out).2⟩)
  case rest =>
    clear Hb1 Hb2 Hsz Hcl g5 g6
    obtain ⟨v5, v6, hb1, hb2, h5, h6, hB⟩ := hcut.out
    obtain ⟨A60, c60, e60⟩ := Kd.R_slice h6
    subst e60
    have hsl : src.length = tags.length := Hs.out.1
    have g6 : wc.cell? ⟨w.heap.size, 6, none⟩ = some (.slice A60 src.length c60) := by rw [blk_cell hb1]; rfl
    have Hb1 := Aside0.mk hb1
    have Hb2 := Aside0.mk hb2
    have H5n := Aside0.mk h5
    have H6n := Aside0.mk h6
    have HBn := Aside0.mk hB
    have Hsl := Aside0.mk hsl
    clear hcut HB0 hb1 hb2 h5 h6 hB hsl
    go_wp2_with (fail)
    go_loopw [28] (fun v wr => ∃ (i : Nat) (cs : List Cell), v = .int .i64 (i : Int) ∧ i ≤ src.length ∧ Aside0 (Ring w wr m00 m01 m10 m11 m2 xs tags src v5 (.slice A60 src.length c60) i cs)) (fun v _ => src.length - (intOf v).toNat)
    case atStart => exact ⟨0, src, rfl, Nat.zero_le _, ⟨Ring.start Hb1.out Hb2.out H5n.out H6n.out HBn.out⟩⟩
    case round =>
      obtain ⟨i, cs, rfl, hi, HR⟩ := hrel
      by_cases hlt : i < src.length
      · obtain ⟨g, cap, e6, hgb, _, _⟩ := Kd.R_form HR.out.r6 (by rw [HR.out.len]; omega)
        obtain ⟨rfl, _, rfl⟩ : A60 = some ⟨g, 0, none⟩ ∧ True ∧ c60 = cap := by injection e6 with h1 h2 h3; exact ⟨h1, trivial, h3⟩
        clear e6
        have b0 : decide ((i : Int) < (src.length : Int)) = true := decide_eq_true (by omega)
        have b1 : (0 ≤ (i : Int)) = True := eq_true (by omega)
        have b2 : ((i : Int) < (src.length : Int)) = True := eq_true (by omega)
        have htl : i < tags.length := by have := Hsl.out; omega
        have hx : tags[i]? = some tags[i] := List.getElem?_eq_getElem htl
        have hsc : src[i]? = some src[i] := List.getElem?_eq_getElem hlt
        obtain ⟨A, cc, hc1, hcl, hcC⟩ := HK.out i _ _ hx hsc
        have hci : cs[i]? = some src[i] := by rw [HR.out.todo i (Nat.le_refl _)]; exact hsc
        obtain ⟨z, hz⟩ : ∃ z, z = tags[i] := ⟨_, rfl⟩
        rw [← hz] at hx hc1 hcl hcC
        have hzl : z.length < 140737488355328 := Hlr.out z (by rw [hz]; exact List.getElem_mem htl)
        obtain ⟨q1, q2⟩ := Kd.R_celln (enc := Subtype.val) (h1 := fun x => x.2) (default : Cell) HR.out.r6 (i : Int) (by omega) (by omega)
        have q1 : wr.cell? ⟨g, i, none⟩ = some (.slice A z.length cc) := by
          rw [Int.toNat_natCast] at q1
          rw [q1]
          simp only [rdOf, Int.toNat_natCast, List.getD_eq_getElem?_getD, hci, Option.getD_some]
          injection hc1 with hc1
          rw [hc1]
        have q3 : wr.cell? ⟨w.heap.size, 6, none⟩ = some (.slice (some ⟨g, 0, none⟩) src.length c60) := by rw [blk_cell HR.out.b1]; rfl
        have Hx := Aside0.mk hx
        have Hcl := Aside0.mk hcl
        have HcC := Aside0.mk (Kd.C_drew (Kd.C_below hcC HR.out.below))
        have HRd := Aside0.mk HR.out.drew
        have Hf := Aside0.mk (show cloneF z = some z from if_pos hzl)
        have Hw := Aside0.mk (show wrap64 ((i : Int) + 1) = ((i + 1 : Nat) : Int) by have := Hsl.out; unfold wrap64; omega)
        clear hx hsc hc1 hcl hcC hci hz hzl q2 htl
        go_wp2_with (fail)
        go_region_law (go_simp; go_at_call 85; refine (clone_calls A cc z z _ HcC.out Hcl.out Hf.out).mono ?_; rintro e w1 ⟨vz, rfl, hRz, hBz⟩; obtain ⟨Az, cz, ez⟩ := Kd.R_slice hRz; subst ez; have f1 : w1.frozen? ⟨g, i, none⟩ = false := (Kd.R_celln (enc := Subtype.val) (h1 := fun x => x.2) (default : Cell) (Kd.R_below HRd.out.r6 hBz) (i : Int) (by omega) (by omega)).2; have f2 := (Kd.R_celln (enc := Subtype.val) (h1 := fun x => x.2) (default : Cell) (Kd.R_below HRd.out.r6 hBz) (i : Int) (by omega) (by omega)).1; rw [Int.toNat_natCast] at f2; have f3 : w1.cell? ⟨w.heap.size, 6, none⟩ = some (.slice (some ⟨g, 0, none⟩) src.length c60) := (by rw [blk_cell (blk_below HRd.out.b1 hBz)]; rfl); have HRz := Aside0.mk hRz; have HBz := Aside0.mk hBz; clear hRz hBz)
        all_goals (try go_wp2)
        all_goals (rw [Hw.out]; exact ⟨⟨i + 1, _, rfl, by omega, ⟨Ring.step (v := .slice Az z.length cz) rfl HRd.out Hx.out HRz.out HBz.out⟩⟩, by simp only [intOf]; omega⟩)
      · have b0 : decide ((i : Int) < (src.length : Int)) = false := decide_eq_false (by omega)
        have k0 : wr.cell? ⟨w.heap.size, 0, none⟩ = some (.int .i64 m00) := by rw [blk_cell HR.out.b1]; rfl
        have k1 : wr.cell? ⟨w.heap.size, 1, none⟩ = some (.int .i64 m01) := by rw [blk_cell HR.out.b1]; rfl
        have k2 : wr.cell? ⟨w.heap.size, 2, none⟩ = some (.int .i64 m10) := by rw [blk_cell HR.out.b1]; rfl
        have k3 : wr.cell? ⟨w.heap.size, 3, none⟩ = some (.int .i64 m11) := by rw [blk_cell HR.out.b1]; rfl
        have k4 : wr.cell? ⟨w.heap.size, 4, none⟩ = some (.int .i64 m2) := by rw [blk_cell HR.out.b1]; rfl
        have k5 : wr.cell? ⟨w.heap.size, 5, none⟩ = some v5 := by rw [blk_cell HR.out.b1]; rfl
        have k6 : wr.cell? ⟨w.heap.size, 6, none⟩ = some (.slice A60 src.length c60) := by rw [blk_cell HR.out.b1]; rfl
        have n0 : wr.frozen? ⟨w.heap.size + 1, 0, none⟩ = false := blk_frozen HR.out.b2 0
        have n1 : wr.frozen? ⟨w.heap.size + 1, 1, none⟩ = false := blk_frozen HR.out.b2 1
        have n2 : wr.frozen? ⟨w.heap.size + 1, 2, none⟩ = false := blk_frozen HR.out.b2 2
        have n3 : wr.frozen? ⟨w.heap.size + 1, 3, none⟩ = false := blk_frozen HR.out.b2 3
        have n4 : wr.frozen? ⟨w.heap.size + 1, 4, none⟩ = false := blk_frozen HR.out.b2 4
        have n5 : wr.frozen? ⟨w.heap.size + 1, 5, none⟩ = false := blk_frozen HR.out.b2 5
        have n6 : wr.frozen? ⟨w.heap.size + 1, 6, none⟩ = false := blk_frozen HR.out.b2 6
        have e0 : wr.cell? ⟨w.heap.size + 1, 0, none⟩ = some (.int .i64 0) := by rw [blk_cell HR.out.b2]; rfl
        have e1 : wr.cell? ⟨w.heap.size + 1, 1, none⟩ = some (.int .i64 0) := by rw [blk_cell HR.out.b2]; rfl
        have e2 : wr.cell? ⟨w.heap.size + 1, 2, none⟩ = some (.int .i64 0) := by rw [blk_cell HR.out.b2]; rfl
        have e3 : wr.cell? ⟨w.heap.size + 1, 3, none⟩ = some (.int .i64 0) := by rw [blk_cell HR.out.b2]; rfl
        have e4 : wr.cell? ⟨w.heap.size + 1, 4, none⟩ = some (.int .i64 0) := by rw [blk_cell HR.out.b2]; rfl
        have e5 : wr.cell? ⟨w.heap.size + 1, 5, none⟩ = some (.slice none 0 0) := by rw [blk_cell HR.out.b2]; rfl
        have e6 : wr.cell? ⟨w.heap.size + 1, 6, none⟩ = some (.slice none 0 0) := by rw [blk_cell HR.out.b2]; rfl
        obtain ⟨A50, c50, e50⟩ := Kd.R_slice HR.out.r5
        subst e50
        have HF := Aside0.mk (HR.out.fin Hsl.out (by omega))
        go_wp2_with (fail)
        refine bodyPost_ret (results_cell_row rfl _ _ (w.heap.size + 1) 74 #[.int .i64 m00, .int .i64 m01, .int .i64 m10, .int .i64 m11, .int .i64 m2, .slice A50 xs.length c50, .slice A60 src.length c60] (0, 0) _ rfl (box7 HR.out.b2 _ _ _ _ _ _ _) Try.underlying74 rfl (by kernel_rfl)) rfl ?_
        exact ⟨_, _, rfl, (((((((HF.out.set 0 _).set 1 _).set 2 _).set 3 _).set 4 _).set 5 _).set 6 _).mail _ _ _ _ _, (((((((HF.out.set 0 _).set 1 _).set 2 _).set 3 _).set 4 _).set 5 _).set 6 _).below⟩
end Go.Proofs.Ytijccobeljoikaa.Nt
