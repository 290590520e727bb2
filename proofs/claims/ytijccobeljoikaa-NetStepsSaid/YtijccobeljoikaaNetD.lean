/- net.Net: Post. -/
import Derived.Test.YtijccobeljoikaaNetC
namespace Go.Proofs.Ytijccobeljoikaa.Nt
open Go.RowKit Go.Proofs.YtijccobeljoikaaW.PrintWords Go.Proofs.YtijccobeljoikaaW.PrintLast Go.Proofs.YtijccobeljoikaaW.PrintMore
open Go.Proofs.Ytijccobeljoikaa.Walks
attribute [local go_sem] max2_int min2_int max_two min_two max_three min_three max_four min_four
set_option linter.unusedVariables false
set_option linter.unusedSimpArgs false

/-- What a call on a net may write: its block, and the row of its mails. -/
def NetS (g : Nat) (v : Value) : Nat → Prop := fun k => k = g ∨ some k = v.ownBlock
/-- The row is the one that it was, or a new one. -/
def RowAt (w : World) (v u : Value) : Prop := u.ownBlock = v.ownBlock ∨ ∃ k, u.ownBlock = some k ∧ w.heap.size ≤ k

theorem post_M {wr w1 : World} {b : Nat} {o : Obj} {u : Value} {ms : List S74} {m : S74} {cs : List Value} (hR : Kd.R k74 74 wr b (fun _ => True) u ms) (hb : b ≤ wr.heap.size)
    (hM : k74.M w1 (wr.alloc o).drew.heap.size (fun k => (wr.alloc o).drew.heap.size ≤ k) m cs) :
    k74.M w1 b (fun k => True ∧ some k ≠ u.ownBlock) m cs := by
  have e : (wr.alloc o).drew.heap.size = wr.heap.size + 1 := Array.size_push ..
  refine k74.M_mono (fun k hk => ⟨trivial, fun he => ?_⟩) (k74.M_lower (by omega) hM)
  have := Kd.R_lt hR k he.symm
  omega
theorem post_M' {W w1 : World} {b : Nat} {u : Value} {ms : List S74} {m : S74} {cs : List Value} (hR : Kd.R k74 74 W b (fun _ => True) u ms) (hb : b ≤ W.heap.size)
    (hM : k74.M w1 W.heap.size (fun k => W.heap.size ≤ k) m cs) : k74.M w1 b (fun k => True ∧ some k ≠ u.ownBlock) m cs := by
  refine k74.M_mono (fun k hk => ⟨trivial, fun he => ?_⟩) (k74.M_lower hb hM)
  have := Kd.R_lt hR k he.symm
  omega
theorem below_drewn {b : Nat} {w0 w : World} (h : Below b w0 w) : Below b w0 w.drew := ⟨h.os, h.tape, h.output, h.size, h.block⟩
theorem post_end {b : Nat} {w0 w wr w1 w2 : World} {g : Nat} {room : Int} {v u v1 : Value} {ms list : List S74} {i fit : Nat} {m : S74} {o o2 : Obj} (hI : NetIs b wr g room u (ms ++ list.take i)) (hb : b ≤ wr.heap.size) (hA : RowAt w v u) (hK : Kept w wr (NetS g v))
    (hB1 : Below (wr.alloc o).drew.heap.size (wr.alloc o).drew w1) (hR : Kd.R k74 74 w2 b (fun _ => True) v1 (ms ++ list.take i ++ [m])) (hB2 : Below b w0 w2) (hg : w1.grownBy w2 u.ownBlock) (hat : v1.ownBlock = u.ownBlock ∨ ∃ k, v1.ownBlock = some k ∧ w1.heap.size ≤ k)
    (hm : list[i]? = some m) (hf : Fits m) (hi : i < fit) (hfit : ms.length + fit ≤ 4096) :
    NetIs b (w2.setCell ⟨g, 1, none⟩ v1) g room v1 (ms ++ list.take (i + 1)) ∧ RowAt w v v1 ∧ Kept w (w2.setCell ⟨g, 1, none⟩ v1) (NetS g v) ∧ Below b w0 (w2.setCell ⟨g, 1, none⟩ v1) := by
  have e : (wr.alloc o).drew.heap.size = wr.heap.size + 1 := Array.size_push ..
  have s1 := hB1.size
  have hil : i < list.length := (List.getElem?_eq_some_iff.1 hm).1
  have hmi : list[i] = m := (List.getElem?_eq_some_iff.1 hm).2
  have hbl : (wr.alloc o).drew.heap[g]? = some (.cells #[.int .i64 room, u] 121 (0, 0)) := blk_drew (blk_alloc hI.blk _)
  have hbl1 := blk_below hbl hB1
  have hne : some g ≠ u.ownBlock := Kd.R_ne hI.row hI.blk (by decide)
  have hbl2 := blk_grown hbl1 hg hne
  have hsz : w.heap.size ≤ wr.heap.size := hK.1
  have htake : ms ++ list.take i ++ [m] = ms ++ list.take (i + 1) := by rw [List.append_assoc, ← hmi, List.take_append_getElem hil]
  refine ⟨⟨blk_put hbl2 1 v1 rfl, ?_, hI.ge, ?_, ?_⟩, ?_, ?_, hB2.setCell hI.ge _⟩
  · rw [← htake]
    exact Kd.R_set hR hbl2 (by decide) 1 v1
  · intro x hx
    rw [← htake] at hx
    rcases List.mem_append.1 hx with hx | hx
    · exact hI.fits x hx
    · rw [List.mem_singleton.1 hx]; exact hf
  · rw [List.length_append, List.length_take]; omega
  · rcases hat with hat | ⟨k, hk, hks⟩
    · unfold RowAt at *; rw [hat]; exact hA
    · exact .inr ⟨k, hk, by omega⟩
  · have k1 : Kept w w1 (NetS g v) := Kept.below (Kept.drew (Kept.alloc hK o)) hB1
    refine Kept.setCell (Kept.of_grown hg k1 (fun k hk => ?_)) (.inl (.inl rfl)) _
    rcases hA with hA | ⟨k', hk', hks⟩
    · exact .inl (.inr (by rw [← hA, hk]))
    · rw [hk] at hk'; injection hk' with hk'; exact .inr (by omega)

set_option maxHeartbeats 4000000 in
set_option maxRecDepth 100000 in
theorem post_calls (b : Nat) (w0 w : World) (g : Nat) (room : Int) (v : Value) (ms : List S74) (hI : NetIs b w g room v ms) (hb : b ≤ w.heap.size) (hB : Below b w0 w) (hroom : (ms.length : Int) ≤ room) (hroom2 : room ≤ 4096)
    (A : Option Addr) (c : Nat) (list : List S74) (hc : list.length ≤ c) (hL : ∀ W', Kept w W' (NetS g v) → Kd.C k74 W' A list.length list) (hf : ∀ m ∈ list, Fits m) (hll : list.length < 140737488355328) (fit : Nat) (hfit : (fit : Int) = min (list.length : Int) (room - ms.length)) :
    Calls Try.prog 54 #[.pointer (some ⟨g, 0, none⟩), .slice A list.length c] w fun e w' => e = .returned (.int .i64 ((list.length - fit : Nat) : Int)) ∧ ∃ v', NetIs b w' g room v' (ms ++ list.take fit) ∧ RowAt w v v' ∧ Kept w w' (NetS g v) ∧ Below b w0 w' := by
  obtain ⟨A1, c1, rfl, hl1, hC1⟩ := Kd.R_reads hI.row
  have g0 : w.cell? ⟨g, 0, none⟩ = some (.int .i64 room) := by rw [blk_cell hI.blk]; rfl
  have g1 : w.cell? ⟨g, 1, none⟩ = some (.slice A1 ms.length c1) := by rw [blk_cell hI.blk]; rfl
  have hu121 := Try.underlying121
  have hu74 := Try.underlying74
  have HL := Aside0.mk hL
  have HI := Aside0.mk hI
  have HF := Aside0.mk hf
  have HB := Aside0.mk hB
  have HC := Aside0.mk hc
  have hfl : fit ≤ list.length := by omega
  have hmany := hI.many
  have Hfit := Aside0.mk hfit
  clear hL hl1 hI hf hB hC1 hc hfit
  go_enter Try.func54, Try.ntmps54
  go_wp2_with (fail)
  obtain ⟨i0, hi0, _, hsz, _⟩ := info_parts info74
  have hcut := cut_to (P := Try.prog) 58 74 .i64 Try.underlying58 hi0 A list.length c (fit : Int) (by omega) (by omega) HC.out
  have hmin : (if room - (ms.length : Int) < (list.length : Int) then room - (ms.length : Int) else (list.length : Int)) = (fit : Int) := by have := Hfit.out; split <;> omega
  have HL1 := Aside0.mk (HL.out w.drew (Kept.refl w _))
  go_region
  go_wp2_with (fail)
  go_loopw [25] (fun t wr => ∃ (i : Nat) (u : Value), t = .int .i64 (i : Int) ∧ i ≤ fit ∧ Aside0 (NetIs b wr g room u (ms ++ list.take i)) ∧ Aside0 (RowAt w (.slice A1 ms.length c1) u) ∧ Aside0 (Kept w wr (NetS g (.slice A1 ms.length c1))) ∧ Aside0 (Below b w0 wr)) (fun t _ => fit - (intOf t).toNat)
  case atStart => exact ⟨0, _, rfl, Nat.zero_le _, ⟨by have := HI.out; rw [List.take_zero, List.append_nil]; exact ⟨blk_drew this.blk, Kd.R_drew this.row, this.ge, this.fits, this.many⟩⟩, ⟨.inl rfl⟩, ⟨Kept.refl w _⟩, ⟨below_drewn HB.out⟩⟩
  case round =>
    clear g0 g1 hcut hmin
    obtain ⟨i, u, rfl, hi, HN, HA, HK, HBr⟩ := hrel
    by_cases hlt : i < fit
    · have b0 : decide ((i : Int) < (fit : Int)) = true := decide_eq_true (by omega)
      have b1 : (0 ≤ (i : Int)) = True := eq_true (by omega)
      have b2 : ((i : Int) < (fit : Int)) = True := eq_true (by omega)
      have hil : i < list.length := by omega
      obtain ⟨ad, A5, c5, A6, c6, e, hx0, hx1, hx2, hx3, hx4, hx5, hx6, hl5, hi5, hl6, hi6⟩ := at_T74 (HL.out wr HK.out) (i : Int) (by omega) (by omega)
      subst e
      obtain ⟨m, hm⟩ : ∃ m, m = rd_T74 list (i : Int) := ⟨_, rfl⟩
      rw [← hm] at hx0 hx1 hx2 hx3 hx4 hx5 hx6 hl5 hi5 hl6 hi6
      rw [Int.toNat_natCast] at hx0 hx1 hx2 hx3 hx4 hx5 hx6
      have hmi : list[i]? = some m := by rw [hm]; simp [rd_T74, List.getD_eq_getElem?_getD, hil]
      have Hmi := Aside0.mk hmi
      have hfm : Fits m := HF.out m (List.mem_of_getElem? hmi)
      have Hf := Aside0.mk hfm
      have Hl5 := Aside0.mk hl5
      have Hi5 := Aside0.mk hi5
      have Hl6 := Aside0.mk hl6
      have Hi6 := Aside0.mk hi6
      obtain ⟨Au, cu, eu⟩ := Kd.R_slice HN.out.row
      subst eu
      have gk : wr.cell? ⟨g, 1, none⟩ = some (.slice Au (ms ++ list.take i).length cu) := by rw [blk_cell HN.out.blk]; rfl
      obtain ⟨n, hn⟩ : ∃ n, n = (ms ++ list.take i).length := ⟨_, rfl⟩
      rw [← hn] at gk
      have Hn := Aside0.mk hn
      have HN' := Aside0.mk (show NetIs b wr g room (.slice Au n cu) (ms ++ list.take i) by rw [hn]; exact HN.out)
      have HA' := Aside0.mk (show RowAt w (.slice A1 ms.length c1) (.slice Au n cu) by rw [hn]; exact HA.out)
      have hnl : n ≤ 4096 := by rw [hn]; exact HN.out.many
      clear hm hmi hfm hl5 hi5 hl6 hi6 hn HN HA
      go_wp2_with (fail)
      obtain ⟨o, ho⟩ : ∃ o, o = Obj.cells #[.int .i64 m.f0.f0, .int .i64 m.f0.f1, .int .i64 m.f1.f0.f0, .int .i64 m.f1.f0.f1, .int .i64 m.f1.f1, .slice A5 m.f1.f2.length c5, .slice A6 m.f1.f3.length c6] 74 := ⟨_, rfl⟩
      rw [← ho]
      obtain ⟨W0, hW0⟩ : ∃ W0, W0 = wr.alloc o := ⟨_, rfl⟩
      rw [← hW0]
      have gk0 : W0.cell? ⟨g, 1, none⟩ = some (.slice Au n cu) := by rw [hW0, blk_cell (blk_alloc HN'.out.blk _)]; rfl
      have hbox : W0.heap[wr.heap.size]? = some (.cells #[.int .i64 m.f0.f0, .int .i64 m.f0.f1, .int .i64 m.f1.f0.f0, .int .i64 m.f1.f0.f1, .int .i64 m.f1.f1, .slice A5 m.f1.f2.length c5, .slice A6 m.f1.f3.length c6] 74 (0, 0)) := by rw [hW0, ho]; exact blk_new _ _
      have z0 : W0.cell? ⟨wr.heap.size, 0, none⟩ = some (.int .i64 m.f0.f0) := by rw [blk_cell hbox]; rfl
      have z1 : W0.cell? ⟨wr.heap.size, 1, none⟩ = some (.int .i64 m.f0.f1) := by rw [blk_cell hbox]; rfl
      have z2 : W0.cell? ⟨wr.heap.size, 2, none⟩ = some (.int .i64 m.f1.f0.f0) := by rw [blk_cell hbox]; rfl
      have z3 : W0.cell? ⟨wr.heap.size, 3, none⟩ = some (.int .i64 m.f1.f0.f1) := by rw [blk_cell hbox]; rfl
      have z4 : W0.cell? ⟨wr.heap.size, 4, none⟩ = some (.int .i64 m.f1.f1) := by rw [blk_cell hbox]; rfl
      have z5 : W0.cell? ⟨wr.heap.size, 5, none⟩ = some (.slice A5 m.f1.f2.length c5) := by rw [blk_cell hbox]; rfl
      have z6 : W0.cell? ⟨wr.heap.size, 6, none⟩ = some (.slice A6 m.f1.f3.length c6) := by rw [blk_cell hbox]; rfl
      have Hi5' := Aside0.mk (show Kd.C (Kd.int .u8) W0.drew A5 m.f1.f2.length m.f1.f2 by rw [hW0]; exact Kd.C_drew (Kd.C_alloc Hi5.out _))
      have Hi6' := Aside0.mk (show Kd.C (Kd.slice 5 (Kd.int .u8)) W0.drew A6 m.f1.f3.length m.f1.f3 by rw [hW0]; exact Kd.C_drew (Kd.C_alloc Hi6.out _))
      have Hblk := Aside0.mk (show W0.drew.heap[g]? = some (.cells #[.int .i64 room, .slice Au n cu] 121 (0, 0)) by rw [hW0]; exact blk_drew (blk_alloc HN'.out.blk _))
      have Hrow := Aside0.mk (show Kd.R k74 74 W0.drew b (fun _ => True) (.slice Au n cu) (ms ++ list.take i) by rw [hW0]; exact Kd.R_drew (Kd.R_alloc HN'.out.row _))
      have hbr : b ≤ wr.heap.size := Nat.le_trans hb HK.out.1
      have HBd := Aside0.mk (show Below b w0 W0.drew by rw [hW0]; exact below_drewn (HBr.out.alloc hbr _))
      have HW0 := Aside0.mk hW0
      have hbs : b ≤ W0.drew.heap.size := by
        have e : (wr.alloc o).drew.heap.size = wr.heap.size + 1 := Array.size_push ..
        rw [HW0.out, e]; omega
      clear ho hbox hW0 gk hx0 hx1 hx2 hx3 hx4 hx5 hx6
      go_region_law (first
        | (go_simp; go_at_call 86; refine (cloned_calls m A5 c5 A6 c6 _ Hl5.out Hi5'.out Hl6.out Hi6'.out Hf.out.1 Hf.out.2.1 Hf.out.2.2).mono ?_; rintro e w1 ⟨v5, v6, rfl, hM, hB1⟩; have HM := Aside0.mk hM; have HB1 := Aside0.mk hB1; have gk1 : w1.cell? ⟨g, 1, none⟩ = some (.slice Au n cu) := (by rw [blk_cell (blk_below Hblk.out hB1)]; rfl); have gk2 : (w1.alloc (Obj.cells #[.int .i64 m.f0.f0, .int .i64 m.f0.f1, .int .i64 m.f1.f0.f0, .int .i64 m.f1.f0.f1, .int .i64 m.f1.f1, v5, v6] 74)).cell? ⟨g, 1, none⟩ = some (.slice Au n cu) := (by rw [blk_cell (blk_alloc (blk_below Hblk.out hB1) _)]; rfl); simp only [mailV]; clear hM hB1)
        | (refine Kd.R_append_step k74 (w0 := w0) b (by simp [Region.wanted]) (.tmp 33) (.tmp 36) 58 74 (.agg #[(.int .i64 0), (.int .i64 0), (.int .i64 0), (.int .i64 0), (.int .i64 0), (.slice none 0 0), (.slice none 0 0)]) 88 rfl Try.underlying58 info74 rfl (by decide) (by omega) (.slice Au n cu) (ms ++ list.take i) m [.int .i64 m.f0.f0, .int .i64 m.f0.f1, .int .i64 m.f1.f0.f0, .int .i64 m.f1.f0.f1, .int .i64 m.f1.f1, v5, v6] (fun _ => True) (fun k_ => True ∧ some k_ ≠ (Value.slice Au n cu).ownBlock) rfl rfl (post_M' Hrow.out hbs HM.out) (fun _ h => h) (fun _ _ => trivial) (Kd.R_below Hrow.out HB1.out) (below_then HBd.out hbs HB1.out) (Nat.le_trans hbs HB1.out.size) (by rw [← Hn.out]; omega) ?_; intro v1 w2 hR2 hB2 hg2 hat2; obtain ⟨Av, cv, ev⟩ := Kd.R_slice hR2; subst ev; obtain ⟨nv, hnv⟩ : ∃ nv, nv = (ms ++ list.take i ++ [m]).length := ⟨_, rfl⟩; rw [← hnv] at hR2 hat2 ⊢; have Hnv := Aside0.mk hnv; clear hnv; have hne := Kd.R_ne (Kd.R_below Hrow.out HB1.out) (blk_below Hblk.out HB1.out) (by decide); have hb2 := blk_grown (blk_below Hblk.out HB1.out) hg2 hne; have q1 : w2.cell? ⟨g, 1, none⟩ = some (.slice Au n cu) := (by rw [blk_cell hb2]; rfl); have q2 : w2.frozen? ⟨g, 1, none⟩ = false := blk_frozen hb2 1; have HR2 := Aside0.mk hR2; have HB2 := Aside0.mk hB2; have HG2 := Aside0.mk hg2; have HAT := Aside0.mk hat2; clear hR2 hB2 hg2 hat2 hne hb2))
      all_goals (try go_wp2)
      all_goals (
        have HB1' : Below (wr.alloc o).drew.heap.size (wr.alloc o).drew w1 := (by have := HB1.out; rw [HW0.out] at this; exact this)
        obtain ⟨p1, p2, p3, p4⟩ := post_end (o := o) (o2 := o) HN'.out hbr HA'.out HK.out HB1' HR2.out HB2.out HG2.out HAT.out Hmi.out Hf.out hlt (by have := Hfit.out; omega)
        exact ⟨⟨i + 1, _, by simp, by omega, ⟨p1⟩, ⟨p2⟩, ⟨p3⟩, ⟨p4⟩⟩, by simp only [intOf]; omega⟩)
    · have b0 : decide ((i : Int) < (fit : Int)) = false := decide_eq_false (by omega)
      obtain rfl : i = fit := by omega
      go_wp2_with (fail)
      go_ret
      refine ⟨?_, u, HN.out, HA.out, HK.out, HBr.out⟩
      have hz : ((list.length : Int) - (i : Int)) = ((list.length - i : Nat) : Int) := by omega
      rw [← hz]
      have hz2 : wrap64 ((list.length : Int) - (i : Int)) = (list.length : Int) - (i : Int) := by unfold wrap64; omega
      first | rfl | rw [hz2]
end Go.Proofs.Ytijccobeljoikaa.Nt
