/- The reference's Take: out of range, and a mail that is there. -/
import Derived.Test.YtijccobeljoikaaNetK
import Derived.Test.YtijccobeljoikaaNetEw
namespace Go.Proofs.Ytijccobeljoikaa.Nt
open Go.RowKit Go.Proofs.YtijccobeljoikaaW.PrintWords Go.Proofs.YtijccobeljoikaaW.PrintLast Go.Proofs.YtijccobeljoikaaW.PrintMore
open Go.Proofs.Ytijccobeljoikaa.Walks
set_option linter.unusedVariables false
set_option linter.unusedSimpArgs false

section
attribute [local go_sem] max2_int min2_int max_two min_two max_three min_three max_four min_four
/-- A net in memory whose mails keep to the blocks ok. -/
structure NetIsK (ok : Nat → Prop) (b : Nat) (w : World) (g : Nat) (room : Int) (v : Value) (ms : List S74) : Prop where
  blk : w.heap[g]? = some (.cells #[.int .i64 room, v] 121 (0, 0))
  row : Kd.R k74 74 w b ok v ms
  ge : b ≤ g
  fits : ∀ m ∈ ms, Fits m
  many : ms.length ≤ 4096
theorem NetIsK.any {ok : Nat → Prop} {b : Nat} {w : World} {g : Nat} {room : Int} {v : Value} {ms : List S74} (h : NetIsK ok b w g room v ms) : NetIs b w g room v ms := ⟨h.blk, Kd.R_mono h.row (fun _ _ => trivial), h.ge, h.fits, h.many⟩
theorem post_MK {ok : Nat → Prop} {W w1 : World} {b : Nat} {u : Value} {ms : List S74} {m : S74} {cs : List Value} (hR : Kd.R k74 74 W b ok u ms) (hb : b ≤ W.heap.size) (hf : ∀ k, W.heap.size ≤ k → ok k)
    (hM : k74.M w1 W.heap.size (fun k => W.heap.size ≤ k) m cs) : k74.M w1 b (fun k => ok k ∧ some k ≠ u.ownBlock) m cs := by
  refine k74.M_mono (fun k hk => ⟨hf k hk, fun he => ?_⟩) (k74.M_lower hb hM)
  have := Kd.R_lt hR k he.symm
  omega
theorem post_endK {ok : Nat → Prop} {b : Nat} {w0 w wr w1 w2 : World} {g : Nat} {room : Int} {v u v1 : Value} {ms list : List S74} {i fit : Nat} {m : S74} {o o2 : Obj} (hI : NetIsK ok b wr g room u (ms ++ list.take i)) (hb : b ≤ wr.heap.size) (hA : RowAt w v u) (hK : Kept w wr (NetS g v))
    (hB1 : Below (wr.alloc o).drew.heap.size (wr.alloc o).drew w1) (hR : Kd.R k74 74 w2 b ok v1 (ms ++ list.take i ++ [m])) (hB2 : Below b w0 w2) (hg : w1.grownBy w2 u.ownBlock) (hat : v1.ownBlock = u.ownBlock ∨ ∃ k, v1.ownBlock = some k ∧ w1.heap.size ≤ k)
    (hm : list[i]? = some m) (hf : Fits m) (hi : i < fit) (hfit : ms.length + fit ≤ 4096) :
    NetIsK ok b (w2.setCell ⟨g, 1, none⟩ v1) g room v1 (ms ++ list.take (i + 1)) ∧ RowAt w v v1 ∧ Kept w (w2.setCell ⟨g, 1, none⟩ v1) (NetS g v) ∧ Below b w0 (w2.setCell ⟨g, 1, none⟩ v1) := by
  have e : (wr.alloc o).drew.heap.size = wr.heap.size + 1 := Array.size_push ..
  have s1 := hB1.size
  have hil : i < list.length := (List.getElem?_eq_some_iff.1 hm).1
  have hmi : list[i] = m := (List.getElem?_eq_some_iff.1 hm).2
  have hbl : (wr.alloc o).drew.heap[g]? = some (.cells #[.int .i64 room, u] 121 (0, 0)) := blk_drew (blk_alloc hI.blk _)
  have hbl1 := blk_below hbl hB1
  have hne : some g ≠ u.ownBlock := Kd.R_ne hI.row hI.blk (by decide)
  have hbl2 := blk_grown hbl1 hg hne
  have hsz : w.heap.size ≤ wr.heap.size := hK.1
  have htake : ms ++ list.take i ++ [m] = ms ++ list.take (i + 1) := by rw [List.append_assoc, ← hmi, List.take_append_getElem hil]
  refine ⟨⟨blk_put hbl2 1 v1 rfl, ?_, hI.ge, ?_, ?_⟩, ?_, ?_, hB2.setCell hI.ge _⟩
  · rw [← htake]
    exact Kd.R_set hR hbl2 (by decide) 1 v1
  · intro x hx
    rw [← htake] at hx
    rcases List.mem_append.1 hx with hx | hx
    · exact hI.fits x hx
    · rw [List.mem_singleton.1 hx]; exact hf
  · rw [List.length_append, List.length_take]; omega
  · rcases hat with hat | ⟨k, hk, hks⟩
    · unfold RowAt at *; rw [hat]; exact hA
    · exact .inr ⟨k, hk, by omega⟩
  · have k1 : Kept w w1 (NetS g v) := Kept.below (Kept.drew (Kept.alloc hK o)) hB1
    refine Kept.setCell (Kept.of_grown hg k1 (fun k hk => ?_)) (.inl (.inl rfl)) _
    rcases hA with hA | ⟨k', hk', hks⟩
    · exact .inl (.inr (by rw [← hA, hk]))
    · rw [hk] at hk'; injection hk' with hk'; exact .inr (by omega)

set_option maxHeartbeats 4000000 in
set_option maxRecDepth 100000 in
theorem post_callsK (ok : Nat → Prop) (b : Nat) (w0 w : World) (g : Nat) (room : Int) (v : Value) (ms : List S74) (hI : NetIsK ok b w g room v ms) (hok : ∀ k, w.heap.size ≤ k → ok k) (hb : b ≤ w.heap.size) (hB : Below b w0 w) (hroom : (ms.length : Int) ≤ room) (hroom2 : room ≤ 4096)
    (A : Option Addr) (c : Nat) (list : List S74) (hc : list.length ≤ c) (hL : ∀ W', Kept w W' (NetS g v) → Kd.C k74 W' A list.length list) (hf : ∀ m ∈ list, Fits m) (hll : list.length < 140737488355328) (fit : Nat) (hfit : (fit : Int) = min (list.length : Int) (room - ms.length)) :
    Calls Try.prog 54 #[.pointer (some ⟨g, 0, none⟩), .slice A list.length c] w fun e w' => e = .returned (.int .i64 ((list.length - fit : Nat) : Int)) ∧ ∃ v', NetIsK ok b w' g room v' (ms ++ list.take fit) ∧ RowAt w v v' ∧ Kept w w' (NetS g v) ∧ Below b w0 w' := by
  obtain ⟨A1, c1, rfl, hl1, hC1⟩ := Kd.R_reads hI.row
  have g0 : w.cell? ⟨g, 0, none⟩ = some (.int .i64 room) := by rw [blk_cell hI.blk]; rfl
  have g1 : w.cell? ⟨g, 1, none⟩ = some (.slice A1 ms.length c1) := by rw [blk_cell hI.blk]; rfl
  have hu121 := Try.underlying121
  have hu74 := Try.underlying74
  have HL := Aside0.mk hL
  have HI := Aside0.mk hI
  have HF := Aside0.mk hf
  have HB := Aside0.mk hB
  have HC := Aside0.mk hc
  have hfl : fit ≤ list.length := by omega
  have hmany := hI.many
  have Hfit := Aside0.mk hfit
  clear hL hl1 hI hf hB hC1 hc hfit
  go_enter Try.func54, Try.ntmps54
  go_wp2_with (fail)
  obtain ⟨i0, hi0, _, hsz, _⟩ := info_parts info74
  have hcut := cut_to (P := Try.prog) 58 74 .i64 Try.underlying58 hi0 A list.length c (fit : Int) (by omega) (by omega) HC.out
  have hmin : (if room - (ms.length : Int) < (list.length : Int) then room - (ms.length : Int) else (list.length : Int)) = (fit : Int) := by have := Hfit.out; split <;> omega
  have HL1 := Aside0.mk (HL.out w.drew (Kept.refl w _))
  go_region
  go_wp2_with (fail)
  go_loopw [25] (fun t wr => ∃ (i : Nat) (u : Value), t = .int .i64 (i : Int) ∧ i ≤ fit ∧ Aside0 (NetIsK ok b wr g room u (ms ++ list.take i)) ∧ Aside0 (RowAt w (.slice A1 ms.length c1) u) ∧ Aside0 (Kept w wr (NetS g (.slice A1 ms.length c1))) ∧ Aside0 (Below b w0 wr)) (fun t _ => fit - (intOf t).toNat)
  case atStart => exact ⟨0, _, rfl, Nat.zero_le _, ⟨by have := HI.out; rw [List.take_zero, List.append_nil]; exact ⟨blk_drew this.blk, Kd.R_drew this.row, this.ge, this.fits, this.many⟩⟩, ⟨.inl rfl⟩, ⟨Kept.refl w _⟩, ⟨below_drewn HB.out⟩⟩
  case round =>
    clear g0 g1 hcut hmin
    obtain ⟨i, u, rfl, hi, HN, HA, HK, HBr⟩ := hrel
    by_cases hlt : i < fit
    · have b0 : decide ((i : Int) < (fit : Int)) = true := decide_eq_true (by omega)
      have b1 : (0 ≤ (i : Int)) = True := eq_true (by omega)
      have b2 : ((i : Int) < (fit : Int)) = True := eq_true (by omega)
      have hil : i < list.length := by omega
      obtain ⟨ad, A5, c5, A6, c6, e, hx0, hx1, hx2, hx3, hx4, hx5, hx6, hl5, hi5, hl6, hi6⟩ := at_T74 (HL.out wr HK.out) (i : Int) (by omega) (by omega)
      subst e
      obtain ⟨m, hm⟩ : ∃ m, m = rd_T74 list (i : Int) := ⟨_, rfl⟩
      rw [← hm] at hx0 hx1 hx2 hx3 hx4 hx5 hx6 hl5 hi5 hl6 hi6
      rw [Int.toNat_natCast] at hx0 hx1 hx2 hx3 hx4 hx5 hx6
      have hmi : list[i]? = some m := by rw [hm]; simp [rd_T74, List.getD_eq_getElem?_getD, hil]
      have Hmi := Aside0.mk hmi
      have hfm : Fits m := HF.out m (List.mem_of_getElem? hmi)
      have Hf := Aside0.mk hfm
      have Hl5 := Aside0.mk hl5
      have Hi5 := Aside0.mk hi5
      have Hl6 := Aside0.mk hl6
      have Hi6 := Aside0.mk hi6
      obtain ⟨Au, cu, eu⟩ := Kd.R_slice HN.out.row
      subst eu
      have gk : wr.cell? ⟨g, 1, none⟩ = some (.slice Au (ms ++ list.take i).length cu) := by rw [blk_cell HN.out.blk]; rfl
      obtain ⟨n, hn⟩ : ∃ n, n = (ms ++ list.take i).length := ⟨_, rfl⟩
      rw [← hn] at gk
      have Hn := Aside0.mk hn
      have HN' := Aside0.mk (show NetIsK ok b wr g room (.slice Au n cu) (ms ++ list.take i) by rw [hn]; exact HN.out)
      have HA' := Aside0.mk (show RowAt w (.slice A1 ms.length c1) (.slice Au n cu) by rw [hn]; exact HA.out)
      have hnl : n ≤ 4096 := by rw [hn]; exact HN.out.many
      clear hm hmi hfm hl5 hi5 hl6 hi6 hn HN HA
      go_wp2_with (fail)
      obtain ⟨o, ho⟩ : ∃ o, o = Obj.cells #[.int .i64 m.f0.f0, .int .i64 m.f0.f1, .int .i64 m.f1.f0.f0, .int .i64 m.f1.f0.f1, .int .i64 m.f1.f1, .slice A5 m.f1.f2.length c5, .slice A6 m.f1.f3.length c6] 74 := ⟨_, rfl⟩
      rw [← ho]
      obtain ⟨W0, hW0⟩ : ∃ W0, W0 = wr.alloc o := ⟨_, rfl⟩
      rw [← hW0]
      have gk0 : W0.cell? ⟨g, 1, none⟩ = some (.slice Au n cu) := by rw [hW0, blk_cell (blk_alloc HN'.out.blk _)]; rfl
      have hbox : W0.heap[wr.heap.size]? = some (.cells #[.int .i64 m.f0.f0, .int .i64 m.f0.f1, .int .i64 m.f1.f0.f0, .int .i64 m.f1.f0.f1, .int .i64 m.f1.f1, .slice A5 m.f1.f2.length c5, .slice A6 m.f1.f3.length c6] 74 (0, 0)) := by rw [hW0, ho]; exact blk_new _ _
      have z0 : W0.cell? ⟨wr.heap.size, 0, none⟩ = some (.int .i64 m.f0.f0) := by rw [blk_cell hbox]; rfl
      have z1 : W0.cell? ⟨wr.heap.size, 1, none⟩ = some (.int .i64 m.f0.f1) := by rw [blk_cell hbox]; rfl
      have z2 : W0.cell? ⟨wr.heap.size, 2, none⟩ = some (.int .i64 m.f1.f0.f0) := by rw [blk_cell hbox]; rfl
      have z3 : W0.cell? ⟨wr.heap.size, 3, none⟩ = some (.int .i64 m.f1.f0.f1) := by rw [blk_cell hbox]; rfl
      have z4 : W0.cell? ⟨wr.heap.size, 4, none⟩ = some (.int .i64 m.f1.f1) := by rw [blk_cell hbox]; rfl
      have z5 : W0.cell? ⟨wr.heap.size, 5, none⟩ = some (.slice A5 m.f1.f2.length c5) := by rw [blk_cell hbox]; rfl
      have z6 : W0.cell? ⟨wr.heap.size, 6, none⟩ = some (.slice A6 m.f1.f3.length c6) := by rw [blk_cell hbox]; rfl
      have Hi5' := Aside0.mk (show Kd.C (Kd.int .u8) W0.drew A5 m.f1.f2.length m.f1.f2 by rw [hW0]; exact Kd.C_drew (Kd.C_alloc Hi5.out _))
      have Hi6' := Aside0.mk (show Kd.C (Kd.slice 5 (Kd.int .u8)) W0.drew A6 m.f1.f3.length m.f1.f3 by rw [hW0]; exact Kd.C_drew (Kd.C_alloc Hi6.out _))
      have Hblk := Aside0.mk (show W0.drew.heap[g]? = some (.cells #[.int .i64 room, .slice Au n cu] 121 (0, 0)) by rw [hW0]; exact blk_drew (blk_alloc HN'.out.blk _))
      have Hrow := Aside0.mk (show Kd.R k74 74 W0.drew b ok (.slice Au n cu) (ms ++ list.take i) by rw [hW0]; exact Kd.R_drew (Kd.R_alloc HN'.out.row _))
      have hbr : b ≤ wr.heap.size := Nat.le_trans hb HK.out.1
      have HBd := Aside0.mk (show Below b w0 W0.drew by rw [hW0]; exact below_drewn (HBr.out.alloc hbr _))
      have HW0 := Aside0.mk hW0
      have hbs : b ≤ W0.drew.heap.size := by
        have e : (wr.alloc o).drew.heap.size = wr.heap.size + 1 := Array.size_push ..
        rw [HW0.out, e]; omega
      have hws : w.heap.size ≤ W0.drew.heap.size := by
        have e : (wr.alloc o).drew.heap.size = wr.heap.size + 1 := Array.size_push ..
        rw [HW0.out, e]; have := HK.out.1; omega
      clear ho hbox hW0 gk hx0 hx1 hx2 hx3 hx4 hx5 hx6
      go_region_law (first
        | (go_simp; go_at_call 86; refine (cloned_calls m A5 c5 A6 c6 _ Hl5.out Hi5'.out Hl6.out Hi6'.out Hf.out.1 Hf.out.2.1 Hf.out.2.2).mono ?_; rintro e w1 ⟨v5, v6, rfl, hM, hB1⟩; have HM := Aside0.mk hM; have HB1 := Aside0.mk hB1; have gk1 : w1.cell? ⟨g, 1, none⟩ = some (.slice Au n cu) := (by rw [blk_cell (blk_below Hblk.out hB1)]; rfl); have gk2 : (w1.alloc (Obj.cells #[.int .i64 m.f0.f0, .int .i64 m.f0.f1, .int .i64 m.f1.f0.f0, .int .i64 m.f1.f0.f1, .int .i64 m.f1.f1, v5, v6] 74)).cell? ⟨g, 1, none⟩ = some (.slice Au n cu) := (by rw [blk_cell (blk_alloc (blk_below Hblk.out hB1) _)]; rfl); simp only [mailV]; clear hM hB1)
        | (refine Kd.R_append_step k74 (w0 := w0) b (by simp [Region.wanted]) (.tmp 33) (.tmp 36) 58 74 (.agg #[(.int .i64 0), (.int .i64 0), (.int .i64 0), (.int .i64 0), (.int .i64 0), (.slice none 0 0), (.slice none 0 0)]) 88 rfl Try.underlying58 info74 rfl (by decide) (by omega) (.slice Au n cu) (ms ++ list.take i) m [.int .i64 m.f0.f0, .int .i64 m.f0.f1, .int .i64 m.f1.f0.f0, .int .i64 m.f1.f0.f1, .int .i64 m.f1.f1, v5, v6] ok (fun k_ => ok k_ ∧ some k_ ≠ (Value.slice Au n cu).ownBlock) rfl rfl (post_MK Hrow.out hbs (fun k hk => hok k (Nat.le_trans hws hk)) HM.out) (fun _ h => h) (fun k hk => hok k (Nat.le_trans hws (Nat.le_trans HB1.out.size hk))) (Kd.R_below Hrow.out HB1.out) (below_then HBd.out hbs HB1.out) (Nat.le_trans hbs HB1.out.size) (by rw [← Hn.out]; omega) ?_; intro v1 w2 hR2 hB2 hg2 hat2; obtain ⟨Av, cv, ev⟩ := Kd.R_slice hR2; subst ev; obtain ⟨nv, hnv⟩ : ∃ nv, nv = (ms ++ list.take i ++ [m]).length := ⟨_, rfl⟩; rw [← hnv] at hR2 hat2 ⊢; have Hnv := Aside0.mk hnv; clear hnv; have hne := Kd.R_ne (Kd.R_below Hrow.out HB1.out) (blk_below Hblk.out HB1.out) (by decide); have hb2 := blk_grown (blk_below Hblk.out HB1.out) hg2 hne; have q1 : w2.cell? ⟨g, 1, none⟩ = some (.slice Au n cu) := (by rw [blk_cell hb2]; rfl); have q2 : w2.frozen? ⟨g, 1, none⟩ = false := blk_frozen hb2 1; have HR2 := Aside0.mk hR2; have HB2 := Aside0.mk hB2; have HG2 := Aside0.mk hg2; have HAT := Aside0.mk hat2; clear hR2 hB2 hg2 hat2 hne hb2))
      all_goals (try go_wp2)
      all_goals (
        have HB1' : Below (wr.alloc o).drew.heap.size (wr.alloc o).drew w1 := (by have := HB1.out; rw [HW0.out] at this; exact this)
        obtain ⟨p1, p2, p3, p4⟩ := post_endK (o := o) (o2 := o) HN'.out hbr HA'.out HK.out HB1' HR2.out HB2.out HG2.out HAT.out Hmi.out Hf.out hlt (by have := Hfit.out; omega)
        exact ⟨⟨i + 1, _, by simp, by omega, ⟨p1⟩, ⟨p2⟩, ⟨p3⟩, ⟨p4⟩⟩, by simp only [intOf]; omega⟩)
    · have b0 : decide ((i : Int) < (fit : Int)) = false := decide_eq_false (by omega)
      obtain rfl : i = fit := by omega
      go_wp2_with (fail)
      go_ret
      refine ⟨?_, u, HN.out, HA.out, HK.out, HBr.out⟩
      have hz : ((list.length : Int) - (i : Int)) = ((list.length - i : Nat) : Int) := by omega
      rw [← hz]
      have hz2 : wrap64 ((list.length : Int) - (i : Int)) = (list.length : Int) - (i : Int) := by unfold wrap64; omega
      first | rfl | rw [hz2]
end

theorem three_boxes (w : World) (o1 o2 o3 : Obj) : (((w.alloc o1).alloc o2).alloc o3).heap[w.heap.size]? = some o1 ∧ (((w.alloc o1).alloc o2).alloc o3).heap[w.heap.size + 1]? = some o2 ∧ (((w.alloc o1).alloc o2).alloc o3).heap[w.heap.size + 1 + 1]? = some o3 ∧ Below w.heap.size w (((w.alloc o1).alloc o2).alloc o3) ∧ (((w.alloc o1).alloc o2).alloc o3).heap.size = w.heap.size + 3 := by
  have e1 : (w.alloc o1).heap.size = w.heap.size + 1 := Array.size_push ..
  have e2 : ((w.alloc o1).alloc o2).heap.size = w.heap.size + 1 + 1 := (Array.size_push ..).trans (by rw [e1])
  refine ⟨blk_alloc (blk_alloc (blk_new w o1) o2) o3, blk_alloc (by rw [← e1]; exact blk_new _ _) o3, by rw [← e2]; exact blk_new _ _, below_alloc (below_alloc (below_alloc (Below.refl _ _) _) _) _, (Array.size_push ..).trans (by rw [e2])⟩
set_option maxHeartbeats 4000000 in
set_option maxRecDepth 100000 in
theorem rtake_bad (w : World) (room k : Int) (A : Option Addr) (n c : Nat) (hk : ¬ (0 ≤ k ∧ k < n)) :
    Calls Try.prog 57 #[.agg #[.int .i64 room, .slice A n c], .int .i64 k] w fun e w' => e = .returned (.tuple #[.agg #[.int .i64 room, .slice A n c], zero74, .bool false]) ∧ Below w.heap.size w w' := by
  have hu60 := Try.underlying60
  have hu74 := Try.underlying74
  by_cases h0 : k < 0
  · have b0 : decide (k < 0) = true := decide_eq_true h0
    clear hk h0
    go_enter Try.func57, Try.ntmps57
    go_wp2_with (fail)
    obtain ⟨_, x1, x2, x3, _⟩ := three_boxes w (.cells #[.int .i64 room, .slice A n c] 60) (.cells #[.int .i64 room, .slice A n c] 60) (.cells #[.int .i64 0, .int .i64 0, .int .i64 0, .int .i64 0, .int .i64 0, .slice none 0 0, .slice none 0 0] 74)
    refine bodyPost_ret (results_list (rs := [.cell 4 60, .cell 5 74, .tmp 6]) rfl (by simp) (.cell (w.heap.size + 1) 60 _ (0, 0) _ rfl x1 Try.underlying60 rfl (by kernel_rfl) (.cell (w.heap.size + 1 + 1) 74 _ (0, 0) _ rfl x2 Try.underlying74 rfl (by kernel_rfl) (.tmp .nil)))) rfl ?_
    exact ⟨rfl, x3⟩
  · have b0 : decide (k < 0) = false := decide_eq_false h0
    have b1 : decide ((n : Int) ≤ k) = true := decide_eq_true (by omega)
    clear hk h0
    go_enter Try.func57, Try.ntmps57
    go_wp2_with (fail)
    obtain ⟨_, x1, x2, x3, _⟩ := three_boxes w (.cells #[.int .i64 room, .slice A n c] 60) (.cells #[.int .i64 room, .slice A n c] 60) (.cells #[.int .i64 0, .int .i64 0, .int .i64 0, .int .i64 0, .int .i64 0, .slice none 0 0, .slice none 0 0] 74)
    refine bodyPost_ret (results_list (rs := [.cell 4 60, .cell 5 74, .tmp 6]) rfl (by simp) (.cell (w.heap.size + 1) 60 _ (0, 0) _ rfl x1 Try.underlying60 rfl (by kernel_rfl) (.cell (w.heap.size + 1 + 1) 74 _ (0, 0) _ rfl x2 Try.underlying74 rfl (by kernel_rfl) (.tmp .nil)))) rfl ?_
    exact ⟨rfl, x3⟩

theorem lit_nil74 (w : World) : Kd.R k74 74 (w.alloc (.cells #[] 74)) w.heap.size (fun _ => True) (.slice (some ⟨w.heap.size, 0, none⟩) 0 0) [] :=
  ⟨fun k hk => trivial, [], World.ownsRow_lit (base := w.heap.size) (e := 74) (size := 7) w #[] 0 (Nat.le_refl _) (by simp [maxLen]) (by simp), Reps.none _ _⟩

theorem box2 {wr : World} {b t : Nat} {z0 z1 : Value} (h : wr.heap[b]? = some (.cells #[z0, z1] t (0, 0))) (u0 u1 : Value) : ((wr.setCell ⟨b, 0, none⟩ u0).setCell ⟨b, 1, none⟩ u1).heap[b]? = some (.cells #[u0, u1] t (0, 0)) :=
  blk_put (blk_put h 0 u0 rfl) 1 u1 rfl
/-- While the results' boxes are filled. -/
structure RFin (w W : World) (P : Nat → Prop) (b : Nat) (v1 v5 v6 : Value) (lr : List S74) (xs : List Int) (tags : List (List Int)) (ok : Nat → Prop) : Prop where
  nv : Kd.N k74 74 W w.heap.size (fun q => (P q ∧ q < w.heap.size) ∨ w.heap.size + 4 ≤ q) v1 lr
  r5 : Kd.R (Kd.int .u8) 5 W b ok v5 xs
  r6 : Kd.R (Kd.slice 5 (Kd.int .u8)) 22 W b ok v6 tags
  k1 : ∃ cs, W.heap[w.heap.size + 1]? = some (.cells cs 60 (0, 0))
  k2 : ∃ cs, W.heap[w.heap.size + 1 + 1]? = some (.cells cs 74 (0, 0))
  below : Below w.heap.size w W
theorem RFin.set1 {w W : World} {P : Nat → Prop} {b : Nat} {v1 v5 v6 : Value} {lr : List S74} {xs : List Int} {tags : List (List Int)} {ok : Nat → Prop} (h : RFin w W P b v1 v5 v6 lr xs tags ok) (j : Nat) (u : Value) : RFin w (W.setCell ⟨w.heap.size + 1, j, none⟩ u) P b v1 v5 v6 lr xs tags ok := by
  obtain ⟨c1, h1⟩ := h.k1
  obtain ⟨c2, h2⟩ := h.k2
  exact ⟨Kd.N_far h.nv (fun q hq => by rcases hq with ⟨_, hq⟩ | hq <;> simp only <;> omega) u, Kd.R_set h.r5 h1 (by decide) j u, Kd.R_set h.r6 h1 (by decide) j u, ⟨_, blk_set h1 j u⟩, ⟨_, blk_far h2 (by simp) u⟩, below_set h.below (by omega)⟩
theorem RFin.set2 {w W : World} {P : Nat → Prop} {b : Nat} {v1 v5 v6 : Value} {lr : List S74} {xs : List Int} {tags : List (List Int)} {ok : Nat → Prop} (h : RFin w W P b v1 v5 v6 lr xs tags ok) (j : Nat) (u : Value) : RFin w (W.setCell ⟨w.heap.size + 1 + 1, j, none⟩ u) P b v1 v5 v6 lr xs tags ok := by
  obtain ⟨c1, h1⟩ := h.k1
  obtain ⟨c2, h2⟩ := h.k2
  exact ⟨Kd.N_far h.nv (fun q hq => by rcases hq with ⟨_, hq⟩ | hq <;> simp only <;> omega) u, Kd.R_set h.r5 h2 (by decide) j u, Kd.R_set h.r6 h2 (by decide) j u, ⟨_, blk_far h1 (by simp) u⟩, ⟨_, blk_set h2 j u⟩, below_set h.below (by omega)⟩

set_option maxHeartbeats 8000000 in
set_option maxRecDepth 100000 in
theorem rtake_ok (w : World) (room : Int) (P : Nat → Prop) (A : Option Addr) (c : Nat) (ms : List S74) (k : Nat) (hV : Kd.V k74 74 w w.heap.size P (.slice A ms.length c) ms) (hk : k < ms.length) (hf : Mem ms[k]) (hmany : ms.length ≤ 4096) :
    Calls Try.prog 57 #[.agg #[.int .i64 room, .slice A ms.length c], .int .i64 (k : Int)] w fun e w' => ∃ v1 v5 v6, e = .returned (.tuple #[.agg #[.int .i64 room, v1], .agg (mailV ms[k] v5 v6), .bool true]) ∧
      Kd.V k74 74 w' w.heap.size (fun q => P q ∨ w.heap.size ≤ q) v1 (ms.eraseIdx k) ∧ Kd.R (Kd.int .u8) 5 w' w.heap.size (fun _ => True) v5 ms[k].f1.f2 ∧ Kd.R (Kd.slice 5 (Kd.int .u8)) 22 w' w.heap.size (fun _ => True) v6 ms[k].f1.f3 ∧ Below w.heap.size w w' := by
  have hu60 := Try.underlying60
  have hu74 := Try.underlying74
  have hVb := Kd.V_bound hV
  obtain ⟨_, hcc, hC⟩ := Kd.V_reads' hV
  obtain ⟨i0, hi0, _, hsz, _⟩ := info_parts info74
  have hct := cut_to (P := Try.prog) 58 74 .i64 Try.underlying58 hi0 A ms.length c (k : Int) (by omega) (by omega) hcc
  have hcf := cut_from (P := Try.prog) 58 74 .i64 Try.underlying58 hi0 7 hsz A ms.length c ((k : Int) + 1) (by omega) (by omega)
  rw [Int.toNat_natCast] at hct
  rw [show ((k : Int) + 1).toNat = k + 1 by omega] at hcf
  obtain ⟨A9, hA9⟩ : ∃ A9, A9 = if c = k + 1 then A else A.map (·.add ((k + 1) * 7)) := ⟨_, rfl⟩
  rw [← hA9] at hcf
  have hF := Kd.V_F hVb
  have hF1 := Kd.F_take hF (m := k) (by omega)
  have hF2 := Kd.F_cut hF (m := k + 1) (by omega) hcc
  rw [show (k74.sz) = 7 from rfl, ← hA9] at hF2
  have e1 : (ms.take k).length = k := by rw [List.length_take]; omega
  have e2 : (ms.drop (k + 1)).length = ms.length - (k + 1) := List.length_drop
  rw [e1] at hF1
  rw [e2] at hF2
  have HF1 := Aside0.mk hF1
  have HF2 := Aside0.mk hF2
  have b0 : decide ((k : Int) < 0) = false := decide_eq_false (by omega)
  have b1 : decide (ms.length ≤ k) = false := decide_eq_false (by omega)
  have b2 : (0 ≤ (k : Int)) = True := eq_true (by omega)
  have b3 : ((k : Int) < (ms.length : Int)) = True := eq_true (by omega)
  obtain ⟨ad, A5, c5, A6, c6, e, hx0, hx1, hx2, hx3, hx4, hx5, hx6, hl5, hi5, hl6, hi6⟩ := at_T74 hC (k : Int) (by omega) (by omega)
  subst e
  obtain ⟨m, hm⟩ : ∃ m, m = rd_T74 ms (k : Int) := ⟨_, rfl⟩
  rw [← hm] at hx0 hx1 hx2 hx3 hx4 hx5 hx6 hl5 hi5 hl6 hi6
  rw [Int.toNat_natCast] at hx0 hx1 hx2 hx3 hx4 hx5 hx6
  have hmi : ms[k] = m := by rw [hm, rd74_at hk]
  rw [hmi] at hf ⊢
  obtain ⟨kc, hkc⟩ := (ev_copyMails (l := [m]) ⟨by simp, fun x hx => by simp at hx; subst hx; exact hf⟩).rounds
  have Hl5 := Aside0.mk hl5
  have Hi5 := Aside0.mk hi5
  have Hl6 := Aside0.mk hl6
  have Hi6 := Aside0.mk hi6
  have Hkc := Aside0.mk hkc
  clear hV hVb hcc hC hF hF1 hF2 hA9 hi0 hsz e1 e2 hm hmi hf hl5 hi5 hl6 hi6 hkc
  go_enter Try.func57, Try.ntmps57
  go_upto_region 1 with (fail)
  obtain ⟨y0, y1, y2, y3, y4⟩ := three_boxes w (.cells #[.int .i64 room, .slice (some ad) ms.length c] 60) (.cells #[.int .i64 0, .slice none 0 0] 60) (.cells #[.int .i64 0, .int .i64 0, .int .i64 0, .int .i64 0, .int .i64 0, .slice none 0 0, .slice none 0 0] 74)
  obtain ⟨W3, hW3⟩ : ∃ W3, W3 = ((w.alloc (.cells #[.int .i64 room, .slice (some ad) ms.length c] 60)).alloc (.cells #[.int .i64 0, .slice none 0 0] 60)).alloc (.cells #[.int .i64 0, .int .i64 0, .int .i64 0, .int .i64 0, .int .i64 0, .slice none 0 0, .slice none 0 0] 74) := ⟨_, rfl⟩
  rw [← hW3] at y0 y1 y2 y3 y4 ⊢
  have p0 : W3.cell? ⟨w.heap.size, 0, none⟩ = some (.int .i64 room) := by rw [blk_cell y0]; rfl
  have p1 : W3.cell? ⟨w.heap.size, 1, none⟩ = some (.slice (some ad) ms.length c) := by rw [blk_cell y0]; rfl
  replace hx0 := (y3.cell (World.block_lt_of_cell? w _ hx0)).trans hx0
  replace hx1 := (y3.cell (World.block_lt_of_cell? w _ hx1)).trans hx1
  replace hx2 := (y3.cell (World.block_lt_of_cell? w _ hx2)).trans hx2
  replace hx3 := (y3.cell (World.block_lt_of_cell? w _ hx3)).trans hx3
  replace hx4 := (y3.cell (World.block_lt_of_cell? w _ hx4)).trans hx4
  replace hx5 := (y3.cell (World.block_lt_of_cell? w _ hx5)).trans hx5
  replace hx6 := (y3.cell (World.block_lt_of_cell? w _ hx6)).trans hx6
  have Y0 := Aside0.mk y0
  have Y1 := Aside0.mk y1
  have Y2 := Aside0.mk y2
  have Y3 := Aside0.mk y3
  have Y4 := Aside0.mk y4
  clear y0 y1 y2 y3 y4 hW3
  go_upto_region 4 with (fail)
  obtain ⟨W4, hW4⟩ : ∃ W4, W4 = W3.alloc (.cells #[.int .i64 m.f0.f0, .int .i64 m.f0.f1, .int .i64 m.f1.f0.f0, .int .i64 m.f1.f0.f1, .int .i64 m.f1.f1, .slice A5 m.f1.f2.length c5, .slice A6 m.f1.f3.length c6] 74) := ⟨_, rfl⟩
  rw [← hW4]
  have Z0 := Aside0.mk (show W4.heap[w.heap.size]? = some (.cells #[.int .i64 room, .slice (some ad) ms.length c] 60 (0, 0)) by rw [hW4]; exact blk_alloc Y0.out _)
  have Z1 := Aside0.mk (show W4.heap[w.heap.size + 1]? = some (.cells #[.int .i64 0, .slice none 0 0] 60 (0, 0)) by rw [hW4]; exact blk_alloc Y1.out _)
  have Z2 := Aside0.mk (show W4.heap[w.heap.size + 1 + 1]? = some (.cells #[.int .i64 0, .int .i64 0, .int .i64 0, .int .i64 0, .int .i64 0, .slice none 0 0, .slice none 0 0] 74 (0, 0)) by rw [hW4]; exact blk_alloc Y2.out _)
  have Z7 := Aside0.mk (show W4.heap[W3.heap.size]? = some (.cells #[.int .i64 m.f0.f0, .int .i64 m.f0.f1, .int .i64 m.f1.f0.f0, .int .i64 m.f1.f0.f1, .int .i64 m.f1.f1, .slice A5 m.f1.f2.length c5, .slice A6 m.f1.f3.length c6] 74 (0, 0)) by rw [hW4]; exact blk_new _ _)
  have Z3 := Aside0.mk (show Below w.heap.size w W4 by rw [hW4]; exact below_alloc Y3.out _)
  have Z4 := Aside0.mk (show W4.heap.size = w.heap.size + 4 by rw [hW4, show (W3.alloc (.cells #[.int .i64 m.f0.f0, .int .i64 m.f0.f1, .int .i64 m.f1.f0.f0, .int .i64 m.f1.f0.f1, .int .i64 m.f1.f1, .slice A5 m.f1.f2.length c5, .slice A6 m.f1.f3.length c6] 74)).heap.size = W3.heap.size + 1 from Array.size_push .., Y4.out])
  have r1 : W4.cell? ⟨w.heap.size, 1, none⟩ = some (.slice (some ad) ms.length c) := by rw [blk_cell Z0.out]; rfl
  have r2 : (W4.alloc (.cells #[] 74)).cell? ⟨w.heap.size, 1, none⟩ = some (.slice (some ad) ms.length c) := by rw [blk_cell (blk_alloc Z0.out _)]; rfl
  have E5 := Aside0.mk (show (W4.alloc (.cells #[] 74)).heap.size = W4.heap.size + 1 from Array.size_push ..)
  clear hW4 p0 p1 hx0 hx1 hx2 hx3 hx4 hx5 hx6
  have hw64 : wrap64 ((k : Int) + 1) = (k : Int) + 1 := w64 (by omega) (by omega)
  have hkl : (ms.take k).length = k := by rw [List.length_take]; omega
  have HKL := Aside0.mk hkl
  clear hkl
  go_upto_region 6 with (first
    | (at_builtin; refine Kd.N_append_rows k74 (w0 := w) (W := W4.alloc (.cells #[] 74)) w.heap.size rfl (.tmp 25) (.tmp 29) 58 74 (.agg #[(.int .i64 0), (.int .i64 0), (.int .i64 0), (.int .i64 0), (.int .i64 0), (.slice none 0 0), (.slice none 0 0)]) 88 rfl Try.underlying58 info74 rfl (by decide) (by omega) (.slice (some ⟨W4.heap.size, 0, none⟩) 0 0) [] (ms.take k) (some ad) k c (fun q => (P q ∧ q < w.heap.size) ∨ W4.heap.size ≤ q) (fun q => P q ∧ q < w.heap.size) rfl rfl (Kd.N_lower (Kd.R_N (Kd.R_mono (Kd.R_bound (lit_nil74 W4)) (fun q hq => .inr hq.2.1))) Z3.out.size) (Kd.F_below HF1.out (below_alloc Z3.out _)) (fun q hq => ⟨.inl hq, fun he => by simp [Value.ownBlock] at he; have := Z4.out; omega⟩) (fun q hq => .inr (by have := E5.out; omega)) (below_alloc Z3.out _) (below_alloc Z3.out _).size (by simp; omega) ?_; intro v6 w6 hN6 hB6 hg6 hat6; obtain ⟨lk, hlk⟩ : ∃ lk, lk = [] ++ ms.take k := ⟨_, rfl⟩; rw [← hlk] at hN6; have HLK := Aside0.mk hlk; clear hlk; obtain ⟨A16, c16, e16⟩ := Kd.N_slice hN6; subst e16; have q1 : w6.cell? ⟨w.heap.size, 1, none⟩ = some (.slice (some ad) ms.length c) := (by rw [blk_cell (blk_grown (blk_alloc Z0.out _) hg6 (fun he => by simp [Value.ownBlock] at he; have := Z4.out; omega))]; rfl); have HN6 := Aside0.mk hN6; have HB6 := Aside0.mk hB6; have HG6 := Aside0.mk hg6; have HA6 := Aside0.mk hat6; clear hN6 hB6 hg6 hat6)
    | (at_builtin; refine Kd.N_append_rows k74 (w0 := w) (W := w6) w.heap.size rfl (.tmp 31) (.tmp 36) 58 74 (.agg #[(.int .i64 0), (.int .i64 0), (.int .i64 0), (.int .i64 0), (.int .i64 0), (.slice none 0 0), (.slice none 0 0)]) 88 rfl Try.underlying58 info74 rfl (by decide) (by omega) (.slice A16 lk.length c16) lk (ms.drop (k + 1)) A9 (ms.length - (k + 1)) (c - (k + 1)) (fun q => (P q ∧ q < w.heap.size) ∨ W4.heap.size ≤ q) (fun q => P q ∧ q < w.heap.size) rfl rfl HN6.out (Kd.F_below HF2.out HB6.out) (fun q hq => ⟨.inl hq, fun he => (HA6.out.elim (fun h1 => by rw [h1] at he; simp [Value.ownBlock] at he; have := Z4.out; omega) (fun ⟨b, h1, h2⟩ => by rw [h1] at he; injection he with he; have := Z4.out; have := E5.out; omega))⟩) (fun q hq => .inr (by have := HG6.out.size; have := E5.out; omega)) HB6.out HB6.out.size (by rw [HLK.out, List.nil_append, HKL.out]; omega) ?_; intro v7 w7 hN7 hB7 hg7 hat7; obtain ⟨lr, hlr⟩ : ∃ lr, lr = lk ++ ms.drop (k + 1) := ⟨_, rfl⟩; rw [← hlr] at hN7; have HLR := Aside0.mk hlr; clear hlr; obtain ⟨A17, c17, e17⟩ := Kd.N_slice hN7; subst e17; have hbk7 := blk_grown (blk_grown (blk_alloc Z0.out _) HG6.out (fun he => by simp [Value.ownBlock] at he; have := Z4.out; omega)) hg7 (fun he => HA6.out.elim (fun h1 => by rw [h1] at he; simp [Value.ownBlock] at he; have := Z4.out; omega) (fun ⟨b, h1, h2⟩ => by rw [h1] at he; injection he with he; have := Z4.out; have := E5.out; omega)); have q2 : w7.cell? ⟨w.heap.size, 1, none⟩ = some (.slice (some ad) ms.length c) := (by rw [blk_cell hbk7]; rfl); have q3 : w7.frozen? ⟨w.heap.size, 1, none⟩ = false := blk_frozen hbk7 1; have HF7 := Aside0.mk (fun (g : Nat) (o : Obj) (hlt : g < w.heap.size + 4) (hg : W4.heap[g]? = some o) => blk_grown (blk_grown (blk_alloc hg _) HG6.out (fun he => by simp [Value.ownBlock] at he; have := Z4.out; omega)) hg7 (fun he => HA6.out.elim (fun h1 => by rw [h1] at he; simp [Value.ownBlock] at he; have := Z4.out; omega) (fun ⟨b, h1, h2⟩ => by rw [h1] at he; injection he with he; have := Z4.out; have := E5.out; omega))); have HBK7 := Aside0.mk hbk7; have HN7 := Aside0.mk hN7; have HB7 := Aside0.mk hB7; have HG7 := Aside0.mk hg7; clear hN7 hB7 hg7 hat7 hbk7))
  obtain ⟨W8, hW8⟩ : ∃ W8, W8 = w7.setCell ⟨w.heap.size, 1, none⟩ (.slice A17 lr.length c17) := ⟨_, rfl⟩
  rw [← hW8]
  have K0 := Aside0.mk (show W8.heap[w.heap.size]? = some (.cells #[.int .i64 room, .slice A17 lr.length c17] 60 (0, 0)) by rw [hW8]; exact blk_put HBK7.out 1 _ rfl)
  have K1 := Aside0.mk (show W8.heap[w.heap.size + 1]? = some (.cells #[.int .i64 0, .slice none 0 0] 60 (0, 0)) by rw [hW8]; exact blk_far (HF7.out _ _ (by omega) Z1.out) (by simp) _)
  have K2 := Aside0.mk (show W8.heap[w.heap.size + 1 + 1]? = some (.cells #[.int .i64 0, .int .i64 0, .int .i64 0, .int .i64 0, .int .i64 0, .slice none 0 0, .slice none 0 0] 74 (0, 0)) by rw [hW8]; exact blk_far (HF7.out _ _ (by omega) Z2.out) (by simp only; omega) _)
  have K7 := Aside0.mk (show W8.heap[W3.heap.size]? = some (.cells #[.int .i64 m.f0.f0, .int .i64 m.f0.f1, .int .i64 m.f1.f0.f0, .int .i64 m.f1.f0.f1, .int .i64 m.f1.f1, .slice A5 m.f1.f2.length c5, .slice A6 m.f1.f3.length c6] 74 (0, 0)) by rw [hW8]; exact blk_far (HF7.out _ _ (by have := Y4.out; omega) Z7.out) (by have := Y4.out; simp only; omega) _)
  have KN := Aside0.mk (show Kd.N k74 74 W8 w.heap.size (fun q => (P q ∧ q < w.heap.size) ∨ w.heap.size + 4 ≤ q) (.slice A17 lr.length c17) lr by rw [hW8]; exact Kd.N_mono (Kd.N_far HN7.out (fun q hq => by have := Z4.out; rcases hq with ⟨_, hq⟩ | hq <;> simp only <;> omega) _) (fun q hq => hq.imp id (fun h => by have := Z4.out; omega)))
  have KB := Aside0.mk (show Below w.heap.size w W8 by rw [hW8]; exact below_set HB7.out (Nat.le_refl _))
  have k0 : W8.cell? ⟨w.heap.size, 0, none⟩ = some (.int .i64 room) := by rw [blk_cell K0.out]; rfl
  have k1 : W8.cell? ⟨w.heap.size, 1, none⟩ = some (.slice A17 lr.length c17) := by rw [blk_cell K0.out]; rfl
  have k0' : ∀ bb, (W8.alloc bb).cell? ⟨w.heap.size, 0, none⟩ = some (.int .i64 room) := fun bb => by rw [blk_cell (blk_alloc K0.out bb)]; rfl
  have k1' : ∀ bb, (W8.alloc bb).cell? ⟨w.heap.size, 1, none⟩ = some (.slice A17 lr.length c17) := fun bb => by rw [blk_cell (blk_alloc K0.out bb)]; rfl
  have m0 : W8.cell? ⟨W3.heap.size, 0, none⟩ = some (.int .i64 m.f0.f0) := by rw [blk_cell K7.out]; rfl
  have m1 : W8.cell? ⟨W3.heap.size, 1, none⟩ = some (.int .i64 m.f0.f1) := by rw [blk_cell K7.out]; rfl
  have m2 : W8.cell? ⟨W3.heap.size, 2, none⟩ = some (.int .i64 m.f1.f0.f0) := by rw [blk_cell K7.out]; rfl
  have m3 : W8.cell? ⟨W3.heap.size, 3, none⟩ = some (.int .i64 m.f1.f0.f1) := by rw [blk_cell K7.out]; rfl
  have m4 : W8.cell? ⟨W3.heap.size, 4, none⟩ = some (.int .i64 m.f1.f1) := by rw [blk_cell K7.out]; rfl
  have m5 : W8.cell? ⟨W3.heap.size, 5, none⟩ = some (.slice A5 m.f1.f2.length c5) := by rw [blk_cell K7.out]; rfl
  have m6 : W8.cell? ⟨W3.heap.size, 6, none⟩ = some (.slice A6 m.f1.f3.length c6) := by rw [blk_cell K7.out]; rfl
  have KC := Aside0.mk (fun (g : Nat) (W : World) (h : W.heap[g]? = some (.cells #[.int .i64 m.f0.f0, .int .i64 m.f0.f1, .int .i64 m.f1.f0.f0, .int .i64 m.f1.f0.f1, .int .i64 m.f1.f1, .slice A5 m.f1.f2.length c5, .slice A6 m.f1.f3.length c6] 74 (0, 0))) (hB : Below w.heap.size w W) => one_C h Hl5.out (Kd.C_below Hi5.out hB) Hl6.out (Kd.C_below Hi6.out hB))
  clear hW8
  go_region_law ((go_simp; go_at_call 52; refine (stanchionref00_CopyMails.calls kc (some ⟨W8.heap.size, 0, none⟩) 1 [m] [m] _ (KC.out _ _ (blk_new W8.drew _) (below_alloc (below_drew1 KB.out) _)) (Nat.le_refl _) Hkc.out).mono ?_; rintro e w10 ⟨v10, rfl, hR10, hB10⟩; obtain ⟨g44, c44, e44, hge, hlt, cells44, hgc⟩ := Kd.R_form hR10 (by simp); subst e44; obtain ⟨c7, hcl, hM, hcell, hfr⟩ := Kd.R_elem hR10 z74 (0 : Int) (by omega) (by simp); obtain ⟨v5, v6, rfl, r5, r6⟩ := k74_openM hM; obtain ⟨B5, z5, e5⟩ := Kd.R_slice r5; subst e5; obtain ⟨B6, z6, e6⟩ := Kd.R_slice r6; subst e6; have hd10 : Below W8.drew.heap.size W8.drew w10 := Below.trans (below_alloc (Below.refl _ _) _) (hB10.mono (below_alloc (Below.refl _ _) _).size); have S10 := hd10.size; have x0 : w10.cell? ⟨g44, 0, none⟩ = some (.int .i64 m.f0.f0) := (by simpa using hcell 0 _ rfl); have x1 : w10.cell? ⟨g44, 1, none⟩ = some (.int .i64 m.f0.f1) := (by simpa using hcell 1 _ rfl); have x2 : w10.cell? ⟨g44, 2, none⟩ = some (.int .i64 m.f1.f0.f0) := (by simpa using hcell 2 _ rfl); have x3 : w10.cell? ⟨g44, 3, none⟩ = some (.int .i64 m.f1.f0.f1) := (by simpa using hcell 3 _ rfl); have x4 : w10.cell? ⟨g44, 4, none⟩ = some (.int .i64 m.f1.f1) := (by simpa using hcell 4 _ rfl); have x5 : w10.cell? ⟨g44, 5, none⟩ = some (.slice B5 m.f1.f2.length z5) := (by simpa using hcell 5 _ rfl); have x6 : w10.cell? ⟨g44, 6, none⟩ = some (.slice B6 m.f1.f3.length z6) := (by simpa using hcell 6 _ rfl); have K0' := blk_below (blk_drew K0.out) hd10; have K1' := blk_below (blk_drew K1.out) hd10; have K2' := blk_below (blk_drew K2.out) hd10; have h0 : w10.cell? ⟨w.heap.size, 0, none⟩ = some (.int .i64 room) := (by rw [blk_cell K0']; rfl); have h1 : w10.cell? ⟨w.heap.size, 1, none⟩ = some (.slice A17 lr.length c17) := (by rw [blk_cell K0']; rfl); have f0 : w10.cell? ⟨w.heap.size + 1, 0, none⟩ = some (.int .i64 0) := (by rw [blk_cell K1']; rfl); have f1 : w10.cell? ⟨w.heap.size + 1, 1, none⟩ = some (.slice none 0 0) := (by rw [blk_cell K1']; rfl); have fz0 := blk_frozen K1' 0; have fz1 := blk_frozen K1' 1; have g0 : w10.cell? ⟨w.heap.size + 1 + 1, 0, none⟩ = some (.int .i64 0) := (by rw [blk_cell K2']; rfl); have gz0 := blk_frozen K2' 0; have g1 : w10.cell? ⟨w.heap.size + 1 + 1, 1, none⟩ = some (.int .i64 0) := (by rw [blk_cell K2']; rfl); have gz1 := blk_frozen K2' 1; have g2 : w10.cell? ⟨w.heap.size + 1 + 1, 2, none⟩ = some (.int .i64 0) := (by rw [blk_cell K2']; rfl); have gz2 := blk_frozen K2' 2; have g3 : w10.cell? ⟨w.heap.size + 1 + 1, 3, none⟩ = some (.int .i64 0) := (by rw [blk_cell K2']; rfl); have gz3 := blk_frozen K2' 3; have g4 : w10.cell? ⟨w.heap.size + 1 + 1, 4, none⟩ = some (.int .i64 0) := (by rw [blk_cell K2']; rfl); have gz4 := blk_frozen K2' 4; have g5 : w10.cell? ⟨w.heap.size + 1 + 1, 5, none⟩ = some (.slice none 0 0) := (by rw [blk_cell K2']; rfl); have gz5 := blk_frozen K2' 5; have g6 : w10.cell? ⟨w.heap.size + 1 + 1, 6, none⟩ = some (.slice none 0 0) := (by rw [blk_cell K2']; rfl); have gz6 := blk_frozen K2' 6; have n1 : g44 ≠ w.heap.size + 1 := (by have := blk_lt K1.out; have : (W8.drew.alloc (.cells #[.int .i64 m.f0.f0, .int .i64 m.f0.f1, .int .i64 m.f1.f0.f0, .int .i64 m.f1.f0.f1, .int .i64 m.f1.f1, .slice A5 m.f1.f2.length c5, .slice A6 m.f1.f3.length c6] 74)).heap.size = W8.heap.size + 1 := Array.size_push ..; omega); have n1' := n1.symm; have n2 : g44 ≠ w.heap.size + 1 + 1 := (by have := blk_lt K2.out; have : (W8.drew.alloc (.cells #[.int .i64 m.f0.f0, .int .i64 m.f0.f1, .int .i64 m.f1.f0.f0, .int .i64 m.f1.f0.f1, .int .i64 m.f1.f1, .slice A5 m.f1.f2.length c5, .slice A6 m.f1.f3.length c6] 74)).heap.size = W8.heap.size + 1 := Array.size_push ..; omega); have n2' := n2.symm; have RF := Aside0.mk (show RFin w w10 P w.heap.size _ _ _ lr m.f1.f2 m.f1.f3 (fun _ => True) from ⟨Kd.N_below (Kd.N_drew KN.out) hd10, Kd.R_mono (Kd.R_lower r5 (below_alloc (below_drew1 KB.out) _).size) (fun _ _ => trivial), Kd.R_mono (Kd.R_lower r6 (below_alloc (below_drew1 KB.out) _).size) (fun _ _ => trivial), ⟨_, K1'⟩, ⟨_, K2'⟩, below_step (below_drew1 KB.out) hd10⟩); have K1'' := Aside0.mk K1'; have K2'' := Aside0.mk K2'; clear hR10 hB10 hgc hM hcell r5 r6 hd10 K0' K1' K2' S10))
  all_goals (try go_wp2)
  all_goals (
    have T := (((((((((RF.out).set1 0 (.int .i64 room)).set1 1 (.slice A17 lr.length c17)).set2 0 (.int .i64 m.f0.f0)).set2 1 (.int .i64 m.f0.f1)).set2 2 (.int .i64 m.f1.f0.f0)).set2 3 (.int .i64 m.f1.f0.f1)).set2 4 (.int .i64 m.f1.f1)).set2 5 (.slice B5 m.f1.f2.length z5)).set2 6 (.slice B6 m.f1.f3.length z6)
    have b1 := (blk_far (blk_far (blk_far (blk_far (blk_far (blk_far (blk_far (box2 K1''.out (.int .i64 room) (.slice A17 lr.length c17)) (by simp) (p := ⟨w.heap.size + 1 + 1, 0, none⟩) (.int .i64 m.f0.f0)) (by simp) (p := ⟨w.heap.size + 1 + 1, 1, none⟩) (.int .i64 m.f0.f1)) (by simp) (p := ⟨w.heap.size + 1 + 1, 2, none⟩) (.int .i64 m.f1.f0.f0)) (by simp) (p := ⟨w.heap.size + 1 + 1, 3, none⟩) (.int .i64 m.f1.f0.f1)) (by simp) (p := ⟨w.heap.size + 1 + 1, 4, none⟩) (.int .i64 m.f1.f1)) (by simp) (p := ⟨w.heap.size + 1 + 1, 5, none⟩) (.slice B5 m.f1.f2.length z5)) (by simp) (p := ⟨w.heap.size + 1 + 1, 6, none⟩) (.slice B6 m.f1.f3.length z6))
    have b2 := (box7 (blk_far (blk_far K2''.out (by simp) (p := ⟨w.heap.size + 1, 0, none⟩) (.int .i64 room)) (by simp) (p := ⟨w.heap.size + 1, 1, none⟩) (.slice A17 lr.length c17)) (.int .i64 m.f0.f0) (.int .i64 m.f0.f1) (.int .i64 m.f1.f0.f0) (.int .i64 m.f1.f0.f1) (.int .i64 m.f1.f1) (.slice B5 m.f1.f2.length z5) (.slice B6 m.f1.f3.length z6))
    refine bodyPost_ret (results_list (rs := [.cell 4 60, .cell 5 74, .tmp 6]) rfl (by simp) (.cell (w.heap.size + 1) 60 _ (0, 0) _ rfl b1 Try.underlying60 rfl (by kernel_rfl) (.cell (w.heap.size + 1 + 1) 74 _ (0, 0) _ rfl b2 Try.underlying74 rfl (by kernel_rfl) (.tmp .nil)))) rfl ?_
    have hlr : lr = ms.eraseIdx k := by rw [HLR.out, HLK.out, List.nil_append, List.eraseIdx_eq_take_drop_succ]
    exact ⟨_, _, _, rfl, by rw [← hlr]; exact Kd.V_mono (Kd.N_V T.nv) (fun q hq => hq.imp (fun h => h.1) (fun h => by omega)), T.r5, T.r6, T.below⟩)
end Go.Proofs.Ytijccobeljoikaa.Nt
