/- stanchionlaw21.NetRoom: it returns true, and writes nothing that was there. -/
import Derived.Test.YtijccobeljoikaaNetK
import Derived.Test.YtijccobeljoikaaNetEv
import Derived.Test.YtijccobeljoikaaNetEw
namespace Go.Proofs.Ytijccobeljoikaa.Nt
open Go.RowKit Go.Proofs.YtijccobeljoikaaW.PrintWords Go.Proofs.YtijccobeljoikaaW.PrintLast Go.Proofs.YtijccobeljoikaaW.PrintMore
open Go.Proofs.Ytijccobeljoikaa.Walks
attribute [local go_sem] max2_int min2_int max_two min_two max_three min_three max_four min_four
set_option linter.unusedVariables false
set_option linter.unusedSimpArgs false

theorem Mem.fits' {m : S74} (h : Mem m) : Fits m := h.fits
theorem clamp_id {room : Int} (h0 : ¬ room < 0) (h1 : ¬ 4096 < room) : clamp room = room := by unfold clamp; split <;> (try split) <;> omega

def netRoom_T22 : Bool × List (List Nat × List Nat) := (true, [([], []), ([], []), ([1], [1]), ([2], [2]), ([3], [3]), ([4], [4]), ([5, 4], [4, 5]), ([4], [4]), ([7, 4], [4, 7]), ([6, 8, 4], [4, 6, 8]), ([4, 9], [4, 9]), ([0, 10], [0, 10]), ([11, 4], [11]), ([12], [12]), ([13, 12, 12], [12, 13]), ([14], [14]), ([15, 14], [14, 15]), ([14], [14]), ([14], [14]), ([18, 14], [14, 18]), ([14], [14]), ([20, 14], [14, 20]), ([21, 14], [14, 21]), ([17, 19, 22, 14], [14, 17, 19, 22]), ([16, 23, 14, 14], [14, 16, 23]), ([24, 14], [14, 24]), ([14, 25, 12], [12, 14, 25]), ([12, 26], [12, 26])])
def netRoom_B22 : List Nat := [0, 0, 2, 6, 14, 30, 62, 30, 158, 510, 1022, 2047, 4095, 8191, 16383, 32767, 65535, 32767, 32767, 294911, 32767, 1081343, 3178495, 8290303, 16777215, 33554431, 67108863, 134217727]
theorem netRoom_tab22 : rtab .any (opsOf Try.f16 22) = netRoom_T22 := by kernel_rfl
theorem netRoom_bits22 : waitsOk netRoom_T22.2 netRoom_B22 = true := by kernel_rfl
theorem netS_old {b : Nat} {w : World} {g : Nat} {room : Int} {v : Value} {ms : List S74} (h : NetIs b w g room v ms) {k : Nat} (hk : w.heap.size ≤ k) : ¬ NetS g v k := by
  rintro (rfl | hk')
  · have := blk_lt h.blk; omega
  · have := Kd.R_lt h.row k hk'.symm; omega
theorem own_kept {b : Nat} {w4 w5 : World} {g n c : Nat} {room : Int} {v : Value} {ms list : List S74} {A : Option Addr} {ok : Nat → Prop} (h : NetIs b w4 g room v ms) (hR : Kd.R k74 74 w5 w4.heap.size ok (.slice A n c) list) : ∀ W', Kept w5 W' (NetS g v) → Kd.C k74 W' A n list :=
  Kd.C_kept_own (Kd.R_bound hR) (fun k hk => netS_old h hk.2.1)
theorem R_len {w : World} {b : Nat} {ok : Nat → Prop} {v : Value} {xs : List S74} (h : Kd.R k74 74 w b ok v xs) : ∃ A c, v = .slice A xs.length c ∧ xs.length ≤ c ∧ Kd.C k74 w A xs.length xs := Kd.R_reads h

set_option maxHeartbeats 16000000 in
set_option maxRecDepth 100000 in
theorem netRoom_calls (room : Int) (A : Option Addr) (c : Nat) (list : List S63) (w : World) (hr : Kd.C k63 w A list.length list) (hc : list.length ≤ c) (hl : list.length < 4611686018427387904) (hm : ∀ o ∈ list, Mems o.f2) :
    Calls Try.prog 16 #[.int .i64 room, .slice A list.length c] w fun e w' => e = .returned (.bool true) ∧ Below w.heap.size w w' := by
  obtain ⟨gb, hg⟩ := ev_great list hl hm
  obtain ⟨kg, hg⟩ := hg.rounds
  have Hg := Aside0.mk hg
  have HR := Aside0.mk hr
  have HC := Aside0.mk hc
  have HM := Aside0.mk hm
  clear hr hc hg hm
  by_cases hgb : gb = true
  · subst hgb
    go_enter Try.func16, Try.ntmps16
    go_wp2_with (first
      | (go_at_call 48; refine (alive_calls _).mono ?_; rintro e w1 ⟨rfl, hB⟩; have HB1 := Aside0.mk hB; clear hB)
      | (go_at_call 49; refine (stanchionlaw21_great.calls kg A c list true _ (Kd.C_below HR.out HB1.out) HC.out Hg.out).mono ?_; rintro e w2 ⟨rfl, hB⟩; have HB2 := Aside0.mk (below_step HB1.out hB); clear hB))
    go_ret
    exact ⟨rfl, HB2.out⟩
  · replace hgb := Bool.eq_false_iff.mpr hgb
    subst hgb
    by_cases h0 : room < 0
    · have b0 : decide (room < 0) = true := decide_eq_true h0
      go_enter Try.func16, Try.ntmps16
      go_wp2_with (first
        | (go_at_call 48; refine (alive_calls _).mono ?_; rintro e w1 ⟨rfl, hB⟩; have HB1 := Aside0.mk hB; clear hB)
        | (go_at_call 49; refine (stanchionlaw21_great.calls kg A c list false _ (Kd.C_below HR.out HB1.out) HC.out Hg.out).mono ?_; rintro e w2 ⟨rfl, hB⟩; have HB2 := Aside0.mk (below_step HB1.out hB); clear hB))
      go_ret
      exact ⟨rfl, HB2.out⟩
    · have b0 : decide (room < 0) = false := decide_eq_false h0
      by_cases h1 : 4096 < room
      · have b1 : decide (4096 < room) = true := decide_eq_true h1
        go_enter Try.func16, Try.ntmps16
        go_wp2_with (first
          | (go_at_call 48; refine (alive_calls _).mono ?_; rintro e w1 ⟨rfl, hB⟩; have HB1 := Aside0.mk hB; clear hB)
          | (go_at_call 49; refine (stanchionlaw21_great.calls kg A c list false _ (Kd.C_below HR.out HB1.out) HC.out Hg.out).mono ?_; rintro e w2 ⟨rfl, hB⟩; have HB2 := Aside0.mk (below_step HB1.out hB); clear hB))
        go_ret
        exact ⟨rfl, HB2.out⟩
      · have b1 : decide (4096 < room) = false := decide_eq_false h1
        have hcl := Aside0.mk (clamp_id h0 h1)
        go_enter Try.func16, Try.ntmps16
        go_wp2_with (first
          | (go_at_call 48; refine (alive_calls _).mono ?_; rintro e w1 ⟨rfl, hB⟩; have HB1 := Aside0.mk hB; clear hB)
          | (go_at_call 49; refine (stanchionlaw21_great.calls kg A c list false _ (Kd.C_below HR.out HB1.out) HC.out Hg.out).mono ?_; rintro e w2 ⟨rfl, hB⟩; have HB2 := Aside0.mk (below_step HB1.out hB); clear hB)
          | (go_at_call 50; refine (new_calls w.heap.size _ room HB2.out.size).mono ?_; rintro e w3 ⟨g, v0, rfl, hN, hg, hv, hB⟩; rw [hcl.out] at hN; have HN0 := Aside0.mk hN; have HB3 := Aside0.mk (below_step HB2.out hB); clear hN hg hv hB))
        go_loopw [6, 7] (fun vin vi wr => ∃ (i : Nat) (v : Value) (ms : List S74), vin = .int .i64 (ms.length : Int) ∧ vi = .int .i64 (i : Int) ∧ i ≤ list.length ∧ (ms.length : Int) ≤ room ∧ Aside0 (NetIs w.heap.size wr g room v ms) ∧ Aside0 (Below w.heap.size w wr)) (fun _ vi _ => list.length - (intOf vi).toNat)
        case atStart => exact ⟨0, v0, [], rfl, rfl, Nat.zero_le _, by simp; omega, HN0, HB3⟩
        case round =>
          clear b0 b1
          obtain ⟨i, v, ms, rfl, rfl, hi, hms, HN, HB⟩ := hrel
          by_cases hlt : i < list.length
          · have b0 : decide ((i : Int) < (list.length : Int)) = true := decide_eq_true (by omega)
            have b1 : (0 ≤ (i : Int)) = True := eq_true (by omega)
            have b2 : ((i : Int) < (list.length : Int)) = True := eq_true (by omega)
            obtain ⟨ad, A2, c2, e, hx0, hx1, hx2, hl2, hi2⟩ := at_T63 (Kd.C_below HR.out HB.out) (i : Int) (by omega) (by omega)
            subst e
            obtain ⟨o, ho⟩ : ∃ o, o = rd_T63 list (i : Int) := ⟨_, rfl⟩
            rw [← ho] at hx0 hx1 hx2 hl2 hi2
            rw [Int.toNat_natCast] at hx0 hx1 hx2
            have hom : o ∈ list := by rw [ho, rd63_at hlt]; exact List.getElem_mem hlt
            have Hom := Aside0.mk (HM.out o hom)
            have Hl2 := Aside0.mk hl2
            have Hi2 := Aside0.mk hi2
            clear ho hom hl2 hi2 HN0 HB3 HB2 HB1
            have hbr : w.heap.size ≤ wr.heap.size := HB.out.size
            obtain ⟨bo, hbo⟩ : ∃ bo, bo = Obj.cells #[.int .i64 o.f0, .int .i64 o.f1, .slice A2 o.f2.length c2] 63 := ⟨_, rfl⟩
            go_wp2_with (fail)
            rw [← hbo]
            have HN1 := Aside0.mk (HN.out.below (below_alloc (Below.refl wr.heap.size wr) bo))
            have e1 : (wr.alloc bo).heap.size = wr.heap.size + 1 := Array.size_push ..
            refine (all_calls w.heap.size _ g room v ms HN1.out (by rw [e1]; omega)).mono ?_
            rintro e w4 ⟨v7, rfl, hR7, hB4⟩
            have hb4 := hB4.size
            have HBX4 := Aside0.mk (show w4.heap[wr.heap.size]? = some (.cells #[.int .i64 o.f0, .int .i64 o.f1, .slice A2 o.f2.length c2] 63 (0, 0)) from blk_below (by rw [hbo]; exact blk_new wr _) hB4)
            have HN4 := Aside0.mk (HN1.out.below hB4)
            have HI4 := Aside0.mk (Kd.C_below (Kd.C_alloc Hi2.out bo) hB4)
            have HW4 := Aside0.mk (below_step (below_alloc HB.out bo) hB4)
            have HS4 := Aside0.mk (show wr.heap.size < w4.heap.size by omega)
            have HG4 := Aside0.mk (blk_lt HN.out.blk)
            have HV4 := Aside0.mk (fun (k : Nat) (hk : wr.heap.size ≤ k) => netS_old HN.out hk)
            obtain ⟨A7, c7, e7, hc7, hC7⟩ := R_len hR7
            subst e7
            have HR7 := Aside0.mk (Kd.R_lower (base' := wr.heap.size) hR7 (by omega))
            have Hc7 := Aside0.mk hc7
            have hms4 : ms.length ≤ 4096 := by omega
            have y0 : w4.cell? ⟨wr.heap.size, 0, none⟩ = some (.int .i64 o.f0) := by rw [blk_cell HBX4.out]; rfl
            have y1 : w4.cell? ⟨wr.heap.size, 1, none⟩ = some (.int .i64 o.f1) := by rw [blk_cell HBX4.out]; rfl
            have y2 : w4.cell? ⟨wr.heap.size, 2, none⟩ = some (.slice A2 o.f2.length c2) := by rw [blk_cell HBX4.out]; rfl
            clear hbo hx0 hx1 hx2 hR7 hB4 e1 hb4 hC7 hc7 hbr HN HN1
            by_cases w1 : o.f0 = 1
            · have d1 : (o.f0 == 1) = true := by simp [w1]
              obtain ⟨kc, hkc⟩ := (ev_copyMails Hom.out).rounds
              have Hkc := Aside0.mk hkc
              clear hkc w1
              go_wp2_with (fail)
              refine (stanchionref00_CopyMails.calls kc A2 c2 o.f2 o.f2 _ HI4.out Hl2.out Hkc.out).mono ?_
              rintro e w5 ⟨v8, rfl, hR8, hB5⟩
              obtain ⟨A8, c8, e8, hc8, hC8⟩ := R_len hR8
              subst e8
              have HN5 := Aside0.mk (HN4.out.below hB5)
              have HW5 := Aside0.mk (below_step HW4.out hB5)
              have HBX5 := Aside0.mk (blk_below HBX4.out hB5)
              have HK8 := Aside0.mk (own_kept HN4.out hR8)
              have Hc8 := Aside0.mk hc8
              have HS5 := Aside0.mk (Nat.lt_of_lt_of_le HS4.out hB5.size)
              obtain ⟨fit, hfit⟩ : ∃ fit : Nat, (fit : Int) = min (o.f2.length : Int) (room - ms.length) := ⟨(min (o.f2.length : Int) (room - ms.length)).toNat, by omega⟩
              have Hfit := Aside0.mk hfit
              have hol := Hom.out.1
              clear hR8 hB5 hC8 hc8 hfit y0 y1 y2
              go_wp2_with (fail)
              refine (post_calls w.heap.size w _ g room v ms HN5.out HW5.out.size HW5.out hms (by omega) A8 c8 o.f2 Hc8.out HK8.out (fun m hx => (Hom.out.2 m hx).fits') (by omega) fit Hfit.out).mono ?_
              rintro e w6 ⟨rfl, v', hN6, hA6, hK6, hB6⟩
              have hbx6 := blk_kept HBX5.out hK6 (HV4.out _ (Nat.le_refl _))
              have HN6 := Aside0.mk hN6
              have HB6 := Aside0.mk hB6
              have z2 : w6.cell? ⟨wr.heap.size, 2, none⟩ = some (.slice A2 o.f2.length c2) := by rw [blk_cell hbx6]; rfl
              obtain ⟨q, hq⟩ : ∃ q : Nat, q = o.f2.length - fit := ⟨_, rfl⟩
              obtain ⟨n', hn'⟩ : ∃ n' : Nat, n' = (ms ++ o.f2.take fit).length := ⟨_, rfl⟩
              have hnq : (n' : Int) = (ms.length : Int) + ((o.f2.length : Int) - (q : Int)) := by rw [hn', List.length_append, List.length_take]; have := Hfit.out; omega
              have hnr : (n' : Int) ≤ room := by rw [hn', List.length_append, List.length_take]; have := Hfit.out; omega
              have hqr : 0 < q → (n' : Int) = room := by rw [hn', List.length_append, List.length_take]; have := Hfit.out; omega
              have hql : q ≤ o.f2.length := by omega
              rw [← hq]
              have HNQ := Aside0.mk hnq
              have HNN := Aside0.mk hn'
              clear hN6 hA6 hK6 hB6 hbx6 hq hn' hnq
              have d6 : ((n' : Int) != ((ms.length : Int) + ((o.f2.length : Int) - (q : Int)))) = false := bne_eq_false_iff_eq.mpr HNQ.out
              have d7 : decide (room < (ms.length : Int) + ((o.f2.length : Int) - (q : Int))) = false := decide_eq_false (by have := HNQ.out; omega)
              have d4 : decide ((o.f2.length : Int) < (q : Int)) = false := decide_eq_false (by omega)
              have d4' : decide (o.f2.length < q) = false := decide_eq_false (by omega)
              by_cases hq0 : 0 < q
              · have d2 : ((n' : Int) != room) = false := bne_eq_false_iff_eq.mpr (hqr hq0)
                have d3 : decide (0 < q) = true := decide_eq_true hq0
                clear hqr
                go_wp2_with (first
                  | (go_at_call 61; refine (len_calls w.heap.size _ g room v' _ HN6.out).mono ?_; rintro e w7 ⟨rfl, hw7⟩; rw [hw7, ← HNN.out]; clear hw7)
                  | (go_at_call 60; refine (all_calls w.heap.size _ g room v' _ HN6.out HB6.out.size).mono ?_; rintro e w7 ⟨v9, rfl, hR9, hB9⟩; obtain ⟨A9, c9, e9, _, _⟩ := R_len hR9; subst e9; rw [← HNN.out]; have HN9 := Aside0.mk (HN6.out.below hB9); have HB9 := Aside0.mk (below_step HB6.out hB9); clear hR9 hB9))
                exact ⟨⟨i + 1, v', ms ++ o.f2.take fit, by rw [← HNN.out, HNQ.out], by simp, by omega, by rw [← HNN.out]; exact hnr, HN9, HB9⟩, by simp only [intOf]; omega⟩
              · have d3 : decide (0 < q) = false := decide_eq_false hq0
                clear hqr
                go_wp2_with (first
                  | (go_at_call 61; refine (len_calls w.heap.size _ g room v' _ HN6.out).mono ?_; rintro e w7 ⟨rfl, hw7⟩; rw [hw7, ← HNN.out]; clear hw7)
                  | (go_at_call 60; refine (all_calls w.heap.size _ g room v' _ HN6.out HB6.out.size).mono ?_; rintro e w7 ⟨v9, rfl, hR9, hB9⟩; obtain ⟨A9, c9, e9, _, _⟩ := R_len hR9; subst e9; rw [← HNN.out]; have HN9 := Aside0.mk (HN6.out.below hB9); have HB9 := Aside0.mk (below_step HB6.out hB9); clear hR9 hB9))
                exact ⟨⟨i + 1, v', ms ++ o.f2.take fit, by rw [← HNN.out, HNQ.out], by simp, by omega, by rw [← HNN.out]; exact hnr, HN9, HB9⟩, by simp only [intOf]; omega⟩
            · have d1 : (o.f0 == 1) = false := by simp [w1]
              by_cases w2 : o.f0 = 2
              · have d2 : (o.f0 == 2) = true := by simp [w2]
                by_cases hk : 0 ≤ o.f1 ∧ o.f1 < (ms.length : Int)
                · obtain ⟨k, hk1⟩ : ∃ k : Nat, o.f1 = (k : Int) := ⟨o.f1.toNat, by omega⟩
                  have hkl : k < ms.length := by omega
                  have HK1 := Aside0.mk hk1
                  rw [hk1] at y1
                  clear w1 w2 hk hk1
                  go_wp2_with (fail)
                  refine (take_ok w.heap.size w _ g room v ms k HN4.out HW4.out.size HW4.out hkl).mono ?_
                  rintro e w5 ⟨v5, v6, v', rfl, hM5, hN5, hv5, hK5, hB5⟩
                  have hfm : Fits ms[k] := HN4.out.fits _ (List.getElem_mem hkl)
                  have hmid : (ms.take (k + 1)).drop k = [ms[k]] := by rw [← List.take_append_getElem hkl, List.drop_append_of_le_length (by rw [List.length_take]; omega), List.drop_eq_nil_of_le (by rw [List.length_take]; omega)]; rfl
                  have hC7 := Kd.C_kept_own (Kd.R_bound HR7.out) (fun q hq => HV4.out q hq.2.1) w5 hK5
                  have hC10 := Kd.C_mid (c := c7) hC7 (Nat.le_succ k) hkl Hc7.out
                  rw [hmid] at hC10
                  obtain ⟨m, hmk⟩ : ∃ m, m = ms[k] := ⟨_, rfl⟩
                  rw [← hmk] at hM5 hC10 hfm ⊢
                  obtain ⟨u5, u6, he, r5, r6⟩ := k74_openM hM5
                  simp [mailV] at he
                  obtain ⟨rfl, rfl⟩ := he
                  obtain ⟨A5, c5, e5, hl5, hC5⟩ := Kd.R_reads r5
                  subst e5
                  obtain ⟨A6, c6, e6, hl6, hC6⟩ := Kd.R_reads r6
                  subst e6
                  obtain ⟨i0, hi0, _, hsz, _⟩ := info_parts info74
                  have hcut := cut_mid (P := Try.prog) 58 74 .i64 .i64 Try.underlying58 hi0 7 hsz A7 ms.length c7 (k : Int) ((k : Int) + 1) (by omega) (by omega) (by omega) Hc7.out
                  rw [show ((k : Int) + 1).toNat = k + 1 by omega, Int.toNat_natCast, Nat.add_sub_cancel_left] at hcut
                  obtain ⟨A10, hA10⟩ : ∃ A10, A10 = if c7 = k then A7 else A7.map (·.add (k * 7)) := ⟨_, rfl⟩
                  rw [← hA10] at hcut
                  have HC10 := Aside0.mk (show Kd.C k74 w5 A10 [m].length [m] by rw [hA10]; exact hC10)
                  have HC5 := Aside0.mk hC5
                  have HC6 := Aside0.mk hC6
                  have Hl5 := Aside0.mk hl5
                  have Hl6 := Aside0.mk hl6
                  have HN5 := Aside0.mk hN5
                  have HB5 := Aside0.mk hB5
                  have hc71 : 1 ≤ c7 - k := by have := Hc7.out; omega
                  have Hc71 := Aside0.mk hc71
                  obtain ⟨ks, hks⟩ := (ev_sameMails (a := [m]) (by simp) (by simpa using hfm)).rounds
                  have Hks := Aside0.mk hks
                  have hbx5 := blk_kept HBX4.out hK5 (HV4.out _ (Nat.le_refl _))
                  rw [HK1.out] at hbx5
                  have HBX5 := Aside0.mk hbx5
                  have z1 : ∀ (bb : Obj), (w5.alloc bb).cell? ⟨wr.heap.size, 1, none⟩ = some (.int .i64 k) := fun bb => by rw [blk_cell (blk_alloc hbx5 bb)]; rfl
                  have e5 : (ms.eraseIdx k).length = ms.length - 1 := by rw [List.length_eraseIdx, if_pos hkl]
                  have He5 := Aside0.mk e5
                  simp only [mailV]
                  clear y0 y1 y2 hM5 hC10 hfm hC7 hmid r5 r6 hl5 hl6 hC5 hC6 hA10 hi0 hsz hN5 hB5 hK5 hbx5 hks hv5 e5 hc71 hmk
                  go_wp2_with (fail)
                  obtain ⟨W6, hW6⟩ : ∃ W6, W6 = w5.alloc (Obj.cells #[.int .i64 m.f0.f0, .int .i64 m.f0.f1, .int .i64 m.f1.f0.f0, .int .i64 m.f1.f0.f1, .int .i64 m.f1.f1, .slice A5 m.f1.f2.length c5, .slice A6 m.f1.f3.length c6] 74) := ⟨_, rfl⟩
                  rw [← hW6]
                  have HX6 := Aside0.mk (show W6.heap[wr.heap.size]? = some (.cells #[.int .i64 o.f0, .int .i64 k, .slice A2 o.f2.length c2] 63 (0, 0)) by rw [hW6]; exact blk_alloc HBX5.out _)
                  have HY6 := Aside0.mk (show W6.heap[w5.heap.size]? = some (.cells #[.int .i64 m.f0.f0, .int .i64 m.f0.f1, .int .i64 m.f1.f0.f0, .int .i64 m.f1.f0.f1, .int .i64 m.f1.f1, .slice A5 m.f1.f2.length c5, .slice A6 m.f1.f3.length c6] 74 (0, 0)) by rw [hW6]; exact blk_new _ _)
                  have HC10' := Aside0.mk (show Kd.C k74 W6 A10 [m].length [m] by rw [hW6]; exact Kd.C_alloc HC10.out _)
                  have HC5' := Aside0.mk (show (Kd.int .u8).C W6 A5 m.f1.f2.length m.f1.f2 by rw [hW6]; exact Kd.C_alloc HC5.out _)
                  have HC6' := Aside0.mk (show (Kd.slice 5 (Kd.int .u8)).C W6 A6 m.f1.f3.length m.f1.f3 by rw [hW6]; exact Kd.C_alloc HC6.out _)
                  have HN6 := Aside0.mk (show NetIs w.heap.size W6 g room v' (ms.eraseIdx k) by rw [hW6]; exact HN5.out.below (below_alloc (Below.refl _ _) _))
                  have HB6 := Aside0.mk (show Below w.heap.size w W6 by rw [hW6]; exact below_alloc HB5.out _)
                  have p1 : W6.cell? ⟨wr.heap.size, 1, none⟩ = some (.int .i64 k) := by rw [blk_cell HX6.out]; rfl
                  have p2 : ∀ (bb : Obj), (W6.alloc bb).cell? ⟨wr.heap.size, 1, none⟩ = some (.int .i64 k) := fun bb => by rw [blk_cell (blk_alloc HX6.out bb)]; rfl
                  have q0 : W6.cell? ⟨w5.heap.size, 0, none⟩ = some (.int .i64 m.f0.f0) := by rw [blk_cell HY6.out]; rfl
                  have q1 : W6.cell? ⟨w5.heap.size, 1, none⟩ = some (.int .i64 m.f0.f1) := by rw [blk_cell HY6.out]; rfl
                  have q2 : W6.cell? ⟨w5.heap.size, 2, none⟩ = some (.int .i64 m.f1.f0.f0) := by rw [blk_cell HY6.out]; rfl
                  have q3 : W6.cell? ⟨w5.heap.size, 3, none⟩ = some (.int .i64 m.f1.f0.f1) := by rw [blk_cell HY6.out]; rfl
                  have q4 : W6.cell? ⟨w5.heap.size, 4, none⟩ = some (.int .i64 m.f1.f1) := by rw [blk_cell HY6.out]; rfl
                  have q5 : W6.cell? ⟨w5.heap.size, 5, none⟩ = some (.slice A5 m.f1.f2.length c5) := by rw [blk_cell HY6.out]; rfl
                  have q6 : W6.cell? ⟨w5.heap.size, 6, none⟩ = some (.slice A6 m.f1.f3.length c6) := by rw [blk_cell HY6.out]; rfl
                  have hw64 : wrap64 ((k : Int) + 1) = (k : Int) + 1 := w64 (by omega) (by omega)
                  have hkl2 : decide ((k : Int) < (ms.length : Int)) = true := decide_eq_true (by omega)
                  have hkl3 : decide (k < ms.length) = true := decide_eq_true hkl
                  clear z1 hW6
                  refine start_ (n := 28) (S := fun w' => w'.cell? ⟨wr.heap.size, 1, none⟩ = some (.int .i64 (k : Int)) ∧ w'.cell? ⟨w5.heap.size, 0, none⟩ = some (.int .i64 m.f0.f0) ∧ w'.cell? ⟨w5.heap.size, 1, none⟩ = some (.int .i64 m.f0.f1) ∧ w'.cell? ⟨w5.heap.size, 2, none⟩ = some (.int .i64 m.f1.f0.f0) ∧ w'.cell? ⟨w5.heap.size, 3, none⟩ = some (.int .i64 m.f1.f0.f1) ∧ w'.cell? ⟨w5.heap.size, 4, none⟩ = some (.int .i64 m.f1.f1) ∧ w'.cell? ⟨w5.heap.size, 5, none⟩ = some (.slice A5 m.f1.f2.length c5) ∧ w'.cell? ⟨w5.heap.size, 6, none⟩ = some (.slice A6 m.f1.f3.length c6) ∧ Below W6.heap.size W6 w') (ds := []) #[false, false, false, false, false, false, false, false, false, false, false, false, false, false, false, false, false, false, false, false, false, false, false, false, false, false, false, false] (by kernel_rfl) rfl rfl ⟨p1, q0, q1, q2, q3, q4, q5, q6, below_drew1 (Below.refl _ _)⟩ (fun hHeld => ?_)
                  clear p1 p2 q0 q1 q2 q3 q4 q5 q6
                  generalize W6.drew = w8 at hHeld ⊢
                  refine with_tabW netRoom_tab22 netRoom_bits22 (fun HT_ HW_ => ?_)
                  refine pure_ (i := 0) (N := some 85) (v := ?_) (a' := ?_) #[true, false, false, false, false, false, false, false, false, false, false, false, false, false, false, false, false, false, false, false, false, false, false, false, false, false, false, false] rfl rfl (any_of HT_.out (by kernel_rfl)) (fun _ _ _ h => h) (Or.inl ⟨by rfl, ?_⟩) ?_ ?_
                  rotate_left
                  · intro w'
                    go_simp
                    with_reducible rfl
                  rotate_left
                  · simp only [Act.put, List.setIfInBounds_toArray, List.set_cons_zero, List.set_cons_succ, i64_w, i32_w]
                    rfl
                  refine pure_ (i := 1) (N := some 86) (v := ?_) (a' := ?_) #[true, true, false, false, false, false, false, false, false, false, false, false, false, false, false, false, false, false, false, false, false, false, false, false, false, false, false, false] rfl rfl (any_of HT_.out (by kernel_rfl)) (fun _ _ _ h => h) (Or.inl ⟨by rfl, ?_⟩) ?_ ?_
                  rotate_left
                  · intro w'
                    go_simp
                    with_reducible rfl
                  rotate_left
                  · simp only [Act.put, List.setIfInBounds_toArray, List.set_cons_zero, List.set_cons_succ, i64_w, i32_w]
                    rfl
                  refine take_ (i := 2) (N := some 87) (v := ?_) (a' := ?_) #[true, true, true, false, false, false, false, false, false, false, false, false, false, false, false, false, false, false, false, false, false, false, false, false, false, false, false, false] rfl rfl (take_ofW HT_.out HW_.out (by kernel_rfl)) (fun _ _ _ h => h) (Or.inl ⟨by rfl, ?_⟩) hHeld ?_ ?_
                  rotate_left
                  · rintro w' ⟨s0, s1, s2, s3, s4, s5, s6, s7, s8⟩
                    go_simp
                    with_reducible rfl
                  rotate_left
                  · simp only [Act.put, List.setIfInBounds_toArray, List.set_cons_zero, List.set_cons_succ, i64_w, i32_w]
                    rfl
                  refine pure_ (i := 3) (N := some 88) (v := ?_) (a' := ?_) #[true, true, true, true, false, false, false, false, false, false, false, false, false, false, false, false, false, false, false, false, false, false, false, false, false, false, false, false] rfl rfl (any_of HT_.out (by kernel_rfl)) (fun _ _ _ h => h) (Or.inl ⟨by rfl, ?_⟩) ?_ ?_
                  rotate_left
                  · intro w'
                    go_simp
                    with_reducible rfl
                  rotate_left
                  · simp only [Act.put, List.setIfInBounds_toArray, List.set_cons_zero, List.set_cons_succ, i64_w, i32_w]
                    rfl
                  refine pure_ (i := 4) (N := some 89) (v := ?_) (a' := ?_) #[true, true, true, true, true, false, false, false, false, false, false, false, false, false, false, false, false, false, false, false, false, false, false, false, false, false, false, false] rfl rfl (any_of HT_.out (by kernel_rfl)) (fun _ _ _ h => h) (Or.inl ⟨by rfl, ?_⟩) ?_ ?_
                  rotate_left
                  · intro w'
                    go_simp
                    with_reducible rfl
                  rotate_left
                  · simp only [Act.put, List.setIfInBounds_toArray, List.set_cons_zero, List.set_cons_succ, i64_w, i32_w]
                    rfl
                  refine pure_ (i := 5) (N := some 90) (v := ?_) (a' := ?_) #[true, true, true, true, true, true, false, false, false, false, false, false, false, false, false, false, false, false, false, false, false, false, false, false, false, false, false, false] rfl rfl (any_of HT_.out (by kernel_rfl)) (fun _ _ _ h => h) (Or.inl ⟨by rfl, ?_⟩) ?_ ?_
                  rotate_left
                  · intro w'
                    go_simp
                    with_reducible rfl
                  rotate_left
                  · simp only [Act.put, List.setIfInBounds_toArray, List.set_cons_zero, List.set_cons_succ, i64_w, i32_w]
                    rfl
                  refine take_ (i := 6) (N := some 91) (v := ?_) (a' := ?_) #[true, true, true, true, true, true, true, false, false, false, false, false, false, false, false, false, false, false, false, false, false, false, false, false, false, false, false, false] rfl rfl (take_ofW HT_.out HW_.out (by kernel_rfl)) (fun _ _ _ h => h) (Or.inl ⟨by rfl, ?_⟩) hHeld ?_ ?_
                  rotate_left
                  · rintro w' ⟨s0, s1, s2, s3, s4, s5, s6, s7, s8⟩
                    go_simp
                    with_reducible rfl
                  rotate_left
                  · simp only [Act.put, List.setIfInBounds_toArray, List.set_cons_zero, List.set_cons_succ, i64_w, i32_w]
                    rfl
                  refine pure_ (i := 7) (N := some 92) (v := ?_) (a' := ?_) #[true, true, true, true, true, true, true, true, false, false, false, false, false, false, false, false, false, false, false, false, false, false, false, false, false, false, false, false] rfl rfl (any_of HT_.out (by kernel_rfl)) (fun _ _ _ h => h) (Or.inl ⟨by rfl, ?_⟩) ?_ ?_
                  rotate_left
                  · intro w'
                    go_simp
                    with_reducible rfl
                  rotate_left
                  · simp only [Act.put, List.setIfInBounds_toArray, List.set_cons_zero, List.set_cons_succ, i64_w, i32_w]
                    rfl
                  refine pure_ (i := 8) (N := some 93) (v := ?_) (a' := ?_) #[true, true, true, true, true, true, true, true, true, false, false, false, false, false, false, false, false, false, false, false, false, false, false, false, false, false, false, false] rfl rfl (any_of HT_.out (by kernel_rfl)) (fun _ _ _ h => h) (Or.inl ⟨by rfl, ?_⟩) ?_ ?_
                  rotate_left
                  · intro w'
                    go_simp
                    with_reducible rfl
                  rotate_left
                  · simp only [Act.put, List.setIfInBounds_toArray, List.set_cons_zero, List.set_cons_succ, i64_w, i32_w]
                    rfl
                  refine pure_ (i := 9) (N := some 94) (v := ?_) (a' := ?_) #[true, true, true, true, true, true, true, true, true, true, false, false, false, false, false, false, false, false, false, false, false, false, false, false, false, false, false, false] rfl rfl (any_of HT_.out (by kernel_rfl)) (fun _ _ _ h => h) (Or.inl ⟨by rfl, ?_⟩) ?_ ?_
                  rotate_left
                  · intro w'
                    go_simp
                    with_reducible rfl
                  rotate_left
                  · simp only [Act.put, List.setIfInBounds_toArray, List.set_cons_zero, List.set_cons_succ, i64_w, i32_w]
                    rfl
                  refine pure_ (i := 10) (N := some 95) (v := ?_) (a' := ?_) #[true, true, true, true, true, true, true, true, true, true, true, false, false, false, false, false, false, false, false, false, false, false, false, false, false, false, false, false] rfl rfl (any_of HT_.out (by kernel_rfl)) (fun _ _ _ h => h) (Or.inl ⟨by rfl, ?_⟩) ?_ ?_
                  rotate_left
                  · intro w'
                    go_simp
                    with_reducible rfl
                  rotate_left
                  · simp only [Act.put, List.setIfInBounds_toArray, List.set_cons_zero, List.set_cons_succ, i64_w, i32_w]
                    rfl
                  refine pure_ (i := 11) (N := some 96) (v := ?_) (a' := ?_) #[true, true, true, true, true, true, true, true, true, true, true, true, false, false, false, false, false, false, false, false, false, false, false, false, false, false, false, false] rfl rfl (any_of HT_.out (by kernel_rfl)) (fun _ _ _ h => h) (Or.inl ⟨by rfl, ?_⟩) ?_ ?_
                  rotate_left
                  · intro w'
                    go_simp
                    with_reducible rfl
                  rotate_left
                  · simp only [Act.put, List.setIfInBounds_toArray, List.set_cons_zero, List.set_cons_succ, i64_w, i32_w]
                    rfl
                  refine pure_ (i := 12) (N := some 97) (v := ?_) (a' := ?_) #[true, true, true, true, true, true, true, true, true, true, true, true, true, false, false, false, false, false, false, false, false, false, false, false, false, false, false, false] rfl rfl (any_of HT_.out (by kernel_rfl)) (fun _ _ _ h => h) (Or.inl ⟨by rfl, ?_⟩) ?_ ?_
                  rotate_left
                  · intro w'
                    go_simp
                    with_reducible rfl
                  rotate_left
                  · simp only [Act.put, List.setIfInBounds_toArray, List.set_cons_zero, List.set_cons_succ, i64_w, i32_w]
                    rfl
                  refine pure_ (i := 13) (N := some 98) (v := ?_) (a' := ?_) #[true, true, true, true, true, true, true, true, true, true, true, true, true, true, false, false, false, false, false, false, false, false, false, false, false, false, false, false] rfl rfl (any_of HT_.out (by kernel_rfl)) (fun _ _ _ h => h) (Or.inl ⟨by rfl, ?_⟩) ?_ ?_
                  rotate_left
                  · intro w'
                    go_simp
                    with_reducible rfl
                  rotate_left
                  · simp only [Act.put, List.setIfInBounds_toArray, List.set_cons_zero, List.set_cons_succ, i64_w, i32_w]
                    rfl
                  refine pure_ (i := 14) (N := some 99) (v := ?_) (a' := ?_) #[true, true, true, true, true, true, true, true, true, true, true, true, true, true, true, false, false, false, false, false, false, false, false, false, false, false, false, false] rfl rfl (any_of HT_.out (by kernel_rfl)) (fun _ _ _ h => h) (Or.inl ⟨by rfl, ?_⟩) ?_ ?_
                  rotate_left
                  · intro w'
                    go_simp
                    with_reducible rfl
                  rotate_left
                  · simp only [Act.put, List.setIfInBounds_toArray, List.set_cons_zero, List.set_cons_succ, i64_w, i32_w]
                    rfl
                  refine take_ (i := 15) (N := some 100) (v := ?_) (a' := ?_) #[true, true, true, true, true, true, true, true, true, true, true, true, true, true, true, true, false, false, false, false, false, false, false, false, false, false, false, false] rfl rfl (take_ofW HT_.out HW_.out (by kernel_rfl)) (fun _ _ _ h => h) (Or.inl ⟨by rfl, ?_⟩) hHeld ?_ ?_
                  rotate_left
                  · rintro w' ⟨s0, s1, s2, s3, s4, s5, s6, s7, s8⟩
                    go_simp
                    with_reducible rfl
                  rotate_left
                  · simp only [Act.put, List.setIfInBounds_toArray, List.set_cons_zero, List.set_cons_succ, i64_w, i32_w]
                    rfl
                  refine pure_ (i := 17) (N := some 102) (v := ?_) (a' := ?_) #[true, true, true, true, true, true, true, true, true, true, true, true, true, true, true, true, false, true, false, false, false, false, false, false, false, false, false, false] rfl rfl (any_of HT_.out (by kernel_rfl)) (fun _ _ _ h => h) (Or.inl ⟨by rfl, ?_⟩) ?_ ?_
                  rotate_left
                  · intro w'
                    go_simp
                    with_reducible rfl
                  rotate_left
                  · simp only [Act.put, List.setIfInBounds_toArray, List.set_cons_zero, List.set_cons_succ, i64_w, i32_w]
                    rfl
                  refine pure_ (i := 18) (N := some 103) (v := ?_) (a' := ?_) #[true, true, true, true, true, true, true, true, true, true, true, true, true, true, true, true, false, true, true, false, false, false, false, false, false, false, false, false] rfl rfl (any_of HT_.out (by kernel_rfl)) (fun _ _ _ h => h) (Or.inl ⟨by rfl, ?_⟩) ?_ ?_
                  rotate_left
                  · intro w'
                    go_simp
                    with_reducible rfl
                  rotate_left
                  · simp only [Act.put, List.setIfInBounds_toArray, List.set_cons_zero, List.set_cons_succ, i64_w, i32_w]
                    rfl
                  refine take_ (i := 19) (N := some 104) (v := ?_) (a' := ?_) #[true, true, true, true, true, true, true, true, true, true, true, true, true, true, true, true, false, true, true, true, false, false, false, false, false, false, false, false] rfl rfl (take_ofW HT_.out HW_.out (by kernel_rfl)) (fun _ _ _ h => h) (Or.inl ⟨by rfl, ?_⟩) hHeld ?_ ?_
                  rotate_left
                  · rintro w' ⟨s0, s1, s2, s3, s4, s5, s6, s7, s8⟩
                    go_simp
                    with_reducible rfl
                  rotate_left
                  · simp only [Act.put, List.setIfInBounds_toArray, List.set_cons_zero, List.set_cons_succ, i64_w, i32_w]
                    rfl
                  refine pure_ (i := 20) (N := some 105) (v := ?_) (a' := ?_) #[true, true, true, true, true, true, true, true, true, true, true, true, true, true, true, true, false, true, true, true, true, false, false, false, false, false, false, false] rfl rfl (any_of HT_.out (by kernel_rfl)) (fun _ _ _ h => h) (Or.inl ⟨by rfl, ?_⟩) ?_ ?_
                  rotate_left
                  · intro w'
                    go_simp
                    with_reducible rfl
                  rotate_left
                  · simp only [Act.put, List.setIfInBounds_toArray, List.set_cons_zero, List.set_cons_succ, i64_w, i32_w]
                    rfl
                  refine take_ (i := 21) (N := some 106) (v := ?_) (a' := ?_) #[true, true, true, true, true, true, true, true, true, true, true, true, true, true, true, true, false, true, true, true, true, true, false, false, false, false, false, false] rfl rfl (take_ofW HT_.out HW_.out (by kernel_rfl)) (fun _ _ _ h => h) (Or.inl ⟨by rfl, ?_⟩) hHeld ?_ ?_
                  rotate_left
                  · rintro w' ⟨s0, s1, s2, s3, s4, s5, s6, s7, s8⟩
                    go_simp
                    with_reducible rfl
                  rotate_left
                  · simp only [Act.put, List.setIfInBounds_toArray, List.set_cons_zero, List.set_cons_succ, i64_w, i32_w]
                    rfl
                  refine pure_ (i := 22) (N := some 107) (v := ?_) (a' := ?_) #[true, true, true, true, true, true, true, true, true, true, true, true, true, true, true, true, false, true, true, true, true, true, true, false, false, false, false, false] rfl rfl (any_of HT_.out (by kernel_rfl)) (fun _ _ _ h => h) (Or.inl ⟨by rfl, ?_⟩) ?_ ?_
                  rotate_left
                  · intro w'
                    go_simp
                    with_reducible rfl
                  rotate_left
                  · simp only [Act.put, List.setIfInBounds_toArray, List.set_cons_zero, List.set_cons_succ, i64_w, i32_w]
                    rfl
                  refine pure_ (i := 23) (N := some 108) (v := ?_) (a' := ?_) #[true, true, true, true, true, true, true, true, true, true, true, true, true, true, true, true, false, true, true, true, true, true, true, true, false, false, false, false] rfl rfl (any_of HT_.out (by kernel_rfl)) (fun _ _ _ h => h) (Or.inl ⟨by rfl, ?_⟩) ?_ ?_
                  rotate_left
                  · intro w'
                    go_simp
                    with_reducible rfl
                  rotate_left
                  · simp only [Act.put, List.setIfInBounds_toArray, List.set_cons_zero, List.set_cons_succ, i64_w, i32_w]
                    rfl
                  refine one_ (i := 16) (N := some 101) #[true, true, true, true, true, true, true, true, true, true, true, true, true, true, true, true, true, true, true, true, true, true, true, true, false, false, false, false] rfl rfl (one_of HT_.out (by kernel_rfl)) (by decide) (fun K hK => ?_)
                  go_simp
                  obtain ⟨w9, hw9⟩ : ∃ w9, w9 = w8.alloc (Obj.cells #[.int .i64 m.f0.f0, .int .i64 m.f0.f1, .int .i64 m.f1.f0.f0, .int .i64 m.f1.f0.f1, .int .i64 m.f1.f1, .slice A5 m.f1.f2.length c5, .slice A6 m.f1.f3.length c6] 74) := ⟨_, rfl⟩
                  rw [← hw9]
                  have hb9 : Below w8.heap.size w8 w9 := by rw [hw9]; exact below_alloc (Below.refl _ _) _
                  have HRow := Aside0.mk (show w9.heap[w8.heap.size]? = some (.cells #[.int .i64 m.f0.f0, .int .i64 m.f0.f1, .int .i64 m.f1.f0.f0, .int .i64 m.f1.f0.f1, .int .i64 m.f1.f1, .slice A5 m.f1.f2.length c5, .slice A6 m.f1.f3.length c6] 74 (0, 0)) by rw [hw9]; exact blk_new _ _)
                  refine hK.out _ _ ⟨((hb9).cell (World.block_lt_of_cell? _ _ (hHeld.1))).trans (hHeld.1), ((hb9).cell (World.block_lt_of_cell? _ _ (hHeld.2.1))).trans (hHeld.2.1), ((hb9).cell (World.block_lt_of_cell? _ _ (hHeld.2.2.1))).trans (hHeld.2.2.1), ((hb9).cell (World.block_lt_of_cell? _ _ (hHeld.2.2.2.1))).trans (hHeld.2.2.2.1), ((hb9).cell (World.block_lt_of_cell? _ _ (hHeld.2.2.2.2.1))).trans (hHeld.2.2.2.2.1), ((hb9).cell (World.block_lt_of_cell? _ _ (hHeld.2.2.2.2.2.1))).trans (hHeld.2.2.2.2.2.1), ((hb9).cell (World.block_lt_of_cell? _ _ (hHeld.2.2.2.2.2.2.1))).trans (hHeld.2.2.2.2.2.2.1), ((hb9).cell (World.block_lt_of_cell? _ _ (hHeld.2.2.2.2.2.2.2.1))).trans (hHeld.2.2.2.2.2.2.2.1), below_step hHeld.2.2.2.2.2.2.2.2 (hb9)⟩ (fun hHeld => ?_)
                  clear hK K hb9 hw9
                  refine one_ (i := 24) (N := some 109) #[true, true, true, true, true, true, true, true, true, true, true, true, true, true, true, true, true, true, true, true, true, true, true, true, true, false, false, false] rfl rfl (one_of HT_.out (by kernel_rfl)) (by decide) (fun K hK => ?_)
                  refine goes_ Try.func55 (by kernel_rfl) rfl #[.slice (some ⟨w8.heap.size, 0, none⟩) 1 1, .slice A10 1 (c7 - k)] (by rfl) rfl rfl (by (try simp only [List.map_toArray, List.map_cons, List.map_nil]); first | done | rfl) ?_
                  refine (stanchionref00_SameMails.calls ks (some ⟨w8.heap.size, 0, none⟩) 1 [m] A10 (c7 - k) [m] true _ (one_C HRow.out Hl5.out (Kd.C_below HC5'.out hHeld.2.2.2.2.2.2.2.2) Hl6.out (Kd.C_below HC6'.out hHeld.2.2.2.2.2.2.2.2)) (Nat.le_refl _) (Kd.C_below HC10'.out hHeld.2.2.2.2.2.2.2.2) Hc71.out Hks.out).mono ?_
                  rintro e w10 ⟨rfl, hb⟩
                  refine ⟨_, rfl, ?_⟩
                  refine hK.out _ _ ⟨((hb).cell (World.block_lt_of_cell? _ _ (hHeld.1))).trans (hHeld.1), ((hb).cell (World.block_lt_of_cell? _ _ (hHeld.2.1))).trans (hHeld.2.1), ((hb).cell (World.block_lt_of_cell? _ _ (hHeld.2.2.1))).trans (hHeld.2.2.1), ((hb).cell (World.block_lt_of_cell? _ _ (hHeld.2.2.2.1))).trans (hHeld.2.2.2.1), ((hb).cell (World.block_lt_of_cell? _ _ (hHeld.2.2.2.2.1))).trans (hHeld.2.2.2.2.1), ((hb).cell (World.block_lt_of_cell? _ _ (hHeld.2.2.2.2.2.1))).trans (hHeld.2.2.2.2.2.1), ((hb).cell (World.block_lt_of_cell? _ _ (hHeld.2.2.2.2.2.2.1))).trans (hHeld.2.2.2.2.2.2.1), ((hb).cell (World.block_lt_of_cell? _ _ (hHeld.2.2.2.2.2.2.2.1))).trans (hHeld.2.2.2.2.2.2.2.1), below_step hHeld.2.2.2.2.2.2.2.2 (hb)⟩ (fun hHeld => ?_)
                  clear hK K hb
                  refine norm_ (a' := ?_) ?_ ?_
                  rotate_left
                  · show Act.put _ (some 109) _ = _
                    simp only [Act.put, List.setIfInBounds_toArray, List.set_cons_zero, List.set_cons_succ, i64_w, i32_w]
                    rfl
                  refine pure_ (i := 25) (N := some 110) (v := ?_) (a' := ?_) #[true, true, true, true, true, true, true, true, true, true, true, true, true, true, true, true, true, true, true, true, true, true, true, true, true, true, false, false] rfl rfl (any_of HT_.out (by kernel_rfl)) (fun _ _ _ h => h) (Or.inl ⟨by rfl, ?_⟩) ?_ ?_
                  rotate_left
                  · intro w'
                    go_simp
                    with_reducible rfl
                  rotate_left
                  · simp only [Act.put, List.setIfInBounds_toArray, List.set_cons_zero, List.set_cons_succ, i64_w, i32_w]
                    rfl
                  refine pure_ (i := 26) (N := some 111) (v := ?_) (a' := ?_) #[true, true, true, true, true, true, true, true, true, true, true, true, true, true, true, true, true, true, true, true, true, true, true, true, true, true, true, false] rfl rfl (any_of HT_.out (by kernel_rfl)) (fun _ _ _ h => h) (Or.inl ⟨by rfl, ?_⟩) ?_ ?_
                  rotate_left
                  · intro w'
                    go_simp
                    with_reducible rfl
                  rotate_left
                  · simp only [Act.put, List.setIfInBounds_toArray, List.set_cons_zero, List.set_cons_succ, i64_w, i32_w]
                    rfl
                  refine pure_ (i := 27) (N := some 112) (v := ?_) (a' := ?_) #[true, true, true, true, true, true, true, true, true, true, true, true, true, true, true, true, true, true, true, true, true, true, true, true, true, true, true, true] rfl rfl (any_of HT_.out (by kernel_rfl)) (fun _ _ _ h => h) (Or.inl ⟨by rfl, ?_⟩) ?_ ?_
                  rotate_left
                  · intro w'
                    go_simp
                    with_reducible rfl
                  rotate_left
                  · simp only [Act.put, List.setIfInBounds_toArray, List.set_cons_zero, List.set_cons_succ, i64_w, i32_w]
                    rfl
                  refine done_ (done_of HT_.out (by kernel_rfl)) ?_
                  have HN10 := Aside0.mk (HN6.out.below hHeld.2.2.2.2.2.2.2.2)
                  have HB10 := Aside0.mk (below_step HB6.out hHeld.2.2.2.2.2.2.2.2)
                  obtain ⟨n', hn'⟩ : ∃ n' : Nat, n' = (ms.eraseIdx k).length := ⟨_, rfl⟩
                  have hnq : (n' : Int) = (ms.length : Int) - 1 := by rw [hn', He5.out]; omega
                  have HNQ := Aside0.mk hnq
                  have HNN := Aside0.mk hn'
                  have d6 : ((n' : Int) != ((ms.length : Int) - 1)) = false := bne_eq_false_iff_eq.mpr hnq
                  have d7 : decide (room < (ms.length : Int) - 1) = false := decide_eq_false (by omega)
                  have hnr : (n' : Int) ≤ room := by omega
                  clear hHeld hnq hn' hcut hw64
                  go_wp2_with (first
                    | (go_at_call 61; refine (len_calls w.heap.size _ g room v' _ HN10.out).mono ?_; rintro e w11 ⟨rfl, hw11⟩; rw [hw11, ← HNN.out]; clear hw11)
                    | (go_at_call 60; refine (all_calls w.heap.size _ g room v' _ HN10.out HB10.out.size).mono ?_; rintro e w11 ⟨v9, rfl, hR9, hB9⟩; obtain ⟨A9, c9, e9, _, _⟩ := R_len hR9; subst e9; rw [← HNN.out]; have HN9 := Aside0.mk (HN10.out.below hB9); have HB9 := Aside0.mk (below_step HB10.out hB9); clear hR9 hB9))
                  exact ⟨⟨i + 1, v', ms.eraseIdx k, by rw [← HNN.out, HNQ.out], by simp, by omega, by rw [← HNN.out]; exact hnr, HN9, HB9⟩, by simp only [intOf]; omega⟩
                · have HK := Aside0.mk hk
                  have d7 : decide (room < (ms.length : Int)) = false := decide_eq_false (by omega)
                  clear w1 w2
                  by_cases hk0 : 0 ≤ o.f1
                  · have k0 : decide (0 ≤ o.f1) = true := decide_eq_true hk0
                    have k1 : decide (o.f1 < (ms.length : Int)) = false := decide_eq_false (fun h => hk ⟨hk0, h⟩)
                    clear hk hk0
                    go_wp2_with (fail)
                    refine (take_bad w.heap.size _ g room v ms o.f1 HN4.out HK.out).mono ?_
                    rintro e w5 ⟨rfl, hB5⟩
                    simp only [zero74]
                    have HN5 := Aside0.mk (HN4.out.below hB5)
                    have HB5 := Aside0.mk (below_step HW4.out hB5)
                    have HBX5 := Aside0.mk (blk_below HBX4.out hB5)
                    clear hB5 y0 y1 y2
                    go_wp2_with (fail)
                    obtain ⟨W6, hW6⟩ : ∃ W6, W6 = w5.alloc (Obj.cells #[.int .i64 0, .int .i64 0, .int .i64 0, .int .i64 0, .int .i64 0, .slice none 0 0, .slice none 0 0] 74) := ⟨_, rfl⟩
                    rw [← hW6]
                    have p1 : W6.cell? ⟨wr.heap.size, 1, none⟩ = some (.int .i64 o.f1) := by rw [hW6, blk_cell (blk_alloc HBX5.out _)]; rfl
                    have HN6 := Aside0.mk (show NetIs w.heap.size W6 g room v ms by rw [hW6]; exact HN5.out.below (below_alloc (Below.refl _ _) _))
                    have HB6 := Aside0.mk (show Below w.heap.size w W6 by rw [hW6]; exact below_alloc HB5.out _)
                    clear hW6
                    refine start_ (n := 28) (S := fun w' => w'.cell? ⟨wr.heap.size, 1, none⟩ = some (.int .i64 o.f1) ∧ Below W6.heap.size W6 w') (ds := []) #[false, false, false, false, false, false, false, false, false, false, false, false, false, false, false, false, false, false, false, false, false, false, false, false, false, false, false, false] (by kernel_rfl) rfl rfl ⟨p1, below_drew1 (Below.refl _ _)⟩ (fun hHeld => ?_)
                    clear p1
                    generalize W6.drew = w8 at hHeld ⊢
                    refine with_tabW netRoom_tab22 netRoom_bits22 (fun HT_ HW_ => ?_)
                    refine pure_ (i := 0) (N := some 85) (v := ?_) (a' := ?_) #[true, false, false, false, false, false, false, false, false, false, false, false, false, false, false, false, false, false, false, false, false, false, false, false, false, false, false, false] rfl rfl (any_of HT_.out (by kernel_rfl)) (fun _ _ _ h => h) (Or.inl ⟨by rfl, ?_⟩) ?_ ?_
                    rotate_left
                    · intro w'
                      go_simp
                      with_reducible rfl
                    rotate_left
                    · simp only [Act.put, List.setIfInBounds_toArray, List.set_cons_zero, List.set_cons_succ, i64_w, i32_w]
                      rfl
                    refine pure_ (i := 1) (N := some 86) (v := ?_) (a' := ?_) #[true, true, false, false, false, false, false, false, false, false, false, false, false, false, false, false, false, false, false, false, false, false, false, false, false, false, false, false] rfl rfl (any_of HT_.out (by kernel_rfl)) (fun _ _ _ h => h) (Or.inl ⟨by rfl, ?_⟩) ?_ ?_
                    rotate_left
                    · intro w'
                      go_simp
                      with_reducible rfl
                    rotate_left
                    · simp only [Act.put, List.setIfInBounds_toArray, List.set_cons_zero, List.set_cons_succ, i64_w, i32_w]
                      rfl
                    refine take_ (i := 2) (N := some 87) (v := ?_) (a' := ?_) #[true, true, true, false, false, false, false, false, false, false, false, false, false, false, false, false, false, false, false, false, false, false, false, false, false, false, false, false] rfl rfl (take_ofW HT_.out HW_.out (by kernel_rfl)) (fun _ _ _ h => h) (Or.inl ⟨by rfl, ?_⟩) hHeld ?_ ?_
                    rotate_left
                    · rintro w' ⟨s0, s1⟩
                      go_simp
                      with_reducible rfl
                    rotate_left
                    · simp only [Act.put, List.setIfInBounds_toArray, List.set_cons_zero, List.set_cons_succ, i64_w, i32_w]
                      rfl
                    refine pure_ (i := 3) (N := some 88) (v := ?_) (a' := ?_) #[true, true, true, true, false, false, false, false, false, false, false, false, false, false, false, false, false, false, false, false, false, false, false, false, false, false, false, false] rfl rfl (any_of HT_.out (by kernel_rfl)) (fun _ _ _ h => h) (Or.inl ⟨by rfl, ?_⟩) ?_ ?_
                    rotate_left
                    · intro w'
                      go_simp
                      with_reducible rfl
                    rotate_left
                    · simp only [Act.put, List.setIfInBounds_toArray, List.set_cons_zero, List.set_cons_succ, i64_w, i32_w]
                      rfl
                    refine pure_ (i := 4) (N := some 89) (v := ?_) (a' := ?_) #[true, true, true, true, true, false, false, false, false, false, false, false, false, false, false, false, false, false, false, false, false, false, false, false, false, false, false, false] rfl rfl (any_of HT_.out (by kernel_rfl)) (fun _ _ _ h => h) (Or.inl ⟨by rfl, ?_⟩) ?_ ?_
                    rotate_left
                    · intro w'
                      go_simp
                      with_reducible rfl
                    rotate_left
                    · simp only [Act.put, List.setIfInBounds_toArray, List.set_cons_zero, List.set_cons_succ, i64_w, i32_w]
                      rfl
                    refine pure_ (i := 5) (N := some 90) (v := ?_) (a' := ?_) #[true, true, true, true, true, true, false, false, false, false, false, false, false, false, false, false, false, false, false, false, false, false, false, false, false, false, false, false] rfl rfl (any_of HT_.out (by kernel_rfl)) (fun _ _ _ h => h) (Or.inl ⟨by rfl, ?_⟩) ?_ ?_
                    rotate_left
                    · intro w'
                      go_simp
                      with_reducible rfl
                    rotate_left
                    · simp only [Act.put, List.setIfInBounds_toArray, List.set_cons_zero, List.set_cons_succ, i64_w, i32_w]
                      rfl
                    refine take_ (i := 6) (N := some 91) (v := ?_) (a' := ?_) #[true, true, true, true, true, true, true, false, false, false, false, false, false, false, false, false, false, false, false, false, false, false, false, false, false, false, false, false] rfl rfl (take_ofW HT_.out HW_.out (by kernel_rfl)) (fun _ _ _ h => h) (Or.inl ⟨by rfl, ?_⟩) hHeld ?_ ?_
                    rotate_left
                    · rintro w' ⟨s0, s1⟩
                      go_simp
                      with_reducible rfl
                    rotate_left
                    · simp only [Act.put, List.setIfInBounds_toArray, List.set_cons_zero, List.set_cons_succ, i64_w, i32_w]
                      rfl
                    refine pure_ (i := 7) (N := some 92) (v := ?_) (a' := ?_) #[true, true, true, true, true, true, true, true, false, false, false, false, false, false, false, false, false, false, false, false, false, false, false, false, false, false, false, false] rfl rfl (any_of HT_.out (by kernel_rfl)) (fun _ _ _ h => h) (Or.inl ⟨by rfl, ?_⟩) ?_ ?_
                    rotate_left
                    · intro w'
                      go_simp
                      with_reducible rfl
                    rotate_left
                    · simp only [Act.put, List.setIfInBounds_toArray, List.set_cons_zero, List.set_cons_succ, i64_w, i32_w]
                      rfl
                    refine pure_ (i := 8) (N := some 93) (v := ?_) (a' := ?_) #[true, true, true, true, true, true, true, true, true, false, false, false, false, false, false, false, false, false, false, false, false, false, false, false, false, false, false, false] rfl rfl (any_of HT_.out (by kernel_rfl)) (fun _ _ _ h => h) (Or.inl ⟨by rfl, ?_⟩) ?_ ?_
                    rotate_left
                    · intro w'
                      go_simp
                      with_reducible rfl
                    rotate_left
                    · simp only [Act.put, List.setIfInBounds_toArray, List.set_cons_zero, List.set_cons_succ, i64_w, i32_w]
                      rfl
                    refine pure_ (i := 9) (N := some 94) (v := ?_) (a' := ?_) #[true, true, true, true, true, true, true, true, true, true, false, false, false, false, false, false, false, false, false, false, false, false, false, false, false, false, false, false] rfl rfl (any_of HT_.out (by kernel_rfl)) (fun _ _ _ h => h) (Or.inl ⟨by rfl, ?_⟩) ?_ ?_
                    rotate_left
                    · intro w'
                      go_simp
                      with_reducible rfl
                    rotate_left
                    · simp only [Act.put, List.setIfInBounds_toArray, List.set_cons_zero, List.set_cons_succ, i64_w, i32_w]
                      rfl
                    refine pure_ (i := 10) (N := some 95) (v := ?_) (a' := ?_) #[true, true, true, true, true, true, true, true, true, true, true, false, false, false, false, false, false, false, false, false, false, false, false, false, false, false, false, false] rfl rfl (any_of HT_.out (by kernel_rfl)) (fun _ _ _ h => h) (Or.inl ⟨by rfl, ?_⟩) ?_ ?_
                    rotate_left
                    · intro w'
                      go_simp
                      with_reducible rfl
                    rotate_left
                    · simp only [Act.put, List.setIfInBounds_toArray, List.set_cons_zero, List.set_cons_succ, i64_w, i32_w]
                      rfl
                    refine pure_ (i := 11) (N := some 96) (v := ?_) (a' := ?_) #[true, true, true, true, true, true, true, true, true, true, true, true, false, false, false, false, false, false, false, false, false, false, false, false, false, false, false, false] rfl rfl (any_of HT_.out (by kernel_rfl)) (fun _ _ _ h => h) (Or.inl ⟨by rfl, ?_⟩) ?_ ?_
                    rotate_left
                    · intro w'
                      go_simp
                      with_reducible rfl
                    rotate_left
                    · simp only [Act.put, List.setIfInBounds_toArray, List.set_cons_zero, List.set_cons_succ, i64_w, i32_w]
                      rfl
                    refine pure_ (i := 12) (N := some 97) (v := ?_) (a' := ?_) #[true, true, true, true, true, true, true, true, true, true, true, true, true, false, false, false, false, false, false, false, false, false, false, false, false, false, false, false] rfl rfl (any_of HT_.out (by kernel_rfl)) (fun _ _ _ h => h) (Or.inl ⟨by rfl, ?_⟩) ?_ ?_
                    rotate_left
                    · intro w'
                      go_simp
                      with_reducible rfl
                    rotate_left
                    · simp only [Act.put, List.setIfInBounds_toArray, List.set_cons_zero, List.set_cons_succ, i64_w, i32_w]
                      rfl
                    refine pure_ (i := 13) (N := some 98) (v := ?_) (a' := ?_) #[true, true, true, true, true, true, true, true, true, true, true, true, true, true, false, false, false, false, false, false, false, false, false, false, false, false, false, false] rfl rfl (any_of HT_.out (by kernel_rfl)) (fun _ _ _ h => h) (Or.inl ⟨by rfl, ?_⟩) ?_ ?_
                    rotate_left
                    · intro w'
                      go_simp
                      with_reducible rfl
                    rotate_left
                    · simp only [Act.put, List.setIfInBounds_toArray, List.set_cons_zero, List.set_cons_succ, i64_w, i32_w]
                      rfl
                    refine pure_ (i := 14) (N := some 99) (v := ?_) (a' := ?_) #[true, true, true, true, true, true, true, true, true, true, true, true, true, true, true, false, false, false, false, false, false, false, false, false, false, false, false, false] rfl rfl (any_of HT_.out (by kernel_rfl)) (fun _ _ _ h => h) (Or.inl ⟨by rfl, ?_⟩) ?_ ?_
                    rotate_left
                    · intro w'
                      go_simp
                      with_reducible rfl
                    rotate_left
                    · simp only [Act.put, List.setIfInBounds_toArray, List.set_cons_zero, List.set_cons_succ, i64_w, i32_w]
                      rfl
                    refine pure_ (i := 15) (N := some 100) (v := undef) (a' := ?_) #[true, true, true, true, true, true, true, true, true, true, true, true, true, true, true, true, false, false, false, false, false, false, false, false, false, false, false, false] rfl rfl (any_of HT_.out (by kernel_rfl)) (fun _ _ _ h => h) (Or.inr ⟨by rfl, rfl⟩) ?_ ?_
                    rotate_left
                    · simp only [Act.put, List.setIfInBounds_toArray, List.set_cons_zero, List.set_cons_succ, i64_w, i32_w]
                      rfl
                    refine pure_ (i := 16) (N := some 101) (v := undef) (a' := ?_) #[true, true, true, true, true, true, true, true, true, true, true, true, true, true, true, true, true, false, false, false, false, false, false, false, false, false, false, false] rfl rfl (any_of HT_.out (by kernel_rfl)) (fun _ _ _ h => h) (Or.inr ⟨by rfl, rfl⟩) ?_ ?_
                    rotate_left
                    · simp only [Act.put, List.setIfInBounds_toArray, List.set_cons_zero, List.set_cons_succ, i64_w, i32_w]
                      rfl
                    refine pure_ (i := 17) (N := some 102) (v := undef) (a' := ?_) #[true, true, true, true, true, true, true, true, true, true, true, true, true, true, true, true, true, true, false, false, false, false, false, false, false, false, false, false] rfl rfl (any_of HT_.out (by kernel_rfl)) (fun _ _ _ h => h) (Or.inr ⟨by rfl, rfl⟩) ?_ ?_
                    rotate_left
                    · simp only [Act.put, List.setIfInBounds_toArray, List.set_cons_zero, List.set_cons_succ, i64_w, i32_w]
                      rfl
                    refine pure_ (i := 18) (N := some 103) (v := undef) (a' := ?_) #[true, true, true, true, true, true, true, true, true, true, true, true, true, true, true, true, true, true, true, false, false, false, false, false, false, false, false, false] rfl rfl (any_of HT_.out (by kernel_rfl)) (fun _ _ _ h => h) (Or.inr ⟨by rfl, rfl⟩) ?_ ?_
                    rotate_left
                    · simp only [Act.put, List.setIfInBounds_toArray, List.set_cons_zero, List.set_cons_succ, i64_w, i32_w]
                      rfl
                    refine pure_ (i := 19) (N := some 104) (v := undef) (a' := ?_) #[true, true, true, true, true, true, true, true, true, true, true, true, true, true, true, true, true, true, true, true, false, false, false, false, false, false, false, false] rfl rfl (any_of HT_.out (by kernel_rfl)) (fun _ _ _ h => h) (Or.inr ⟨by rfl, rfl⟩) ?_ ?_
                    rotate_left
                    · simp only [Act.put, List.setIfInBounds_toArray, List.set_cons_zero, List.set_cons_succ, i64_w, i32_w]
                      rfl
                    refine pure_ (i := 20) (N := some 105) (v := undef) (a' := ?_) #[true, true, true, true, true, true, true, true, true, true, true, true, true, true, true, true, true, true, true, true, true, false, false, false, false, false, false, false] rfl rfl (any_of HT_.out (by kernel_rfl)) (fun _ _ _ h => h) (Or.inr ⟨by rfl, rfl⟩) ?_ ?_
                    rotate_left
                    · simp only [Act.put, List.setIfInBounds_toArray, List.set_cons_zero, List.set_cons_succ, i64_w, i32_w]
                      rfl
                    refine pure_ (i := 21) (N := some 106) (v := undef) (a' := ?_) #[true, true, true, true, true, true, true, true, true, true, true, true, true, true, true, true, true, true, true, true, true, true, false, false, false, false, false, false] rfl rfl (any_of HT_.out (by kernel_rfl)) (fun _ _ _ h => h) (Or.inr ⟨by rfl, rfl⟩) ?_ ?_
                    rotate_left
                    · simp only [Act.put, List.setIfInBounds_toArray, List.set_cons_zero, List.set_cons_succ, i64_w, i32_w]
                      rfl
                    refine pure_ (i := 22) (N := some 107) (v := undef) (a' := ?_) #[true, true, true, true, true, true, true, true, true, true, true, true, true, true, true, true, true, true, true, true, true, true, true, false, false, false, false, false] rfl rfl (any_of HT_.out (by kernel_rfl)) (fun _ _ _ h => h) (Or.inr ⟨by rfl, rfl⟩) ?_ ?_
                    rotate_left
                    · simp only [Act.put, List.setIfInBounds_toArray, List.set_cons_zero, List.set_cons_succ, i64_w, i32_w]
                      rfl
                    refine pure_ (i := 23) (N := some 108) (v := undef) (a' := ?_) #[true, true, true, true, true, true, true, true, true, true, true, true, true, true, true, true, true, true, true, true, true, true, true, true, false, false, false, false] rfl rfl (any_of HT_.out (by kernel_rfl)) (fun _ _ _ h => h) (Or.inr ⟨by rfl, rfl⟩) ?_ ?_
                    rotate_left
                    · simp only [Act.put, List.setIfInBounds_toArray, List.set_cons_zero, List.set_cons_succ, i64_w, i32_w]
                      rfl
                    refine pure_ (i := 24) (N := some 109) (v := undef) (a' := ?_) #[true, true, true, true, true, true, true, true, true, true, true, true, true, true, true, true, true, true, true, true, true, true, true, true, true, false, false, false] rfl rfl (any_of HT_.out (by kernel_rfl)) (fun _ _ _ h => h) (Or.inr ⟨by rfl, rfl⟩) ?_ ?_
                    rotate_left
                    · simp only [Act.put, List.setIfInBounds_toArray, List.set_cons_zero, List.set_cons_succ, i64_w, i32_w]
                      rfl
                    refine pure_ (i := 25) (N := some 110) (v := undef) (a' := ?_) #[true, true, true, true, true, true, true, true, true, true, true, true, true, true, true, true, true, true, true, true, true, true, true, true, true, true, false, false] rfl rfl (any_of HT_.out (by kernel_rfl)) (fun _ _ _ h => h) (Or.inr ⟨by rfl, rfl⟩) ?_ ?_
                    rotate_left
                    · simp only [Act.put, List.setIfInBounds_toArray, List.set_cons_zero, List.set_cons_succ, i64_w, i32_w]
                      rfl
                    refine pure_ (i := 26) (N := some 111) (v := ?_) (a' := ?_) #[true, true, true, true, true, true, true, true, true, true, true, true, true, true, true, true, true, true, true, true, true, true, true, true, true, true, true, false] rfl rfl (any_of HT_.out (by kernel_rfl)) (fun _ _ _ h => h) (Or.inl ⟨by rfl, ?_⟩) ?_ ?_
                    rotate_left
                    · intro w'
                      go_simp
                      with_reducible rfl
                    rotate_left
                    · simp only [Act.put, List.setIfInBounds_toArray, List.set_cons_zero, List.set_cons_succ, i64_w, i32_w]
                      rfl
                    refine pure_ (i := 27) (N := some 112) (v := ?_) (a' := ?_) #[true, true, true, true, true, true, true, true, true, true, true, true, true, true, true, true, true, true, true, true, true, true, true, true, true, true, true, true] rfl rfl (any_of HT_.out (by kernel_rfl)) (fun _ _ _ h => h) (Or.inl ⟨by rfl, ?_⟩) ?_ ?_
                    rotate_left
                    · intro w'
                      go_simp
                      with_reducible rfl
                    rotate_left
                    · simp only [Act.put, List.setIfInBounds_toArray, List.set_cons_zero, List.set_cons_succ, i64_w, i32_w]
                      rfl
                    refine done_ (done_of HT_.out (by kernel_rfl)) ?_
                    have HN10 := Aside0.mk (HN6.out.below hHeld.2)
                    have HB10 := Aside0.mk (below_step HB6.out hHeld.2)
                    clear hHeld
                    go_wp2_with (first
                      | (go_at_call 61; refine (len_calls w.heap.size _ g room v _ HN10.out).mono ?_; rintro e w11 ⟨rfl, hw11⟩; rw [hw11]; clear hw11)
                      | (go_at_call 60; refine (all_calls w.heap.size _ g room v _ HN10.out HB10.out.size).mono ?_; rintro e w11 ⟨v9, rfl, hR9, hB9⟩; obtain ⟨A9, c9, e9, _, _⟩ := R_len hR9; subst e9; have HN9 := Aside0.mk (HN10.out.below hB9); have HB9 := Aside0.mk (below_step HB10.out hB9); clear hR9 hB9))
                    exact ⟨⟨i + 1, v, ms, rfl, by simp, by omega, hms, HN9, HB9⟩, by simp only [intOf]; omega⟩
                  · have k0 : decide (0 ≤ o.f1) = false := decide_eq_false hk0
                    clear hk hk0
                    go_wp2_with (fail)
                    refine (take_bad w.heap.size _ g room v ms o.f1 HN4.out HK.out).mono ?_
                    rintro e w5 ⟨rfl, hB5⟩
                    simp only [zero74]
                    have HN5 := Aside0.mk (HN4.out.below hB5)
                    have HB5 := Aside0.mk (below_step HW4.out hB5)
                    have HBX5 := Aside0.mk (blk_below HBX4.out hB5)
                    clear hB5 y0 y1 y2
                    go_wp2_with (fail)
                    obtain ⟨W6, hW6⟩ : ∃ W6, W6 = w5.alloc (Obj.cells #[.int .i64 0, .int .i64 0, .int .i64 0, .int .i64 0, .int .i64 0, .slice none 0 0, .slice none 0 0] 74) := ⟨_, rfl⟩
                    rw [← hW6]
                    have p1 : W6.cell? ⟨wr.heap.size, 1, none⟩ = some (.int .i64 o.f1) := by rw [hW6, blk_cell (blk_alloc HBX5.out _)]; rfl
                    have HN6 := Aside0.mk (show NetIs w.heap.size W6 g room v ms by rw [hW6]; exact HN5.out.below (below_alloc (Below.refl _ _) _))
                    have HB6 := Aside0.mk (show Below w.heap.size w W6 by rw [hW6]; exact below_alloc HB5.out _)
                    clear hW6
                    refine start_ (n := 28) (S := fun w' => w'.cell? ⟨wr.heap.size, 1, none⟩ = some (.int .i64 o.f1) ∧ Below W6.heap.size W6 w') (ds := []) #[false, false, false, false, false, false, false, false, false, false, false, false, false, false, false, false, false, false, false, false, false, false, false, false, false, false, false, false] (by kernel_rfl) rfl rfl ⟨p1, below_drew1 (Below.refl _ _)⟩ (fun hHeld => ?_)
                    clear p1
                    generalize W6.drew = w8 at hHeld ⊢
                    refine with_tabW netRoom_tab22 netRoom_bits22 (fun HT_ HW_ => ?_)
                    refine pure_ (i := 0) (N := some 85) (v := ?_) (a' := ?_) #[true, false, false, false, false, false, false, false, false, false, false, false, false, false, false, false, false, false, false, false, false, false, false, false, false, false, false, false] rfl rfl (any_of HT_.out (by kernel_rfl)) (fun _ _ _ h => h) (Or.inl ⟨by rfl, ?_⟩) ?_ ?_
                    rotate_left
                    · intro w'
                      go_simp
                      with_reducible rfl
                    rotate_left
                    · simp only [Act.put, List.setIfInBounds_toArray, List.set_cons_zero, List.set_cons_succ, i64_w, i32_w]
                      rfl
                    refine pure_ (i := 1) (N := some 86) (v := ?_) (a' := ?_) #[true, true, false, false, false, false, false, false, false, false, false, false, false, false, false, false, false, false, false, false, false, false, false, false, false, false, false, false] rfl rfl (any_of HT_.out (by kernel_rfl)) (fun _ _ _ h => h) (Or.inl ⟨by rfl, ?_⟩) ?_ ?_
                    rotate_left
                    · intro w'
                      go_simp
                      with_reducible rfl
                    rotate_left
                    · simp only [Act.put, List.setIfInBounds_toArray, List.set_cons_zero, List.set_cons_succ, i64_w, i32_w]
                      rfl
                    refine take_ (i := 2) (N := some 87) (v := ?_) (a' := ?_) #[true, true, true, false, false, false, false, false, false, false, false, false, false, false, false, false, false, false, false, false, false, false, false, false, false, false, false, false] rfl rfl (take_ofW HT_.out HW_.out (by kernel_rfl)) (fun _ _ _ h => h) (Or.inl ⟨by rfl, ?_⟩) hHeld ?_ ?_
                    rotate_left
                    · rintro w' ⟨s0, s1⟩
                      go_simp
                      with_reducible rfl
                    rotate_left
                    · simp only [Act.put, List.setIfInBounds_toArray, List.set_cons_zero, List.set_cons_succ, i64_w, i32_w]
                      rfl
                    refine pure_ (i := 3) (N := some 88) (v := ?_) (a' := ?_) #[true, true, true, true, false, false, false, false, false, false, false, false, false, false, false, false, false, false, false, false, false, false, false, false, false, false, false, false] rfl rfl (any_of HT_.out (by kernel_rfl)) (fun _ _ _ h => h) (Or.inl ⟨by rfl, ?_⟩) ?_ ?_
                    rotate_left
                    · intro w'
                      go_simp
                      with_reducible rfl
                    rotate_left
                    · simp only [Act.put, List.setIfInBounds_toArray, List.set_cons_zero, List.set_cons_succ, i64_w, i32_w]
                      rfl
                    refine pure_ (i := 4) (N := some 89) (v := ?_) (a' := ?_) #[true, true, true, true, true, false, false, false, false, false, false, false, false, false, false, false, false, false, false, false, false, false, false, false, false, false, false, false] rfl rfl (any_of HT_.out (by kernel_rfl)) (fun _ _ _ h => h) (Or.inl ⟨by rfl, ?_⟩) ?_ ?_
                    rotate_left
                    · intro w'
                      go_simp
                      with_reducible rfl
                    rotate_left
                    · simp only [Act.put, List.setIfInBounds_toArray, List.set_cons_zero, List.set_cons_succ, i64_w, i32_w]
                      rfl
                    refine pure_ (i := 5) (N := some 90) (v := undef) (a' := ?_) #[true, true, true, true, true, true, false, false, false, false, false, false, false, false, false, false, false, false, false, false, false, false, false, false, false, false, false, false] rfl rfl (any_of HT_.out (by kernel_rfl)) (fun _ _ _ h => h) (Or.inr ⟨by rfl, rfl⟩) ?_ ?_
                    rotate_left
                    · simp only [Act.put, List.setIfInBounds_toArray, List.set_cons_zero, List.set_cons_succ, i64_w, i32_w]
                      rfl
                    refine pure_ (i := 6) (N := some 91) (v := undef) (a' := ?_) #[true, true, true, true, true, true, true, false, false, false, false, false, false, false, false, false, false, false, false, false, false, false, false, false, false, false, false, false] rfl rfl (any_of HT_.out (by kernel_rfl)) (fun _ _ _ h => h) (Or.inr ⟨by rfl, rfl⟩) ?_ ?_
                    rotate_left
                    · simp only [Act.put, List.setIfInBounds_toArray, List.set_cons_zero, List.set_cons_succ, i64_w, i32_w]
                      rfl
                    refine pure_ (i := 7) (N := some 92) (v := undef) (a' := ?_) #[true, true, true, true, true, true, true, true, false, false, false, false, false, false, false, false, false, false, false, false, false, false, false, false, false, false, false, false] rfl rfl (any_of HT_.out (by kernel_rfl)) (fun _ _ _ h => h) (Or.inr ⟨by rfl, rfl⟩) ?_ ?_
                    rotate_left
                    · simp only [Act.put, List.setIfInBounds_toArray, List.set_cons_zero, List.set_cons_succ, i64_w, i32_w]
                      rfl
                    refine pure_ (i := 8) (N := some 93) (v := undef) (a' := ?_) #[true, true, true, true, true, true, true, true, true, false, false, false, false, false, false, false, false, false, false, false, false, false, false, false, false, false, false, false] rfl rfl (any_of HT_.out (by kernel_rfl)) (fun _ _ _ h => h) (Or.inr ⟨by rfl, rfl⟩) ?_ ?_
                    rotate_left
                    · simp only [Act.put, List.setIfInBounds_toArray, List.set_cons_zero, List.set_cons_succ, i64_w, i32_w]
                      rfl
                    refine pure_ (i := 9) (N := some 94) (v := undef) (a' := ?_) #[true, true, true, true, true, true, true, true, true, true, false, false, false, false, false, false, false, false, false, false, false, false, false, false, false, false, false, false] rfl rfl (any_of HT_.out (by kernel_rfl)) (fun _ _ _ h => h) (Or.inr ⟨by rfl, rfl⟩) ?_ ?_
                    rotate_left
                    · simp only [Act.put, List.setIfInBounds_toArray, List.set_cons_zero, List.set_cons_succ, i64_w, i32_w]
                      rfl
                    refine pure_ (i := 10) (N := some 95) (v := ?_) (a' := ?_) #[true, true, true, true, true, true, true, true, true, true, true, false, false, false, false, false, false, false, false, false, false, false, false, false, false, false, false, false] rfl rfl (any_of HT_.out (by kernel_rfl)) (fun _ _ _ h => h) (Or.inl ⟨by rfl, ?_⟩) ?_ ?_
                    rotate_left
                    · intro w'
                      go_simp
                      with_reducible rfl
                    rotate_left
                    · simp only [Act.put, List.setIfInBounds_toArray, List.set_cons_zero, List.set_cons_succ, i64_w, i32_w]
                      rfl
                    refine pure_ (i := 11) (N := some 96) (v := ?_) (a' := ?_) #[true, true, true, true, true, true, true, true, true, true, true, true, false, false, false, false, false, false, false, false, false, false, false, false, false, false, false, false] rfl rfl (any_of HT_.out (by kernel_rfl)) (fun _ _ _ h => h) (Or.inl ⟨by rfl, ?_⟩) ?_ ?_
                    rotate_left
                    · intro w'
                      go_simp
                      with_reducible rfl
                    rotate_left
                    · simp only [Act.put, List.setIfInBounds_toArray, List.set_cons_zero, List.set_cons_succ, i64_w, i32_w]
                      rfl
                    refine pure_ (i := 12) (N := some 97) (v := ?_) (a' := ?_) #[true, true, true, true, true, true, true, true, true, true, true, true, true, false, false, false, false, false, false, false, false, false, false, false, false, false, false, false] rfl rfl (any_of HT_.out (by kernel_rfl)) (fun _ _ _ h => h) (Or.inl ⟨by rfl, ?_⟩) ?_ ?_
                    rotate_left
                    · intro w'
                      go_simp
                      with_reducible rfl
                    rotate_left
                    · simp only [Act.put, List.setIfInBounds_toArray, List.set_cons_zero, List.set_cons_succ, i64_w, i32_w]
                      rfl
                    refine pure_ (i := 13) (N := some 98) (v := ?_) (a' := ?_) #[true, true, true, true, true, true, true, true, true, true, true, true, true, true, false, false, false, false, false, false, false, false, false, false, false, false, false, false] rfl rfl (any_of HT_.out (by kernel_rfl)) (fun _ _ _ h => h) (Or.inl ⟨by rfl, ?_⟩) ?_ ?_
                    rotate_left
                    · intro w'
                      go_simp
                      with_reducible rfl
                    rotate_left
                    · simp only [Act.put, List.setIfInBounds_toArray, List.set_cons_zero, List.set_cons_succ, i64_w, i32_w]
                      rfl
                    refine pure_ (i := 14) (N := some 99) (v := ?_) (a' := ?_) #[true, true, true, true, true, true, true, true, true, true, true, true, true, true, true, false, false, false, false, false, false, false, false, false, false, false, false, false] rfl rfl (any_of HT_.out (by kernel_rfl)) (fun _ _ _ h => h) (Or.inl ⟨by rfl, ?_⟩) ?_ ?_
                    rotate_left
                    · intro w'
                      go_simp
                      with_reducible rfl
                    rotate_left
                    · simp only [Act.put, List.setIfInBounds_toArray, List.set_cons_zero, List.set_cons_succ, i64_w, i32_w]
                      rfl
                    refine pure_ (i := 15) (N := some 100) (v := undef) (a' := ?_) #[true, true, true, true, true, true, true, true, true, true, true, true, true, true, true, true, false, false, false, false, false, false, false, false, false, false, false, false] rfl rfl (any_of HT_.out (by kernel_rfl)) (fun _ _ _ h => h) (Or.inr ⟨by rfl, rfl⟩) ?_ ?_
                    rotate_left
                    · simp only [Act.put, List.setIfInBounds_toArray, List.set_cons_zero, List.set_cons_succ, i64_w, i32_w]
                      rfl
                    refine pure_ (i := 16) (N := some 101) (v := undef) (a' := ?_) #[true, true, true, true, true, true, true, true, true, true, true, true, true, true, true, true, true, false, false, false, false, false, false, false, false, false, false, false] rfl rfl (any_of HT_.out (by kernel_rfl)) (fun _ _ _ h => h) (Or.inr ⟨by rfl, rfl⟩) ?_ ?_
                    rotate_left
                    · simp only [Act.put, List.setIfInBounds_toArray, List.set_cons_zero, List.set_cons_succ, i64_w, i32_w]
                      rfl
                    refine pure_ (i := 17) (N := some 102) (v := undef) (a' := ?_) #[true, true, true, true, true, true, true, true, true, true, true, true, true, true, true, true, true, true, false, false, false, false, false, false, false, false, false, false] rfl rfl (any_of HT_.out (by kernel_rfl)) (fun _ _ _ h => h) (Or.inr ⟨by rfl, rfl⟩) ?_ ?_
                    rotate_left
                    · simp only [Act.put, List.setIfInBounds_toArray, List.set_cons_zero, List.set_cons_succ, i64_w, i32_w]
                      rfl
                    refine pure_ (i := 18) (N := some 103) (v := undef) (a' := ?_) #[true, true, true, true, true, true, true, true, true, true, true, true, true, true, true, true, true, true, true, false, false, false, false, false, false, false, false, false] rfl rfl (any_of HT_.out (by kernel_rfl)) (fun _ _ _ h => h) (Or.inr ⟨by rfl, rfl⟩) ?_ ?_
                    rotate_left
                    · simp only [Act.put, List.setIfInBounds_toArray, List.set_cons_zero, List.set_cons_succ, i64_w, i32_w]
                      rfl
                    refine pure_ (i := 19) (N := some 104) (v := undef) (a' := ?_) #[true, true, true, true, true, true, true, true, true, true, true, true, true, true, true, true, true, true, true, true, false, false, false, false, false, false, false, false] rfl rfl (any_of HT_.out (by kernel_rfl)) (fun _ _ _ h => h) (Or.inr ⟨by rfl, rfl⟩) ?_ ?_
                    rotate_left
                    · simp only [Act.put, List.setIfInBounds_toArray, List.set_cons_zero, List.set_cons_succ, i64_w, i32_w]
                      rfl
                    refine pure_ (i := 20) (N := some 105) (v := undef) (a' := ?_) #[true, true, true, true, true, true, true, true, true, true, true, true, true, true, true, true, true, true, true, true, true, false, false, false, false, false, false, false] rfl rfl (any_of HT_.out (by kernel_rfl)) (fun _ _ _ h => h) (Or.inr ⟨by rfl, rfl⟩) ?_ ?_
                    rotate_left
                    · simp only [Act.put, List.setIfInBounds_toArray, List.set_cons_zero, List.set_cons_succ, i64_w, i32_w]
                      rfl
                    refine pure_ (i := 21) (N := some 106) (v := undef) (a' := ?_) #[true, true, true, true, true, true, true, true, true, true, true, true, true, true, true, true, true, true, true, true, true, true, false, false, false, false, false, false] rfl rfl (any_of HT_.out (by kernel_rfl)) (fun _ _ _ h => h) (Or.inr ⟨by rfl, rfl⟩) ?_ ?_
                    rotate_left
                    · simp only [Act.put, List.setIfInBounds_toArray, List.set_cons_zero, List.set_cons_succ, i64_w, i32_w]
                      rfl
                    refine pure_ (i := 22) (N := some 107) (v := undef) (a' := ?_) #[true, true, true, true, true, true, true, true, true, true, true, true, true, true, true, true, true, true, true, true, true, true, true, false, false, false, false, false] rfl rfl (any_of HT_.out (by kernel_rfl)) (fun _ _ _ h => h) (Or.inr ⟨by rfl, rfl⟩) ?_ ?_
                    rotate_left
                    · simp only [Act.put, List.setIfInBounds_toArray, List.set_cons_zero, List.set_cons_succ, i64_w, i32_w]
                      rfl
                    refine pure_ (i := 23) (N := some 108) (v := undef) (a' := ?_) #[true, true, true, true, true, true, true, true, true, true, true, true, true, true, true, true, true, true, true, true, true, true, true, true, false, false, false, false] rfl rfl (any_of HT_.out (by kernel_rfl)) (fun _ _ _ h => h) (Or.inr ⟨by rfl, rfl⟩) ?_ ?_
                    rotate_left
                    · simp only [Act.put, List.setIfInBounds_toArray, List.set_cons_zero, List.set_cons_succ, i64_w, i32_w]
                      rfl
                    refine pure_ (i := 24) (N := some 109) (v := undef) (a' := ?_) #[true, true, true, true, true, true, true, true, true, true, true, true, true, true, true, true, true, true, true, true, true, true, true, true, true, false, false, false] rfl rfl (any_of HT_.out (by kernel_rfl)) (fun _ _ _ h => h) (Or.inr ⟨by rfl, rfl⟩) ?_ ?_
                    rotate_left
                    · simp only [Act.put, List.setIfInBounds_toArray, List.set_cons_zero, List.set_cons_succ, i64_w, i32_w]
                      rfl
                    refine pure_ (i := 25) (N := some 110) (v := undef) (a' := ?_) #[true, true, true, true, true, true, true, true, true, true, true, true, true, true, true, true, true, true, true, true, true, true, true, true, true, true, false, false] rfl rfl (any_of HT_.out (by kernel_rfl)) (fun _ _ _ h => h) (Or.inr ⟨by rfl, rfl⟩) ?_ ?_
                    rotate_left
                    · simp only [Act.put, List.setIfInBounds_toArray, List.set_cons_zero, List.set_cons_succ, i64_w, i32_w]
                      rfl
                    refine pure_ (i := 26) (N := some 111) (v := ?_) (a' := ?_) #[true, true, true, true, true, true, true, true, true, true, true, true, true, true, true, true, true, true, true, true, true, true, true, true, true, true, true, false] rfl rfl (any_of HT_.out (by kernel_rfl)) (fun _ _ _ h => h) (Or.inl ⟨by rfl, ?_⟩) ?_ ?_
                    rotate_left
                    · intro w'
                      go_simp
                      with_reducible rfl
                    rotate_left
                    · simp only [Act.put, List.setIfInBounds_toArray, List.set_cons_zero, List.set_cons_succ, i64_w, i32_w]
                      rfl
                    refine pure_ (i := 27) (N := some 112) (v := ?_) (a' := ?_) #[true, true, true, true, true, true, true, true, true, true, true, true, true, true, true, true, true, true, true, true, true, true, true, true, true, true, true, true] rfl rfl (any_of HT_.out (by kernel_rfl)) (fun _ _ _ h => h) (Or.inl ⟨by rfl, ?_⟩) ?_ ?_
                    rotate_left
                    · intro w'
                      go_simp
                      with_reducible rfl
                    rotate_left
                    · simp only [Act.put, List.setIfInBounds_toArray, List.set_cons_zero, List.set_cons_succ, i64_w, i32_w]
                      rfl
                    refine done_ (done_of HT_.out (by kernel_rfl)) ?_
                    have HN10 := Aside0.mk (HN6.out.below hHeld.2)
                    have HB10 := Aside0.mk (below_step HB6.out hHeld.2)
                    clear hHeld
                    go_wp2_with (first
                      | (go_at_call 61; refine (len_calls w.heap.size _ g room v _ HN10.out).mono ?_; rintro e w11 ⟨rfl, hw11⟩; rw [hw11]; clear hw11)
                      | (go_at_call 60; refine (all_calls w.heap.size _ g room v _ HN10.out HB10.out.size).mono ?_; rintro e w11 ⟨v9, rfl, hR9, hB9⟩; obtain ⟨A9, c9, e9, _, _⟩ := R_len hR9; subst e9; have HN9 := Aside0.mk (HN10.out.below hB9); have HB9 := Aside0.mk (below_step HB10.out hB9); clear hR9 hB9))
                    exact ⟨⟨i + 1, v, ms, rfl, by simp, by omega, hms, HN9, HB9⟩, by simp only [intOf]; omega⟩
              · have d2 : (o.f0 == 2) = false := by simp [w2]
                by_cases w3 : o.f0 = 3
                · have d3 : (o.f0 == 3) = true := by simp [w3]
                  by_cases hk : 0 ≤ o.f1 ∧ o.f1 < (ms.length : Int)
                  · by_cases hf : room ≤ (ms.length : Int)
                    · have d7 : decide (room < (ms.length : Int)) = false := decide_eq_false (by omega)
                      have HK := Aside0.mk hk
                      have HF := Aside0.mk hf
                      clear w1 w2 w3 hk hf
                      go_wp2_with (fail)
                      refine (copy_full w.heap.size _ g room v ms o.f1 HN4.out HK.out HF.out).mono ?_
                      rintro e w5 ⟨rfl, hw5⟩
                      have HN5 := Aside0.mk (show NetIs w.heap.size w5 g room v ms by rw [hw5]; exact HN4.out.drew)
                      have HB5 := Aside0.mk (show Below w.heap.size w w5 by rw [hw5]; exact below_drew1 HW4.out)
                      clear hw5 y0 y1 y2
                      go_wp2_with (first
                        | (go_at_call 61; refine (len_calls w.heap.size _ g room v _ HN5.out).mono ?_; rintro e w11 ⟨rfl, hw11⟩; rw [hw11]; clear hw11)
                        | (go_at_call 60; refine (all_calls w.heap.size _ g room v _ HN5.out HB5.out.size).mono ?_; rintro e w11 ⟨v9, rfl, hR9, hB9⟩; obtain ⟨A9, c9, e9, _, _⟩ := R_len hR9; subst e9; have HN9 := Aside0.mk (HN5.out.below hB9); have HB9 := Aside0.mk (below_step HB5.out hB9); clear hR9 hB9))
                      exact ⟨⟨i + 1, v, ms, rfl, by simp, by omega, hms, HN9, HB9⟩, by simp only [intOf]; omega⟩
                    · obtain ⟨k, hk1⟩ : ∃ k : Nat, o.f1 = (k : Int) := ⟨o.f1.toNat, by omega⟩
                      have hkl : k < ms.length := by omega
                      have HF := Aside0.mk hf
                      rw [hk1] at y1
                      have d6 : ((ms.length : Int) + 1 != (ms.length : Int) + 1) = false := bne_self_eq_false _
                      have d7 : decide (room < (ms.length : Int) + 1) = false := decide_eq_false (by omega)
                      have hms' : ((ms ++ [ms[k]]).length : Int) = (ms.length : Int) + 1 := by simp
                      have hnr : (ms.length : Int) + 1 ≤ room := by omega
                      have HMS := Aside0.mk hms'
                      clear w1 w2 w3 hk hf hk1 hms'
                      go_wp2_with (fail)
                      refine (copy_ok w.heap.size w _ g room v ms k HN4.out HW4.out.size HW4.out hkl (by have := HF.out; omega) (by omega)).mono ?_
                      rintro e w5 ⟨rfl, v', hN5, hA5, hK5, hB5⟩
                      have HN5 := Aside0.mk hN5
                      have HB5 := Aside0.mk hB5
                      clear hN5 hA5 hK5 hB5 y0 y1 y2
                      go_wp2_with (first
                        | (go_at_call 61; refine (len_calls w.heap.size _ g room v' _ HN5.out).mono ?_; rintro e w11 ⟨rfl, hw11⟩; rw [hw11, HMS.out]; clear hw11)
                        | (go_at_call 60; refine (all_calls w.heap.size _ g room v' _ HN5.out HB5.out.size).mono ?_; rintro e w11 ⟨v9, rfl, hR9, hB9⟩; obtain ⟨A9, c9, e9, _, _⟩ := R_len hR9; subst e9; (try rw [HMS.out]); have HN9 := Aside0.mk (HN5.out.below hB9); have HB9 := Aside0.mk (below_step HB5.out hB9); clear hR9 hB9))
                      exact ⟨⟨i + 1, v', ms ++ [ms[k]], by rw [HMS.out], by simp, by omega, by rw [HMS.out]; exact hnr, HN9, HB9⟩, by simp only [intOf]; omega⟩
                  · have d7 : decide (room < (ms.length : Int)) = false := decide_eq_false (by omega)
                    have HK := Aside0.mk hk
                    clear w1 w2 w3 hk
                    go_wp2_with (fail)
                    refine (copy_bad w.heap.size _ g room v ms o.f1 HN4.out HK.out).mono ?_
                    rintro e w5 ⟨rfl, hw5⟩
                    have HN5 := Aside0.mk (show NetIs w.heap.size w5 g room v ms by rw [hw5]; exact HN4.out)
                    have HB5 := Aside0.mk (show Below w.heap.size w w5 by rw [hw5]; exact HW4.out)
                    clear hw5 y0 y1 y2
                    go_wp2_with (first
                      | (go_at_call 61; refine (len_calls w.heap.size _ g room v _ HN5.out).mono ?_; rintro e w11 ⟨rfl, hw11⟩; rw [hw11]; clear hw11)
                      | (go_at_call 60; refine (all_calls w.heap.size _ g room v _ HN5.out HB5.out.size).mono ?_; rintro e w11 ⟨v9, rfl, hR9, hB9⟩; obtain ⟨A9, c9, e9, _, _⟩ := R_len hR9; subst e9; have HN9 := Aside0.mk (HN5.out.below hB9); have HB9 := Aside0.mk (below_step HB5.out hB9); clear hR9 hB9))
                    exact ⟨⟨i + 1, v, ms, rfl, by simp, by omega, hms, HN9, HB9⟩, by simp only [intOf]; omega⟩
                · have d3 : (o.f0 == 3) = false := by simp [w3]
                  have d7 : decide (room < (ms.length : Int)) = false := decide_eq_false (by omega)
                  clear w1 w2 w3
                  go_wp2_with (first
                    | (go_at_call 61; refine (len_calls w.heap.size _ g room v _ HN4.out).mono ?_; rintro e w11 ⟨rfl, hw11⟩; rw [hw11]; clear hw11)
                    | (go_at_call 60; refine (all_calls w.heap.size _ g room v _ HN4.out HW4.out.size).mono ?_; rintro e w11 ⟨v9, rfl, hR9, hB9⟩; obtain ⟨A9, c9, e9, _, _⟩ := R_len hR9; subst e9; have HN9 := Aside0.mk (HN4.out.below hB9); have HB9 := Aside0.mk (below_step HW4.out hB9); clear hR9 hB9))
                  exact ⟨⟨i + 1, v, ms, rfl, by simp, by omega, hms, HN9, HB9⟩, by simp only [intOf]; omega⟩
          · have b0 : decide ((i : Int) < (list.length : Int)) = false := decide_eq_false (by omega)
            go_wp2_with (fail)
            go_ret
            exact ⟨rfl, HB.out⟩
end Go.Proofs.Ytijccobeljoikaa.Nt
