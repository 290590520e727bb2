/- stanchionlaw21.NetSteps: it returns true, and writes nothing that was there. -/
import Derived.Test.YtijccobeljoikaaNetP
namespace Go.Proofs.Ytijccobeljoikaa.Nt
open Go.RowKit Go.Proofs.YtijccobeljoikaaW.PrintWords Go.Proofs.YtijccobeljoikaaW.PrintLast Go.Proofs.YtijccobeljoikaaW.PrintMore
open Go.Proofs.Ytijccobeljoikaa.Walks
attribute [local go_sem] max2_int min2_int max_two min_two max_three min_three max_four min_four
set_option linter.unusedVariables false
set_option linter.unusedSimpArgs false

def netSteps_T39 : Bool × List (List Nat × List Nat) := (true, [([], []), ([0], [0]), ([], []), ([2], [2]), ([3], [3]), ([1, 4], [1, 4]), ([5, 1], [5]), ([6], [6]), ([6], [6]), ([8, 6], [6, 8]), ([7, 9, 6, 6], [6, 7, 9]), ([10, 6], [6, 10]), ([6, 11], [6, 11])])
def netSteps_B39 : List Nat := [0, 1, 0, 4, 12, 31, 63, 127, 127, 383, 1023, 2047, 4095]
theorem netSteps_tab39 : rtab .any (opsOf Try.f14 39) = netSteps_T39 := by kernel_rfl
theorem netSteps_bits39 : waitsOk netSteps_T39.2 netSteps_B39 = true := by kernel_rfl
set_option maxHeartbeats 32000000 in
set_option maxRecDepth 100000 in
theorem netSteps_calls (room0 : Int) (A : Option Addr) (c : Nat) (list : List S63) (w : World) (hr : Kd.C k63 w A list.length list) (hc : list.length ≤ c) (hl : list.length < 4611686018427387904) (hm : ∀ o ∈ list, Mems o.f2) :
    Calls Try.prog 14 #[.int .i64 room0, .slice A list.length c] w fun e w' => e = .returned (.bool true) ∧ Below w.heap.size w w' := by
  obtain ⟨gb, hg⟩ := ev_great list hl hm
  obtain ⟨kg, hg⟩ := hg.rounds
  have Hg := Aside0.mk hg
  have HR := Aside0.mk hr
  have HC := Aside0.mk hc
  have HM := Aside0.mk hm
  have hu60 := Try.underlying60
  have hu63 := Try.underlying63
  have hu74 := Try.underlying74
  have hu72 := Try.underlying72
  have hu70 := Try.underlying70
  clear hr hc hg hm
  by_cases hgb : gb = true
  · subst hgb
    go_enter Try.func14, Try.ntmps14
    go_wp2_with (first
      | (go_at_call 48; refine (alive_calls _).mono ?_; rintro e w1 ⟨rfl, hB⟩; have HB1 := Aside0.mk hB; clear hB)
      | (go_at_call 49; refine (stanchionlaw21_great.calls kg A c list true _ (Kd.C_below HR.out HB1.out) HC.out Hg.out).mono ?_; rintro e w2 ⟨rfl, hB⟩; have HB2 := Aside0.mk (below_step HB1.out hB); clear hB))
    go_ret
    exact ⟨rfl, HB2.out⟩
  · replace hgb := Bool.eq_false_iff.mpr hgb
    subst hgb
    obtain ⟨room, hroom⟩ : ∃ room, room = clamp room0 := ⟨_, rfl⟩
    have hrm := clamp_room room0
    rw [← hroom] at hrm
    have HRM := Aside0.mk hroom
    obtain ⟨hr0, hr1⟩ := hrm
    clear hroom
    go_enter Try.func14, Try.ntmps14
    go_wp2_with (first
      | (go_at_call 48; refine (alive_calls _).mono ?_; rintro e w1 ⟨rfl, hB⟩; have HB1 := Aside0.mk hB; clear hB)
      | (go_at_call 49; refine (stanchionlaw21_great.calls kg A c list false _ (Kd.C_below HR.out HB1.out) HC.out Hg.out).mono ?_; rintro e w2 ⟨rfl, hB⟩; have HB2 := Aside0.mk (below_step HB1.out hB); clear hB)
      | (go_at_call 50; refine (new_calls w.heap.size _ room0 HB2.out.size).mono ?_; rintro e w3 ⟨g, v0, rfl, hN, hg, hv, hB⟩; rw [← HRM.out] at hN; have HN0 := Aside0.mk hN; have HB3 := Aside0.mk (below_step HB2.out hB); clear hN hg hv hB)
      | (go_at_call 51; refine (stanchionref21_New.calls room0 room [] _ (by rw [rnew_eq, HRM.out])).mono ?_; rintro e w4 ⟨v1, rfl, hR4, hB4⟩; obtain ⟨Am, cm, em, _, _⟩ := R_len hR4; subst em; have HN4 := Aside0.mk (HN0.out.below hB4); have HB4 := Aside0.mk (below_step HB3.out hB4); have HV4 := Aside0.mk (Kd.N_V (base' := w.heap.size) (Kd.R_N (Kd.R_mono (Kd.R_bound hR4) (fun k hk => (⟨netS_old HN0.out hk.2.1, hk.2.2.1⟩ : (fun k => ¬ NetS g v0 k ∧ k < w4.heap.size) k))))); clear hR4 hB4))
    obtain ⟨r6, hr6⟩ : ∃ r6, r6 = w4.heap.size := ⟨_, rfl⟩
    rw [← hr6]
    have HR6 := Aside0.mk hr6
    clear hr6
    go_loopw [7] (fun v7 wr => ∃ (i : Nat) (v : Value) (Am : Option Addr) (cm : Nat) (ms : List S74), v7 = .int .i64 (i : Int) ∧ i ≤ list.length ∧ Aside0 (St w.heap.size w wr g r6 room v Am cm ms)) (fun v7 _ => list.length - (intOf v7).toNat)
    case atStart => exact ⟨0, v0, Am, cm, [], rfl, Nat.zero_le _, ⟨HN4.out.below (below_alloc (Below.refl _ _) _), by rw [HR6.out]; exact blk_new _ _, Kd.V_mono (Kd.V_alloc HV4.out _) (fun k hk => ⟨hk.1, by have := hk.2; rw [HR6.out]; omega⟩), by simp, by simpa using hr0, by rw [HR6.out]; exact HB4.out.size, below_alloc HB4.out _⟩⟩
    case round =>
      clear HN4 HB4 HV4 HN0 HB3 HB2 HB1 HR6
      obtain ⟨i, v, Am, cm, ms, rfl, hi, HS⟩ := hrel
      by_cases hlt : i < list.length
      · have b0 : decide ((i : Int) < (list.length : Int)) = true := decide_eq_true (by omega)
        have b1 : (0 ≤ (i : Int)) = True := eq_true (by omega)
        have b2 : ((i : Int) < (list.length : Int)) = True := eq_true (by omega)
        obtain ⟨ad, A2, c2, e, hx0, hx1, hx2, hl2, hi2⟩ := at_T63 HR.out (i : Int) (by omega) (by omega)
        subst e
        obtain ⟨o, ho⟩ : ∃ o, o = rd_T63 list (i : Int) := ⟨_, rfl⟩
        rw [← ho] at hx0 hx1 hx2 hl2 hi2
        rw [Int.toNat_natCast] at hx0 hx1 hx2
        have hom : o ∈ list := by rw [ho, rd63_at hlt]; exact List.getElem_mem hlt
        have Hom := Aside0.mk (HM.out o hom)
        have Hl2 := Aside0.mk hl2
        have HF2 := Aside0.mk (Kd.C_F heap74 hi2)
        replace hx0 := (HS.out.below.cell (World.block_lt_of_cell? w _ hx0)).trans hx0
        replace hx1 := (HS.out.below.cell (World.block_lt_of_cell? w _ hx1)).trans hx1
        replace hx2 := (HS.out.below.cell (World.block_lt_of_cell? w _ hx2)).trans hx2
        have HNV := Aside0.mk (fun (k : Nat) (hk : wr.heap.size ≤ k) => netS_old HS.out.net hk)
        have hrs := HS.out.room
        have hmany := HS.out.net.many
        clear hom hl2 hi2 ho
        go_upto_region 13 with (fail)
        obtain ⟨W1, hW1⟩ : ∃ W1, W1 = wr.alloc (Obj.cells #[.int .i64 o.f0, .int .i64 o.f1, .slice A2 o.f2.length c2] 63) := ⟨_, rfl⟩
        rw [← hW1]
        have HS1 := Aside0.mk (show St w.heap.size w W1 g r6 room v Am cm ms by rw [hW1]; exact HS.out.step (below_alloc (Below.refl _ _) _))
        have HBX1 := Aside0.mk (show W1.heap[wr.heap.size]? = some (.cells #[.int .i64 o.f0, .int .i64 o.f1, .slice A2 o.f2.length c2] 63 (0, 0)) by rw [hW1]; exact blk_new _ _)
        have HE1 := Aside0.mk (show wr.heap.size < W1.heap.size from blk_lt HBX1.out)
        have HX1 := Aside0.mk (show r6 < wr.heap.size from HS.out.lt.2.1)
        have y0 : W1.cell? ⟨wr.heap.size, 0, none⟩ = some (.int .i64 o.f0) := by rw [blk_cell HBX1.out]; rfl
        have y1 : W1.cell? ⟨wr.heap.size, 1, none⟩ = some (.int .i64 o.f1) := by rw [blk_cell HBX1.out]; rfl
        have y2 : W1.cell? ⟨wr.heap.size, 2, none⟩ = some (.slice A2 o.f2.length c2) := by rw [blk_cell HBX1.out]; rfl
        clear hW1 hx0 hx1 hx2 HS
        go_upto_block 2 with (fail)
        go_cut [9, 10, 11, 12, 13, 14, 15, 16, 17, 18, 19, 20] from 34 to 191 (fun v9 v10 v11 v12 v13 v14 v15 v16 v17 v18 v19 v20 wc => ∃ (v : Value) (Am : Option Addr) (cm : Nat) (ms : List S74), Aside0 (St w.heap.size w wc g r6 room v Am cm ms))
        case first =>
         by_cases w1 : o.f0 = 1
         · have d1 : (o.f0 == 1) = true := by simp [w1]
           obtain ⟨kc, hkc⟩ := (ev_copyMails Hom.out).rounds
           have Hkc := Aside0.mk hkc
           obtain ⟨fit, hfit⟩ : ∃ fit : Nat, (fit : Int) = min (o.f2.length : Int) (room - ms.length) := ⟨(min (o.f2.length : Int) (room - ms.length)).toNat, by omega⟩
           obtain ⟨kp, hkp⟩ := (ev_rpost (list := o.f2) (all := ms) (room := room) Hom.out.1 hr1 hrs hfit).rounds
           obtain ⟨ks, hks⟩ := (ev_sameMails (a := o.f2) (by have := Hom.out.1; omega) (fun m hx => (Hom.out.2 m hx).fits)).rounds
           have Hks := Aside0.mk hks
           obtain ⟨rs2, hrs2⟩ : ∃ rs2, rs2 = ms ++ o.f2.take fit := ⟨_, rfl⟩
           rw [← hrs2] at hkp
           have HRS := Aside0.mk hrs2
           obtain ⟨lost, hlost⟩ : ∃ lost : Nat, lost = o.f2.length - fit := ⟨_, rfl⟩
           rw [← hlost] at hkp
           have HLO := Aside0.mk hlost
           have Hkp := Aside0.mk hkp
           have Hfit := Aside0.mk hfit
           have hol := Hom.out.1
           have HFW := Aside0.mk (Kd.F_below HF2.out HS1.out.below)
           clear w1 hkc hkp hks hrs2 hlost hfit
           go_wp2_with (fail)
           refine (stanchionref00_CopyMails.calls kc A2 c2 o.f2 o.f2 _ (Kd.F_now HFW.out) Hl2.out Hkc.out).mono ?_
           rintro e w5 ⟨v8, rfl, hR8, hB5⟩
           obtain ⟨A8, c8, e8, hc8, hC8⟩ := R_len hR8
           subst e8
           have HB5 := Aside0.mk hB5
           have HR8 := Aside0.mk hR8
           have Hc8 := Aside0.mk hc8
           have HS5 := Aside0.mk (HS1.out.step hB5)
           have HBX5 := Aside0.mk (blk_below HBX1.out hB5)
           have x0 : w5.cell? ⟨r6, 0, none⟩ = some (.int .i64 room) := by rw [blk_cell HS5.out.box]; rfl
           have x1 : w5.cell? ⟨r6, 1, none⟩ = some (.slice Am ms.length cm) := by rw [blk_cell HS5.out.box]; rfl
           have x2 : w5.cell? ⟨wr.heap.size, 2, none⟩ = some (.slice A2 o.f2.length c2) := by rw [blk_cell HBX5.out]; rfl
           clear hR8 hB5 hc8 hC8 y0 y1 y2
           go_wp2_with (fail)
           refine (stanchionref21_Net_Post.calls kp room (fun q => (¬ NetS g v q ∧ q ≠ r6) ∧ q < W1.heap.size) Am cm ms (fun q => q < w.heap.size) A2 c2 o.f2 room rs2 (lost : Int) w5 (V_any (Kd.V_mono (Kd.V_below (Kd.V_bound HS1.out.ref) HB5.out) (fun q hq => hq))) (Kd.V_mk Hl2.out (Kd.F_below HFW.out HB5.out)) Hkp.out).mono ?_
           rintro e w6 ⟨v9, rfl, hV6, hB6⟩
           obtain ⟨A5, c5, e5⟩ := Kd.N_slice hV6
           subst e5
           have hb1 : w.heap.size ≤ W1.heap.size := HS1.out.lt.2.2
           have hge6 := HS1.out.ge
           have HV6 := Aside0.mk (show Kd.V k74 74 w6 w.heap.size (fun q => (¬ NetS g v q ∧ q ≠ r6) ∧ (q < W1.heap.size ∨ w5.heap.size ≤ q)) (.slice A5 rs2.length c5) rs2 from Kd.N_V (Kd.N_mono hV6 (fun q hq => by rcases hq with (hq | hq) | hq; exact ⟨hq.1, .inl hq.2⟩; exact ⟨⟨netS_base HS1.out.net hq, by omega⟩, .inl (by omega)⟩; exact ⟨⟨netS_old HS5.out.net hq, by have := HS5.out.lt.2.1; omega⟩, .inr hq⟩)))
           have HB6 := Aside0.mk hB6
           clear hV6 hB6 x0 x1 x2
           go_upto_region 17 with (fail)
           obtain ⟨W6, hW6⟩ : ∃ W6, W6 = w6.alloc (Obj.cells #[.int .i64 room, .slice A5 rs2.length c5] 60) := ⟨_, rfl⟩
           rw [← hW6]
           have HB56 := Aside0.mk (show Below w5.heap.size w5 W6 by rw [hW6]; exact below_alloc HB6.out _)
           have HB16 := Aside0.mk (below_then HB5.out HB5.out.size HB56.out)
           have HS6 := Aside0.mk (HS1.out.step HB16.out)
           have HV7 := Aside0.mk (show Kd.V k74 74 W6 w.heap.size (fun q => (¬ NetS g v q ∧ q ≠ r6) ∧ (q < W1.heap.size ∨ w5.heap.size ≤ q)) (.slice A5 rs2.length c5) rs2 by rw [hW6]; exact Kd.V_alloc HV6.out _)
           have HB10 := Aside0.mk (show W6.heap[w6.heap.size]? = some (.cells #[.int .i64 room, .slice A5 rs2.length c5] 60 (0, 0)) by rw [hW6]; exact blk_new _ _)
           have n10 : w6.heap.size ≠ r6 := fun he => by have := HB6.out.size; have := HS5.out.lt.2.1; omega
           have n10' := n10.symm
           have z0 : W6.cell? ⟨r6, 0, none⟩ = some (.int .i64 room) := by rw [blk_cell HS6.out.box]; rfl
           have z1 : W6.cell? ⟨r6, 1, none⟩ = some (.slice Am ms.length cm) := by rw [blk_cell HS6.out.box]; rfl
           have z2 := blk_frozen HS6.out.box 0
           have z3 := blk_frozen HS6.out.box 1
           have z4 : W6.cell? ⟨w6.heap.size, 0, none⟩ = some (.int .i64 room) := by rw [blk_cell HB10.out]; rfl
           have z5 : W6.cell? ⟨w6.heap.size, 1, none⟩ = some (.slice A5 rs2.length c5) := by rw [blk_cell HB10.out]; rfl
           clear hW6
           go_upto_region 18 with (fail)
           obtain ⟨W7, hW7⟩ : ∃ W7, W7 = (W6.setCell ⟨r6, 0, none⟩ (.int .i64 room)).setCell ⟨r6, 1, none⟩ (.slice A5 rs2.length c5) := ⟨_, rfl⟩
           rw [← hW7]
           have hs6 := blk_set HS6.out.box 0 (.int .i64 room)
           have hrm2 : (rs2.length : Int) ≤ room := by rw [HRS.out, List.length_append, List.length_take]; have := Hfit.out; omega
           have hmem2 : ∀ m ∈ rs2, Mem m := by rw [HRS.out]; intro x hx; rcases List.mem_append.1 hx with hx | hx; exact HS1.out.mem x hx; exact Hom.out.2 x (List.mem_of_mem_take hx)
           have HS7 := Aside0.mk (show St2 w.heap.size w W7 g r6 room v A5 c5 ms rs2 by rw [hW7]; exact HS1.out.refop HB16.out (V_any (Kd.V_mono HV7.out (fun q hq => .inl hq.1))) hmem2 hrm2)
           have HV8 := Aside0.mk (show Kd.V k74 74 W7 w.heap.size (fun q => (¬ NetS g v q ∧ q ≠ r6) ∧ (q < W1.heap.size ∨ w5.heap.size ≤ q)) (.slice A5 rs2.length c5) rs2 by rw [hW7]; exact Kd.V_far (Kd.V_far HV7.out (fun q hq => hq.1.2) _) (fun q hq => hq.1.2) _)
           have HK7 := Aside0.mk (show Kd.R k74 74 W7 w.heap.size (fun q => q < W1.heap.size ∨ w5.heap.size ≤ q) v ms by rw [hW7]; exact Kd.R_set (Kd.R_set (Kd.R_below (Kd.R_mono (Kd.R_bound HS1.out.net.row) (fun q hq => .inl hq.2.2.1)) HB16.out) HS6.out.box (by decide) 0 _) hs6 (by decide) 1 _)
           have HO7 := Aside0.mk (show Kd.R k74 74 W7 W1.heap.size (fun q => q < w5.heap.size) (.slice A8 o.f2.length c8) o.f2 by rw [hW7]; exact Kd.R_set (Kd.R_set (Kd.R_below (Kd.R_mono (Kd.R_bound HR8.out) (fun q hq => hq.2.2.1)) HB56.out) HS6.out.box (by decide) 0 _) hs6 (by decide) 1 _)
           have HZ7 := Aside0.mk (show W6.heap.size = W7.heap.size by rw [hW7]; simp [World.setCell])
           have n8 : wr.heap.size ≠ r6 := fun he => by have := HX1.out; omega
           have HBX7 := Aside0.mk (show W7.heap[wr.heap.size]? = some (.cells #[.int .i64 o.f0, .int .i64 o.f1, .slice A2 o.f2.length c2] 63 (0, 0)) by rw [hW7]; exact blk_far (blk_far (blk_below HBX1.out HB16.out) n8 _) n8 _)
           clear hW7 hs6 z0 z1 z2 z3 z4 z5 n10 n10' n8 hmem2 hrm2
           go_wp2_with (fail)
           refine (post_callsK (fun q => q < W1.heap.size ∨ w5.heap.size ≤ q) w.heap.size w _ g room v ms ⟨HS7.out.net.blk, HK7.out, HS7.out.net.ge, HS7.out.net.fits, HS7.out.net.many⟩ (fun q hq => .inr (by have := HB56.out.size; have := HZ7.out; omega)) HS7.out.lt.2.2 HS7.out.below hrs hr1 A8 c8 o.f2 Hc8.out (Kd.C_kept_own (Kd.R_bound HO7.out) (fun q hq => netS_old HS1.out.net hq.2.1)) (fun m hx => (Hom.out.2 m hx).fits) (by omega) fit Hfit.out).mono ?_
           rintro e w8 ⟨rfl, v', hN8, hA8, hK8, hB8⟩
           rw [← HLO.out]
           have HS8 := Aside0.mk (HS7.out.netop hN8.any hA8 hK8 hB8)
           have HN8 := Aside0.mk hN8.row
           have HV9 := Aside0.mk (V_netop HV8.out hK8 hA8)
           have HO8 := Aside0.mk (Kd.R_kept (Kd.R_bound HO7.out) hK8 (fun q hq => netS_old HS1.out.net hq.2.1))
           have hbx8 := blk_kept HBX7.out hK8 (HNV.out _ (Nat.le_refl _))
           have y2 : w8.cell? ⟨wr.heap.size, 2, none⟩ = some (.slice A2 o.f2.length c2) := by rw [blk_cell hbx8]; rfl
           have HFW8 := Aside0.mk (Kd.F_below HF2.out HS8.out.below)
           have d5 : ((lost : Int) != (lost : Int)) = false := bne_self_eq_false _
           have HTP := Aside0.mk HB5.out.size
           have HG6 := Aside0.mk (show g < W1.heap.size from HS1.out.lt.1)
           have HR6' := Aside0.mk (show r6 < W1.heap.size from HS1.out.lt.2.1)
           clear hN8 hA8 hK8 hB8 hbx8
           go_wp2_with (fail)
           refine (stanchionref00_SameMails.calls ks A8 c8 o.f2 A2 c2 o.f2 true _ (Kd.R_reads' HO8.out).2.2 Hc8.out (Kd.F_now HFW8.out) Hl2.out Hks.out).mono ?_
           rintro e w9 ⟨rfl, hB9⟩
           have HS9 := Aside0.mk (HS8.out.step hB9)
           have HN9 := Aside0.mk (Kd.R_below HN8.out hB9)
           have HV10 := Aside0.mk (Kd.V_below HV9.out hB9)
           have hSC : ∃ gr As Ls cs, 0 < o.f2.length → A8 = some ⟨gr, 0, none⟩ ∧ Scr w9 W1.heap.size w5.heap.size gr o.f2.length As Ls cs := by
             by_cases h0 : 0 < o.f2.length
             · obtain ⟨gr, As, Ls, cs, e1, h1⟩ := Scr.of (Kd.R_below HO8.out hB9) h0 (fun m hx => (Hom.out.2 m hx).fits) w5.heap.size (fun q hq => hq.1)
               exact ⟨gr, As, Ls, cs, fun _ => ⟨e1, h1⟩⟩
             · exact ⟨0, fun _ => none, fun _ => 0, fun _ => 0, fun h => absurd h h0⟩
           obtain ⟨gr, As, Ls, cs, hSC⟩ := hSC
           obtain ⟨bs, hbs⟩ : ∃ bs, bs = W1.heap.size := ⟨_, rfl⟩
           obtain ⟨tp, htp⟩ : ∃ tp, tp = w5.heap.size := ⟨_, rfl⟩
           obtain ⟨w0S, hw0S⟩ : ∃ w0S, w0S = w9 := ⟨_, rfl⟩
           rw [← hbs, ← htp] at hSC
           have HSCR := Aside0.mk hSC
           have HW0S := Aside0.mk (show Below bs w0S w9 by rw [hw0S]; exact Below.refl _ _)
           have HBS := Aside0.mk hbs
           have HTPS := Aside0.mk htp
           have HWS := Aside0.mk hw0S
           clear hSC hbs htp hw0S hB9 y2 d5
           go_wp2_with (fail)
           go_loopw [12] (fun vo wr2 => ∃ j : Nat, vo = .int .i64 (j : Int) ∧ j ≤ o.f2.length ∧ Aside0 (0 < o.f2.length → A8 = some ⟨gr, 0, none⟩ ∧ Scr wr2 bs tp gr o.f2.length As Ls cs) ∧ Aside0 (Kept w9 wr2 (fun k => bs ≤ k ∧ k < tp)) ∧ Aside0 (Below bs w0S wr2)) (fun vo _ => o.f2.length - (intOf vo).toNat)
           case atStart => exact ⟨0, rfl, Nat.zero_le _, HSCR, ⟨Kept.refl _ _⟩, HW0S⟩
           case round =>
             obtain ⟨wr2, rfl⟩ : ∃ W : World, W = wr := ⟨_, rfl⟩
             obtain ⟨j, rfl, hj, HSc, HKs, HBs⟩ := hrel
             by_cases hjn : j < o.f2.length
             · have j0 : decide ((j : Int) < (o.f2.length : Int)) = true := decide_eq_true (by omega)
               have j0' : decide (j < o.f2.length) = true := decide_eq_true hjn
               have j1 : (0 ≤ (j : Int)) = True := eq_true (by omega)
               have j2 : ((j : Int) < (o.f2.length : Int)) = True := eq_true (by omega)
               obtain ⟨eA, hS⟩ := HSc.out (by omega)
               subst eA
               obtain ⟨crow, hrow, hr5, hr1⟩ := hS.row
               have hbt := hS.ge
               have htt := hS.lt
               have hsm := hS.small j hjn
               have HS2 := Aside0.mk hS
               clear hrow hr5 hr1 hS HSc
               go_wp2_with (fail)
               go_loopw [13] (fun vi wr3 => ∃ q : Nat, vi = .int .i64 (q : Int) ∧ q ≤ Ls j ∧ Aside0 (Scr wr3 bs tp gr o.f2.length As Ls cs) ∧ Aside0 (Kept w9 wr3 (fun k => bs ≤ k ∧ k < tp)) ∧ Aside0 (Below bs w0S wr3)) (fun vi _ => Ls j - (intOf vi).toNat)
               case atStart => exact ⟨0, rfl, Nat.zero_le _, ⟨HS2.out⟩, ⟨HKs.out⟩, ⟨HBs.out⟩⟩
               case round =>
                 clear HS2 HKs HBs
                 obtain ⟨wr3, rfl⟩ : ∃ W : World, W = wr := ⟨_, rfl⟩
                 obtain ⟨q, rfl, hq, HS3, HK3, HB3⟩ := hrel
                 obtain ⟨crow, hrow, hr5, hr1⟩ := HS3.out.row
                 have h5 : wr3.cell? ⟨gr, j * 7 + 5, none⟩ = some (.slice (As j) (Ls j) (cs j)) := by rw [blk_cell hrow]; exact hr5 j hjn
                 obtain ⟨Aj, hAj⟩ : ∃ Aj, Aj = As j := ⟨_, rfl⟩
                 obtain ⟨Lj, hLj⟩ : ∃ Lj, Lj = Ls j := ⟨_, rfl⟩
                 obtain ⟨cj, hcj⟩ : ∃ cj, cj = cs j := ⟨_, rfl⟩
                 have HLj := Aside0.mk hLj
                 rw [← hLj] at hq hsm ⊢
                 rw [← hAj, ← hLj, ← hcj] at h5
                 by_cases hql : q < Lj
                 · obtain ⟨g5, e5, hb5, ht5, hT5⟩ := HS3.out.bod j hjn (by rw [← hLj]; omega)
                   rw [← hAj] at e5
                   subst e5
                   have HT5 := Aside0.mk hT5
                   obtain ⟨c5r, hc5r, hy5⟩ := hT5
                   obtain ⟨y5, hy5⟩ := hy5 q (by rw [← hLj]; exact hql)
                   have f5 : wr3.cell? ⟨g5, q, none⟩ = some (.int .u8 y5) := by rw [blk_cell hc5r]; exact hy5
                   have f6 : wr3.frozen? ⟨g5, q, none⟩ = false := blk_frozen hc5r _
                   have q0 : decide ((q : Int) < (Lj : Int)) = true := decide_eq_true (by omega)
                   have q0' : decide (q < Lj) = true := decide_eq_true hql
                   have q1 : (0 ≤ (q : Int)) = True := eq_true (by omega)
                   have q2 : ((q : Int) < (Lj : Int)) = True := eq_true (by omega)
                   clear hrow hr5 hr1 hAj hLj hcj hc5r hy5
                   go_wp2_with (fail)
                   exact ⟨⟨q + 1, by simp, by omega, ⟨HS3.out.put5 HT5.out q _⟩, ⟨Kept.setCell HK3.out (.inl ⟨hb5, ht5⟩) _⟩, ⟨HB3.out.setCell hb5 _⟩⟩, by simp only [intOf]; omega⟩
                 · have q0 : decide ((q : Int) < (Lj : Int)) = false := decide_eq_false (by omega)
                   have q0' : decide (q < Lj) = false := decide_eq_false hql
                   clear hrow hr5 hr1 hAj hLj hcj
                   go_wp2_with (fail)
                   exact ⟨⟨j + 1, by simp, by omega, ⟨fun _ => by first | exact ⟨rfl, HS3.out⟩ | exact ⟨trivial, HS3.out⟩⟩, HK3, HB3⟩, by simp only [intOf]; omega⟩
             · have j0 : decide ((j : Int) < (o.f2.length : Int)) = false := decide_eq_false (by omega)
               have j0' : decide (j < o.f2.length) = false := decide_eq_false hjn
               have hK9 := HKs.out
               have HSE := Aside0.mk (show St w.heap.size w wr2 g r6 room v' A5 c5 rs2 from ⟨⟨blk_kept HS9.out.net.blk hK9 (fun h => by have := HG6.out; rw [← HBS.out] at this; omega), Kd.R_mono (Kd.R_kept (by rw [HRS.out]; exact HN9.out) hK9 (fun q hq h => by rw [HBS.out, HTPS.out] at h; omega)) (fun _ _ => trivial), HS9.out.net.ge, by rw [HRS.out]; exact HS9.out.net.fits, by rw [HRS.out]; exact HS9.out.net.many⟩, blk_kept HS9.out.box hK9 (fun h => by have := HR6'.out; rw [← HBS.out] at this; omega), Kd.V_mono (Kd.V_kept HV10.out hK9 (fun q hq h => by rw [HBS.out, HTPS.out] at h; have := hq.2; omega)) (fun q hq => hq.1), HS9.out.mem, HS9.out.room, HS9.out.ge, Below.trans HS9.out.below (Below.mono (by rw [← HWS.out]; exact HBs.out) (by rw [HBS.out]; exact HS1.out.lt.2.2))⟩)
               clear HSc HKs HBs HSCR HW0S HBS HWS HTPS HS9 HN9 HV10
               go_wp2_with (fail)
               go_meet
               case rel => exact ⟨v', A5, c5, rs2, HSE⟩
         · have d1 : (o.f0 == 1) = false := by simp [w1]
           by_cases w2 : o.f0 = 2
           · have d2 : (o.f0 == 2) = true := by simp [w2]
             by_cases hk : 0 ≤ o.f1 ∧ o.f1 < (ms.length : Int)
             · obtain ⟨k, hk1⟩ : ∃ k : Nat, o.f1 = (k : Int) := ⟨o.f1.toNat, by omega⟩
               have hkl : k < ms.length := by omega
               have HK1 := Aside0.mk hk1
               rw [hk1] at y1
               clear w1 w2 hk hk1
               have HNR := Aside0.mk HS1.out.lt.2.1
               go_wp2_with (fail)
               refine (take_ok w.heap.size w _ g room v ms k HS1.out.net HS1.out.lt.2.2 HS1.out.below hkl).mono ?_
               rintro e w5 ⟨v5, v6, v', rfl, hM5, hN5, hv5, hK5, hB5⟩
               have HS5 := Aside0.mk (HS1.out.netop hN5 (.inl hv5) hK5 hB5)
               have HZ5 := Aside0.mk hK5.1
               have HBX5 := Aside0.mk (blk_kept HBX1.out hK5 (HNV.out _ (Nat.le_refl _)))
               have hmem := HS1.out.mem _ (List.getElem_mem hkl)
               have hfm : Fits ms[k] := HS1.out.net.fits _ (List.getElem_mem hkl)
               obtain ⟨m, hmm⟩ : ∃ m, m = ms[k] := ⟨_, rfl⟩
               rw [← hmm] at hM5 hfm ⊢
               obtain ⟨u5, u6, he, r5, rr6⟩ := k74_openM hM5
               simp [mailV] at he
               obtain ⟨rfl, rfl⟩ := he
               obtain ⟨A5, c5, e5⟩ := Kd.R_slice r5
               subst e5
               obtain ⟨A6, c6, e6⟩ := Kd.R_slice rr6
               subst e6
               have X5 := Aside0.mk r5
               have X6 := Aside0.mk rr6
               have HMM := Aside0.mk hmm
               have HMEM := Aside0.mk hmem
               obtain ⟨ks, hks⟩ := (ev_sameMails (a := [m]) (by simp) (by simpa using hfm)).rounds
               have Hks := Aside0.mk hks
               simp only [mailV]
               clear hM5 hN5 hv5 hK5 hB5 r5 rr6 hmm hmem hfm hks y0 y1 y2
               go_upto_region 29 with (fail)
               obtain ⟨W6, hW6⟩ : ∃ W6, W6 = w5.alloc (Obj.cells #[.int .i64 m.f0.f0, .int .i64 m.f0.f1, .int .i64 m.f1.f0.f0, .int .i64 m.f1.f0.f1, .int .i64 m.f1.f1, .slice A5 m.f1.f2.length c5, .slice A6 m.f1.f3.length c6] 74) := ⟨_, rfl⟩
               rw [← hW6]
               have HB56 := Aside0.mk (show Below w5.heap.size w5 W6 by rw [hW6]; exact below_alloc (Below.refl _ _) _)
               have HX6 := Aside0.mk (show W6.heap[w5.heap.size]? = some (.cells #[.int .i64 m.f0.f0, .int .i64 m.f0.f1, .int .i64 m.f1.f0.f0, .int .i64 m.f1.f0.f1, .int .i64 m.f1.f1, .slice A5 m.f1.f2.length c5, .slice A6 m.f1.f3.length c6] 74 (0, 0)) by rw [hW6]; exact blk_new _ _)
               have HS6 := Aside0.mk (HS5.out.step HB56.out)
               have x0 : W6.cell? ⟨r6, 0, none⟩ = some (.int .i64 room) := by rw [blk_cell HS6.out.box]; rfl
               have x1 : W6.cell? ⟨r6, 1, none⟩ = some (.slice Am ms.length cm) := by rw [blk_cell HS6.out.box]; rfl
               have y1 : W6.cell? ⟨wr.heap.size, 1, none⟩ = some (.int .i64 (k : Int)) := by rw [blk_cell (blk_below HBX5.out HB56.out)]; rw [← HK1.out]; rfl
               clear hW6
               go_wp2_with (fail)
               refine (rtake_ok W6 room (fun q => ¬ NetS g v' q ∧ q ≠ r6) Am cm ms k (V_any HS6.out.ref) hkl HMEM.out hmany).mono ?_
               rintro e w7 ⟨v1, u5, u6, rfl, hV7, hr5, hr6, hB7⟩
               rw [← HMM.out] at hr5 hr6 ⊢
               obtain ⟨rs2, hrs2⟩ : ∃ rs2, rs2 = ms.eraseIdx k := ⟨_, rfl⟩
               rw [← hrs2] at hV7
               have HRS := Aside0.mk hrs2
               obtain ⟨A17, c17, e17⟩ := Kd.V_slice hV7
               subst e17
               obtain ⟨B5, z5, e5⟩ := Kd.R_slice hr5
               subst e5
               obtain ⟨B6, z6, e6⟩ := Kd.R_slice hr6
               subst e6
               have HV7 := Aside0.mk hV7
               have Y5 := Aside0.mk hr5
               have Y6 := Aside0.mk hr6
               simp only [mailV]
               have HB7 := Aside0.mk hB7
               clear hV7 hr5 hr6 hB7 hrs2 x0 x1 y1
               go_upto_region 30 with (fail)
               obtain ⟨y16, y17, y18, y19⟩ := two_boxes w7 (Obj.cells #[.int .i64 room, .slice A17 rs2.length c17] 60) (Obj.cells #[.int .i64 m.f0.f0, .int .i64 m.f0.f1, .int .i64 m.f1.f0.f0, .int .i64 m.f1.f0.f1, .int .i64 m.f1.f1, .slice B5 m.f1.f2.length z5, .slice B6 m.f1.f3.length z6] 74)
               obtain ⟨W8, hW8⟩ : ∃ W8, W8 = (w7.alloc (Obj.cells #[.int .i64 room, .slice A17 rs2.length c17] 60)).alloc (Obj.cells #[.int .i64 m.f0.f0, .int .i64 m.f0.f1, .int .i64 m.f1.f0.f0, .int .i64 m.f1.f0.f1, .int .i64 m.f1.f1, .slice B5 m.f1.f2.length z5, .slice B6 m.f1.f3.length z6] 74) := ⟨_, rfl⟩
               rw [← hW8] at y16 y17 y18 y19 ⊢
               have HB78 := Aside0.mk y18
               have HB8 := Aside0.mk (below_then HB7.out HB7.out.size y18)
               have HV8 := Aside0.mk (Kd.V_below HV7.out y18)
               have HS8 := Aside0.mk (HS6.out.step HB8.out)
               have HY16 := Aside0.mk y16
               have HY17 := Aside0.mk y17
               have HX8 := Aside0.mk (blk_below HX6.out HB8.out)
               have n16 : w7.heap.size ≠ r6 := fun he => by have := HB7.out.size; have := HS6.out.lt.2.1; omega
               have n16' := n16.symm
               have n17 : w7.heap.size + 1 ≠ r6 := fun he => by have := HB7.out.size; have := HS6.out.lt.2.1; omega
               have n14 : w5.heap.size ≠ r6 := fun he => by have := HNR.out; have := HZ5.out; omega
               have z0 : W8.cell? ⟨r6, 0, none⟩ = some (.int .i64 room) := by rw [blk_cell HS8.out.box]; rfl
               have z1 : W8.cell? ⟨r6, 1, none⟩ = some (.slice Am ms.length cm) := by rw [blk_cell HS8.out.box]; rfl
               have z2 := blk_frozen HS8.out.box 0
               have z3 := blk_frozen HS8.out.box 1
               have z4 : W8.cell? ⟨w7.heap.size, 0, none⟩ = some (.int .i64 room) := by rw [blk_cell y16]; rfl
               have z5_ : W8.cell? ⟨w7.heap.size, 1, none⟩ = some (.slice A17 rs2.length c17) := by rw [blk_cell y16]; rfl
               have HN17 := Aside0.mk n17
               have HN14 := Aside0.mk n14
               clear hW8 y16 y17 y18 y19 n17 n14
               go_upto_region 31 with (fail)
               obtain ⟨W9, hW9⟩ : ∃ W9, W9 = (W8.setCell ⟨r6, 0, none⟩ (.int .i64 room)).setCell ⟨r6, 1, none⟩ (.slice A17 rs2.length c17) := ⟨_, rfl⟩
               rw [← hW9]
               have HS9 := Aside0.mk (show St2 w.heap.size w W9 g r6 room v' A17 c17 (ms.eraseIdx k) rs2 by rw [hW9]; exact HS6.out.refop HB8.out HV8.out (by rw [HRS.out]; exact fun x hx => HS1.out.mem x (List.mem_of_mem_eraseIdx hx)) (by rw [HRS.out]; have := List.length_eraseIdx_le ms k; have := HS1.out.room; omega))
               have hs8 := blk_set HS8.out.box 0 (.int .i64 room)
               have X59 := Aside0.mk (by rw [hW9]; exact Kd.R_set (Kd.R_set (Kd.R_below (Kd.R_below X5.out HB56.out) HB8.out) HS8.out.box (by decide) 0 _) hs8 (by decide) 1 _ : Kd.R (Kd.int .u8) 5 W9 w.heap.size _ _ m.f1.f2)
               have X69 := Aside0.mk (by rw [hW9]; exact Kd.R_set (Kd.R_set (Kd.R_below (Kd.R_below X6.out HB56.out) HB8.out) HS8.out.box (by decide) 0 _) hs8 (by decide) 1 _ : Kd.R (Kd.slice 5 (Kd.int .u8)) 22 W9 w.heap.size _ _ m.f1.f3)
               have Y59 := Aside0.mk (by rw [hW9]; exact Kd.R_set (Kd.R_set (Kd.R_below Y5.out HB78.out) HS8.out.box (by decide) 0 _) hs8 (by decide) 1 _ : Kd.R (Kd.int .u8) 5 W9 W6.heap.size _ _ m.f1.f2)
               have Y69 := Aside0.mk (by rw [hW9]; exact Kd.R_set (Kd.R_set (Kd.R_below Y6.out HB78.out) HS8.out.box (by decide) 0 _) hs8 (by decide) 1 _ : Kd.R (Kd.slice 5 (Kd.int .u8)) 22 W9 W6.heap.size _ _ m.f1.f3)
               have HX9 := Aside0.mk (show W9.heap[w5.heap.size]? = some (.cells #[.int .i64 m.f0.f0, .int .i64 m.f0.f1, .int .i64 m.f1.f0.f0, .int .i64 m.f1.f0.f1, .int .i64 m.f1.f1, .slice A5 m.f1.f2.length c5, .slice A6 m.f1.f3.length c6] 74 (0, 0)) by rw [hW9]; exact blk_far (blk_far HX8.out HN14.out _) HN14.out _)
               have HY9 := Aside0.mk (show W9.heap[w7.heap.size + 1]? = some (.cells #[.int .i64 m.f0.f0, .int .i64 m.f0.f1, .int .i64 m.f1.f0.f0, .int .i64 m.f1.f0.f1, .int .i64 m.f1.f1, .slice B5 m.f1.f2.length z5, .slice B6 m.f1.f3.length z6] 74 (0, 0)) by rw [hW9]; exact blk_far (blk_far HY17.out HN17.out _) HN17.out _)
               have q0 : W9.cell? ⟨w5.heap.size, 0, none⟩ = some (.int .i64 m.f0.f0) := by rw [blk_cell HX9.out]; rfl
               have q1 : W9.cell? ⟨w5.heap.size, 1, none⟩ = some (.int .i64 m.f0.f1) := by rw [blk_cell HX9.out]; rfl
               have q2 : W9.cell? ⟨w5.heap.size, 2, none⟩ = some (.int .i64 m.f1.f0.f0) := by rw [blk_cell HX9.out]; rfl
               have q3 : W9.cell? ⟨w5.heap.size, 3, none⟩ = some (.int .i64 m.f1.f0.f1) := by rw [blk_cell HX9.out]; rfl
               have q4 : W9.cell? ⟨w5.heap.size, 4, none⟩ = some (.int .i64 m.f1.f1) := by rw [blk_cell HX9.out]; rfl
               have q5 : W9.cell? ⟨w5.heap.size, 5, none⟩ = some (.slice A5 m.f1.f2.length c5) := by rw [blk_cell HX9.out]; rfl
               have q6 : W9.cell? ⟨w5.heap.size, 6, none⟩ = some (.slice A6 m.f1.f3.length c6) := by rw [blk_cell HX9.out]; rfl
               have p0 : ∀ bb, (W9.alloc bb).cell? ⟨w7.heap.size + 1, 0, none⟩ = some (.int .i64 m.f0.f0) := fun bb => by rw [blk_cell (blk_alloc HY9.out bb)]; rfl
               have p1 : ∀ bb, (W9.alloc bb).cell? ⟨w7.heap.size + 1, 1, none⟩ = some (.int .i64 m.f0.f1) := fun bb => by rw [blk_cell (blk_alloc HY9.out bb)]; rfl
               have p2 : ∀ bb, (W9.alloc bb).cell? ⟨w7.heap.size + 1, 2, none⟩ = some (.int .i64 m.f1.f0.f0) := fun bb => by rw [blk_cell (blk_alloc HY9.out bb)]; rfl
               have p3 : ∀ bb, (W9.alloc bb).cell? ⟨w7.heap.size + 1, 3, none⟩ = some (.int .i64 m.f1.f0.f1) := fun bb => by rw [blk_cell (blk_alloc HY9.out bb)]; rfl
               have p4 : ∀ bb, (W9.alloc bb).cell? ⟨w7.heap.size + 1, 4, none⟩ = some (.int .i64 m.f1.f1) := fun bb => by rw [blk_cell (blk_alloc HY9.out bb)]; rfl
               have p5 : ∀ bb, (W9.alloc bb).cell? ⟨w7.heap.size + 1, 5, none⟩ = some (.slice B5 m.f1.f2.length z5) := fun bb => by rw [blk_cell (blk_alloc HY9.out bb)]; rfl
               have p6 : ∀ bb, (W9.alloc bb).cell? ⟨w7.heap.size + 1, 6, none⟩ = some (.slice B6 m.f1.f3.length z6) := fun bb => by rw [blk_cell (blk_alloc HY9.out bb)]; rfl
               clear hW9 z0 z1 z2 z3 z4 z5_ n16 n16' hs8
               obtain ⟨t16, t17, t18, t19⟩ := two_boxes W9 (Obj.cells #[.int .i64 m.f0.f0, .int .i64 m.f0.f1, .int .i64 m.f1.f0.f0, .int .i64 m.f1.f0.f1, .int .i64 m.f1.f1, .slice A5 m.f1.f2.length c5, .slice A6 m.f1.f3.length c6] 74) (Obj.cells #[.int .i64 m.f0.f0, .int .i64 m.f0.f1, .int .i64 m.f1.f0.f0, .int .i64 m.f1.f0.f1, .int .i64 m.f1.f1, .slice B5 m.f1.f2.length z5, .slice B6 m.f1.f3.length z6] 74)
               have HT16 := Aside0.mk t16
               have HT17 := Aside0.mk t17
               have HT18 := Aside0.mk t18
               clear t16 t17 t18 t19
               go_wp2_with (fail)
               refine (stanchionref00_SameMails.calls ks (some ⟨W9.heap.size, 0, none⟩) 1 [m] (some ⟨W9.heap.size + 1, 0, none⟩) 1 [m] true _ (one_C HT16.out (Kd.R_reads' X59.out).2.1 (Kd.C_alloc (Kd.C_alloc (Kd.R_reads' X59.out).2.2 _) _) (Kd.R_reads' X69.out).2.1 (Kd.C_alloc (Kd.C_alloc (Kd.R_reads' X69.out).2.2 _) _)) (Nat.le_refl _) (one_C HT17.out (Kd.R_reads' Y59.out).2.1 (Kd.C_alloc (Kd.C_alloc (Kd.R_reads' Y59.out).2.2 _) _) (Kd.R_reads' Y69.out).2.1 (Kd.C_alloc (Kd.C_alloc (Kd.R_reads' Y69.out).2.2 _) _)) (Nat.le_refl _) Hks.out).mono ?_
               rintro e w12 ⟨rfl, hB12⟩
               have HS12 := Aside0.mk (show St w.heap.size w w12 g r6 room v' A17 c17 rs2 by have := HS9.out.step (below_step HT18.out hB12); rw [← HRS.out] at this; exact this)
               clear hB12
               go_wp2_with (fail)
               go_meet
               case rel => exact ⟨v', A17, c17, rs2, HS12⟩
             · have HK := Aside0.mk hk
               clear w1 w2 hk
               have HNR := Aside0.mk HS1.out.lt.2.1
               go_wp2_with (fail)
               refine (take_bad w.heap.size _ g room v ms o.f1 HS1.out.net HK.out).mono ?_
               rintro e w5 ⟨rfl, hB5⟩
               have HS5 := Aside0.mk (HS1.out.step hB5)
               have HZ5 := Aside0.mk hB5.size
               have HBX5 := Aside0.mk (blk_below HBX1.out hB5)
               obtain ⟨ks, hks⟩ := (ev_sameMails (a := [z74]) (by simp) (by simp [Fits, z74, z72])).rounds
               have Hks := Aside0.mk hks
               simp only [zero74]
               clear hB5 hks y0 y1 y2
               go_upto_region 29 with (fail)
               obtain ⟨W6, hW6⟩ : ∃ W6, W6 = w5.alloc (Obj.cells #[.int .i64 0, .int .i64 0, .int .i64 0, .int .i64 0, .int .i64 0, .slice none 0 0, .slice none 0 0] 74) := ⟨_, rfl⟩
               rw [← hW6]
               have HB56 := Aside0.mk (show Below w5.heap.size w5 W6 by rw [hW6]; exact below_alloc (Below.refl _ _) _)
               have HX6 := Aside0.mk (show W6.heap[w5.heap.size]? = some (.cells #[.int .i64 0, .int .i64 0, .int .i64 0, .int .i64 0, .int .i64 0, .slice none 0 0, .slice none 0 0] 74 (0, 0)) by rw [hW6]; exact blk_new _ _)
               have HS6 := Aside0.mk (HS5.out.step HB56.out)
               have x0 : W6.cell? ⟨r6, 0, none⟩ = some (.int .i64 room) := by rw [blk_cell HS6.out.box]; rfl
               have x1 : W6.cell? ⟨r6, 1, none⟩ = some (.slice Am ms.length cm) := by rw [blk_cell HS6.out.box]; rfl
               have y1 : W6.cell? ⟨wr.heap.size, 1, none⟩ = some (.int .i64 o.f1) := by rw [blk_cell (blk_below HBX5.out HB56.out)]; rfl
               clear hW6
               go_wp2_with (fail)
               refine (rtake_bad W6 room o.f1 Am ms.length cm HK.out).mono ?_
               rintro e w7 ⟨rfl, hB7⟩
               simp only [zero74]
               have HB7 := Aside0.mk hB7
               have HV7 := Aside0.mk (show Kd.V k74 74 w7 W6.heap.size (fun k => (¬ NetS g v k ∧ k ≠ r6) ∨ W6.heap.size ≤ k) (.slice Am ms.length cm) ms from V_any (Kd.V_mono (Kd.V_below HS6.out.ref hB7) (fun k hk => .inl hk)))
               clear hB7 x0 x1 y1
               go_upto_region 30 with (fail)
               obtain ⟨y16, y17, y18, y19⟩ := two_boxes w7 (Obj.cells #[.int .i64 room, .slice Am ms.length cm] 60) (Obj.cells #[.int .i64 0, .int .i64 0, .int .i64 0, .int .i64 0, .int .i64 0, .slice none 0 0, .slice none 0 0] 74)
               obtain ⟨W8, hW8⟩ : ∃ W8, W8 = (w7.alloc (Obj.cells #[.int .i64 room, .slice Am ms.length cm] 60)).alloc (Obj.cells #[.int .i64 0, .int .i64 0, .int .i64 0, .int .i64 0, .int .i64 0, .slice none 0 0, .slice none 0 0] 74) := ⟨_, rfl⟩
               rw [← hW8] at y16 y17 y18 y19 ⊢
               have HB78 := Aside0.mk y18
               have HB8 := Aside0.mk (below_then HB7.out HB7.out.size y18)
               have HV8 := Aside0.mk (Kd.V_below HV7.out y18)
               have HS8 := Aside0.mk (HS6.out.step HB8.out)
               have HY16 := Aside0.mk y16
               have HY17 := Aside0.mk y17
               have HX8 := Aside0.mk (blk_below HX6.out HB8.out)
               have n16 : w7.heap.size ≠ r6 := fun he => by have := HB7.out.size; have := HS6.out.lt.2.1; omega
               have n16' := n16.symm
               have n17 : w7.heap.size + 1 ≠ r6 := fun he => by have := HB7.out.size; have := HS6.out.lt.2.1; omega
               have n14 : w5.heap.size ≠ r6 := fun he => by have := HNR.out; have := HZ5.out; omega
               have z0 : W8.cell? ⟨r6, 0, none⟩ = some (.int .i64 room) := by rw [blk_cell HS8.out.box]; rfl
               have z1 : W8.cell? ⟨r6, 1, none⟩ = some (.slice Am ms.length cm) := by rw [blk_cell HS8.out.box]; rfl
               have z2 := blk_frozen HS8.out.box 0
               have z3 := blk_frozen HS8.out.box 1
               have z4 : W8.cell? ⟨w7.heap.size, 0, none⟩ = some (.int .i64 room) := by rw [blk_cell y16]; rfl
               have z5_ : W8.cell? ⟨w7.heap.size, 1, none⟩ = some (.slice Am ms.length cm) := by rw [blk_cell y16]; rfl
               have HN17 := Aside0.mk n17
               have HN14 := Aside0.mk n14
               clear hW8 y16 y17 y18 y19 n17 n14
               go_upto_region 31 with (fail)
               obtain ⟨W9, hW9⟩ : ∃ W9, W9 = (W8.setCell ⟨r6, 0, none⟩ (.int .i64 room)).setCell ⟨r6, 1, none⟩ (.slice Am ms.length cm) := ⟨_, rfl⟩
               rw [← hW9]
               have HS9 := Aside0.mk (show St2 w.heap.size w W9 g r6 room v Am cm ms ms by rw [hW9]; exact HS6.out.refop HB8.out HV8.out HS1.out.mem HS1.out.room)
               have HX9 := Aside0.mk (show W9.heap[w5.heap.size]? = some (.cells #[.int .i64 0, .int .i64 0, .int .i64 0, .int .i64 0, .int .i64 0, .slice none 0 0, .slice none 0 0] 74 (0, 0)) by rw [hW9]; exact blk_far (blk_far HX8.out HN14.out _) HN14.out _)
               have HY9 := Aside0.mk (show W9.heap[w7.heap.size + 1]? = some (.cells #[.int .i64 0, .int .i64 0, .int .i64 0, .int .i64 0, .int .i64 0, .slice none 0 0, .slice none 0 0] 74 (0, 0)) by rw [hW9]; exact blk_far (blk_far HY17.out HN17.out _) HN17.out _)
               have q0 : W9.cell? ⟨w5.heap.size, 0, none⟩ = some (.int .i64 0) := by rw [blk_cell HX9.out]; rfl
               have q1 : W9.cell? ⟨w5.heap.size, 1, none⟩ = some (.int .i64 0) := by rw [blk_cell HX9.out]; rfl
               have q2 : W9.cell? ⟨w5.heap.size, 2, none⟩ = some (.int .i64 0) := by rw [blk_cell HX9.out]; rfl
               have q3 : W9.cell? ⟨w5.heap.size, 3, none⟩ = some (.int .i64 0) := by rw [blk_cell HX9.out]; rfl
               have q4 : W9.cell? ⟨w5.heap.size, 4, none⟩ = some (.int .i64 0) := by rw [blk_cell HX9.out]; rfl
               have q5 : W9.cell? ⟨w5.heap.size, 5, none⟩ = some (.slice none 0 0) := by rw [blk_cell HX9.out]; rfl
               have q6 : W9.cell? ⟨w5.heap.size, 6, none⟩ = some (.slice none 0 0) := by rw [blk_cell HX9.out]; rfl
               have p0 : ∀ bb, (W9.alloc bb).cell? ⟨w7.heap.size + 1, 0, none⟩ = some (.int .i64 0) := fun bb => by rw [blk_cell (blk_alloc HY9.out bb)]; rfl
               have p1 : ∀ bb, (W9.alloc bb).cell? ⟨w7.heap.size + 1, 1, none⟩ = some (.int .i64 0) := fun bb => by rw [blk_cell (blk_alloc HY9.out bb)]; rfl
               have p2 : ∀ bb, (W9.alloc bb).cell? ⟨w7.heap.size + 1, 2, none⟩ = some (.int .i64 0) := fun bb => by rw [blk_cell (blk_alloc HY9.out bb)]; rfl
               have p3 : ∀ bb, (W9.alloc bb).cell? ⟨w7.heap.size + 1, 3, none⟩ = some (.int .i64 0) := fun bb => by rw [blk_cell (blk_alloc HY9.out bb)]; rfl
               have p4 : ∀ bb, (W9.alloc bb).cell? ⟨w7.heap.size + 1, 4, none⟩ = some (.int .i64 0) := fun bb => by rw [blk_cell (blk_alloc HY9.out bb)]; rfl
               have p5 : ∀ bb, (W9.alloc bb).cell? ⟨w7.heap.size + 1, 5, none⟩ = some (.slice none 0 0) := fun bb => by rw [blk_cell (blk_alloc HY9.out bb)]; rfl
               have p6 : ∀ bb, (W9.alloc bb).cell? ⟨w7.heap.size + 1, 6, none⟩ = some (.slice none 0 0) := fun bb => by rw [blk_cell (blk_alloc HY9.out bb)]; rfl
               clear hW9 z0 z1 z2 z3 z4 z5_ n16 n16'
               obtain ⟨t16, t17, t18, t19⟩ := two_boxes W9 (Obj.cells #[.int .i64 0, .int .i64 0, .int .i64 0, .int .i64 0, .int .i64 0, .slice none 0 0, .slice none 0 0] 74) (Obj.cells #[.int .i64 0, .int .i64 0, .int .i64 0, .int .i64 0, .int .i64 0, .slice none 0 0, .slice none 0 0] 74)
               have HT16 := Aside0.mk t16
               have HT17 := Aside0.mk t17
               have HT18 := Aside0.mk t18
               clear t16 t17 t18 t19
               go_wp2_with (fail)
               refine (stanchionref00_SameMails.calls ks (some ⟨W9.heap.size, 0, none⟩) 1 [z74] (some ⟨W9.heap.size + 1, 0, none⟩) 1 [z74] true _ (one_C (m := z74) (A5 := none) (A6 := none) (c5 := 0) (c6 := 0) HT16.out (Nat.le_refl _) (Kd.C_nil _ _) (Nat.le_refl _) (Kd.C_nil _ _)) (Nat.le_refl _) (one_C (m := z74) (A5 := none) (A6 := none) (c5 := 0) (c6 := 0) HT17.out (Nat.le_refl _) (Kd.C_nil _ _) (Nat.le_refl _) (Kd.C_nil _ _)) (Nat.le_refl _) Hks.out).mono ?_
               rintro e w12 ⟨rfl, hB12⟩
               have HS12 := Aside0.mk (show St w.heap.size w w12 g r6 room v Am cm ms from HS9.out.step (below_step HT18.out hB12))
               clear hB12
               go_wp2_with (fail)
               go_meet
               case rel => exact ⟨v, Am, cm, ms, HS12⟩
           · have d2 : (o.f0 == 2) = false := by simp [w2]
             by_cases w3 : o.f0 = 3
             · have d3 : (o.f0 == 3) = true := by simp [w3]
               by_cases hk : 0 ≤ o.f1 ∧ o.f1 < (ms.length : Int)
               · by_cases hf : room ≤ (ms.length : Int)
                 · have HK := Aside0.mk hk
                   have HF := Aside0.mk hf
                   clear w1 w2 w3 hk hf
                   obtain ⟨kk, hkk⟩ := (ev_rcopy_full HK.out HF.out).rounds
                   obtain ⟨rs2, hrs2⟩ : ∃ rs2, rs2 = ms := ⟨_, rfl⟩
                   have HKK := Aside0.mk (show stanchionref21_Net_Copy.f kk room ms o.f1 = some (room, rs2, 210) by rw [hrs2]; exact hkk)
                   have HRS := Aside0.mk hrs2
                   have x0 : W1.cell? ⟨r6, 0, none⟩ = some (.int .i64 room) := by rw [blk_cell HS1.out.box]; rfl
                   have x1 : W1.cell? ⟨r6, 1, none⟩ = some (.slice Am ms.length cm) := by rw [blk_cell HS1.out.box]; rfl
                   clear hkk hrs2
                   go_wp2_with (fail)
                   refine (stanchionref21_Net_Copy.calls kk room (fun k => ¬ NetS g v k ∧ k ≠ r6) Am cm ms o.f1 room rs2 210 _ (V_any HS1.out.ref) HKK.out).mono ?_
                   rintro e w5 ⟨v5, rfl, hV5, hB5⟩
                   obtain ⟨A5, c5, e5⟩ := Kd.V_slice hV5
                   subst e5
                   have HV5 := Aside0.mk hV5
                   have HB5 := Aside0.mk hB5
                   clear hV5 hB5
                   go_upto_region 35 with (fail)
                   obtain ⟨W6, hW6⟩ : ∃ W6, W6 = w5.alloc (Obj.cells #[.int .i64 room, .slice A5 rs2.length c5] 60) := ⟨_, rfl⟩
                   rw [← hW6]
                   have HB6 := Aside0.mk (show Below W1.heap.size W1 W6 by rw [hW6]; exact below_alloc HB5.out _)
                   have HV6 := Aside0.mk (show Kd.V k74 74 W6 W1.heap.size (fun k => (¬ NetS g v k ∧ k ≠ r6) ∨ W1.heap.size ≤ k) (.slice A5 rs2.length c5) rs2 by rw [hW6]; exact Kd.V_alloc HV5.out _)
                   have HS6 := Aside0.mk (HS1.out.step HB6.out)
                   have HB19 := Aside0.mk (show W6.heap[w5.heap.size]? = some (.cells #[.int .i64 room, .slice A5 rs2.length c5] 60 (0, 0)) by rw [hW6]; exact blk_new _ _)
                   have HN19 := Aside0.mk (show w5.heap.size ≠ r6 from fun he => by have := HB5.out.size; have := HS1.out.lt.2.1; omega)
                   have n19 := HN19.out
                   have n19' := HN19.out.symm
                   have z0 : W6.cell? ⟨r6, 0, none⟩ = some (.int .i64 room) := by rw [blk_cell HS6.out.box]; rfl
                   have z1 : W6.cell? ⟨r6, 1, none⟩ = some (.slice Am ms.length cm) := by rw [blk_cell HS6.out.box]; rfl
                   have z2 := blk_frozen HS6.out.box 0
                   have z3 := blk_frozen HS6.out.box 1
                   have z4 : W6.cell? ⟨w5.heap.size, 0, none⟩ = some (.int .i64 room) := by rw [blk_cell HB19.out]; rfl
                   have z5 : W6.cell? ⟨w5.heap.size, 1, none⟩ = some (.slice A5 rs2.length c5) := by rw [blk_cell HB19.out]; rfl
                   clear hW6 x0 x1 y0 y1 y2
                   go_upto_region 36 with (fail)
                   obtain ⟨W7, hW7⟩ : ∃ W7, W7 = (W6.setCell ⟨r6, 0, none⟩ (.int .i64 room)).setCell ⟨r6, 1, none⟩ (.slice A5 rs2.length c5) := ⟨_, rfl⟩
                   rw [← hW7]
                   have HS7 := Aside0.mk (show St2 w.heap.size w W7 g r6 room v A5 c5 ms rs2 by rw [hW7]; exact HS1.out.refop HB6.out HV6.out (by rw [HRS.out]; exact HS1.out.mem) (by rw [HRS.out]; exact HS1.out.room))
                   have n8 : wr.heap.size ≠ r6 := fun he => by have := HX1.out; omega
                   have y1 : W7.cell? ⟨wr.heap.size, 1, none⟩ = some (.int .i64 o.f1) := by rw [hW7, blk_cell (blk_far (blk_far (blk_below HBX1.out HB6.out) n8 _) n8 _)]; rfl
                   clear hW7 z0 z1 z2 z3 z4 z5 n19 n19' n8
                   go_wp2_with (fail)
                   refine (copy_full w.heap.size _ g room v ms o.f1 HS7.out.net HK.out HF.out).mono ?_
                   rintro e w8 ⟨rfl, hw8⟩
                   have HS8 := Aside0.mk (show St w.heap.size w w8 g r6 room v A5 c5 ms by rw [hw8]; have := HS7.out.drew; rw [HRS.out] at this; exact this)
                   clear hw8
                   go_wp2_with (fail)
                   go_meet
                   case rel => exact ⟨v, A5, c5, ms, HS8⟩
                 · obtain ⟨k, hk1⟩ : ∃ k : Nat, o.f1 = (k : Int) := ⟨o.f1.toNat, by omega⟩
                   have hkl : k < ms.length := by omega
                   have HF := Aside0.mk (show (ms.length : Int) < room by omega)
                   have HK1 := Aside0.mk hk1
                   rw [hk1] at y1
                   clear w1 w2 w3 hk hf hk1
                   obtain ⟨kk, hkk⟩ := (ev_rcopy_ok (all := ms) (room := room) hkl (by have := HF.out; omega) hmany).rounds
                   obtain ⟨rs2, hrs2⟩ : ∃ rs2, rs2 = (ms ++ [ms[k]]) := ⟨_, rfl⟩
                   rw [← hrs2] at hkk
                   have HKK := Aside0.mk hkk
                   have HRS := Aside0.mk hrs2
                   have x0 : W1.cell? ⟨r6, 0, none⟩ = some (.int .i64 room) := by rw [blk_cell HS1.out.box]; rfl
                   have x1 : W1.cell? ⟨r6, 1, none⟩ = some (.slice Am ms.length cm) := by rw [blk_cell HS1.out.box]; rfl
                   clear hkk hrs2
                   go_wp2_with (fail)
                   refine (stanchionref21_Net_Copy.calls kk room (fun k => ¬ NetS g v k ∧ k ≠ r6) Am cm ms (k : Int) room rs2 0 _ (V_any HS1.out.ref) HKK.out).mono ?_
                   rintro e w5 ⟨v5, rfl, hV5, hB5⟩
                   obtain ⟨A5, c5, e5⟩ := Kd.V_slice hV5
                   subst e5
                   have HV5 := Aside0.mk hV5
                   have HB5 := Aside0.mk hB5
                   clear hV5 hB5
                   go_upto_region 35 with (fail)
                   obtain ⟨W6, hW6⟩ : ∃ W6, W6 = w5.alloc (Obj.cells #[.int .i64 room, .slice A5 rs2.length c5] 60) := ⟨_, rfl⟩
                   rw [← hW6]
                   have HB6 := Aside0.mk (show Below W1.heap.size W1 W6 by rw [hW6]; exact below_alloc HB5.out _)
                   have HV6 := Aside0.mk (show Kd.V k74 74 W6 W1.heap.size (fun k => (¬ NetS g v k ∧ k ≠ r6) ∨ W1.heap.size ≤ k) (.slice A5 rs2.length c5) rs2 by rw [hW6]; exact Kd.V_alloc HV5.out _)
                   have HS6 := Aside0.mk (HS1.out.step HB6.out)
                   have HB19 := Aside0.mk (show W6.heap[w5.heap.size]? = some (.cells #[.int .i64 room, .slice A5 rs2.length c5] 60 (0, 0)) by rw [hW6]; exact blk_new _ _)
                   have HN19 := Aside0.mk (show w5.heap.size ≠ r6 from fun he => by have := HB5.out.size; have := HS1.out.lt.2.1; omega)
                   have n19 := HN19.out
                   have n19' := HN19.out.symm
                   have z0 : W6.cell? ⟨r6, 0, none⟩ = some (.int .i64 room) := by rw [blk_cell HS6.out.box]; rfl
                   have z1 : W6.cell? ⟨r6, 1, none⟩ = some (.slice Am ms.length cm) := by rw [blk_cell HS6.out.box]; rfl
                   have z2 := blk_frozen HS6.out.box 0
                   have z3 := blk_frozen HS6.out.box 1
                   have z4 : W6.cell? ⟨w5.heap.size, 0, none⟩ = some (.int .i64 room) := by rw [blk_cell HB19.out]; rfl
                   have z5 : W6.cell? ⟨w5.heap.size, 1, none⟩ = some (.slice A5 rs2.length c5) := by rw [blk_cell HB19.out]; rfl
                   clear hW6 x0 x1 y0 y1 y2
                   go_upto_region 36 with (fail)
                   obtain ⟨W7, hW7⟩ : ∃ W7, W7 = (W6.setCell ⟨r6, 0, none⟩ (.int .i64 room)).setCell ⟨r6, 1, none⟩ (.slice A5 rs2.length c5) := ⟨_, rfl⟩
                   rw [← hW7]
                   have HS7 := Aside0.mk (show St2 w.heap.size w W7 g r6 room v A5 c5 ms rs2 by rw [hW7]; exact HS1.out.refop HB6.out HV6.out (by rw [HRS.out]; intro x hx; rcases List.mem_append.1 hx with hx | hx; exact HS1.out.mem x hx; rw [List.mem_singleton.1 hx]; exact HS1.out.mem _ (List.getElem_mem hkl)) (by rw [HRS.out, List.length_append]; have := HF.out; simp; omega))
                   have n8 : wr.heap.size ≠ r6 := fun he => by have := HX1.out; omega
                   have y1 : W7.cell? ⟨wr.heap.size, 1, none⟩ = some (.int .i64 k) := by rw [hW7, blk_cell (blk_far (blk_far (blk_below HBX1.out HB6.out) n8 _) n8 _)]; rw [← HK1.out]; rfl
                   clear hW7 z0 z1 z2 z3 z4 z5 n19 n19' n8
                   go_wp2_with (fail)
                   refine (copy_ok w.heap.size w _ g room v ms k HS7.out.net HS7.out.lt.2.2 HS7.out.below hkl (by have := HF.out; omega) hr1).mono ?_
                   rintro e w8 ⟨rfl, v', hN8, hA8, hK8, hB8⟩
                   have HS8 := Aside0.mk (show St w.heap.size w w8 g r6 room v' A5 c5 (ms ++ [ms[k]]) by have := HS7.out.netop hN8 hA8 hK8 hB8; rw [HRS.out] at this; exact this)
                   clear hN8 hA8 hK8 hB8
                   go_wp2_with (fail)
                   go_meet
                   case rel => exact ⟨v', A5, c5, ms ++ [ms[k]], HS8⟩
               · have HK := Aside0.mk hk
                 clear w1 w2 w3 hk
                 obtain ⟨kk, hkk⟩ := (ev_rcopy_bad (all := ms) (room := room) HK.out).rounds
                 obtain ⟨rs2, hrs2⟩ : ∃ rs2, rs2 = ms := ⟨_, rfl⟩
                 have HKK := Aside0.mk (show stanchionref21_Net_Copy.f kk room ms o.f1 = some (room, rs2, 211) by rw [hrs2]; exact hkk)
                 have HRS := Aside0.mk hrs2
                 have x0 : W1.cell? ⟨r6, 0, none⟩ = some (.int .i64 room) := by rw [blk_cell HS1.out.box]; rfl
                 have x1 : W1.cell? ⟨r6, 1, none⟩ = some (.slice Am ms.length cm) := by rw [blk_cell HS1.out.box]; rfl
                 clear hkk hrs2
                 go_wp2_with (fail)
                 refine (stanchionref21_Net_Copy.calls kk room (fun k => ¬ NetS g v k ∧ k ≠ r6) Am cm ms o.f1 room rs2 211 _ (V_any HS1.out.ref) HKK.out).mono ?_
                 rintro e w5 ⟨v5, rfl, hV5, hB5⟩
                 obtain ⟨A5, c5, e5⟩ := Kd.V_slice hV5
                 subst e5
                 have HV5 := Aside0.mk hV5
                 have HB5 := Aside0.mk hB5
                 clear hV5 hB5
                 go_upto_region 35 with (fail)
                 obtain ⟨W6, hW6⟩ : ∃ W6, W6 = w5.alloc (Obj.cells #[.int .i64 room, .slice A5 rs2.length c5] 60) := ⟨_, rfl⟩
                 rw [← hW6]
                 have HB6 := Aside0.mk (show Below W1.heap.size W1 W6 by rw [hW6]; exact below_alloc HB5.out _)
                 have HV6 := Aside0.mk (show Kd.V k74 74 W6 W1.heap.size (fun k => (¬ NetS g v k ∧ k ≠ r6) ∨ W1.heap.size ≤ k) (.slice A5 rs2.length c5) rs2 by rw [hW6]; exact Kd.V_alloc HV5.out _)
                 have HS6 := Aside0.mk (HS1.out.step HB6.out)
                 have HB19 := Aside0.mk (show W6.heap[w5.heap.size]? = some (.cells #[.int .i64 room, .slice A5 rs2.length c5] 60 (0, 0)) by rw [hW6]; exact blk_new _ _)
                 have HN19 := Aside0.mk (show w5.heap.size ≠ r6 from fun he => by have := HB5.out.size; have := HS1.out.lt.2.1; omega)
                 have n19 := HN19.out
                 have n19' := HN19.out.symm
                 have z0 : W6.cell? ⟨r6, 0, none⟩ = some (.int .i64 room) := by rw [blk_cell HS6.out.box]; rfl
                 have z1 : W6.cell? ⟨r6, 1, none⟩ = some (.slice Am ms.length cm) := by rw [blk_cell HS6.out.box]; rfl
                 have z2 := blk_frozen HS6.out.box 0
                 have z3 := blk_frozen HS6.out.box 1
                 have z4 : W6.cell? ⟨w5.heap.size, 0, none⟩ = some (.int .i64 room) := by rw [blk_cell HB19.out]; rfl
                 have z5 : W6.cell? ⟨w5.heap.size, 1, none⟩ = some (.slice A5 rs2.length c5) := by rw [blk_cell HB19.out]; rfl
                 clear hW6 x0 x1 y0 y1 y2
                 go_upto_region 36 with (fail)
                 obtain ⟨W7, hW7⟩ : ∃ W7, W7 = (W6.setCell ⟨r6, 0, none⟩ (.int .i64 room)).setCell ⟨r6, 1, none⟩ (.slice A5 rs2.length c5) := ⟨_, rfl⟩
                 rw [← hW7]
                 have HS7 := Aside0.mk (show St2 w.heap.size w W7 g r6 room v A5 c5 ms rs2 by rw [hW7]; exact HS1.out.refop HB6.out HV6.out (by rw [HRS.out]; exact HS1.out.mem) (by rw [HRS.out]; exact HS1.out.room))
                 have n8 : wr.heap.size ≠ r6 := fun he => by have := HX1.out; omega
                 have y1 : W7.cell? ⟨wr.heap.size, 1, none⟩ = some (.int .i64 o.f1) := by rw [hW7, blk_cell (blk_far (blk_far (blk_below HBX1.out HB6.out) n8 _) n8 _)]; rfl
                 clear hW7 z0 z1 z2 z3 z4 z5 n19 n19' n8
                 go_wp2_with (fail)
                 refine (copy_bad w.heap.size _ g room v ms o.f1 HS7.out.net HK.out).mono ?_
                 rintro e w8 ⟨rfl, hw8⟩
                 have HS8 := Aside0.mk (show St w.heap.size w w8 g r6 room v A5 c5 ms by rw [hw8]; have := HS7.out; rw [HRS.out] at this; exact this)
                 clear hw8
                 go_wp2_with (fail)
                 go_meet
                 case rel => exact ⟨v, A5, c5, ms, HS8⟩
             · have d3 : (o.f0 == 3) = false := by simp [w3]
               clear w1 w2 w3
               go_wp2_with (fail)
               go_meet
               case rel => exact ⟨v, Am, cm, ms, HS1⟩
        case rest =>
          clear y0 y1 y2 HS1 HBX1 hrs hmany
          obtain ⟨v, Am, cm, ms, HSC⟩ := hcut
          go_wp2_with (fail)
          refine (all_calls w.heap.size _ g room v ms HSC.out.net HSC.out.lt.2.2).mono ?_
          rintro e w11 ⟨v21, rfl, hR21, hB21⟩
          obtain ⟨A21, c21, e21, hc21, hC21⟩ := R_len hR21
          subst e21
          have HS11 := Aside0.mk (HSC.out.step hB21)
          have HR21 := Aside0.mk hR21
          have HB21 := Aside0.mk hB21
          have Hc21 := Aside0.mk hc21
          have HC21 := Aside0.mk hC21
          have t1 : w11.cell? ⟨r6, 1, none⟩ = some (.slice Am ms.length cm) := by rw [blk_cell HS11.out.box]; rfl
          have hmn := HSC.out.net.many
          obtain ⟨kss, hkss⟩ := (ev_sameMails (a := ms) (by omega) HS11.out.net.fits).rounds
          have Hkss := Aside0.mk hkss
          obtain ⟨_, hcm, hCm⟩ := Kd.V_reads' HS11.out.ref
          have Hcm := Aside0.mk hcm
          have HCm := Aside0.mk hCm
          clear hR21 hB21 hc21 hC21 hkss hcm hCm
          go_upto_region 39 with (fail)
          refine start_ (n := 13) (S := fun w' => w'.cell? ⟨r6, 1, none⟩ = some (.slice Am ms.length cm) ∧ Below w11.heap.size w11 w') (ds := []) #[false, false, false, false, false, false, false, false, false, false, false, false, false] (by kernel_rfl) rfl rfl ⟨t1, below_drew1 (Below.refl _ _)⟩ (fun hHeld => ?_)
          clear t1
          generalize w11.drew = w12 at hHeld ⊢
          refine with_tabW netSteps_tab39 netSteps_bits39 (fun HT_ HW_ => ?_)
          refine pure_ (i := 0) (N := some 146) (v := ?_) (a' := ?_) #[true, false, false, false, false, false, false, false, false, false, false, false, false] rfl rfl (any_of HT_.out (by kernel_rfl)) (fun _ _ _ h => h) (Or.inl ⟨by rfl, ?_⟩) ?_ ?_
          rotate_left
          · intro w'
            go_simp
            with_reducible rfl
          rotate_left
          · simp only [Act.put, List.setIfInBounds_toArray, List.set_cons_zero, List.set_cons_succ, i64_w, i32_w]
            rfl
          refine pure_ (i := 2) (N := some 148) (v := ?_) (a' := ?_) #[true, false, true, false, false, false, false, false, false, false, false, false, false] rfl rfl (any_of HT_.out (by kernel_rfl)) (fun _ _ _ h => h) (Or.inl ⟨by rfl, ?_⟩) ?_ ?_
          rotate_left
          · intro w'
            go_simp
            with_reducible rfl
          rotate_left
          · simp only [Act.put, List.setIfInBounds_toArray, List.set_cons_zero, List.set_cons_succ, i64_w, i32_w]
            rfl
          refine take_ (i := 3) (N := some 149) (v := ?_) (a' := ?_) #[true, false, true, true, false, false, false, false, false, false, false, false, false] rfl rfl (take_ofW HT_.out HW_.out (by kernel_rfl)) (fun _ _ _ h => h) (Or.inl ⟨by rfl, ?_⟩) hHeld ?_ ?_
          rotate_left
          · rintro w' ⟨s0, s1⟩
            go_simp
            with_reducible rfl
          rotate_left
          · simp only [Act.put, List.setIfInBounds_toArray, List.set_cons_zero, List.set_cons_succ, i64_w, i32_w]
            rfl
          refine pure_ (i := 4) (N := some 150) (v := ?_) (a' := ?_) #[true, false, true, true, true, false, false, false, false, false, false, false, false] rfl rfl (any_of HT_.out (by kernel_rfl)) (fun _ _ _ h => h) (Or.inl ⟨by rfl, ?_⟩) ?_ ?_
          rotate_left
          · intro w'
            go_simp
            with_reducible rfl
          rotate_left
          · simp only [Act.put, List.setIfInBounds_toArray, List.set_cons_zero, List.set_cons_succ, i64_w, i32_w]
            rfl
          refine one_ (i := 1) (N := some 147) #[true, true, true, true, true, false, false, false, false, false, false, false, false] rfl rfl (one_of HT_.out (by kernel_rfl)) (by decide) (fun K hK => ?_)
          refine goes_ Try.func61 (by kernel_rfl) rfl #[.pointer (some ⟨g, 0, none⟩)] (by rfl) rfl rfl (by (try simp only [List.map_toArray, List.map_cons, List.map_nil]); first | done | rfl) ?_
          refine (len_calls w.heap.size _ g room v ms (HS11.out.step hHeld.2).net).mono ?_
          rintro e w13 ⟨rfl, hw13⟩
          refine ⟨_, rfl, ?_⟩
          rw [hw13]
          clear hw13
          refine hK.out _ _ hHeld (fun hHeld => ?_)
          clear hK K
          refine norm_ (a' := ?_) ?_ ?_
          rotate_left
          · show Act.put _ (some 147) _ = _
            simp only [Act.put, List.setIfInBounds_toArray, List.set_cons_zero, List.set_cons_succ, i64_w, i32_w]
            rfl
          refine pure_ (i := 5) (N := some 151) (v := ?_) (a' := ?_) #[true, true, true, true, true, true, false, false, false, false, false, false, false] rfl rfl (any_of HT_.out (by kernel_rfl)) (fun _ _ _ h => h) (Or.inl ⟨by rfl, ?_⟩) ?_ ?_
          rotate_left
          · intro w'
            go_simp
            with_reducible rfl
          rotate_left
          · simp only [Act.put, List.setIfInBounds_toArray, List.set_cons_zero, List.set_cons_succ, i64_w, i32_w]
            rfl
          refine pure_ (i := 6) (N := some 152) (v := ?_) (a' := ?_) #[true, true, true, true, true, true, true, false, false, false, false, false, false] rfl rfl (any_of HT_.out (by kernel_rfl)) (fun _ _ _ h => h) (Or.inl ⟨by rfl, ?_⟩) ?_ ?_
          rotate_left
          · intro w'
            go_simp
            with_reducible rfl
          rotate_left
          · simp only [Act.put, List.setIfInBounds_toArray, List.set_cons_zero, List.set_cons_succ, i64_w, i32_w]
            rfl
          refine pure_ (i := 7) (N := some 153) (v := ?_) (a' := ?_) #[true, true, true, true, true, true, true, true, false, false, false, false, false] rfl rfl (any_of HT_.out (by kernel_rfl)) (fun _ _ _ h => h) (Or.inl ⟨by rfl, ?_⟩) ?_ ?_
          rotate_left
          · intro w'
            go_simp
            with_reducible rfl
          rotate_left
          · simp only [Act.put, List.setIfInBounds_toArray, List.set_cons_zero, List.set_cons_succ, i64_w, i32_w]
            rfl
          refine pure_ (i := 8) (N := some 154) (v := ?_) (a' := ?_) #[true, true, true, true, true, true, true, true, true, false, false, false, false] rfl rfl (any_of HT_.out (by kernel_rfl)) (fun _ _ _ h => h) (Or.inl ⟨by rfl, ?_⟩) ?_ ?_
          rotate_left
          · intro w'
            go_simp
            with_reducible rfl
          rotate_left
          · simp only [Act.put, List.setIfInBounds_toArray, List.set_cons_zero, List.set_cons_succ, i64_w, i32_w]
            rfl
          refine take_ (i := 9) (N := some 155) (v := ?_) (a' := ?_) #[true, true, true, true, true, true, true, true, true, true, false, false, false] rfl rfl (take_ofW HT_.out HW_.out (by kernel_rfl)) (fun _ _ _ h => h) (Or.inl ⟨by rfl, ?_⟩) hHeld ?_ ?_
          rotate_left
          · rintro w' ⟨s0, s1⟩
            go_simp
            with_reducible rfl
          rotate_left
          · simp only [Act.put, List.setIfInBounds_toArray, List.set_cons_zero, List.set_cons_succ, i64_w, i32_w]
            rfl
          refine one_ (i := 10) (N := some 156) #[true, true, true, true, true, true, true, true, true, true, true, false, false] rfl rfl (one_of HT_.out (by kernel_rfl)) (by decide) (fun K hK => ?_)
          refine goes_ Try.func55 (by kernel_rfl) rfl #[.slice A21 ms.length c21, .slice Am ms.length cm] (by rfl) rfl rfl (by (try simp only [List.map_toArray, List.map_cons, List.map_nil]); first | done | rfl) ?_
          refine (stanchionref00_SameMails.calls kss A21 c21 ms Am cm ms true _ (Kd.C_below HC21.out hHeld.2) Hc21.out (Kd.C_below HCm.out hHeld.2) Hcm.out Hkss.out).mono ?_
          rintro e w14 ⟨rfl, hb⟩
          refine ⟨_, rfl, ?_⟩
          refine hK.out _ _ ⟨(hb.cell (World.block_lt_of_cell? _ _ hHeld.1)).trans hHeld.1, below_step hHeld.2 hb⟩ (fun hHeld => ?_)
          clear hK K hb
          refine norm_ (a' := ?_) ?_ ?_
          rotate_left
          · show Act.put _ (some 156) _ = _
            simp only [Act.put, List.setIfInBounds_toArray, List.set_cons_zero, List.set_cons_succ, i64_w, i32_w]
            rfl
          refine pure_ (i := 11) (N := some 157) (v := ?_) (a' := ?_) #[true, true, true, true, true, true, true, true, true, true, true, true, false] rfl rfl (any_of HT_.out (by kernel_rfl)) (fun _ _ _ h => h) (Or.inl ⟨by rfl, ?_⟩) ?_ ?_
          rotate_left
          · intro w'
            go_simp
            with_reducible rfl
          rotate_left
          · simp only [Act.put, List.setIfInBounds_toArray, List.set_cons_zero, List.set_cons_succ, i64_w, i32_w]
            rfl
          refine pure_ (i := 12) (N := some 158) (v := ?_) (a' := ?_) #[true, true, true, true, true, true, true, true, true, true, true, true, true] rfl rfl (any_of HT_.out (by kernel_rfl)) (fun _ _ _ h => h) (Or.inl ⟨by rfl, ?_⟩) ?_ ?_
          rotate_left
          · intro w'
            go_simp
            with_reducible rfl
          rotate_left
          · simp only [Act.put, List.setIfInBounds_toArray, List.set_cons_zero, List.set_cons_succ, i64_w, i32_w]
            rfl
          refine done_ (done_of HT_.out (by kernel_rfl)) ?_
          have HB14 := Aside0.mk (below_then HB21.out HB21.out.size hHeld.2)
          obtain ⟨W0, hW0⟩ : ∃ W0, W0 = w14 := ⟨_, rfl⟩
          have hSC : ∃ gr As Ls cs, 0 < ms.length → A21 = some ⟨gr, 0, none⟩ ∧ Scr w14 (wc).heap.size w14.heap.size gr ms.length As Ls cs := by
            by_cases h0 : 0 < ms.length
            · obtain ⟨gr, As, Ls, cs, e1, h1⟩ := Scr.of (Kd.R_bound (Kd.R_below HR21.out hHeld.2)) h0 HS11.out.net.fits w14.heap.size (fun q hq => hq.2.2.1)
              exact ⟨gr, As, Ls, cs, fun _ => ⟨e1, h1⟩⟩
            · exact ⟨0, fun _ => none, fun _ => 0, fun _ => 0, fun h => absurd h h0⟩
          obtain ⟨gr, As, Ls, cs, hSC⟩ := hSC
          obtain ⟨bs, hbs⟩ : ∃ bs, bs = (wc).heap.size := ⟨_, rfl⟩
          obtain ⟨tp, htp⟩ : ∃ tp, tp = w14.heap.size := ⟨_, rfl⟩
          obtain ⟨w0S, hw0S⟩ : ∃ w0S, w0S = (wc) := ⟨_, rfl⟩
          rw [← hbs, ← htp] at hSC
          have HSCR := Aside0.mk hSC
          have HW0S := Aside0.mk (show Below bs w0S w14 by rw [hbs, hw0S]; exact HB14.out)
          have HBS := Aside0.mk hbs
          have HWS := Aside0.mk hw0S
          clear hSC hbs htp hw0S hW0 hHeld HB21 HR21 HC21 HCm Hcm Hc21 Hkss
          go_wp2_with (fail)
          go_loopw [22] (fun vo wr2 => ∃ j : Nat, vo = .int .i64 (j : Int) ∧ j ≤ ms.length ∧ Aside0 (0 < ms.length → A21 = some ⟨gr, 0, none⟩ ∧ Scr wr2 bs tp gr ms.length As Ls cs) ∧ Aside0 (Kept w14 wr2 (fun k => bs ≤ k ∧ k < tp)) ∧ Aside0 (Below bs w0S wr2)) (fun vo _ => ms.length - (intOf vo).toNat)
          case atStart => exact ⟨0, rfl, Nat.zero_le _, HSCR, ⟨Kept.refl _ _⟩, HW0S⟩
          case round =>
            obtain ⟨wr2, rfl⟩ : ∃ W : World, W = wr := ⟨_, rfl⟩
            obtain ⟨j, rfl, hj, HSc, HKs, HBs⟩ := hrel
            by_cases hjn : j < ms.length
            · have j0 : decide ((j : Int) < (ms.length : Int)) = true := decide_eq_true (by omega)
              have j0' : decide (j < ms.length) = true := decide_eq_true hjn
              have j1 : (0 ≤ (j : Int)) = True := eq_true (by omega)
              have j2 : ((j : Int) < (ms.length : Int)) = True := eq_true (by omega)
              obtain ⟨eA, hS⟩ := HSc.out (by omega)
              subst eA
              obtain ⟨crow, hrow, hr5, hr1⟩ := hS.row
              have hbt := hS.ge
              have htt := hS.lt
              have hsm := hS.small j hjn
              have HS2 := Aside0.mk hS
              obtain ⟨u1, hu1⟩ := hr1 j hjn
              have f1 : wr2.cell? ⟨gr, j * 7 + 1, none⟩ = some u1 := by rw [blk_cell hrow]; exact hu1
              have f2 : wr2.frozen? ⟨gr, j * 7 + 1, none⟩ = false := blk_frozen hrow _
              clear hrow hr5 hr1 hS HSc
              go_wp2_with (fail)
              go_loopw [23] (fun vi wr3 => ∃ q : Nat, vi = .int .i64 (q : Int) ∧ q ≤ Ls j ∧ Aside0 (Scr wr3 bs tp gr ms.length As Ls cs) ∧ Aside0 (Kept w14 wr3 (fun k => bs ≤ k ∧ k < tp)) ∧ Aside0 (Below bs w0S wr3)) (fun vi _ => Ls j - (intOf vi).toNat)
              case atStart => exact ⟨0, rfl, Nat.zero_le _, ⟨HS2.out.put74 j (.int .i64 77)⟩, ⟨Kept.setCell HKs.out (.inl ⟨hbt, htt⟩) _⟩, ⟨HBs.out.setCell hbt _⟩⟩
              case round =>
                clear HS2 HKs HBs
                clear f1 f2
                obtain ⟨wr3, rfl⟩ : ∃ W : World, W = wr := ⟨_, rfl⟩
                obtain ⟨q, rfl, hq, HS3, HK3, HB3⟩ := hrel
                obtain ⟨crow, hrow, hr5, hr1⟩ := HS3.out.row
                have h5 : wr3.cell? ⟨gr, j * 7 + 5, none⟩ = some (.slice (As j) (Ls j) (cs j)) := by rw [blk_cell hrow]; exact hr5 j hjn
                obtain ⟨Aj, hAj⟩ : ∃ Aj, Aj = As j := ⟨_, rfl⟩
                obtain ⟨Lj, hLj⟩ : ∃ Lj, Lj = Ls j := ⟨_, rfl⟩
                obtain ⟨cj, hcj⟩ : ∃ cj, cj = cs j := ⟨_, rfl⟩
                have HLj := Aside0.mk hLj
                rw [← hLj] at hq hsm ⊢
                rw [← hAj, ← hLj, ← hcj] at h5
                by_cases hql : q < Lj
                · obtain ⟨g5, e5, hb5, ht5, hT5⟩ := HS3.out.bod j hjn (by rw [← hLj]; omega)
                  rw [← hAj] at e5
                  subst e5
                  have HT5 := Aside0.mk hT5
                  obtain ⟨c5r, hc5r, hy5⟩ := hT5
                  obtain ⟨y5, hy5⟩ := hy5 q (by rw [← hLj]; exact hql)
                  have f5 : wr3.cell? ⟨g5, q, none⟩ = some (.int .u8 y5) := by rw [blk_cell hc5r]; exact hy5
                  have f6 : wr3.frozen? ⟨g5, q, none⟩ = false := blk_frozen hc5r _
                  have q0 : decide ((q : Int) < (Lj : Int)) = true := decide_eq_true (by omega)
                  have q0' : decide (q < Lj) = true := decide_eq_true hql
                  have q1 : (0 ≤ (q : Int)) = True := eq_true (by omega)
                  have q2 : ((q : Int) < (Lj : Int)) = True := eq_true (by omega)
                  clear hrow hr5 hr1 hAj hLj hcj hc5r hy5
                  go_wp2_with (fail)
                  exact ⟨⟨q + 1, by simp, by omega, ⟨HS3.out.put5 HT5.out q _⟩, ⟨Kept.setCell HK3.out (.inl ⟨hb5, ht5⟩) _⟩, ⟨HB3.out.setCell hb5 _⟩⟩, by simp only [intOf]; omega⟩
                · have q0 : decide ((q : Int) < (Lj : Int)) = false := decide_eq_false (by omega)
                  have q0' : decide (q < Lj) = false := decide_eq_false hql
                  clear hrow hr5 hr1 hAj hLj hcj
                  go_wp2_with (fail)
                  exact ⟨⟨j + 1, by simp, by omega, ⟨fun _ => by first | exact ⟨rfl, HS3.out⟩ | exact ⟨trivial, HS3.out⟩⟩, HK3, HB3⟩, by simp only [intOf]; omega⟩
            · have j0 : decide ((j : Int) < (ms.length : Int)) = false := decide_eq_false (by omega)
              have j0' : decide (j < ms.length) = false := decide_eq_false hjn
              have HSE := Aside0.mk (HSC.out.step (show Below (wc).heap.size (wc) wr2 by have := HBs.out; rw [HBS.out, HWS.out] at this; exact this))
              clear HSc HKs HBs HSCR HW0S HBS HWS HS11
              go_wp2_with (fail)
              exact ⟨⟨i + 1, v, Am, cm, ms, by simp, by omega, HSE⟩, by simp only [intOf]; omega⟩
      · have b0 : decide ((i : Int) < (list.length : Int)) = false := decide_eq_false (by omega)
        go_wp2_with (fail)
        go_ret
        exact ⟨rfl, HS.out.below⟩
end Go.Proofs.Ytijccobeljoikaa.Nt
