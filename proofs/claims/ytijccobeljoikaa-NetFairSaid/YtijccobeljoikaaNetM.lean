/- stanchionlaw21.NetFair: it returns true, and writes nothing that was there. -/
import Derived.Test.YtijccobeljoikaaNetK
import Derived.Test.YtijccobeljoikaaNetEw
namespace Go.Proofs.Ytijccobeljoikaa.Nt
open Go.RowKit Go.Proofs.YtijccobeljoikaaW.PrintWords Go.Proofs.YtijccobeljoikaaW.PrintLast Go.Proofs.YtijccobeljoikaaW.PrintMore
open Go.Proofs.Ytijccobeljoikaa.Walks
attribute [local go_sem] max2_int min2_int max_two min_two max_three min_three max_four min_four
set_option linter.unusedVariables false
set_option linter.unusedSimpArgs false

/-- One call with the whole list as its mails. -/
def opOf (list : List S74) : S63 := ⟨0, 0, list⟩
theorem one_op_C {W : World} {g : Nat} {list : List S74} {A : Option Addr} {c : Nat} (h : W.heap[g]? = some (.cells #[.int .i64 0, .int .i64 0, .slice A list.length c] 63 (0, 0)))
    (l5 : list.length ≤ c) (h5 : k74.C W A list.length list) : Kd.C k63 W (some ⟨g, 0, none⟩) [opOf list].length [opOf list] := by
  refine ⟨rfl, by simp, fun _ => ⟨_, rfl, fun j p hj => ?_⟩⟩
  rcases j with _ | j
  · obtain rfl : opOf list = p := by simpa using hj
    refine ⟨_, rfl, k63_mk W (opOf list) l5 h5, fun i u hu => ?_⟩
    rw [Addr.add_lit, blk_cell h]
    rcases i with _ | _ | _ | i
    all_goals first | (simp [opOf] at hu; subst hu; rfl) | simp at hu
  · simp at hj
theorem clamp_len {n : Nat} (h : n ≤ 200) : clamp (n : Int) = n := by unfold clamp; split <;> (try split) <;> omega

theorem lit_nil74 (w : World) : Kd.R k74 74 (w.alloc (.cells #[] 74)) w.heap.size (fun _ => True) (.slice (some ⟨w.heap.size, 0, none⟩) 0 0) [] :=
  ⟨fun k hk => trivial, [], World.ownsRow_lit (base := w.heap.size) (e := 74) (size := 7) w #[] 0 (Nat.le_refl _) (by simp [maxLen]) (by simp), Reps.none _ _⟩
theorem netS_old {b : Nat} {w : World} {g : Nat} {room : Int} {v : Value} {ms : List S74} (h : NetIs b w g room v ms) {k : Nat} (hk : w.heap.size ≤ k) : ¬ NetS g v k := by
  rintro (rfl | hk')
  · have := blk_lt h.blk; omega
  · have := Kd.R_lt h.row k hk'.symm; omega
theorem own_kept {b : Nat} {w4 w5 : World} {g n c : Nat} {room : Int} {v : Value} {ms list : List S74} {A : Option Addr} {ok : Nat → Prop} (h : NetIs b w4 g room v ms) (hR : Kd.R k74 74 w5 w4.heap.size ok (.slice A n c) list) : ∀ W', Kept w5 W' (NetS g v) → Kd.C k74 W' A n list :=
  Kd.C_kept_own (Kd.R_bound hR) (fun k hk => netS_old h hk.2.1)
theorem R_len {w : World} {b : Nat} {ok : Nat → Prop} {v : Value} {xs : List S74} (h : Kd.R k74 74 w b ok v xs) : ∃ A c, v = .slice A xs.length c ∧ xs.length ≤ c ∧ Kd.C k74 w A xs.length xs := Kd.R_reads h

theorem and7 (x : Int) : ∃ q : Nat, q ≤ 7 ∧ bits .and .i64 x 7 = (q : Int) := by
  have h : (BitVec.ofInt 64 x &&& BitVec.ofInt 64 7).toNat ≤ 7 := by
    rw [BitVec.toNat_and]
    exact Nat.le_trans Nat.and_le_right (by decide)
  have e : bits .and .i64 x 7 = IntKind.i64.wrap ((BitVec.ofInt 64 x &&& BitVec.ofInt 64 7).toNat : Int) := rfl
  generalize (BitVec.ofInt 64 x &&& BitVec.ofInt 64 7).toNat = q at h e
  refine ⟨q, h, ?_⟩
  rw [e, IntKind.wrap_i64]
  omega
theorem cut_k {list : List S74} {A : Option Addr} {c n kk : Nat} {hi' : Int} (hn : n + kk ≤ list.length) (hc : list.length ≤ c) (hh : hi' = ((n + kk : Nat) : Int)) :
    ∃ A', (∀ W : World, (Instr.slice 58 (.slice A list.length c) (some (.int .i64 (n : Int))) (some (.int .i64 hi')) none).run Try.prog W = .ok (.slice A' ((list.drop n).take kk).length (c - n)) W) ∧
      ∀ W : World, Kd.C k74 W A list.length list → Kd.C k74 W A' ((list.drop n).take kk).length ((list.drop n).take kk) := by
  have a1 : (0 : Int) ≤ (n : Int) := by omega
  have a2 : (n : Int) ≤ hi' := by omega
  have a3 : hi' ≤ (list.length : Int) := by omega
  have e1 : hi'.toNat = n + kk := by omega
  have e2 : ((list.drop n).take kk).length = n + kk - n := by rw [List.length_take, List.length_drop]; omega
  have e3 : (list.drop n).take kk = (list.take (n + kk)).drop n := by rw [List.drop_take]; congr 1; omega
  obtain ⟨i0, hi0, _, hsz, _⟩ := info_parts info74
  have h := cut_mid (P := Try.prog) 58 74 .i64 .i64 Try.underlying58 hi0 7 hsz A list.length c (n : Int) hi' a1 a2 a3 hc
  refine ⟨if c = n then A else A.map (·.add (n * 7)), fun W => ?_, fun W hC => ?_⟩
  · rw [h W, e1, e2, Int.toNat_natCast]
  · rw [e3]; exact Kd.C_mid hC (by omega) hn hc
theorem cut_r {list : List S74} {A : Option Addr} {c n : Nat} (hn : n ≤ list.length) (hc : list.length ≤ c) :
    ∃ A', (∀ W : World, (Instr.slice 58 (.slice A list.length c) (some (.int .i64 (n : Int))) none none).run Try.prog W = .ok (.slice A' (list.drop n).length (c - n)) W) ∧
      ∀ W : World, Kd.C k74 W A list.length list → Kd.C k74 W A' (list.drop n).length (list.drop n) := by
  obtain ⟨i0, hi0, _, hsz, _⟩ := info_parts info74
  have h := cut_from (P := Try.prog) 58 74 .i64 Try.underlying58 hi0 7 hsz A list.length c (n : Int) (by omega) (by omega)
  refine ⟨if c = n then A else A.map (·.add (n * 7)), fun W => ?_, fun W hC => ?_⟩
  · rw [h W, List.length_drop, Int.toNat_natCast]
  · exact Kd.C_drop hC hn hc
theorem got_post {b : Nat} {w1 w2 : World} {g : Nat} {v v2 u : Value} {got : List S74} (hR : Kd.R k74 74 w1 b (fun k => ¬ NetS g v k) u got) (hK : Kept w1 w2 (NetS g v)) (hA : RowAt w1 v v2) : Kd.R k74 74 w2 b (fun k => ¬ NetS g v2 k) u got :=
  Kd.R_mono (Kd.R_keptB hR hK (fun k h => h)) (fun k h hS => by
    obtain ⟨h1, h2, h3⟩ := h
    rcases hS with rfl | hS
    · exact h1 (.inl rfl)
    · rcases hA with hA | ⟨k', hA, hk'⟩
      · exact h1 (.inr (by rw [hS, hA]))
      · rw [hA] at hS; injection hS with hS; omega)
theorem got_mail {b : Nat} {w : World} {g : Nat} {v v' u v5 v6 : Value} {got : List S74} {m : S74} (hR : Kd.R k74 74 w b (fun k => ¬ NetS g v' k) u got) (hM : k74.M w b (fun k => some k ≠ v.ownBlock ∧ k ≠ g) m (mailV m v5 v6).toList) (hv : v'.ownBlock = v.ownBlock) :
    k74.M w b (fun k => ¬ NetS g v' k ∧ some k ≠ u.ownBlock) m (mailV m v5 v6).toList := by
  have hok : ∀ k, (some k ≠ v.ownBlock ∧ k ≠ g) → ¬ NetS g v' k := fun k h hS => by
    rcases hS with rfl | hS
    · exact h.2 rfl
    · exact h.1 (by rw [hS, hv])
  rcases hu : u.ownBlock with _ | gu
  · exact k74.M_mono (fun k h => ⟨hok k h, by simp⟩) hM
  · obtain ⟨cells, hg⟩ := Kd.R_typed hR gu hu
    obtain ⟨a5, a6, he, r5, r6⟩ := k74_openM hM
    simp [mailV] at he
    obtain ⟨rfl, rfl⟩ := he
    exact k74_mkM _ _ _ m (Kd.R_mono (Kd.R_types r5 hg (by decide)) (fun k h => ⟨hok k h.1, fun he => h.2 (by injection he)⟩)) (Kd.R_mono (Kd.R_types r6 hg (by decide)) (fun k h => ⟨hok k h.1, fun he => h.2 (by injection he)⟩))

theorem row_ne {w : World} {b : Nat} {ok : Nat → Prop} {v : Value} {ms : List S74} (h : Kd.R k74 74 w b ok v ms) {gu : Nat} {cells : Array Value} (hg : w.heap[gu]? = some (.cells cells 74 (0, 0))) (hne : v.ownBlock ≠ some gu) : Kd.R k74 74 w b (fun k => ok k ∧ k ≠ gu) v ms := by
  obtain ⟨h0, inner, hown, hr⟩ := h
  refine ⟨fun k hk => ⟨h0 k hk, fun he => hne (by rw [hk, he])⟩, inner, hown, hr.imp_ (fun x cs hM => ?_)⟩
  obtain ⟨a5, a6, rfl, r5, r6⟩ := k74_openM hM
  exact k74_mkM _ _ _ x (Kd.R_mono (Kd.R_types r5 hg (by decide)) (fun k h => ⟨⟨h.1.1, h.2⟩, h.1.2⟩)) (Kd.R_mono (Kd.R_types r6 hg (by decide)) (fun k h => ⟨⟨h.1.1, h.2⟩, h.1.2⟩))
theorem NetIs.append {b : Nat} {w w9 : World} {g : Nat} {room : Int} {v u : Value} {ms got : List S74} (h : NetIs b w g room v ms) (hR : Kd.R k74 74 w b (fun k => ¬ NetS g v k) u got) (hG : w.grownBy w9 u.ownBlock) : NetIs b w9 g room v ms := by
  rcases hu : u.ownBlock with _ | gu
  · rw [hu] at hG
    exact ⟨blk_grown h.blk hG (by simp), Kd.R_grown h.row hG (fun k hk he => by cases he), h.ge, h.fits, h.many⟩
  · rw [hu] at hG
    have hn : ¬ NetS g v gu := hR.1 gu hu
    obtain ⟨cells, hg⟩ := Kd.R_typed hR gu hu
    refine ⟨blk_grown h.blk hG (fun he => hn (.inl (by injection he with he; exact he.symm))), ?_, h.ge, h.fits, h.many⟩
    exact Kd.R_mono (Kd.R_grown (row_ne h.row hg (fun he => hn (.inr he.symm))) hG (fun k hk he => hk.2 (by injection he))) (fun _ _ => trivial)

set_option maxHeartbeats 16000000 in
set_option maxRecDepth 100000 in
theorem netFair_calls (A : Option Addr) (c : Nat) (list : List S74) (Ac : Option Addr) (cc : Nat) (cuts : List Int) (w : World) (hr : Kd.C k74 w A list.length list) (hc : list.length ≤ c) (hm : Mems list) (hrc : Kd.C (Kd.int .i64) w Ac cuts.length cuts) (hcc : cuts.length ≤ cc) :
    Calls Try.prog 15 #[.slice A list.length c, .slice Ac cuts.length cc] w fun e w' => e = .returned (.bool true) ∧ Below w.heap.size w w' := by
  obtain ⟨gb, hg⟩ := ev_great [opOf list] (by simp) (fun o ho => by simp at ho; subst ho; exact hm)
  obtain ⟨kg, hg⟩ := hg.rounds
  have Hg := Aside0.mk hg
  have HR := Aside0.mk hr
  have HC := Aside0.mk hc
  have HM := Aside0.mk hm
  have HRC := Aside0.mk hrc
  have HCC := Aside0.mk hcc
  have hu63 := Try.underlying63
  have hu74 := Try.underlying74
  have hlm := hm.1
  clear hr hc hg hm hrc hcc
  by_cases hgb : gb = true
  · subst hgb
    go_enter Try.func15, Try.ntmps15
    go_wp2_with (first
      | (go_at_call 48; refine (alive_calls _).mono ?_; rintro e w1 ⟨rfl, hB⟩; have HB1 := Aside0.mk hB; clear hB)
      | (go_at_call 49; refine (stanchionlaw21_great.calls kg (some ⟨w1.heap.size, 0, none⟩) 1 [opOf list] true _ (one_op_C (blk_new w1 _) HC.out (Kd.C_alloc (Kd.C_below HR.out HB1.out) _)) (Nat.le_refl _) Hg.out).mono ?_; rintro e w2 ⟨rfl, hB⟩; have HB2 := Aside0.mk (below_step (below_alloc HB1.out _) hB); clear hB))
    go_ret
    exact ⟨rfl, HB2.out⟩
  · replace hgb := Bool.eq_false_iff.mpr hgb
    subst hgb
    by_cases h0 : 200 < list.length
    · have b0 : decide (200 < list.length) = true := decide_eq_true h0
      go_enter Try.func15, Try.ntmps15
      go_wp2_with (first
        | (go_at_call 48; refine (alive_calls _).mono ?_; rintro e w1 ⟨rfl, hB⟩; have HB1 := Aside0.mk hB; clear hB)
        | (go_at_call 49; refine (stanchionlaw21_great.calls kg (some ⟨w1.heap.size, 0, none⟩) 1 [opOf list] false _ (one_op_C (blk_new w1 _) HC.out (Kd.C_alloc (Kd.C_below HR.out HB1.out) _)) (Nat.le_refl _) Hg.out).mono ?_; rintro e w2 ⟨rfl, hB⟩; have HB2 := Aside0.mk (below_step (below_alloc HB1.out _) hB); clear hB))
      go_ret
      exact ⟨rfl, HB2.out⟩
    · have b0 : decide (200 < list.length) = false := decide_eq_false h0
      by_cases h1 : 200 < cuts.length
      · have b1 : decide (200 < cuts.length) = true := decide_eq_true h1
        go_enter Try.func15, Try.ntmps15
        go_wp2_with (first
          | (go_at_call 48; refine (alive_calls _).mono ?_; rintro e w1 ⟨rfl, hB⟩; have HB1 := Aside0.mk hB; clear hB)
          | (go_at_call 49; refine (stanchionlaw21_great.calls kg (some ⟨w1.heap.size, 0, none⟩) 1 [opOf list] false _ (one_op_C (blk_new w1 _) HC.out (Kd.C_alloc (Kd.C_below HR.out HB1.out) _)) (Nat.le_refl _) Hg.out).mono ?_; rintro e w2 ⟨rfl, hB⟩; have HB2 := Aside0.mk (below_step (below_alloc HB1.out _) hB); clear hB))
        go_ret
        exact ⟨rfl, HB2.out⟩
      · have b1 : decide (200 < cuts.length) = false := decide_eq_false h1
        have hcl := Aside0.mk (clamp_len (n := list.length) (by omega))
        go_enter Try.func15, Try.ntmps15
        go_wp2_with (first
          | (go_at_call 48; refine (alive_calls _).mono ?_; rintro e w1 ⟨rfl, hB⟩; have HB1 := Aside0.mk hB; clear hB)
          | (go_at_call 49; refine (stanchionlaw21_great.calls kg (some ⟨w1.heap.size, 0, none⟩) 1 [opOf list] false _ (one_op_C (blk_new w1 _) HC.out (Kd.C_alloc (Kd.C_below HR.out HB1.out) _)) (Nat.le_refl _) Hg.out).mono ?_; rintro e w2 ⟨rfl, hB⟩; have HB2 := Aside0.mk (below_step (below_alloc HB1.out _) hB); clear hB)
          | (go_at_call 50; refine (new_calls w.heap.size _ (list.length : Int) HB2.out.size).mono ?_; rintro e w3 ⟨g, v0, rfl, hN, hg, hv, hB⟩; rw [hcl.out] at hN; have HN0 := Aside0.mk hN; have HB3 := Aside0.mk (below_step HB2.out hB); clear hN hg hv hB))
        go_loopw [6, 7, 8] (fun v6 v7 v8 wr => ∃ (i n : Nat) (v : Value) (Au : Option Addr) (cu : Nat) (got ms : List S74), v6 = .int .i64 (n : Int) ∧ v7 = .slice Au got.length cu ∧ v8 = .int .i64 (i : Int) ∧ n ≤ list.length ∧ i ≤ cuts.length ∧ got ++ ms = list.take n ∧ Aside0 (NetIs w.heap.size wr g list.length v ms) ∧ Aside0 (Kd.R k74 74 wr w.heap.size (fun k => ¬ NetS g v k) (.slice Au got.length cu) got) ∧ Aside0 (Below w.heap.size w wr)) (fun _ _ v8 _ => cuts.length - (intOf v8).toNat)
        case atStart => exact ⟨0, 0, v0, _, _, [], [], rfl, rfl, rfl, Nat.zero_le _, Nat.zero_le _, by simp, ⟨HN0.out.below (below_alloc (Below.refl _ _) _)⟩, ⟨Kd.R_lower (Kd.R_mono (Kd.R_bound (lit_nil74 w3)) (fun k hk => netS_old HN0.out hk.2.1)) HB3.out.size⟩, ⟨below_alloc HB3.out _⟩⟩
        case round =>
          clear b0 b1 HN0 HB3 HB2 HB1
          obtain ⟨i, n, v, Au, cu, got, ms, rfl, rfl, rfl, hn, hi, hgm, HN, HG, HB⟩ := hrel
          have HGM := Aside0.mk hgm
          clear hgm
          by_cases hlt : i < cuts.length ∧ n < list.length
          · have b0 : decide ((i : Int) < (cuts.length : Int)) = true := decide_eq_true (by omega)
            have b1 : decide ((n : Int) < (list.length : Int)) = true := decide_eq_true (by omega)
            have b2 : (0 ≤ (i : Int)) = True := eq_true (by omega)
            have b3 : ((i : Int) < (cuts.length : Int)) = True := eq_true (by omega)
            obtain ⟨adc, cs, e, _, hK, hx⟩ := Kd.C_get (Kd.C_below HRC.out HB.out) (0 : Int) (i : Int) (by omega) (by omega)
            subst e
            obtain ⟨x, hxx⟩ : ∃ x, x = cuts.getD (i : Int).toNat 0 := ⟨_, rfl⟩
            rw [← hxx] at hK
            obtain rfl : cs = [.int .i64 x] := hK
            have hx0 : wr.cell? (adc.add i) = some (.int .i64 x) := by
              have h0 := hx 0 _ rfl
              rw [Int.toNat_natCast] at h0
              have e0 : i * (Kd.int .i64).sz + 0 = i := by show i * 1 + 0 = i; omega
              rw [e0] at h0
              exact h0
            obtain ⟨q, hq, hqe⟩ := and7 x
            have b1' : decide (n < list.length) = true := decide_eq_true (by omega)
            clear hx hxx
            by_cases hbig : (list.length : Int) - (n : Int) < 1 + (q : Int)
            · skip
              have d1 : decide ((list.length : Int) - (n : Int) < 1 + (q : Int)) = true := decide_eq_true hbig
              obtain ⟨kk, hkk⟩ : ∃ kk : Nat, ((list.length : Int) - (n : Int)) = (kk : Int) := ⟨((list.length : Int) - (n : Int)).toNat, by omega⟩
              have hk1 : 1 ≤ kk := by omega
              have hk2 : n + kk ≤ list.length := by omega
              obtain ⟨A5, hcut, hC5⟩ := cut_k (A := A) (hi' := (n : Int) + ((list.length : Int) - (n : Int))) hk2 HC.out (by omega)
              obtain ⟨part, hpart⟩ : ∃ part, part = (list.drop n).take kk := ⟨_, rfl⟩
              rw [← hpart] at hcut hC5
              have hpl : part.length = kk := by rw [hpart, List.length_take, List.length_drop]; omega
              have hpc : part.length ≤ c - n := by have := HC.out; omega
              have hpm : Mems part := ⟨by have := HM.out.1; omega, fun m hx => HM.out.2 m (by rw [hpart] at hx; exact List.mem_of_mem_drop (List.mem_of_mem_take hx))⟩
              have hgl : ms.length ≤ n := by have := congrArg List.length HGM.out; rw [List.length_append, List.length_take] at this; omega
              have hnext : got ++ (ms ++ part) = list.take (n + kk) := by rw [← List.append_assoc, HGM.out, hpart, List.take_add]
              obtain ⟨kc, hkc⟩ := (ev_copyMails hpm).rounds
              have Hkc := Aside0.mk hkc
              have HC5 := Aside0.mk (hC5 _ (Kd.C_below HR.out HB.out))
              have HPM := Aside0.mk hpm
              have HPL := Aside0.mk hpl
              have HPC := Aside0.mk hpc
              have HNX := Aside0.mk hnext
              have HKK := Aside0.mk hkk
              clear hkc hC5 hpart hpl hpc hpm hnext hbig hkk
              go_wp2_with (fail)
              refine (stanchionref00_CopyMails.calls kc A5 (c - n) part part _ HC5.out HPC.out Hkc.out).mono ?_
              rintro e w5 ⟨v8, rfl, hR8, hB5⟩
              obtain ⟨A8, c8, e8, hc8, hC8⟩ := R_len hR8
              subst e8
              have HN5 := Aside0.mk (HN.out.below hB5)
              have HG5 := Aside0.mk (Kd.R_below HG.out hB5)
              have HW5 := Aside0.mk (below_step HB.out hB5)
              have HK8 := Aside0.mk (own_kept HN.out hR8)
              have Hc8 := Aside0.mk hc8
              clear hR8 hB5 hC8 hc8 hcut hx0 HB HN HG
              go_wp2_with (fail)
              refine (post_calls w.heap.size w _ g list.length v ms HN5.out HW5.out.size HW5.out (by omega) (by omega) A8 c8 part Hc8.out HK8.out (fun m hx => (HPM.out.2 m hx).fits) (by have := HPM.out.1; omega) part.length (by have := HPL.out; omega)).mono ?_
              rintro e w6 ⟨rfl, v', hN6, hA6, hK6, hB6⟩
              rw [Nat.sub_self, List.take_length] at *
              have HN6 := Aside0.mk hN6
              have HB6 := Aside0.mk hB6
              have HG6 := Aside0.mk (got_post HG5.out hK6 hA6)
              have hpos : 0 < (ms ++ part).length := by rw [List.length_append]; have := HPL.out; omega
              clear hN6 hA6 hK6 hB6
              go_wp2_with (fail)
              refine (take_ok w.heap.size w _ g list.length v' (ms ++ part) 0 HN6.out HB6.out.size HB6.out hpos).mono ?_
              rintro e w7 ⟨v5, v6, v7, rfl, hM7, hN7, hv7, hK7, hB7⟩
              obtain ⟨m, hmm⟩ : ∃ m, m = (ms ++ part)[0] := ⟨_, rfl⟩
              rw [← hmm] at hM7 ⊢
              have hsplit : got ++ [m] ++ (ms ++ part).eraseIdx 0 = list.take (n + kk) := by
                rw [← HNX.out, hmm]
                generalize ms ++ part = z at hpos ⊢
                cases z with
                | nil => simp at hpos
                | cons x z => simp
              have HSP := Aside0.mk hsplit
              have HG7 := Aside0.mk (got_post HG6.out hK7 (.inl hv7))
              have HM7 := Aside0.mk (got_mail HG7.out hM7 hv7)
              have HN7 := Aside0.mk hN7
              have HB7 := Aside0.mk hB7
              obtain ⟨a5, a6, he, r5, r6⟩ := k74_openM hM7
              simp [mailV] at he
              obtain ⟨rfl, rfl⟩ := he
              obtain ⟨B5, z5, e5⟩ := Kd.R_slice r5
              subst e5
              obtain ⟨B6, z6, e6⟩ := Kd.R_slice r6
              subst e6
              simp only [mailV]
              have hgl2 : got.length ≤ 200 := by have := congrArg List.length HGM.out; rw [List.length_append, List.length_take] at this; omega
              clear hM7 hN7 hv7 hK7 hB7 r5 r6 hsplit hmm
              go_upto_region 22 with (fail)
              obtain ⟨W8, hW8⟩ : ∃ W8, W8 = w7.alloc (Obj.cells #[.int .i64 m.f0.f0, .int .i64 m.f0.f1, .int .i64 m.f1.f0.f0, .int .i64 m.f1.f0.f1, .int .i64 m.f1.f1, .slice B5 m.f1.f2.length z5, .slice B6 m.f1.f3.length z6] 74) := ⟨_, rfl⟩
              rw [← hW8]
              have HY8 := Aside0.mk (show W8.heap[w7.heap.size]? = some (.cells #[.int .i64 m.f0.f0, .int .i64 m.f0.f1, .int .i64 m.f1.f0.f0, .int .i64 m.f1.f0.f1, .int .i64 m.f1.f1, .slice B5 m.f1.f2.length z5, .slice B6 m.f1.f3.length z6] 74 (0, 0)) by rw [hW8]; exact blk_new _ _)
              have HN8 := Aside0.mk (show NetIs w.heap.size W8 g list.length v7 ((ms ++ part).eraseIdx 0) by rw [hW8]; exact HN7.out.below (below_alloc (Below.refl _ _) _))
              have HG8 := Aside0.mk (show Kd.R k74 74 W8 w.heap.size (fun k => ¬ NetS g v7 k) (.slice Au got.length cu) got by rw [hW8]; exact Kd.R_alloc HG7.out _)
              have HM8 := Aside0.mk (show k74.M W8 w.heap.size (fun k => ¬ NetS g v7 k ∧ some k ≠ (Value.slice Au got.length cu).ownBlock) m [.int .i64 m.f0.f0, .int .i64 m.f0.f1, .int .i64 m.f1.f0.f0, .int .i64 m.f1.f0.f1, .int .i64 m.f1.f1, .slice B5 m.f1.f2.length z5, .slice B6 m.f1.f3.length z6] by rw [hW8]; exact k74.M_alloc HM7.out _)
              have HB8 := Aside0.mk (show Below w.heap.size w W8 by rw [hW8]; exact below_alloc HB7.out _)
              have q0 : W8.cell? ⟨w7.heap.size, 0, none⟩ = some (.int .i64 m.f0.f0) := by rw [blk_cell HY8.out]; rfl
              have q1 : W8.cell? ⟨w7.heap.size, 1, none⟩ = some (.int .i64 m.f0.f1) := by rw [blk_cell HY8.out]; rfl
              have q2 : W8.cell? ⟨w7.heap.size, 2, none⟩ = some (.int .i64 m.f1.f0.f0) := by rw [blk_cell HY8.out]; rfl
              have q3 : W8.cell? ⟨w7.heap.size, 3, none⟩ = some (.int .i64 m.f1.f0.f1) := by rw [blk_cell HY8.out]; rfl
              have q4 : W8.cell? ⟨w7.heap.size, 4, none⟩ = some (.int .i64 m.f1.f1) := by rw [blk_cell HY8.out]; rfl
              have q5 : W8.cell? ⟨w7.heap.size, 5, none⟩ = some (.slice B5 m.f1.f2.length z5) := by rw [blk_cell HY8.out]; rfl
              have q6 : W8.cell? ⟨w7.heap.size, 6, none⟩ = some (.slice B6 m.f1.f3.length z6) := by rw [blk_cell HY8.out]; rfl
              clear hW8
              go_wp2_with (at_builtin; refine Kd.R_append k74 (w0 := w) (W := W8) w.heap.size rfl (.tmp 86) (.tmp 88) 58 74 (.agg #[(.int .i64 0), (.int .i64 0), (.int .i64 0), (.int .i64 0), (.int .i64 0), (.slice none 0 0), (.slice none 0 0)]) 88 rfl Try.underlying58 info74 rfl (by decide) (by omega) (.slice Au got.length cu) got m [.int .i64 m.f0.f0, .int .i64 m.f0.f1, .int .i64 m.f1.f0.f0, .int .i64 m.f1.f0.f1, .int .i64 m.f1.f1, .slice B5 m.f1.f2.length z5, .slice B6 m.f1.f3.length z6] (fun k => ¬ NetS g v7 k) (fun k => ¬ NetS g v7 k ∧ some k ≠ (Value.slice Au got.length cu).ownBlock) rfl rfl HM8.out (fun _ h => h) (fun k hk => netS_old HN8.out hk) HG8.out HB8.out HB8.out.size (by omega) ?_; intro v1 w9 hR9 hB9 hg9 hat9; have HR9 := Aside0.mk hR9; have HB9 := Aside0.mk hB9; have HG9 := Aside0.mk hg9; clear hR9 hB9 hg9 hat9)
              obtain ⟨Av, cv, ev⟩ := Kd.R_slice HR9.out
              subst ev
              exact ⟨⟨i + 1, n + kk, v7, Av, cv, got ++ [m], (ms ++ part).eraseIdx 0, by congr 1; have := HKK.out; omega, rfl, by simp, hk2, by omega, HSP.out, ⟨HN8.out.append HG8.out HG9.out⟩, HR9, HB9⟩, by simp only [intOf]; omega⟩
            · skip
              have d1 : decide ((list.length : Int) - (n : Int) < 1 + (q : Int)) = false := decide_eq_false hbig
              obtain ⟨kk, hkk⟩ : ∃ kk : Nat, (1 + (q : Int)) = (kk : Int) := ⟨(1 + (q : Int)).toNat, by omega⟩
              have hk1 : 1 ≤ kk := by omega
              have hk2 : n + kk ≤ list.length := by omega
              obtain ⟨A5, hcut, hC5⟩ := cut_k (A := A) (hi' := (n : Int) + (1 + (q : Int))) hk2 HC.out (by omega)
              obtain ⟨part, hpart⟩ : ∃ part, part = (list.drop n).take kk := ⟨_, rfl⟩
              rw [← hpart] at hcut hC5
              have hpl : part.length = kk := by rw [hpart, List.length_take, List.length_drop]; omega
              have hpc : part.length ≤ c - n := by have := HC.out; omega
              have hpm : Mems part := ⟨by have := HM.out.1; omega, fun m hx => HM.out.2 m (by rw [hpart] at hx; exact List.mem_of_mem_drop (List.mem_of_mem_take hx))⟩
              have hgl : ms.length ≤ n := by have := congrArg List.length HGM.out; rw [List.length_append, List.length_take] at this; omega
              have hnext : got ++ (ms ++ part) = list.take (n + kk) := by rw [← List.append_assoc, HGM.out, hpart, List.take_add]
              obtain ⟨kc, hkc⟩ := (ev_copyMails hpm).rounds
              have Hkc := Aside0.mk hkc
              have HC5 := Aside0.mk (hC5 _ (Kd.C_below HR.out HB.out))
              have HPM := Aside0.mk hpm
              have HPL := Aside0.mk hpl
              have HPC := Aside0.mk hpc
              have HNX := Aside0.mk hnext
              have HKK := Aside0.mk hkk
              clear hkc hC5 hpart hpl hpc hpm hnext hbig hkk
              go_wp2_with (fail)
              refine (stanchionref00_CopyMails.calls kc A5 (c - n) part part _ HC5.out HPC.out Hkc.out).mono ?_
              rintro e w5 ⟨v8, rfl, hR8, hB5⟩
              obtain ⟨A8, c8, e8, hc8, hC8⟩ := R_len hR8
              subst e8
              have HN5 := Aside0.mk (HN.out.below hB5)
              have HG5 := Aside0.mk (Kd.R_below HG.out hB5)
              have HW5 := Aside0.mk (below_step HB.out hB5)
              have HK8 := Aside0.mk (own_kept HN.out hR8)
              have Hc8 := Aside0.mk hc8
              clear hR8 hB5 hC8 hc8 hcut hx0 HB HN HG
              go_wp2_with (fail)
              refine (post_calls w.heap.size w _ g list.length v ms HN5.out HW5.out.size HW5.out (by omega) (by omega) A8 c8 part Hc8.out HK8.out (fun m hx => (HPM.out.2 m hx).fits) (by have := HPM.out.1; omega) part.length (by have := HPL.out; omega)).mono ?_
              rintro e w6 ⟨rfl, v', hN6, hA6, hK6, hB6⟩
              rw [Nat.sub_self, List.take_length] at *
              have HN6 := Aside0.mk hN6
              have HB6 := Aside0.mk hB6
              have HG6 := Aside0.mk (got_post HG5.out hK6 hA6)
              have hpos : 0 < (ms ++ part).length := by rw [List.length_append]; have := HPL.out; omega
              clear hN6 hA6 hK6 hB6
              go_wp2_with (fail)
              refine (take_ok w.heap.size w _ g list.length v' (ms ++ part) 0 HN6.out HB6.out.size HB6.out hpos).mono ?_
              rintro e w7 ⟨v5, v6, v7, rfl, hM7, hN7, hv7, hK7, hB7⟩
              obtain ⟨m, hmm⟩ : ∃ m, m = (ms ++ part)[0] := ⟨_, rfl⟩
              rw [← hmm] at hM7 ⊢
              have hsplit : got ++ [m] ++ (ms ++ part).eraseIdx 0 = list.take (n + kk) := by
                rw [← HNX.out, hmm]
                generalize ms ++ part = z at hpos ⊢
                cases z with
                | nil => simp at hpos
                | cons x z => simp
              have HSP := Aside0.mk hsplit
              have HG7 := Aside0.mk (got_post HG6.out hK7 (.inl hv7))
              have HM7 := Aside0.mk (got_mail HG7.out hM7 hv7)
              have HN7 := Aside0.mk hN7
              have HB7 := Aside0.mk hB7
              obtain ⟨a5, a6, he, r5, r6⟩ := k74_openM hM7
              simp [mailV] at he
              obtain ⟨rfl, rfl⟩ := he
              obtain ⟨B5, z5, e5⟩ := Kd.R_slice r5
              subst e5
              obtain ⟨B6, z6, e6⟩ := Kd.R_slice r6
              subst e6
              simp only [mailV]
              have hgl2 : got.length ≤ 200 := by have := congrArg List.length HGM.out; rw [List.length_append, List.length_take] at this; omega
              clear hM7 hN7 hv7 hK7 hB7 r5 r6 hsplit hmm
              go_upto_region 22 with (fail)
              obtain ⟨W8, hW8⟩ : ∃ W8, W8 = w7.alloc (Obj.cells #[.int .i64 m.f0.f0, .int .i64 m.f0.f1, .int .i64 m.f1.f0.f0, .int .i64 m.f1.f0.f1, .int .i64 m.f1.f1, .slice B5 m.f1.f2.length z5, .slice B6 m.f1.f3.length z6] 74) := ⟨_, rfl⟩
              rw [← hW8]
              have HY8 := Aside0.mk (show W8.heap[w7.heap.size]? = some (.cells #[.int .i64 m.f0.f0, .int .i64 m.f0.f1, .int .i64 m.f1.f0.f0, .int .i64 m.f1.f0.f1, .int .i64 m.f1.f1, .slice B5 m.f1.f2.length z5, .slice B6 m.f1.f3.length z6] 74 (0, 0)) by rw [hW8]; exact blk_new _ _)
              have HN8 := Aside0.mk (show NetIs w.heap.size W8 g list.length v7 ((ms ++ part).eraseIdx 0) by rw [hW8]; exact HN7.out.below (below_alloc (Below.refl _ _) _))
              have HG8 := Aside0.mk (show Kd.R k74 74 W8 w.heap.size (fun k => ¬ NetS g v7 k) (.slice Au got.length cu) got by rw [hW8]; exact Kd.R_alloc HG7.out _)
              have HM8 := Aside0.mk (show k74.M W8 w.heap.size (fun k => ¬ NetS g v7 k ∧ some k ≠ (Value.slice Au got.length cu).ownBlock) m [.int .i64 m.f0.f0, .int .i64 m.f0.f1, .int .i64 m.f1.f0.f0, .int .i64 m.f1.f0.f1, .int .i64 m.f1.f1, .slice B5 m.f1.f2.length z5, .slice B6 m.f1.f3.length z6] by rw [hW8]; exact k74.M_alloc HM7.out _)
              have HB8 := Aside0.mk (show Below w.heap.size w W8 by rw [hW8]; exact below_alloc HB7.out _)
              have q0 : W8.cell? ⟨w7.heap.size, 0, none⟩ = some (.int .i64 m.f0.f0) := by rw [blk_cell HY8.out]; rfl
              have q1 : W8.cell? ⟨w7.heap.size, 1, none⟩ = some (.int .i64 m.f0.f1) := by rw [blk_cell HY8.out]; rfl
              have q2 : W8.cell? ⟨w7.heap.size, 2, none⟩ = some (.int .i64 m.f1.f0.f0) := by rw [blk_cell HY8.out]; rfl
              have q3 : W8.cell? ⟨w7.heap.size, 3, none⟩ = some (.int .i64 m.f1.f0.f1) := by rw [blk_cell HY8.out]; rfl
              have q4 : W8.cell? ⟨w7.heap.size, 4, none⟩ = some (.int .i64 m.f1.f1) := by rw [blk_cell HY8.out]; rfl
              have q5 : W8.cell? ⟨w7.heap.size, 5, none⟩ = some (.slice B5 m.f1.f2.length z5) := by rw [blk_cell HY8.out]; rfl
              have q6 : W8.cell? ⟨w7.heap.size, 6, none⟩ = some (.slice B6 m.f1.f3.length z6) := by rw [blk_cell HY8.out]; rfl
              clear hW8
              go_wp2_with (at_builtin; refine Kd.R_append k74 (w0 := w) (W := W8) w.heap.size rfl (.tmp 86) (.tmp 88) 58 74 (.agg #[(.int .i64 0), (.int .i64 0), (.int .i64 0), (.int .i64 0), (.int .i64 0), (.slice none 0 0), (.slice none 0 0)]) 88 rfl Try.underlying58 info74 rfl (by decide) (by omega) (.slice Au got.length cu) got m [.int .i64 m.f0.f0, .int .i64 m.f0.f1, .int .i64 m.f1.f0.f0, .int .i64 m.f1.f0.f1, .int .i64 m.f1.f1, .slice B5 m.f1.f2.length z5, .slice B6 m.f1.f3.length z6] (fun k => ¬ NetS g v7 k) (fun k => ¬ NetS g v7 k ∧ some k ≠ (Value.slice Au got.length cu).ownBlock) rfl rfl HM8.out (fun _ h => h) (fun k hk => netS_old HN8.out hk) HG8.out HB8.out HB8.out.size (by omega) ?_; intro v1 w9 hR9 hB9 hg9 hat9; have HR9 := Aside0.mk hR9; have HB9 := Aside0.mk hB9; have HG9 := Aside0.mk hg9; clear hR9 hB9 hg9 hat9)
              obtain ⟨Av, cv, ev⟩ := Kd.R_slice HR9.out
              subst ev
              exact ⟨⟨i + 1, n + kk, v7, Av, cv, got ++ [m], (ms ++ part).eraseIdx 0, by congr 1; have := HKK.out; omega, rfl, by simp, hk2, by omega, HSP.out, ⟨HN8.out.append HG8.out HG9.out⟩, HR9, HB9⟩, by simp only [intOf]; omega⟩
          · have hex : (decide ((i : Int) < (cuts.length : Int)) = false ∧ decide (i < cuts.length) = false) ∨ (decide ((i : Int) < (cuts.length : Int)) = true ∧ decide (i < cuts.length) = true ∧ decide (n < list.length) = false ∧ decide ((n : Int) < (list.length : Int)) = false) := by
              by_cases hic : i < cuts.length
              · exact .inr ⟨decide_eq_true (by omega), decide_eq_true hic, decide_eq_false (by omega), decide_eq_false (by omega)⟩
              · exact .inl ⟨decide_eq_false (by omega), decide_eq_false hic⟩
            clear hlt
            obtain ⟨A5, hcut, hC5⟩ := cut_r (A := A) hn HC.out
            obtain ⟨part, hpart⟩ : ∃ part, part = list.drop n := ⟨_, rfl⟩
            rw [← hpart] at hcut hC5
            have hpl : part.length = list.length - n := by rw [hpart, List.length_drop]
            have hpc : part.length ≤ c - n := by have := HC.out; omega
            have hpm : Mems part := ⟨by have := HM.out.1; omega, fun m hx => HM.out.2 m (by rw [hpart] at hx; exact List.mem_of_mem_drop hx)⟩
            have hgl : ms.length ≤ n := by have := congrArg List.length HGM.out; rw [List.length_append, List.length_take] at this; omega
            have hnext : got ++ (ms ++ part) = list := by rw [← List.append_assoc, HGM.out, hpart, List.take_append_drop]
            obtain ⟨kc, hkc⟩ := (ev_copyMails hpm).rounds
            obtain ⟨ks, hks⟩ := (ev_sameMails (a := list) (by omega) (fun m hx => (HM.out.2 m hx).fits)).rounds
            have Hks := Aside0.mk hks
            have Hkc := Aside0.mk hkc
            have HC5 := Aside0.mk (hC5 _ (Kd.C_below HR.out HB.out))
            have HPM := Aside0.mk hpm
            have HPL := Aside0.mk hpl
            have HPC := Aside0.mk hpc
            have HNX := Aside0.mk hnext
            clear hkc hC5 hpart hpl hpc hpm hnext hks
            rcases hex with ⟨b0, b1⟩ | ⟨b0, b1, b2, b3⟩
            all_goals (
              go_wp2_with (fail)
              refine (stanchionref00_CopyMails.calls kc A5 (c - n) part part _ HC5.out HPC.out Hkc.out).mono ?_
              rintro e w5 ⟨v8, rfl, hR8, hB5⟩
              obtain ⟨A8, c8, e8, hc8, hC8⟩ := R_len hR8
              subst e8
              have HN5 := Aside0.mk (HN.out.below hB5)
              have HG5 := Aside0.mk (Kd.R_below HG.out hB5)
              have HW5 := Aside0.mk (below_step HB.out hB5)
              have HK8 := Aside0.mk (own_kept HN.out hR8)
              have Hc8 := Aside0.mk hc8
              clear hR8 hB5 hC8 hc8 hcut HB HN HG
              go_wp2_with (fail)
              refine (post_calls w.heap.size w _ g list.length v ms HN5.out HW5.out.size HW5.out (by omega) (by omega) A8 c8 part Hc8.out HK8.out (fun m hx => (HPM.out.2 m hx).fits) (by have := HPM.out.1; omega) part.length (by have := HPL.out; omega)).mono ?_
              rintro e w6 ⟨rfl, v', hN6, hA6, hK6, hB6⟩
              rw [Nat.sub_self, List.take_length] at *
              have HN6 := Aside0.mk hN6
              have HB6 := Aside0.mk hB6
              have HG6 := Aside0.mk (got_post HG5.out hK6 hA6)
              clear hN6 hA6 hK6 hB6
              go_wp2_with (fail)
              go_loopg [7] (ms ++ part).length (fun kq v7 wr => ∃ (v : Value) (Au : Option Addr) (cu : Nat) (got ms : List S74), v7 = .slice Au got.length cu ∧ Aside0 (ms.length = kq) ∧ Aside0 (got ++ ms = list) ∧ Aside0 (NetIs w.heap.size wr g list.length v ms) ∧ Aside0 (Kd.R k74 74 wr w.heap.size (fun k => ¬ NetS g v k) (.slice Au got.length cu) got) ∧ Aside0 (Below w.heap.size w wr))
              case atStart => exact ⟨v', Au, cu, got, ms ++ part, rfl, ⟨rfl⟩, HNX, HN6, HG6, HB6⟩
              case round =>
                clear HN6 HG6 HB6 HNX HN5 HG5 HW5 HK8 hgl
                obtain ⟨v, Au, cu, got, ms, rfl, HL, HSP, HN, HG, HB⟩ := hrel
                cases gk with
                | zero =>
                  obtain rfl : ms = [] := List.eq_nil_of_length_eq_zero HL.out
                  have hge : got = list := by have := HSP.out; simpa using this
                  obtain ⟨_, _, e, hcg, hCg⟩ := R_len HG.out
                  injection e with e1 _ e2
                  subst e1
                  subst e2
                  rw [hge] at hCg hcg
                  have HCg := Aside0.mk hCg
                  have Hcg := Aside0.mk hcg
                  have HGE := Aside0.mk (congrArg List.length hge)
                  clear hCg hcg hge HSP HG
                  go_wp2_with (first
                    | (go_at_call 61; refine (len_calls w.heap.size _ g list.length v [] HN.out).mono ?_; rintro e w11 ⟨rfl, hw11⟩; rw [hw11]; clear hw11)
                    | (go_at_call 56; refine (take_bad w.heap.size _ g list.length v [] 0 HN.out (by simp)).mono ?_; rintro e w11 ⟨rfl, hB11⟩; simp only [zero74]; have HB11 := Aside0.mk (below_alloc (below_step HB.out hB11) (Obj.cells #[.int .i64 0, .int .i64 0, .int .i64 0, .int .i64 0, .int .i64 0, .slice none 0 0, .slice none 0 0] 74)); have HCg11 := Aside0.mk (Kd.C_alloc (Kd.C_below HCg.out hB11) (Obj.cells #[.int .i64 0, .int .i64 0, .int .i64 0, .int .i64 0, .int .i64 0, .slice none 0 0, .slice none 0 0] 74)); clear hB11)
                    | (go_at_call 55; rw [HGE.out]; refine (stanchionref00_SameMails.calls ks _ _ list A c list true _ HCg11.out Hcg.out (Kd.C_below HR.out HB11.out) HC.out Hks.out).mono ?_; rintro e w12 ⟨rfl, hB12⟩; have HB12 := Aside0.mk (below_step HB11.out hB12); clear hB12))
                  go_ret
                  exact ⟨rfl, HB12.out⟩
                | succ k1 =>
                  have hpos : 0 < ms.length := by have := HL.out; omega
                  have g0 : decide (0 < ms.length) = true := decide_eq_true hpos
                  have hgt : got.length ≤ 200 := by have := congrArg List.length HSP.out; rw [List.length_append] at this; omega
                  have g1 : decide (list.length < got.length) = false := decide_eq_false (by have := congrArg List.length HSP.out; rw [List.length_append] at this; omega)
                  go_wp2_with (go_at_call 61; refine (len_calls w.heap.size _ g list.length v ms HN.out).mono ?_; rintro e w11 ⟨rfl, hw11⟩; rw [hw11]; clear hw11)
                  refine (take_ok w.heap.size w _ g list.length v ms 0 HN.out HB.out.size HB.out hpos).mono ?_
                  rintro e w7 ⟨v5, v6, v7, rfl, hM7, hN7, hv7, hK7, hB7⟩
                  obtain ⟨m, hmm⟩ : ∃ m, m = ms[0] := ⟨_, rfl⟩
                  rw [← hmm] at hM7 ⊢
                  have hsplit : got ++ [m] ++ ms.eraseIdx 0 = list := by
                    rw [← HSP.out, hmm]
                    generalize ms = z at hpos ⊢
                    cases z with
                    | nil => simp at hpos
                    | cons x z => simp
                  have hlen : (ms.eraseIdx 0).length = k1 := by have := HL.out; rw [List.length_eraseIdx, if_pos hpos]; omega
                  have HLE := Aside0.mk hlen
                  have HSP7 := Aside0.mk hsplit
                  have HG7 := Aside0.mk (got_post HG.out hK7 (.inl hv7))
                  have HM7 := Aside0.mk (got_mail HG7.out hM7 hv7)
                  have HN7 := Aside0.mk hN7
                  have HB7 := Aside0.mk hB7
                  obtain ⟨a5, a6, he, r5, r6⟩ := k74_openM hM7
                  simp [mailV] at he
                  obtain ⟨rfl, rfl⟩ := he
                  obtain ⟨B5, z5, e5⟩ := Kd.R_slice r5
                  subst e5
                  obtain ⟨B6, z6, e6⟩ := Kd.R_slice r6
                  subst e6
                  simp only [mailV]
                  clear hM7 hN7 hv7 hK7 hB7 r5 r6 hsplit hmm hlen
                  go_upto_region 29 with (fail)
                  obtain ⟨W8, hW8⟩ : ∃ W8, W8 = w7.alloc (Obj.cells #[.int .i64 m.f0.f0, .int .i64 m.f0.f1, .int .i64 m.f1.f0.f0, .int .i64 m.f1.f0.f1, .int .i64 m.f1.f1, .slice B5 m.f1.f2.length z5, .slice B6 m.f1.f3.length z6] 74) := ⟨_, rfl⟩
                  rw [← hW8]
                  have HY8 := Aside0.mk (show W8.heap[w7.heap.size]? = some (.cells #[.int .i64 m.f0.f0, .int .i64 m.f0.f1, .int .i64 m.f1.f0.f0, .int .i64 m.f1.f0.f1, .int .i64 m.f1.f1, .slice B5 m.f1.f2.length z5, .slice B6 m.f1.f3.length z6] 74 (0, 0)) by rw [hW8]; exact blk_new _ _)
                  have HN8 := Aside0.mk (show NetIs w.heap.size W8 g list.length v7 (ms.eraseIdx 0) by rw [hW8]; exact HN7.out.below (below_alloc (Below.refl _ _) _))
                  have HG8 := Aside0.mk (show Kd.R k74 74 W8 w.heap.size (fun k => ¬ NetS g v7 k) (.slice Au got.length cu) got by rw [hW8]; exact Kd.R_alloc HG7.out _)
                  have HM8 := Aside0.mk (show k74.M W8 w.heap.size (fun k => ¬ NetS g v7 k ∧ some k ≠ (Value.slice Au got.length cu).ownBlock) m [.int .i64 m.f0.f0, .int .i64 m.f0.f1, .int .i64 m.f1.f0.f0, .int .i64 m.f1.f0.f1, .int .i64 m.f1.f1, .slice B5 m.f1.f2.length z5, .slice B6 m.f1.f3.length z6] by rw [hW8]; exact k74.M_alloc HM7.out _)
                  have HB8 := Aside0.mk (show Below w.heap.size w W8 by rw [hW8]; exact below_alloc HB7.out _)
                  have q0 : W8.cell? ⟨w7.heap.size, 0, none⟩ = some (.int .i64 m.f0.f0) := by rw [blk_cell HY8.out]; rfl
                  have q1 : W8.cell? ⟨w7.heap.size, 1, none⟩ = some (.int .i64 m.f0.f1) := by rw [blk_cell HY8.out]; rfl
                  have q2 : W8.cell? ⟨w7.heap.size, 2, none⟩ = some (.int .i64 m.f1.f0.f0) := by rw [blk_cell HY8.out]; rfl
                  have q3 : W8.cell? ⟨w7.heap.size, 3, none⟩ = some (.int .i64 m.f1.f0.f1) := by rw [blk_cell HY8.out]; rfl
                  have q4 : W8.cell? ⟨w7.heap.size, 4, none⟩ = some (.int .i64 m.f1.f1) := by rw [blk_cell HY8.out]; rfl
                  have q5 : W8.cell? ⟨w7.heap.size, 5, none⟩ = some (.slice B5 m.f1.f2.length z5) := by rw [blk_cell HY8.out]; rfl
                  have q6 : W8.cell? ⟨w7.heap.size, 6, none⟩ = some (.slice B6 m.f1.f3.length z6) := by rw [blk_cell HY8.out]; rfl
                  clear hW8
                  go_wp2_with (at_builtin; refine Kd.R_append k74 (w0 := w) (W := W8) w.heap.size rfl (.tmp 114) (.tmp 116) 58 74 (.agg #[(.int .i64 0), (.int .i64 0), (.int .i64 0), (.int .i64 0), (.int .i64 0), (.slice none 0 0), (.slice none 0 0)]) 88 rfl Try.underlying58 info74 rfl (by decide) (by omega) (.slice Au got.length cu) got m [.int .i64 m.f0.f0, .int .i64 m.f0.f1, .int .i64 m.f1.f0.f0, .int .i64 m.f1.f0.f1, .int .i64 m.f1.f1, .slice B5 m.f1.f2.length z5, .slice B6 m.f1.f3.length z6] (fun k => ¬ NetS g v7 k) (fun k => ¬ NetS g v7 k ∧ some k ≠ (Value.slice Au got.length cu).ownBlock) rfl rfl HM8.out (fun _ h => h) (fun k hk => netS_old HN8.out hk) HG8.out HB8.out HB8.out.size (by omega) ?_; intro v1 w9 hR9 hB9 hg9 hat9; have HR9 := Aside0.mk hR9; have HB9 := Aside0.mk hB9; have HG9 := Aside0.mk hg9; clear hR9 hB9 hg9 hat9)
                  obtain ⟨Av, cv, ev⟩ := Kd.R_slice HR9.out
                  subst ev
                  go_roundg k1
                  case measure => have := HL.out; omega
                  case rel => exact ⟨v7, Av, cv, got ++ [m], ms.eraseIdx 0, rfl, HLE, HSP7, ⟨HN8.out.append HG8.out HG9.out⟩, HR9, HB9⟩)
end Go.Proofs.Ytijccobeljoikaa.Nt
