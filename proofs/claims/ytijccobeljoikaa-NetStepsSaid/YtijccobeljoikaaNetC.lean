/- net.Net: what it is in memory; All. -/
import Derived.Test.YtijccobeljoikaaNetB
namespace Go.Proofs.Ytijccobeljoikaa.Nt
open Go.RowKit Go.Proofs.YtijccobeljoikaaW.PrintWords Go.Proofs.YtijccobeljoikaaW.PrintLast Go.Proofs.YtijccobeljoikaaW.PrintMore
open Go.Proofs.Ytijccobeljoikaa.Walks
set_option linter.unusedVariables false
set_option linter.unusedSimpArgs false

/-- A mail that is no longer than memory allows. -/
def Fits (m : S74) : Prop := m.f1.f2.length < 140737488355328 ∧ m.f1.f3.length * 24 ≤ 140737488355328 ∧ ∀ r ∈ m.f1.f3, r.length < 140737488355328
/-- A net in memory: its block g, its room, and where its mails lie: a row of its own. -/
structure NetIs (b : Nat) (w : World) (g : Nat) (room : Int) (v : Value) (ms : List S74) : Prop where
  blk : w.heap[g]? = some (.cells #[.int .i64 room, v] 121 (0, 0))
  row : Kd.R k74 74 w b (fun _ => True) v ms
  ge : b ≤ g
  fits : ∀ m ∈ ms, Fits m
  many : ms.length ≤ 4096

theorem all_M {w wr w1 : World} {o : Obj} {u3 : Value} {ms : List S74} {m : S74} {cs : List Value} (hR : Kd.R k74 74 wr w.heap.size (fun _ => True) u3 ms) (hB : Below w.heap.size w wr)
    (hM : k74.M w1 (wr.alloc o).heap.size (fun k => (wr.alloc o).heap.size ≤ k) m cs) (hB1 : Below (wr.alloc o).heap.size (wr.alloc o) w1) :
    k74.M w1 w.heap.size (fun k => True ∧ some k ≠ u3.ownBlock) m cs := by
  have e : (wr.alloc o).heap.size = wr.heap.size + 1 := Array.size_push ..
  have s := hB.size
  refine k74.M_mono (fun k hk => ⟨trivial, fun he => ?_⟩) (k74.M_lower (by omega) hM)
  have := Kd.R_lt hR k he.symm
  omega

set_option maxHeartbeats 4000000 in
set_option maxRecDepth 100000 in
theorem all_calls (b : Nat) (w : World) (g : Nat) (room : Int) (v : Value) (ms : List S74) (hI : NetIs b w g room v ms) (hb : b ≤ w.heap.size) :
    Calls Try.prog 60 #[.pointer (some ⟨g, 0, none⟩)] w fun e w' => ∃ v', e = .returned v' ∧ Kd.R k74 74 w' w.heap.size (fun _ => True) v' ms ∧ Below w.heap.size w w' := by
  obtain ⟨A, c, rfl, hl, hC⟩ := Kd.R_reads hI.row
  have g1 : w.cell? ⟨g, 1, none⟩ = some (.slice A ms.length c) := by rw [blk_cell hI.blk]; rfl
  have hu121 := Try.underlying121
  have hu74 := Try.underlying74
  have HC := Aside0.mk hC
  have HI := Aside0.mk hI
  have hmany := hI.many
  clear hC hl hI
  go_enter Try.func60, Try.ntmps60
  go_wp2_with (fail)
  go_loopw [3, 11] (fun u3 t wr => ∃ i : Nat, t = .int .i64 (i : Int) ∧ i ≤ ms.length ∧ Aside0 (Kd.R k74 74 wr w.heap.size (fun _ => True) u3 (ms.take i)) ∧ Aside0 (Below w.heap.size w wr)) (fun _ t _ => ms.length - (intOf t).toNat)
  case atStart => exact ⟨0, rfl, Nat.zero_le _, ⟨Kd.R_nil _ _ _ _ _⟩, ⟨Below.refl _ _⟩⟩
  case round =>
    obtain ⟨i, rfl, hi, HR, HB⟩ := hrel
    by_cases hlt : i < ms.length
    · have b0 : decide ((i : Int) < (ms.length : Int)) = true := decide_eq_true (by omega)
      have b1 : (0 ≤ (i : Int)) = True := eq_true (by omega)
      have b2 : ((i : Int) < (ms.length : Int)) = True := eq_true (by omega)
      obtain ⟨ad, A5, c5, A6, c6, e, hx0, hx1, hx2, hx3, hx4, hx5, hx6, hl5, hi5, hl6, hi6⟩ := at_T74 (Kd.C_below HC.out HB.out) (i : Int) (by omega) (by omega)
      subst e
      obtain ⟨m, hm⟩ : ∃ m, m = rd_T74 ms (i : Int) := ⟨_, rfl⟩
      rw [← hm] at hx0 hx1 hx2 hx3 hx4 hx5 hx6 hl5 hi5 hl6 hi6
      rw [Int.toNat_natCast] at hx0 hx1 hx2 hx3 hx4 hx5 hx6
      have hmi : m = ms[i] := by rw [hm]; simp [rd_T74, List.getD_eq_getElem?_getD, hlt]
      have Hmi := Aside0.mk hmi
      have hfm : Fits m := HI.out.fits m (by rw [hmi]; exact List.getElem_mem hlt)
      have Hf := Aside0.mk hfm
      have Hl5 := Aside0.mk hl5
      have Hi5 := Aside0.mk hi5
      have Hl6 := Aside0.mk hl6
      have Hi6 := Aside0.mk hi6
      clear hm hmi hfm hl5 hi5 hl6 hi6
      go_wp2_with (first
        | (go_at_call 86; refine (cloned_calls m A5 c5 A6 c6 _ Hl5.out (Kd.C_alloc Hi5.out _) Hl6.out (Kd.C_alloc Hi6.out _) Hf.out.1 Hf.out.2.1 Hf.out.2.2).mono ?_; rintro e w1 ⟨v5, v6, rfl, hM, hB1⟩; have HM := Aside0.mk hM; have HB1 := Aside0.mk hB1; have HBq := Aside0.mk (below_then (below_alloc HB.out _) (below_size (below_alloc HB.out _)) hB1); simp only [mailV]; clear hM hB1)
        | (at_builtin; refine Kd.R_append k74 (w0 := w) w.heap.size rfl (.tmp 15) (.tmp 18) 58 74 (.agg #[(.int .i64 0), (.int .i64 0), (.int .i64 0), (.int .i64 0), (.int .i64 0), (.slice none 0 0), (.slice none 0 0)]) 88 rfl Try.underlying58 info74 rfl (by decide) (by omega) u3 (ms.take i) m [.int .i64 m.f0.f0, .int .i64 m.f0.f1, .int .i64 m.f1.f0.f0, .int .i64 m.f1.f0.f1, .int .i64 m.f1.f1, v5, v6] (fun _ => True) (fun k_ => True ∧ some k_ ≠ u3.ownBlock) rfl rfl (all_M HR.out HB.out HM.out HB1.out) (fun _ h => h) (fun _ _ => trivial) (Kd.R_below (Kd.R_alloc HR.out _) HB1.out) HBq.out HBq.out.size (by rw [List.length_take]; omega) ?_; intro v1 w2 hR2 hB2 hg hat; have HR2 := Aside0.mk hR2; have HB2 := Aside0.mk hB2; clear hR2 hB2 hg hat))
      refine ⟨⟨i + 1, by simp, by omega, ⟨?_⟩, HB2⟩, by simp only [intOf]; omega⟩
      have := HR2.out
      rw [Hmi.out, List.take_append_getElem hlt] at this
      exact this
    · have b0 : decide ((i : Int) < (ms.length : Int)) = false := decide_eq_false (by omega)
      go_wp2_with (fail)
      go_ret
      refine ⟨_, rfl, ?_, HB.out⟩
      have := HR.out
      rw [List.take_of_length_le (by omega)] at this
      exact this
end Go.Proofs.Ytijccobeljoikaa.Nt
