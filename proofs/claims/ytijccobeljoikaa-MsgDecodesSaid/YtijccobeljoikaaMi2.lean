/- Put together of my texts: MsA, MsB, MsC, MsD, MsE, MsF, MsP. -/
import Derived.Test.YtijccobeljoikaaMi1
import Derived.Defers
import Derived.Recover
import Derived.Laws.Pointers
import Derived.WalkLawsBesides
/- msg: need, check: panics of what can't be written or read; caught: what becomes of them. -/
namespace Go.Proofs.Ytijccobeljoikaa.Ms
open Go.RowKit Go.Proofs.YtijccobeljoikaaW.PrintWords Go.Proofs.YtijccobeljoikaaW.PrintLast
set_option linter.unusedVariables false
set_option linter.unusedSimpArgs false

/-- The panic of a fault. -/
abbrev fault (c : Int) : List PanicEntry := [{ v := .iface 162 (.agg #[.int .i64 c]), recovered := false }]
set_option maxHeartbeats 4000000 in
set_option maxRecDepth 100000 in
theorem need_ok (c : Int) (w : World) : Calls Try.prog 94 #[.bool true, .int .i64 c] w fun e w' => e = .returned (.tuple #[]) ∧ w' = w := by
  go_enter Try.func94, Try.ntmps94
  go_wp2_with (fail)
  go_end0
  exact ⟨rfl, rfl⟩
set_option maxHeartbeats 4000000 in
set_option maxRecDepth 100000 in
theorem need_bad (c : Int) (w : World) : Calls Try.prog 94 #[.bool false, .int .i64 c] w fun e w' => e = .panicked (fault c) ∧ w' = w := by
  have hu162 := Try.underlying162
  go_enter Try.func94, Try.ntmps94
  go_wp2_with (fail)
  simp [bodyPost, fault]
set_option maxHeartbeats 4000000 in
set_option maxRecDepth 100000 in
theorem check_ok (w : World) : Calls Try.prog 136 #[.int .i64 0] w fun e w' => e = .returned (.tuple #[]) ∧ w' = w := by
  go_enter Try.func136, Try.ntmps136
  go_wp2_with (fail)
  go_end0
  exact ⟨rfl, rfl⟩
set_option maxHeartbeats 4000000 in
set_option maxRecDepth 100000 in
theorem check_bad (c : Int) (hc : c ≠ 0) (w : World) : Calls Try.prog 136 #[.int .i64 c] w fun e w' => e = .panicked (fault c) ∧ w' = w := by
  have hu162 := Try.underlying162
  have b0 : (c != 0) = true := bne_iff_ne.mpr hc
  clear hc
  go_enter Try.func136, Try.ntmps136
  go_wp2_with (fail)
  simp [bodyPost, fault]

theorem field_fault (c : Int) (w : World) : (Instr.field 162 (.agg #[.int .i64 c]) 0).run Try.prog w = .ok (.int .i64 c) w := by kernel_rfl
theorem assert_fault (c : Int) (w : World) : (Instr.typeAssert (.iface 162 (.agg #[.int .i64 c])) 20 162 false).run Try.prog w = .ok (.agg #[.int .i64 c]) w := by kernel_rfl
set_option maxRecDepth 100000 in
theorem catch_panicking (p : Addr) (x c : Int) (older : List PanicEntry) (w : World) (hc : w.cell? p = some (.int .i64 x)) (hz : w.frozen? p = false) :
    CallsD Try.prog 128 #[.pointer (some p)] (.panicking ({ v := .iface 162 (.agg #[.int .i64 c]), recovered := false } :: older)) w fun e u' w' =>
      e = .returned (.tuple #[]) ∧ u' = .panicking ({ v := .iface 162 (.agg #[.int .i64 c]), recovered := true } :: older) ∧ w' = w.setCell p (.int .i64 c) := by
  have hu162 := Try.underlying162
  refine callsD_of_wpS Try.func128 rfl fun c₀ cs hu => ?_
  apply wpS_seq
  apply wpS_region
  simp [wpOpsS, go_sem, recoverD, hu, Try.ntmps128, Exit.thenS]
  apply wpS_seq
  apply wpS_region
  simp [wpOpsS, go_sem, Exit.thenS]
  refine wpS_cond (t := true) rfl ?_
  simp only [if_true]
  refine wpS_of_wp ?_
  have hta := assert_fault
  have hfi := field_fault
  change Code.wp Try.prog _ _ { tmps := #[.pointer (some p), .iface 162 (.agg #[.int .i64 c]), .iface 162 (.agg #[.int .i64 c]), .iface 162 (.agg #[.int .i64 c]), .bool true, undef, undef, undef], defers := [] } w
  go_wp2_with (fail)
  simp [bodyPostS, results, Try.results128]
set_option maxRecDepth 100000 in
theorem catch_idle (p : Addr) (w : World) :
    CallsD Try.prog 128 #[.pointer (some p)] .returning w fun e u' w' => e = .returned (.tuple #[]) ∧ u' = .returning ∧ w' = w := by
  refine callsD_of_wpS Try.func128 rfl fun c₀ cs hu => ?_
  apply wpS_seq
  apply wpS_region
  simp [wpOpsS, go_sem, recoverD, hu, Try.ntmps128, Exit.thenS]
  apply wpS_seq
  apply wpS_region
  simp [wpOpsS, go_sem, Exit.thenS]
  refine wpS_cond (t := false) rfl ?_
  simp only [Bool.false_eq_true, if_false]
  refine wpS_of_wp (wp_skip ?_)
  cases c₀
  simp_all [bodyPostS, results, Try.results128]

set_option maxHeartbeats 4000000 in
set_option maxRecDepth 100000 in
/-- caught(do), do a closure of function N over caps: what do comes to, and the world that it leaves. -/
theorem caught_calls (N : Nat) (caps : Array Value) (w : World) (R : Option Int → World → Prop) (hN : ∀ W : World, (callFunc N caps).run Try.prog W = .ok (.enter N caps) W)
    (hdo : ∀ W : World, W = w.alloc (.cells #[.int .i64 0] 23) → Calls Try.prog N caps W fun e w1 => (∃ r : Option Int, R r w1 ∧ (match r with | none => e = .returned (.tuple #[]) | some c => e = .panicked (fault c))) ∧ w1.cell? ⟨w.heap.size, 0, none⟩ = some (.int .i64 0) ∧ w1.frozen? ⟨w.heap.size, 0, none⟩ = false ∧ w1.heap[w.heap.size]? = some (.cells #[.int .i64 0] 23 (0, 0))) :
    Calls Try.prog 92 #[.func (.func N) #[] caps] w fun e w' => ∃ r w1, R r w1 ∧ e = .returned (.int .i64 (r.getD 0)) ∧ w' = w1.setCell ⟨w.heap.size, 0, none⟩ (.int .i64 (r.getD 0)) := by
  have hmf : ∀ (fn : Fn) (first cap : Array Value) (w : World), (Instr.makeFunc fn first cap).run Try.prog w = .ok (.func fn first cap) w := fun _ _ _ _ => rfl
  go_enter_defers Try.func92, Try.ntmps92
  go_wp2_with (fail)
  refine (hdo _ rfl).mono ?_
  rintro e w1 ⟨⟨r, hr, he⟩, hc, hf, hb⟩
  have HR := Aside0.mk hr
  have HB := Aside0.mk hb
  clear hr hb hdo
  cases r with
  | none =>
    subst he
    go_wp2_with (fail)
    refine leaves_cons (f := 128) (args := #[.pointer (some ⟨w.heap.size, 0, none⟩)]) (by simp) (by simp [go_sem]) ?_
    refine (catch_idle ⟨w.heap.size, 0, none⟩ _).mono ?_
    rintro e u' w'' ⟨rfl, rfl, rfl⟩
    have kk : (w1.setCell ⟨w.heap.size, 0, none⟩ (.int .i64 0)).cell? ⟨w.heap.size, 0, none⟩ = some (.int .i64 0) := by rw [blk_cell (blk_put HB.out 0 _ rfl)]; rfl
    simp [Leaves, settle, results, Try.results92, go_sem]
    rw [kk]
    exact ⟨_, rfl, none, w1, HR.out, rfl, rfl⟩
  | some c =>
    subst he
    dsimp only
    refine leaves_cons (f := 128) (args := #[.pointer (some ⟨w.heap.size, 0, none⟩)]) (by simp) (by simp [go_sem]) ?_
    refine (catch_panicking ⟨w.heap.size, 0, none⟩ 0 c [] _ hc hf).mono ?_
    rintro e u' w'' ⟨rfl, rfl, rfl⟩
    have kk : (w1.setCell ⟨w.heap.size, 0, none⟩ (.int .i64 c)).cell? ⟨w.heap.size, 0, none⟩ = some (.int .i64 c) := by rw [blk_cell (blk_put HB.out 0 _ rfl)]; rfl
    simp [Leaves, settle, results, Try.results92, go_sem]
    rw [kk]
    exact ⟨_, rfl, (some c), w1, HR.out, rfl, rfl⟩
end Go.Proofs.Ytijccobeljoikaa.Ms

/- msg: what is right: numbers, letters. -/
namespace Go.Proofs.Ytijccobeljoikaa.Ms
open Go.RowKit Go.Proofs.YtijccobeljoikaaW.PrintWords Go.Proofs.YtijccobeljoikaaW.PrintLast
set_option linter.unusedVariables false
set_option linter.unusedSimpArgs false

def withinB (v a b : Int) : Bool := decide (a ≤ v ∧ v ≤ b)
set_option maxHeartbeats 4000000 in
set_option maxRecDepth 100000 in
theorem within_calls (v a b : Int) (w : World) : Calls Try.prog 127 #[.int .i64 v, .int .i64 a, .int .i64 b] w fun e w' => e = .returned (.bool (withinB v a b)) ∧ w' = w := by
  by_cases h : a ≤ v
  · have b0 : decide (a ≤ v) = true := decide_eq_true h
    go_enter Try.func127, Try.ntmps127
    go_wp2_with (fail)
    go_ret
    exact ⟨by simp [withinB, h], rfl⟩
  · have b0 : decide (a ≤ v) = false := decide_eq_false h
    go_enter Try.func127, Try.ntmps127
    go_wp2_with (fail)
    go_ret
    exact ⟨by simp [withinB, show ¬ a ≤ v by omega], rfl⟩

/-- A number that is wide. -/
def narrow (v : Int) : Bool := decide (v < 0 ∨ 1099511627776 ≤ v)
set_option maxHeartbeats 4000000 in
set_option maxRecDepth 100000 in
theorem narrow_calls (v : Int) (w : World) : Calls Try.prog 150 #[.int .i64 v] w fun e w' => e = .returned (.bool (narrow v)) ∧ w' = w := by
  by_cases h : v < 0
  · have b0 : decide (v < 0) = true := decide_eq_true h
    go_enter Try.func150, Try.ntmps150
    go_wp2_with (fail)
    go_ret
    exact ⟨by simp [narrow, h], rfl⟩
  · have b0 : decide (v < 0) = false := decide_eq_false h
    go_enter Try.func150, Try.ntmps150
    go_wp2_with (fail)
    go_ret
    exact ⟨by simp [narrow, show ¬ v < 0 by omega], rfl⟩

theorem any_take {α : Type} {l : List α} {p : α → Bool} {i : Nat} (h : (l.take i).any p = false) (hi : i < l.length) (hp : p l[i] = false) : (l.take (i + 1)).any p = false := by
  rw [← List.take_append_getElem hi, List.any_append, h]; simp [hp]

set_option maxHeartbeats 4000000 in
set_option maxRecDepth 100000 in
theorem index_ints (A : Option Addr) (c : Nat) (l : List Int) (w : World) (hC : Kd.C (Kd.int .i64) w A l.length l) (hc : l.length ≤ c) :
    Calls Try.prog 157 #[.slice A l.length c, .func (.func 150) #[] #[]] w fun e w' => ∃ r : Int, e = .returned (.int .i64 r) ∧ decide (0 ≤ r) = l.any narrow ∧ w' = w := by
  have HC := Aside0.mk hC
  have hm := hC.2.1
  clear hC
  go_enter Try.func157, Try.ntmps157
  go_wp2_with (fail)
  go_loop [8] (fun v8 => ∃ i : Nat, v8 = .int .i64 (i : Int) ∧ i ≤ l.length ∧ Aside0 ((l.take i).any narrow = false)) (fun v8 => l.length - (intOf v8).toNat)
  case atStart => exact ⟨0, rfl, Nat.zero_le _, ⟨by simp⟩⟩
  case round =>
    obtain ⟨i, rfl, hi, HA⟩ := hrel
    by_cases hlt : i < l.length
    · have b0 : decide ((i : Int) < (l.length : Int)) = true := decide_eq_true (by omega)
      have b0' : decide (i < l.length) = true := decide_eq_true hlt
      have b1 : (0 ≤ (i : Int)) = True := eq_true (by omega)
      have b2 : ((i : Int) < (l.length : Int)) = True := eq_true (by omega)
      obtain ⟨ad, cs, e, _, hK, hx⟩ := Kd.C_get HC.out (0 : Int) (i : Int) (by omega) (by omega)
      subst e
      obtain ⟨x, hxx⟩ : ∃ x, x = l.getD (i : Int).toNat 0 := ⟨_, rfl⟩
      rw [← hxx] at hK
      obtain rfl : cs = [.int .i64 x] := hK
      have hx0 : w.cell? (ad.add i) = some (.int .i64 x) := by
        have h0 := hx 0 _ rfl
        rw [Int.toNat_natCast] at h0
        have e0 : i * (Kd.int .i64).sz + 0 = i := by show i * 1 + 0 = i; omega
        rw [e0] at h0
        exact h0
      have hxi : x = l[i] := by rw [hxx]; simp [List.getD_eq_getElem?_getD, hlt]
      have HXI := Aside0.mk hxi
      clear hx hxx hxi
      obtain ⟨nb, hnb⟩ : ∃ nb, nb = narrow x := ⟨_, rfl⟩
      have HNB := Aside0.mk hnb
      clear hnb
      cases nb with
      | true =>
        go_wp2_with (go_at_call 150; refine (narrow_calls x _).mono ?_; rintro e w1 ⟨rfl, rfl⟩; rw [← HNB.out])
        go_ret
        refine ⟨_, rfl, ?_, rfl⟩
        have hany : l.any narrow = true := List.any_eq_true.2 ⟨l[i], List.getElem_mem hlt, by rw [← HXI.out, ← HNB.out]⟩
        rw [hany]; exact decide_eq_true (by omega)
      | false =>
        go_wp2_with (go_at_call 150; refine (narrow_calls x _).mono ?_; rintro e w1 ⟨rfl, rfl⟩; rw [← HNB.out])
        exact ⟨⟨i + 1, by simp, by omega, ⟨any_take HA.out hlt (by rw [← HXI.out, ← HNB.out])⟩⟩, by simp only [intOf]; omega⟩
    · have b0 : decide ((i : Int) < (l.length : Int)) = false := decide_eq_false (by omega)
      have b0' : decide (i < l.length) = false := decide_eq_false hlt
      go_wp2_with (fail)
      go_ret
      refine ⟨_, rfl, ?_, rfl⟩
      have := HA.out
      rw [List.take_of_length_le (by omega)] at this
      rw [this]; decide
set_option maxHeartbeats 4000000 in
set_option maxRecDepth 100000 in
theorem contains_ints (A : Option Addr) (c : Nat) (l : List Int) (w : World) (hC : Kd.C (Kd.int .i64) w A l.length l) (hc : l.length ≤ c) :
    Calls Try.prog 149 #[.slice A l.length c, .func (.func 150) #[] #[]] w fun e w' => e = .returned (.bool (l.any narrow)) ∧ w' = w := by
  have HC := Aside0.mk hC
  have Hc := Aside0.mk hc
  clear hC hc
  go_enter Try.func149, Try.ntmps149
  go_wp2_with (go_at_call 157; refine (index_ints A c l _ HC.out Hc.out).mono ?_; rintro e w1 ⟨r, rfl, hr, rfl⟩; have HR := Aside0.mk hr; clear hr)
  go_ret
  exact ⟨by rw [← HR.out]; rfl, rfl⟩
set_option maxHeartbeats 4000000 in
set_option maxRecDepth 100000 in
theorem wide_calls (A : Option Addr) (c : Nat) (l : List Int) (w : World) (hC : Kd.C (Kd.int .i64) w A l.length l) (hc : l.length ≤ c) :
    Calls Try.prog 130 #[.slice A l.length c] w fun e w' => e = .returned (.bool (!l.any narrow)) ∧ w' = w := by
  have HC := Aside0.mk hC
  have Hc := Aside0.mk hc
  clear hC hc
  go_enter Try.func130, Try.ntmps130
  go_wp2_with (go_at_call 149; refine (contains_ints A c l _ HC.out Hc.out).mono ?_; rintro e w1 ⟨rfl, rfl⟩)
  go_ret
  exact ⟨rfl, rfl⟩

/-- A tag that is too long. -/
def longTag (t : List Int) : Bool := decide (16 < t.length)
set_option maxHeartbeats 4000000 in
set_option maxRecDepth 100000 in
theorem longTag_calls (A : Option Addr) (c : Nat) (l : List Int) (w : World) : Calls Try.prog 155 #[.slice A l.length c] w fun e w' => e = .returned (.bool (longTag l)) ∧ w' = w := by
  go_enter Try.func155, Try.ntmps155
  go_wp2_with (fail)
  go_ret
  exact ⟨by simp [longTag]; omega, rfl⟩
set_option maxHeartbeats 4000000 in
set_option maxRecDepth 100000 in
theorem index_rows (A : Option Addr) (c : Nat) (l : List (List Int)) (w : World) (hC : Kd.C (Kd.slice 5 (Kd.int .u8)) w A l.length l) (hc : l.length ≤ c) :
    Calls Try.prog 160 #[.slice A l.length c, .func (.func 155) #[] #[]] w fun e w' => ∃ r : Int, e = .returned (.int .i64 r) ∧ decide (0 ≤ r) = l.any longTag ∧ w' = w := by
  have HC := Aside0.mk hC
  have hm := hC.2.1
  clear hC
  go_enter Try.func160, Try.ntmps160
  go_wp2_with (fail)
  go_loop [8] (fun v8 => ∃ i : Nat, v8 = .int .i64 (i : Int) ∧ i ≤ l.length ∧ Aside0 ((l.take i).any longTag = false)) (fun v8 => l.length - (intOf v8).toNat)
  case atStart => exact ⟨0, rfl, Nat.zero_le _, ⟨by simp⟩⟩
  case round =>
    obtain ⟨i, rfl, hi, HA⟩ := hrel
    by_cases hlt : i < l.length
    · have b0 : decide ((i : Int) < (l.length : Int)) = true := decide_eq_true (by omega)
      have b0' : decide (i < l.length) = true := decide_eq_true hlt
      have b1 : (0 ≤ (i : Int)) = True := eq_true (by omega)
      have b2 : ((i : Int) < (l.length : Int)) = True := eq_true (by omega)
      obtain ⟨ad, A0, c0, e, hx0, hl0, hi0⟩ := at_L3 HC.out (i : Int) (by omega) (by omega)
      subst e
      obtain ⟨x, hxx⟩ : ∃ x, x = rd_L3 l (i : Int) := ⟨_, rfl⟩
      rw [← hxx] at hx0 hl0 hi0
      rw [Int.toNat_natCast] at hx0
      have hxi : x = l[i] := by rw [hxx]; simp [rd_L3, List.getD_eq_getElem?_getD, hlt]
      have HXI := Aside0.mk hxi
      clear hxx hxi hl0 hi0
      obtain ⟨nb, hnb⟩ : ∃ nb, nb = longTag x := ⟨_, rfl⟩
      have HNB := Aside0.mk hnb
      clear hnb
      cases nb with
      | true =>
        go_wp2_with (go_at_call 155; refine (longTag_calls A0 c0 x _).mono ?_; rintro e w1 ⟨rfl, rfl⟩; rw [← HNB.out])
        go_ret
        refine ⟨_, rfl, ?_, rfl⟩
        have hany : l.any longTag = true := List.any_eq_true.2 ⟨l[i], List.getElem_mem hlt, by rw [← HXI.out, ← HNB.out]⟩
        rw [hany]; exact decide_eq_true (by omega)
      | false =>
        go_wp2_with (go_at_call 155; refine (longTag_calls A0 c0 x _).mono ?_; rintro e w1 ⟨rfl, rfl⟩; rw [← HNB.out])
        exact ⟨⟨i + 1, by simp, by omega, ⟨any_take HA.out hlt (by rw [← HXI.out, ← HNB.out])⟩⟩, by simp only [intOf]; omega⟩
    · have b0 : decide ((i : Int) < (l.length : Int)) = false := decide_eq_false (by omega)
      have b0' : decide (i < l.length) = false := decide_eq_false hlt
      go_wp2_with (fail)
      go_ret
      refine ⟨_, rfl, ?_, rfl⟩
      have := HA.out
      rw [List.take_of_length_le (by omega)] at this
      rw [this]; decide
set_option maxHeartbeats 4000000 in
set_option maxRecDepth 100000 in
theorem contains_rows (A : Option Addr) (c : Nat) (l : List (List Int)) (w : World) (hC : Kd.C (Kd.slice 5 (Kd.int .u8)) w A l.length l) (hc : l.length ≤ c) :
    Calls Try.prog 156 #[.slice A l.length c, .func (.func 155) #[] #[]] w fun e w' => e = .returned (.bool (l.any longTag)) ∧ w' = w := by
  have HC := Aside0.mk hC
  have Hc := Aside0.mk hc
  clear hC hc
  go_enter Try.func156, Try.ntmps156
  go_wp2_with (go_at_call 160; refine (index_rows A c l _ HC.out Hc.out).mono ?_; rintro e w1 ⟨r, rfl, hr, rfl⟩; have HR := Aside0.mk hr; clear hr)
  go_ret
  exact ⟨by rw [← HR.out]; rfl, rfl⟩

/-- A right letter. -/
def goodLetter (m : S72) : Bool := withinB m.f0.f0 1 4 && withinB m.f1 1 4 && withinB m.f0.f1 0 63 && decide (m.f2.length ≤ 65536) && decide (m.f3.length ≤ 64) && !m.f3.any longTag
set_option maxHeartbeats 4000000 in
set_option maxRecDepth 100000 in
theorem rightLetter_calls (m : S72) (A3 : Option Addr) (c3 : Nat) (A4 : Option Addr) (c4 : Nat) (w : World) (hC4 : Kd.C (Kd.slice 5 (Kd.int .u8)) w A4 m.f3.length m.f3) (hc4 : m.f3.length ≤ c4) :
    Calls Try.prog 147 #[.agg #[.int .i64 m.f0.f0, .int .i64 m.f0.f1, .int .i64 m.f1, .slice A3 m.f2.length c3, .slice A4 m.f3.length c4]] w fun e w' => e = .returned (.bool (goodLetter m)) ∧ Below w.heap.size w w' := by
  have HC := Aside0.mk hC4
  have Hc := Aside0.mk hc4
  clear hC4 hc4
  have hu72 := Try.underlying72
  obtain ⟨q1, h1⟩ : ∃ q, q = withinB m.f0.f0 1 4 := ⟨_, rfl⟩
  obtain ⟨q2, h2⟩ : ∃ q, q = withinB m.f1 1 4 := ⟨_, rfl⟩
  obtain ⟨q3, h3⟩ : ∃ q, q = withinB m.f0.f1 0 63 := ⟨_, rfl⟩
  obtain ⟨q4, h4⟩ : ∃ q, q = decide (m.f2.length ≤ 65536) := ⟨_, rfl⟩
  obtain ⟨q5, h5⟩ : ∃ q, q = decide (m.f3.length ≤ 64) := ⟨_, rfl⟩
  obtain ⟨q6, h6⟩ : ∃ q, q = m.f3.any longTag := ⟨_, rfl⟩
  have HG := Aside0.mk (show goodLetter m = (q1 && q2 && q3 && q4 && q5 && !q6) by rw [h1, h2, h3, h4, h5, h6]; rfl)
  have H1 := Aside0.mk h1
  have H2 := Aside0.mk h2
  have H3 := Aside0.mk h3
  have H6 := Aside0.mk h6
  have e4 := h4.symm
  have e4' : decide ((m.f2.length : Int) ≤ 65536) = q4 := by rw [h4]; simp only [decide_eq_decide]; omega
  have e5 := h5.symm
  have e5' : decide ((m.f3.length : Int) ≤ 64) = q5 := by rw [h5]; simp only [decide_eq_decide]; omega
  clear h1 h2 h3 h4 h5 h6
  go_enter Try.func147, Try.ntmps147
  cases q1 with
  | false =>
    go_wp2_with (first | (go_at_call 127; with_reducible refine (within_calls m.f0.f0 1 4 _).mono ?_; rintro e w1 ⟨rfl, rfl⟩; rw [← H1.out]))
    go_ret
    exact ⟨by rw [HG.out]; simp, below_alloc (Below.refl _ _) _⟩
  | true =>
    cases q2 with
    | false =>
      go_wp2_with (first | (go_at_call 127; with_reducible refine (within_calls m.f0.f0 1 4 _).mono ?_; rintro e w1 ⟨rfl, rfl⟩; rw [← H1.out]) | (go_at_call 127; with_reducible refine (within_calls m.f1 1 4 _).mono ?_; rintro e w1 ⟨rfl, rfl⟩; rw [← H2.out]))
      go_ret
      exact ⟨by rw [HG.out]; simp, below_alloc (Below.refl _ _) _⟩
    | true =>
      cases q3 with
      | false =>
        go_wp2_with (first | (go_at_call 127; with_reducible refine (within_calls m.f0.f0 1 4 _).mono ?_; rintro e w1 ⟨rfl, rfl⟩; rw [← H1.out]) | (go_at_call 127; with_reducible refine (within_calls m.f1 1 4 _).mono ?_; rintro e w1 ⟨rfl, rfl⟩; rw [← H2.out]) | (go_at_call 127; with_reducible refine (within_calls m.f0.f1 0 63 _).mono ?_; rintro e w1 ⟨rfl, rfl⟩; rw [← H3.out]))
        go_ret
        exact ⟨by rw [HG.out]; simp, below_alloc (Below.refl _ _) _⟩
      | true =>
        cases q4 with
        | false =>
          go_wp2_with (first | (go_at_call 127; with_reducible refine (within_calls m.f0.f0 1 4 _).mono ?_; rintro e w1 ⟨rfl, rfl⟩; rw [← H1.out]) | (go_at_call 127; with_reducible refine (within_calls m.f1 1 4 _).mono ?_; rintro e w1 ⟨rfl, rfl⟩; rw [← H2.out]) | (go_at_call 127; with_reducible refine (within_calls m.f0.f1 0 63 _).mono ?_; rintro e w1 ⟨rfl, rfl⟩; rw [← H3.out]))
          go_ret
          exact ⟨by rw [HG.out]; simp, below_alloc (Below.refl _ _) _⟩
        | true =>
          cases q5 with
          | false =>
            go_wp2_with (first | (go_at_call 127; with_reducible refine (within_calls m.f0.f0 1 4 _).mono ?_; rintro e w1 ⟨rfl, rfl⟩; rw [← H1.out]) | (go_at_call 127; with_reducible refine (within_calls m.f1 1 4 _).mono ?_; rintro e w1 ⟨rfl, rfl⟩; rw [← H2.out]) | (go_at_call 127; with_reducible refine (within_calls m.f0.f1 0 63 _).mono ?_; rintro e w1 ⟨rfl, rfl⟩; rw [← H3.out]))
            go_ret
            exact ⟨by rw [HG.out]; simp, below_alloc (Below.refl _ _) _⟩
          | true =>
            cases q6 with
            | true =>
              go_wp2_with (first | (go_at_call 127; with_reducible refine (within_calls m.f0.f0 1 4 _).mono ?_; rintro e w1 ⟨rfl, rfl⟩; rw [← H1.out]) | (go_at_call 127; with_reducible refine (within_calls m.f1 1 4 _).mono ?_; rintro e w1 ⟨rfl, rfl⟩; rw [← H2.out]) | (go_at_call 127; with_reducible refine (within_calls m.f0.f1 0 63 _).mono ?_; rintro e w1 ⟨rfl, rfl⟩; rw [← H3.out]) | (go_at_call 156; refine (contains_rows A4 c4 m.f3 _ ?_ Hc.out).mono ?_; exact Kd.C_below HC.out (below_alloc (Below.refl _ _) _); rintro e w1 ⟨rfl, rfl⟩; rw [← H6.out]))
              go_ret
              exact ⟨by rw [HG.out]; simp, below_alloc (Below.refl _ _) _⟩
            | false =>
              go_wp2_with (first | (go_at_call 127; with_reducible refine (within_calls m.f0.f0 1 4 _).mono ?_; rintro e w1 ⟨rfl, rfl⟩; rw [← H1.out]) | (go_at_call 127; with_reducible refine (within_calls m.f1 1 4 _).mono ?_; rintro e w1 ⟨rfl, rfl⟩; rw [← H2.out]) | (go_at_call 127; with_reducible refine (within_calls m.f0.f1 0 63 _).mono ?_; rintro e w1 ⟨rfl, rfl⟩; rw [← H3.out]) | (go_at_call 156; refine (contains_rows A4 c4 m.f3 _ ?_ Hc.out).mono ?_; exact Kd.C_below HC.out (below_alloc (Below.refl _ _) _); rintro e w1 ⟨rfl, rfl⟩; rw [← H6.out]))
              go_ret
              exact ⟨by rw [HG.out]; simp, below_alloc (Below.refl _ _) _⟩
end Go.Proofs.Ytijccobeljoikaa.Ms

/- msg: what is right: letters; join, nums, split, ints, fields. -/
-- PkOrA
-- PkEvD
namespace Go.Proofs.Ytijccobeljoikaa.Ms
open Go.RowKit Go.Proofs.YtijccobeljoikaaW.PrintWords Go.Proofs.YtijccobeljoikaaW.PrintLast

set_option linter.unusedVariables false
set_option linter.unusedSimpArgs false

def badLetter (m : S72) : Bool := !goodLetter m
set_option maxHeartbeats 4000000 in
set_option maxRecDepth 100000 in
theorem badLetter_calls (m : S72) (A3 : Option Addr) (c3 : Nat) (A4 : Option Addr) (c4 : Nat) (w : World) (hC4 : Kd.C (Kd.slice 5 (Kd.int .u8)) w A4 m.f3.length m.f3) (hc4 : m.f3.length ≤ c4) :
    Calls Try.prog 152 #[.agg #[.int .i64 m.f0.f0, .int .i64 m.f0.f1, .int .i64 m.f1, .slice A3 m.f2.length c3, .slice A4 m.f3.length c4]] w fun e w' => e = .returned (.bool (badLetter m)) ∧ Below w.heap.size w w' := by
  have HC := Aside0.mk hC4
  have Hc := Aside0.mk hc4
  clear hC4 hc4
  have hu72 := Try.underlying72
  have HB0 := Aside0.mk (below_alloc (Below.refl w.heap.size w) (.cells #[.int .i64 m.f0.f0, .int .i64 m.f0.f1, .int .i64 m.f1, .slice A3 m.f2.length c3, .slice A4 m.f3.length c4] 72))
  go_enter Try.func152, Try.ntmps152
  go_wp2_with (go_at_call 147; with_reducible refine (rightLetter_calls m A3 c3 A4 c4 _ (Kd.C_alloc HC.out _) Hc.out).mono ?_; rintro e w1 ⟨rfl, hB⟩; have HB1 := Aside0.mk hB; clear hB)
  go_ret
  exact ⟨rfl, HB0.out.trans (HB1.out.mono (by simp))⟩
set_option maxHeartbeats 4000000 in
set_option maxRecDepth 100000 in
theorem index_letters (A : Option Addr) (c : Nat) (l : List S72) (w : World) (hC : Kd.C k72 w A l.length l) (hc : l.length ≤ c) :
    Calls Try.prog 158 #[.slice A l.length c, .func (.func 152) #[] #[]] w fun e w' => ∃ r : Int, e = .returned (.int .i64 r) ∧ decide (0 ≤ r) = l.any badLetter ∧ Below w.heap.size w w' := by
  have HC := Aside0.mk hC
  have hm := hC.2.1
  have hu72 := Try.underlying72
  clear hC
  go_enter Try.func158, Try.ntmps158
  go_wp2_with (fail)
  go_loopw [8] (fun v8 wr => ∃ i : Nat, v8 = .int .i64 (i : Int) ∧ i ≤ l.length ∧ Aside0 ((l.take i).any badLetter = false) ∧ Aside0 (Below w.heap.size w wr)) (fun v8 _ => l.length - (intOf v8).toNat)
  case atStart => exact ⟨0, rfl, Nat.zero_le _, ⟨by simp⟩, ⟨Below.refl _ _⟩⟩
  case round =>
    obtain ⟨i, rfl, hi, HA, HB⟩ := hrel
    by_cases hlt : i < l.length
    · have b0 : decide ((i : Int) < (l.length : Int)) = true := decide_eq_true (by omega)
      have b0' : decide (i < l.length) = true := decide_eq_true hlt
      have b1 : (0 ≤ (i : Int)) = True := eq_true (by omega)
      have b2 : ((i : Int) < (l.length : Int)) = True := eq_true (by omega)
      obtain ⟨ad, A3, c3, A4, c4, e, hx0, hx1, hx2, hx3, hx4, hl3, hi3, hl4, hi4⟩ := at_T72 (Kd.C_below HC.out HB.out) (i : Int) (by omega) (by omega)
      subst e
      obtain ⟨x, hxx⟩ : ∃ x, x = rd_T72 l (i : Int) := ⟨_, rfl⟩
      rw [← hxx] at hx0 hx1 hx2 hx3 hx4 hl3 hi3 hl4 hi4
      rw [Int.toNat_natCast] at hx0 hx1 hx2 hx3 hx4
      have hxi : x = l[i] := by rw [hxx]; simp [rd_T72, List.getD_eq_getElem?_getD, hlt]
      have HXI := Aside0.mk hxi
      have HI4 := Aside0.mk hi4
      have HL4 := Aside0.mk hl4
      clear hxx hxi hl3 hi3 hl4 hi4
      obtain ⟨nb, hnb⟩ : ∃ nb, nb = badLetter x := ⟨_, rfl⟩
      have HNB := Aside0.mk hnb
      clear hnb
      cases nb with
      | true =>
        go_wp2_with (go_at_call 152; with_reducible refine (badLetter_calls x A3 c3 A4 c4 _ HI4.out HL4.out).mono ?_; rintro e w1 ⟨rfl, hB⟩; have HB1 := Aside0.mk hB; clear hB; rw [← HNB.out])
        go_ret
        refine ⟨_, rfl, ?_, HB.out.trans (HB1.out.mono HB.out.size)⟩
        have hany : l.any badLetter = true := List.any_eq_true.2 ⟨l[i], List.getElem_mem hlt, by rw [← HXI.out, ← HNB.out]⟩
        rw [hany]; exact decide_eq_true (by omega)
      | false =>
        go_wp2_with (go_at_call 152; with_reducible refine (badLetter_calls x A3 c3 A4 c4 _ HI4.out HL4.out).mono ?_; rintro e w1 ⟨rfl, hB⟩; have HB1 := Aside0.mk hB; clear hB; rw [← HNB.out])
        exact ⟨⟨i + 1, by simp, by omega, ⟨any_take HA.out hlt (by rw [← HXI.out, ← HNB.out])⟩, ⟨HB.out.trans (HB1.out.mono HB.out.size)⟩⟩, by simp only [intOf]; omega⟩
    · have b0 : decide ((i : Int) < (l.length : Int)) = false := decide_eq_false (by omega)
      have b0' : decide (i < l.length) = false := decide_eq_false hlt
      go_wp2_with (fail)
      go_ret
      refine ⟨_, rfl, ?_, HB.out⟩
      have := HA.out
      rw [List.take_of_length_le (by omega)] at this
      rw [this]; decide
set_option maxHeartbeats 4000000 in
set_option maxRecDepth 100000 in
theorem contains_letters (A : Option Addr) (c : Nat) (l : List S72) (w : World) (hC : Kd.C k72 w A l.length l) (hc : l.length ≤ c) :
    Calls Try.prog 151 #[.slice A l.length c, .func (.func 152) #[] #[]] w fun e w' => e = .returned (.bool (l.any badLetter)) ∧ Below w.heap.size w w' := by
  have HC := Aside0.mk hC
  have Hc := Aside0.mk hc
  clear hC hc
  go_enter Try.func151, Try.ntmps151
  go_wp2_with (go_at_call 158; refine (index_letters A c l _ HC.out Hc.out).mono ?_; rintro e w1 ⟨r, rfl, hr, hB⟩; have HR := Aside0.mk hr; have HB1 := Aside0.mk hB; clear hr hB)
  go_ret
  exact ⟨by rw [← HR.out]; rfl, HB1.out⟩

def goodLetters (l : List S72) : Bool := decide (l.length ≤ 64) && !l.any badLetter
set_option maxHeartbeats 4000000 in
set_option maxRecDepth 100000 in
theorem rightLetters_calls (A : Option Addr) (c : Nat) (l : List S72) (w : World) (hC : Kd.C k72 w A l.length l) (hc : l.length ≤ c) :
    Calls Try.prog 132 #[.slice A l.length c] w fun e w' => e = .returned (.bool (goodLetters l)) ∧ Below w.heap.size w w' := by
  have HC := Aside0.mk hC
  have Hc := Aside0.mk hc
  clear hC hc
  by_cases h : l.length ≤ 64
  · have b0 : decide (l.length ≤ 64) = true := decide_eq_true h
    have b0' : decide ((l.length : Int) ≤ 64) = true := decide_eq_true (by omega)
    go_enter Try.func132, Try.ntmps132
    go_wp2_with (go_at_call 151; refine (contains_letters A c l _ HC.out Hc.out).mono ?_; rintro e w1 ⟨rfl, hB⟩; have HB1 := Aside0.mk hB; clear hB)
    go_ret
    exact ⟨by simp [goodLetters, h], HB1.out⟩
  · have b0 : decide (l.length ≤ 64) = false := decide_eq_false h
    have b0' : decide ((l.length : Int) ≤ 64) = false := decide_eq_false (by omega)
    go_enter Try.func132, Try.ntmps132
    go_wp2_with (fail)
    go_ret
    exact ⟨by simp [goodLetters, h], Below.refl _ _⟩
end Go.Proofs.Ytijccobeljoikaa.Ms

/- pack.Split and pack.Ints for msg: contracts that let their results be read. -/
namespace Go.Proofs.Ytijccobeljoikaa.Ms
open Go.RowKit Go.Proofs.YtijccobeljoikaaW.PrintWords Go.Proofs.YtijccobeljoikaaW.PrintLast
open Go.Proofs.Ytijccobeljoikaa.Plain Go.Proofs.Ytijccobeljoikaa.Walks
set_option linter.unusedVariables false
set_option linter.unusedSimpArgs false

/-- b[a:b] of a list of bytes that is read. -/
theorem mid_bytes (A : Option Addr) (c a b : Nat) (xs : List Int) (h1 : a ≤ b) (hm : b ≤ xs.length) (hc : xs.length ≤ c) : ∃ (A' : Option Addr) (ys : List Int), ys = (xs.take b).drop a ∧ ys.length ≤ c - a ∧
    (∀ W : World, (Instr.slice 22 (.slice A xs.length c) (some (.int .i64 (a : Int))) (some (.int .i64 (b : Int))) none).run Try.prog W = .ok (.slice A' ys.length (c - a)) W) ∧
    ∀ w : World, (Kd.int .u8).C w A xs.length xs → (Kd.int .u8).C w A' ys.length ys := by
  obtain ⟨i, hi, h⟩ := Option.map_eq_some_iff.1 Walks.info5
  simp only [Prod.mk.injEq] at h
  obtain ⟨A', g1, g2, g3⟩ := print_mid_int (P := Try.prog) (k := .u8) 22 5 Try.underlying22 hi h.2.1 A c xs (a : Int) (b : Int) (by omega) (by omega) (by omega) hc
  rw [Int.toNat_natCast, Int.toNat_natCast] at g1 g2 g3
  exact ⟨A', (xs.take b).drop a, rfl, g3, g1, fun w hw => Kd.C_of_reads (d := (0 : Int)) (h1 := fun _ => rfl) (g2 w (Kd.reads_of_C (d := (0 : Int)) (h1 := fun _ => rfl) hw))⟩

theorem field_M {w2 : World} {b0 b1 : Nat} (hb : b0 ≤ b1) {vf v : Value} {zs : List Int} {acc : List (List Int)} {ok : Nat → Prop} (hf : Kd.R (Kd.int .u8) 5 w2 b1 (fun _ => True) vf zs) (hO : Kd.R (Kd.slice 5 (Kd.int .u8)) 22 w2 b0 ok v acc) :
    (Kd.slice 5 (Kd.int .u8)).M w2 b0 (fun k => b0 ≤ k ∧ some k ≠ v.ownBlock) zs [vf] :=
  Kd.M_row (Kd.R_lower (Kd.R_mono (Kd.R_apart' (Kd.R_bound hf) (Kd.R_typed hO) (by decide)) (fun k hk => ⟨by have := hk.1.2.1; omega, hk.2⟩)) hb)

set_option maxHeartbeats 4000000 in
set_option maxRecDepth 100000 in
theorem split_rows (A0 : Option Addr) (c0 : Nat) (l0 : List Int) (r1 : List (List Int)) (r2 : Int) (w : World) (hr0 : Kd.C (Kd.int .u8) w A0 l0.length l0) (hc0 : l0.length ≤ c0) (hrng : Byte l0) (hlim : l0.length < 140737488355328) (hgo : splitGo (l0.length + 1) [] l0 = (r1, r2)) :
    Calls Try.prog 39 #[.slice A0 l0.length c0] w fun e w' => ∃ v0_ : Value, e = .returned (.tuple #[v0_, .int .i64 r2]) ∧ Kd.R (Kd.slice 5 (Kd.int .u8)) 22 w' w.heap.size (fun k_ => w.heap.size ≤ k_) v0_ r1 ∧ Below w.heap.size w w' := by
  have HR0 := Aside0.mk hr0
  have HG := Aside0.mk hrng
  have HN := Aside0.mk hgo
  have HC0 := Aside0.mk hc0
  clear hr0 hc0 hrng hgo
  go_enter Try.func39, Try.ntmps39
  go_wp2_with fail
  go_loopw [0, 4] (fun b v wr => ∃ (k : Nat) (acc : List (List Int)) (xs : List Int) (A : Option Addr) (c : Nat), b = .slice A xs.length c ∧ Aside0 (xs.length ≤ c) ∧ xs.length < k ∧ xs.length < 140737488355328 ∧ acc.length ≤ 1024 ∧ Aside0 (Byte xs) ∧
      Aside0 (Kd.C (Kd.int .u8) w A xs.length xs) ∧ Aside0 (Kd.R (Kd.slice 5 (Kd.int .u8)) 22 wr w.heap.size (fun k_ => w.heap.size ≤ k_) v acc) ∧ Aside0 (splitGo k acc xs = (r1, r2)) ∧ Aside0 (Below w.heap.size w wr)) (fun b _ _ => lenOfV b)
  case atStart =>
    exact ⟨l0.length + 1, [], l0, A0, c0, rfl, HC0, by omega, hlim, by simp, HG, HR0, ⟨Kd.R_nil _ _ _ _ _⟩, HN, ⟨Below.refl _ _⟩⟩
  case round =>
    clear HN
    obtain ⟨k, acc, xs, A, c, rfl, Hc, hxk, hxl, hacc, HB, HC, HR, HA, Hb⟩ := hrel
    obtain ⟨Av, cv, ev⟩ := Kd.R_slice HR.out
    subst ev
    obtain ⟨k, rfl⟩ : ∃ m, k = m + 1 := ⟨k - 1, by omega⟩
    by_cases h0 : xs.length = 0
    · have hr := HA.out
      rw [splitGo, if_pos h0] at hr
      obtain ⟨rfl, rfl⟩ := Prod.mk.inj hr
      have b0 : decide ((0 : Int) < (xs.length : Int)) = false := decide_eq_false (by omega)
      have b0' : decide (0 < xs.length) = false := decide_eq_false (by omega)
      clear hr h0
      go_wp2_with (fail)
      go_ret2
      exact ⟨_, rfl, HR.out, Hb.out⟩
    · have b0 : decide ((0 : Int) < (xs.length : Int)) = true := decide_eq_true (by omega)
      have b0' : decide (0 < xs.length) = true := decide_eq_true (by omega)
      by_cases h1 : acc.length = 1024
      · have hr := HA.out
        rw [splitGo, if_neg h0, if_pos h1] at hr
        obtain ⟨rfl, rfl⟩ := Prod.mk.inj hr
        have b1 : ((acc.length : Int) == 1024) = true := by simp; omega
        clear hr h0 h1
        go_wp2_with (fail)
        go_ret2
        exact ⟨_, rfl, Kd.R_nil _ _ _ _ _, Hb.out⟩
      · have b1 : ((acc.length : Int) == 1024) = false := by simp; omega
        have hr := HA.out
        rw [splitGo, if_neg h0, if_neg h1] at hr
        have hread : readF xs = some (readGo 0 0 xs) := if_pos HB.out
        have htold := readGo_told xs 0 0 (by omega) HB.out
        generalize readGo 0 0 xs = t at hr hread htold
        obtain ⟨n, m, e⟩ := t
        simp only at hr htold
        have Hread := Aside0.mk hread
        have hacc1 : acc.length < 1024 := by omega
        have hx0 : ¬ (xs.length = 0) := h0
        clear h0 h1 HA hread
        by_cases he : e = 0
        · subst he
          rw [if_neg (by simp)] at hr
          obtain ⟨hn0, hm0, hm1⟩ := htold rfl
          clear htold
          obtain ⟨n, rfl⟩ := Int.eq_ofNat_of_zero_le hn0
          obtain ⟨m, rfl⟩ := Int.eq_ofNat_of_zero_le (show 0 ≤ m by omega)
          simp only [Int.toNat_natCast] at hr
          by_cases h2 : (65536 : Int) < (n : Int)
          · rw [if_pos h2] at hr
            obtain ⟨rfl, rfl⟩ := Prod.mk.inj hr
            clear hr
            have b2 : decide (65536 < (n : Int)) = true := decide_eq_true h2
            have b2' : decide (65536 < n) = true := decide_eq_true (by omega)
            go_wp2_with (go_at_call 84; refine (read_calls A c xs _ _ _ _ (Kd.C_below HC.out Hb.out) Hc.out Hread.out).mono ?_; rintro e w1 ⟨rfl, hD⟩; have HD := Aside0.mk hD; clear hD)
            go_ret2
            exact ⟨_, rfl, Kd.R_nil _ _ _ _ _, below_then Hb.out Hb.out.size HD.out.below⟩
          · rw [if_neg h2] at hr
            have b2 : decide (65536 < (n : Int)) = false := decide_eq_false h2
            have b2' : decide (65536 < n) = false := decide_eq_false (by omega)
            have hdl : (xs.drop m).length = xs.length - m := List.length_drop
            by_cases h3 : (((xs.drop m).length : Int) < (n : Int))
            · rw [if_pos h3] at hr
              obtain ⟨rfl, rfl⟩ := Prod.mk.inj hr
              clear hr
              have b3 : decide ((xs.length : Int) - (m : Int) < (n : Int)) = true := decide_eq_true (by omega)
              clear hdl h3
              go_wp2_with (go_at_call 84; refine (read_calls A c xs _ _ _ _ (Kd.C_below HC.out Hb.out) Hc.out Hread.out).mono ?_; rintro e w1 ⟨rfl, hD⟩; have HD := Aside0.mk hD; clear hD)
              go_ret2
              exact ⟨_, rfl, Kd.R_nil _ _ _ _ _, below_then Hb.out Hb.out.size HD.out.below⟩
            · rw [if_neg h3] at hr
              have b3 : decide ((xs.length : Int) - (m : Int) < (n : Int)) = false := decide_eq_false (by omega)
              have hmn : m + n ≤ xs.length := by omega
              obtain ⟨Az, zs, hzs, hzc, hmid, hzC⟩ := mid_bytes A c m (m + n) xs (by omega) hmn Hc.out
              obtain ⟨A2, us, hus, huc, hcut, huC⟩ := cut_bytes A c (m + n) xs hmn Hc.out
              have e1 : (xs.drop m).take n = zs := by rw [hzs, List.drop_take]; congr 1; omega
              have e2 : (xs.drop m).drop n = us := by rw [hus, List.drop_drop]
              rw [e1, e2] at hr
              have hzl : zs.length ≤ 65536 := by rw [← e1, List.length_take]; omega
              have hul : us.length + (m + n) = xs.length := by rw [hus, List.length_drop]; omega
              have HA2 := Aside0.mk hr
              have Huc := Aside0.mk huc
              have HzC := Aside0.mk (hzC w HC.out)
              have HuC := Aside0.mk (huC w HC.out)
              have Hzc := Aside0.mk hzc
              have Hub := Aside0.mk (show Byte us by rw [hus]; exact HB.out.drop _)
              have Hcopy := Aside0.mk (show cloneF zs = some zs from if_pos (by omega))
              rw [show ((m + n : Nat) : Int) = (m : Int) + (n : Int) by omega] at hmid hcut
              clear hr hdl h3 hzs hus e1 e2 huc hzc hzC huC
              go_wp2_with (first
                | (go_at_call 84; refine (read_calls A c xs _ _ _ _ (Kd.C_below HC.out Hb.out) Hc.out Hread.out).mono ?_; rintro e w1 ⟨rfl, hD⟩; have HD := Aside0.mk hD.below; have Hb1 := Aside0.mk (below_then Hb.out Hb.out.size hD.below); have HR1 := Aside0.mk (Kd.R_below HR.out hD.below); have hs1 := Hb1.out.size; clear hD)
                | (go_at_call 85; refine (clone_calls Az (c - m) zs zs _ (Kd.C_below HzC.out Hb1.out) Hzc.out Hcopy.out).mono ?_; rintro e w2 ⟨vf, rfl, hRf, hB2⟩; obtain ⟨Af, cf, ef⟩ := Kd.R_slice hRf; subst ef; have HRf := Aside0.mk hRf; have HR2 := Aside0.mk (Kd.R_below HR1.out hB2); have Hb2 := Aside0.mk (below_then Hb1.out hs1 hB2); have hs2 := Hb2.out.size; clear hRf hB2)
                | (at_builtin; refine Kd.R_append (Kd.slice 5 (Kd.int .u8)) (w0 := w) w.heap.size rfl (.tmp 34) (.tmp 42) 32 22 (.slice none 0 0) 24 rfl Try.underlying32 Walks.info22 rfl (by decide) (by omega) (.slice Av acc.length cv) acc zs [.slice Af zs.length cf] (fun k_ => w.heap.size ≤ k_) (fun k_ => w.heap.size ≤ k_ ∧ some k_ ≠ (Value.slice Av acc.length cv).ownBlock) rfl rfl (field_M hs1 HRf.out HR2.out) (fun _ h => h) (fun k hk => by omega) HR2.out Hb2.out hs2 (by omega) ?_; intro v3 w3 hR3 hB3 hg3 hat3; obtain ⟨A3, c3, e3⟩ := Kd.R_slice hR3; subst e3; have HR3 := Aside0.mk hR3; have HB3 := Aside0.mk hB3; clear hR3 hB3 hg3 hat3))
              exact ⟨⟨k, acc ++ [zs], us, A2, c - (m + n), rfl, Huc, by omega, by omega, by rw [List.length_append, List.length_singleton]; omega, Hub, HuC, ⟨by have := HR3.out; rw [List.length_append, List.length_singleton] at this; exact this⟩, HA2, HB3⟩, by simp only [lenOfV]; omega⟩
        · rw [if_pos he] at hr
          obtain ⟨rfl, rfl⟩ := Prod.mk.inj hr
          have be : (e != 0) = true := by simp [he]
          clear hr htold hx0
          go_wp2_with (go_at_call 84; refine (read_calls A c xs _ _ _ _ (Kd.C_below HC.out Hb.out) Hc.out Hread.out).mono ?_; rintro e w1 ⟨rfl, hD⟩; have HD := Aside0.mk hD; clear hD)
          go_ret2
          exact ⟨_, rfl, Kd.R_nil _ _ _ _ _, below_then Hb.out Hb.out.size HD.out.below⟩

set_option maxHeartbeats 4000000 in
set_option maxRecDepth 100000 in
theorem ints_row (A0 : Option Addr) (c0 : Nat) (l0 : List Int) (r1 : List Int) (r2 : Int) (w : World) (hr0 : Kd.C (Kd.int .u8) w A0 l0.length l0) (hc0 : l0.length ≤ c0) (hrng : Byte l0) (hlim : l0.length < 17592186044416) (hgo : intsGo (l0.length + 1) [] l0 = (r1, r2)) :
    Calls Try.prog 45 #[.slice A0 l0.length c0] w fun e w' => ∃ v0_ : Value, e = .returned (.tuple #[v0_, .int .i64 r2]) ∧ Kd.R (Kd.int .i64) 3 w' w.heap.size (fun k_ => w.heap.size ≤ k_) v0_ r1 ∧ Below w.heap.size w w' := by
  have HR0 := Aside0.mk hr0
  have HG := Aside0.mk hrng
  have HN := Aside0.mk hgo
  have HC0 := Aside0.mk hc0
  clear hr0 hc0 hrng hgo
  go_enter Try.func45, Try.ntmps45
  go_wp2_with fail
  go_loopw [0, 4] (fun b v wr => ∃ (k : Nat) (acc : List Int) (xs : List Int) (A : Option Addr) (c : Nat), b = .slice A xs.length c ∧ Aside0 (xs.length ≤ c) ∧ xs.length < k ∧ acc.length + xs.length < 17592186044416 ∧ Aside0 (Byte xs) ∧
      Aside0 (Kd.C (Kd.int .u8) w A xs.length xs) ∧ Aside0 (Kd.R (Kd.int .i64) 3 wr w.heap.size (fun k_ => w.heap.size ≤ k_) v acc) ∧ Aside0 (intsGo k acc xs = (r1, r2)) ∧ Aside0 (Below w.heap.size w wr)) (fun b _ _ => lenOfV b)
  case atStart =>
    exact ⟨l0.length + 1, [], l0, A0, c0, rfl, HC0, by omega, by simpa using hlim, HG, HR0, ⟨Kd.R_nil _ _ _ _ _⟩, HN, ⟨Below.refl _ _⟩⟩
  case round =>
    clear HN
    obtain ⟨k, acc, xs, A, c, rfl, Hc, hxk, hacc, HB, HC, HR, HA, Hb⟩ := hrel
    obtain ⟨Av, cv, ev⟩ := Kd.R_slice HR.out
    subst ev
    obtain ⟨k, rfl⟩ : ∃ m, k = m + 1 := ⟨k - 1, by omega⟩
    by_cases h0 : xs.length = 0
    · have hr := HA.out
      rw [intsGo, if_pos h0] at hr
      obtain ⟨rfl, rfl⟩ := Prod.mk.inj hr
      have b0 : decide ((0 : Int) < (xs.length : Int)) = false := decide_eq_false (by omega)
      have b0' : decide (0 < xs.length) = false := decide_eq_false (by omega)
      clear hr h0
      go_wp2_with (fail)
      go_ret2
      exact ⟨_, rfl, HR.out, Hb.out⟩
    · have b0 : decide ((0 : Int) < (xs.length : Int)) = true := decide_eq_true (by omega)
      have b0' : decide (0 < xs.length) = true := decide_eq_true (by omega)
      have hr := HA.out
      rw [intsGo, if_neg h0] at hr
      have hread : readF xs = some (readGo 0 0 xs) := if_pos HB.out
      have htold := readGo_told xs 0 0 (by omega) HB.out
      generalize readGo 0 0 xs = t at hr hread htold
      obtain ⟨n, m, e⟩ := t
      simp only at hr htold
      have Hread := Aside0.mk hread
      clear HA hread
      by_cases he : e = 0
      · subst he
        rw [if_neg (by simp)] at hr
        obtain ⟨hn0, hm0, hm1⟩ := htold rfl
        clear htold
        obtain ⟨m, rfl⟩ := Int.eq_ofNat_of_zero_le (show 0 ≤ m by omega)
        simp only [Int.toNat_natCast] at hr
        have hmn : m ≤ xs.length := by omega
        obtain ⟨A2, us, hus, huc, hcut, huC⟩ := cut_bytes A c m xs hmn Hc.out
        rw [← hus] at hr
        have hul : us.length + m = xs.length := by rw [hus, List.length_drop]; omega
        have HA2 := Aside0.mk hr
        have Huc := Aside0.mk huc
        have HuC := Aside0.mk (huC w HC.out)
        have Hub := Aside0.mk (show Byte us by rw [hus]; exact HB.out.drop _)
        clear hr hus huc huC
        go_wp2_with (first
          | (go_at_call 84; refine (read_calls A c xs _ _ _ _ (Kd.C_below HC.out Hb.out) Hc.out Hread.out).mono ?_; rintro e w1 ⟨rfl, hD⟩; have Hb1 := Aside0.mk (below_then Hb.out Hb.out.size hD.below); have HR1 := Aside0.mk (Kd.R_below HR.out hD.below); have hs1 := Hb1.out.size; clear hD)
          | (at_builtin; refine Kd.R_append (Kd.int .i64) (w0 := w) w.heap.size rfl (.tmp 20) (.tmp 22) 27 3 (.int .i64 0) 8 rfl Try.underlying27 Ms.info3 rfl (by decide) (by omega) (.slice Av acc.length cv) acc n [.int .i64 n] (fun k_ => w.heap.size ≤ k_) (fun k_ => w.heap.size ≤ k_ ∧ some k_ ≠ (Value.slice Av acc.length cv).ownBlock) rfl rfl rfl (fun _ h => h) (fun k hk => by omega) HR1.out Hb1.out hs1 (by omega) ?_; intro v3 w3 hR3 hB3 hg3 hat3; obtain ⟨A3, c3, e3⟩ := Kd.R_slice hR3; subst e3; have HR3 := Aside0.mk hR3; have HB3 := Aside0.mk hB3; clear hR3 hB3 hg3 hat3))
        exact ⟨⟨k, acc ++ [n], us, A2, c - m, rfl, Huc, by omega, by rw [List.length_append, List.length_singleton]; omega, Hub, HuC, ⟨by have := HR3.out; rw [List.length_append, List.length_singleton] at this; exact this⟩, HA2, HB3⟩, by simp only [lenOfV]; omega⟩
      · rw [if_pos he] at hr
        obtain ⟨rfl, rfl⟩ := Prod.mk.inj hr
        have be : (e != 0) = true := by simp [he]
        clear hr htold
        go_wp2_with (go_at_call 84; refine (read_calls A c xs _ _ _ _ (Kd.C_below HC.out Hb.out) Hc.out Hread.out).mono ?_; rintro e w1 ⟨rfl, hD⟩; have HD := Aside0.mk hD; clear hD)
        go_ret2
        exact ⟨_, rfl, Kd.R_nil _ _ _ _ _, below_then Hb.out Hb.out.size HD.out.below⟩
end Go.Proofs.Ytijccobeljoikaa.Ms

/- msg: join, nums, split, ints, fields; the rows that are joined. -/
namespace Go.Proofs.Ytijccobeljoikaa.Ms
open Go.RowKit Go.Proofs.YtijccobeljoikaaW.PrintWords Go.Proofs.YtijccobeljoikaaW.PrintLast
open Go.Proofs.Ytijccobeljoikaa.Plain Go.Proofs.Ytijccobeljoikaa.Walks
set_option linter.unusedVariables false
set_option linter.unusedSimpArgs false

/-- A slice of ds (row type e) that a call has made: it is the call's own, and what was there is as it was. -/
structure Got {α : Type} (d : Kd α) (e : Nat) (w w' : World) (A : Option Addr) (c : Nat) (zs : List α) : Prop where
  own : Kd.R d e w' w.heap.size (fun k => w.heap.size ≤ k) (.slice A zs.length c) zs
  keep : Below w.heap.size w w'
theorem Got.cap {α : Type} {d : Kd α} {e : Nat} {w w' : World} {A : Option Addr} {c : Nat} {zs : List α} (h : Got d e w w' A c zs) : zs.length ≤ c := (Kd.R_reads' h.own).2.1
theorem Got.row {α : Type} {d : Kd α} {e : Nat} {w w' : World} {A : Option Addr} {c : Nat} {zs : List α} (h : Got d e w w' A c zs) : Kd.C d w' A zs.length zs := (Kd.R_reads' h.own).2.2
theorem Got.lift {α : Type} {d : Kd α} {e : Nat} {w w1 w' : World} {A : Option Addr} {c : Nat} {zs : List α} (h : Got d e w1 w' A c zs) (hb : Below w.heap.size w w1) : Got d e w w' A c zs :=
  ⟨Kd.R_mono (Kd.R_lower h.own hb.size) (fun k hk => by have := hb.size; omega), below_then hb hb.size h.keep⟩

theorem got_of_R {α : Type} {d : Kd α} {e : Nat} {ok : Nat → Prop} {w w' : World} {v : Value} {zs : List α} (h : Kd.R d e w' w.heap.size ok v zs) (hb : Below w.heap.size w w') : ∃ A c, v = .slice A zs.length c ∧ Got d e w w' A c zs := by
  obtain ⟨A, c, rfl⟩ := Kd.R_slice h
  exact ⟨A, c, rfl, Kd.R_mono (Kd.R_bound h) (fun k hk => hk.2.1), hb⟩

/-- Slices as they are: where, how many, room. -/
def kv : Kd (Option Addr × Nat × Nat) := Kd.scalar (fun t => .slice t.1 t.2.1 t.2.2) (fun _ => rfl)
/-- What slices hold. -/
def Bys (w : World) (vs : List (Option Addr × Nat × Nat)) (zs : List (List Int)) : Prop :=
  vs.length = zs.length ∧ ∀ (j : Nat) (t : Option Addr × Nat × Nat) (z : List Int), vs[j]? = some t → zs[j]? = some z → t.2.1 = z.length ∧ z.length ≤ t.2.2 ∧ Kd.C (Kd.int .u8) w t.1 z.length z
theorem bys_nil (w : World) : Bys w [] [] := ⟨rfl, fun j t z h => by simp at h⟩
theorem bys_cons {w : World} {vs : List (Option Addr × Nat × Nat)} {zs : List (List Int)} {A : Option Addr} {c : Nat} {z : List Int} (hc : z.length ≤ c) (hC : Kd.C (Kd.int .u8) w A z.length z) (h : Bys w vs zs) : Bys w ((A, z.length, c) :: vs) (z :: zs) := by
  refine ⟨by simp [h.1], fun j t x ht hx => ?_⟩
  cases j with
  | zero =>
    simp only [List.getElem?_cons_zero, Option.some.injEq] at ht hx
    subst ht; subst hx
    exact ⟨rfl, hc, hC⟩
  | succ j =>
    simp only [List.getElem?_cons_succ] at ht hx
    exact h.2 j t x ht hx
theorem rows_of_vals {w : World} {A : Option Addr} {vs : List (Option Addr × Nat × Nat)} {zs : List (List Int)} (hC : Kd.C kv w A vs.length vs) (h : Bys w vs zs) : Kd.C (Kd.slice 5 (Kd.int .u8)) w A zs.length zs := by
  obtain ⟨_, h2, h3⟩ := hC
  rw [h.1] at h2 h3
  refine ⟨rfl, h2, fun hn => ?_⟩
  obtain ⟨ad, e, hc⟩ := h3 hn
  refine ⟨ad, e, fun j p hp => ?_⟩
  have hj : j < vs.length := by rw [h.1]; exact (List.getElem?_eq_some_iff.1 hp).1
  obtain ⟨c, hl, hK, hx⟩ := hc j _ (List.getElem?_eq_getElem hj)
  obtain ⟨k1, k2, k3⟩ := h.2 j _ p (List.getElem?_eq_getElem hj) hp
  refine ⟨c, hl, ⟨vs[j].1, vs[j].2.2, ?_, k2, k3⟩, hx⟩
  have : c = [.slice vs[j].1 vs[j].2.1 vs[j].2.2] := hK
  rw [this, k1]

/-- Bytes that lay in w0, or that are the call's own. -/
def Byt (w0 wr : World) (A : Option Addr) (c : Nat) (z : List Int) : Prop := (z.length ≤ c ∧ Kd.C (Kd.int .u8) w0 A z.length z) ∨ Kd.R (Kd.int .u8) 5 wr w0.heap.size (fun k => w0.heap.size ≤ k) (.slice A z.length c) z
theorem Byt.reads {w0 wr : World} {A : Option Addr} {c : Nat} {z : List Int} (h : Byt w0 wr A c z) (hb : Below w0.heap.size w0 wr) : z.length ≤ c ∧ Kd.C (Kd.int .u8) wr A z.length z := by
  rcases h with h | h
  · exact ⟨h.1, Kd.C_below h.2 hb⟩
  · exact (Kd.R_reads' h).2
theorem Byt.below {w0 w1 w2 : World} {A : Option Addr} {c : Nat} {z : List Int} (h : Byt w0 w1 A c z) (hb : Below w1.heap.size w1 w2) : Byt w0 w2 A c z := h.imp id (fun h => Kd.R_below h hb)
theorem Byt.grown {w0 w1 w2 : World} {A : Option Addr} {c : Nat} {z : List Int} {v : Value} (h : Byt w0 w1 A c z) (hv : ∀ k, v.ownBlock = some k → ∃ cells, w1.heap[k]? = some (.cells cells 22 (0, 0))) (hg : w1.grownBy w2 v.ownBlock) : Byt w0 w2 A c z :=
  h.imp id (fun h => Kd.R_mono (Kd.R_grown (Kd.R_apart' h hv (by decide)) hg (fun k hk => hk.2)) (fun k hk => hk.1))
theorem Got.byt {w0 w1 w2 : World} {A : Option Addr} {c : Nat} {z : List Int} (h : Got (Kd.int .u8) 5 w1 w2 A c z) (hb : w0.heap.size ≤ w1.heap.size) : Byt w0 w2 A c z :=
  .inr (Kd.R_mono (Kd.R_lower h.own hb) (fun k hk => by omega))
/-- Slices of which each holds such bytes. -/
def Byts (w0 w : World) (vs : List (Option Addr × Nat × Nat)) (zs : List (List Int)) : Prop :=
  vs.length = zs.length ∧ ∀ (j : Nat) (t : Option Addr × Nat × Nat) (z : List Int), vs[j]? = some t → zs[j]? = some z → t.2.1 = z.length ∧ Byt w0 w t.1 t.2.2 z
theorem byts_nil (w0 w : World) : Byts w0 w [] [] := ⟨rfl, fun j t z h => by simp at h⟩
theorem Byts.below {w0 w1 w2 : World} {vs : List (Option Addr × Nat × Nat)} {zs : List (List Int)} (h : Byts w0 w1 vs zs) (hb : Below w1.heap.size w1 w2) : Byts w0 w2 vs zs :=
  ⟨h.1, fun j t z ht hz => ⟨(h.2 j t z ht hz).1, (h.2 j t z ht hz).2.below hb⟩⟩
theorem Byts.grown {w0 w1 w2 : World} {vs : List (Option Addr × Nat × Nat)} {zs : List (List Int)} {v : Value} (h : Byts w0 w1 vs zs) (hv : ∀ k, v.ownBlock = some k → ∃ cells, w1.heap[k]? = some (.cells cells 22 (0, 0))) (hg : w1.grownBy w2 v.ownBlock) : Byts w0 w2 vs zs :=
  ⟨h.1, fun j t z ht hz => ⟨(h.2 j t z ht hz).1, (h.2 j t z ht hz).2.grown hv hg⟩⟩
theorem Byts.bys {w0 wr : World} {vs : List (Option Addr × Nat × Nat)} {zs : List (List Int)} (h : Byts w0 wr vs zs) (hb : Below w0.heap.size w0 wr) : Bys wr vs zs :=
  ⟨h.1, fun j t z ht hz => ⟨(h.2 j t z ht hz).1, ((h.2 j t z ht hz).2.reads hb).1, ((h.2 j t z ht hz).2.reads hb).2⟩⟩
theorem Byts.snoc {w0 w : World} {vs : List (Option Addr × Nat × Nat)} {zs : List (List Int)} {A : Option Addr} {c : Nat} {z : List Int} (h : Byts w0 w vs zs) (hB : Byt w0 w A c z) : Byts w0 w (vs ++ [(A, z.length, c)]) (zs ++ [z]) := by
  refine ⟨by simp [h.1], fun j t x ht hx => ?_⟩
  rcases Nat.lt_or_ge j vs.length with hj | hj
  · rw [List.getElem?_append_left hj] at ht
    rw [List.getElem?_append_left (by rw [← h.1]; exact hj)] at hx
    exact h.2 j t x ht hx
  · have hj' : j = vs.length := by
      have := (List.getElem?_eq_some_iff.1 ht).1
      rw [List.length_append, List.length_singleton] at this
      omega
    subst hj'
    rw [List.getElem?_append_right (Nat.le_refl _), Nat.sub_self] at ht
    rw [h.1, List.getElem?_append_right (Nat.le_refl _), Nat.sub_self] at hx
    simp only [List.getElem?_cons_zero, Option.some.injEq] at ht hx
    subst ht; subst hx
    exact ⟨rfl, hB⟩

def joinP (l : List (List Int)) : List Int × Int := if 1024 < l.length then ([], 13) else joinGo [] l
set_option maxRecDepth 100000 in
theorem join_ok (A : Option Addr) (c : Nat) (l : List (List Int)) (zs : List Int) (w : World) (hC : Kd.C (Kd.slice 5 (Kd.int .u8)) w A l.length l) (hc : l.length ≤ c) (h : joinP l = (zs, 0)) :
    Calls Try.prog 98 #[.slice A l.length c] w fun e w' => ∃ A1 c1, e = .returned (.slice A1 zs.length c1) ∧ Got (Kd.int .u8) 5 w w' A1 c1 zs := by
  have HC := Aside0.mk hC
  have Hc := Aside0.mk hc
  have H := Aside0.mk (show joinF l = some (zs, 0) by rw [← h]; rfl)
  clear hC hc h
  go_enter Try.func98, Try.ntmps98
  go_wp2_with (first
    | (go_at_call 31; refine (join_calls A c l zs 0 _ HC.out Hc.out H.out).mono ?_; rintro e w1 ⟨v, rfl, hR, hB⟩; obtain ⟨A1, c1, rfl, hG⟩ := got_of_R hR hB; have HG := Aside0.mk hG; clear hR hB hG)
    | (go_at_call 136; refine (check_ok _).mono ?_; rintro e w2 ⟨rfl, rfl⟩))
  go_ret
  exact ⟨_, _, rfl, HG.out⟩
set_option maxRecDepth 100000 in
theorem join_bad (A : Option Addr) (c : Nat) (l : List (List Int)) (zs : List Int) (x : Int) (w : World) (hC : Kd.C (Kd.slice 5 (Kd.int .u8)) w A l.length l) (hc : l.length ≤ c) (h : joinP l = (zs, x)) (hx : x ≠ 0) :
    Calls Try.prog 98 #[.slice A l.length c] w fun e w' => e = .panicked (fault x) ∧ Below w.heap.size w w' := by
  have HC := Aside0.mk hC
  have Hc := Aside0.mk hc
  have HX := Aside0.mk hx
  have H := Aside0.mk (show joinF l = some (zs, x) by rw [← h]; rfl)
  clear hC hc h hx
  go_enter Try.func98, Try.ntmps98
  go_wp2_with (first
    | (go_at_call 31; refine (join_calls A c l zs x _ HC.out Hc.out H.out).mono ?_; rintro e w1 ⟨v, rfl, hR, hB⟩; obtain ⟨A1, c1, rfl, hG⟩ := got_of_R hR hB; have HG := Aside0.mk hG; clear hR hB hG)
    | (go_at_call 136; refine (check_bad x HX.out _).mono ?_; rintro e w2 ⟨rfl, rfl⟩))
  exact ⟨rfl, rfl, HG.out.keep⟩

def numsP (l : List Int) : List Int × Int := numsGo [] l
set_option maxRecDepth 100000 in
theorem nums_ok (A : Option Addr) (c : Nat) (l : List Int) (zs : List Int) (w : World) (hC : Kd.C (Kd.int .i64) w A l.length l) (hc : l.length ≤ c) (hl : l.length < 15000000000000) (h : numsP l = (zs, 0)) :
    Calls Try.prog 96 #[.slice A l.length c] w fun e w' => ∃ A1 c1, e = .returned (.slice A1 zs.length c1) ∧ Got (Kd.int .u8) 5 w w' A1 c1 zs := by
  have HC := Aside0.mk hC
  have Hc := Aside0.mk hc
  have H := Aside0.mk (show numsF l = some (zs, 0) by rw [← h]; exact if_pos hl)
  clear hC hc h hl
  go_enter Try.func96, Try.ntmps96
  go_wp2_with (first
    | (go_at_call 43; refine (nums_calls A c l zs 0 _ HC.out Hc.out H.out).mono ?_; rintro e w1 ⟨v, rfl, hR, hB⟩; obtain ⟨A1, c1, rfl, hG⟩ := got_of_R hR hB; have HG := Aside0.mk hG; clear hR hB hG)
    | (go_at_call 136; refine (check_ok _).mono ?_; rintro e w2 ⟨rfl, rfl⟩))
  go_ret
  exact ⟨_, _, rfl, HG.out⟩

def splitP (l : List Int) : List (List Int) × Int := splitGo (l.length + 1) [] l
set_option maxRecDepth 100000 in
theorem split_ok (A : Option Addr) (c : Nat) (l : List Int) (rs : List (List Int)) (w : World) (hC : Kd.C (Kd.int .u8) w A l.length l) (hc : l.length ≤ c) (hb : Byte l) (hl : l.length < 140737488355328) (h : splitP l = (rs, 0)) :
    Calls Try.prog 107 #[.slice A l.length c] w fun e w' => ∃ A1 c1, e = .returned (.slice A1 rs.length c1) ∧ Got (Kd.slice 5 (Kd.int .u8)) 22 w w' A1 c1 rs := by
  have HC := Aside0.mk hC
  have Hc := Aside0.mk hc
  have HB := Aside0.mk hb
  have HL := Aside0.mk hl
  have H := Aside0.mk h
  clear hC hc h hl hb
  go_enter Try.func107, Try.ntmps107
  go_wp2_with (first
    | (go_at_call 39; refine (split_rows A c l rs 0 _ HC.out Hc.out HB.out HL.out H.out).mono ?_; rintro e w1 ⟨v, rfl, hR, hB⟩; obtain ⟨A1, c1, rfl, hG⟩ := got_of_R hR hB; have HG := Aside0.mk hG; clear hR hB hG)
    | (go_at_call 136; refine (check_ok _).mono ?_; rintro e w2 ⟨rfl, rfl⟩))
  go_ret
  exact ⟨_, _, rfl, HG.out⟩
set_option maxRecDepth 100000 in
theorem split_bad (A : Option Addr) (c : Nat) (l : List Int) (rs : List (List Int)) (x : Int) (w : World) (hC : Kd.C (Kd.int .u8) w A l.length l) (hc : l.length ≤ c) (hb : Byte l) (hl : l.length < 140737488355328) (h : splitP l = (rs, x)) (hx : x ≠ 0) :
    Calls Try.prog 107 #[.slice A l.length c] w fun e w' => e = .panicked (fault x) ∧ Below w.heap.size w w' := by
  have HC := Aside0.mk hC
  have Hc := Aside0.mk hc
  have HB := Aside0.mk hb
  have HL := Aside0.mk hl
  have HX := Aside0.mk hx
  have H := Aside0.mk h
  clear hC hc h hl hb hx
  go_enter Try.func107, Try.ntmps107
  go_wp2_with (first
    | (go_at_call 39; refine (split_rows A c l rs x _ HC.out Hc.out HB.out HL.out H.out).mono ?_; rintro e w1 ⟨v, rfl, hR, hB⟩; obtain ⟨A1, c1, rfl, hG⟩ := got_of_R hR hB; have HG := Aside0.mk hG; clear hR hB hG)
    | (go_at_call 136; refine (check_bad x HX.out _).mono ?_; rintro e w2 ⟨rfl, rfl⟩))
  exact ⟨rfl, rfl, HG.out.keep⟩

def intsP (l : List Int) : List Int × Int := intsGo (l.length + 1) [] l
set_option maxRecDepth 100000 in
theorem ints_ok (A : Option Addr) (c n : Nat) (l : List Int) (vs : List Int) (w : World) (hC : Kd.C (Kd.int .u8) w A l.length l) (hc : l.length ≤ c) (hb : Byte l) (hl : l.length < 17592186044416) (h : intsP l = (vs, 0)) (hn : vs.length = n) :
    Calls Try.prog 108 #[.slice A l.length c, .int .i64 (n : Int)] w fun e w' => ∃ A1 c1, e = .returned (.slice A1 vs.length c1) ∧ Got (Kd.int .i64) 3 w w' A1 c1 vs := by
  have HC := Aside0.mk hC
  have Hc := Aside0.mk hc
  have HB := Aside0.mk hb
  have HL := Aside0.mk hl
  have H := Aside0.mk h
  subst hn
  clear hC hc h hl hb
  go_enter Try.func108, Try.ntmps108
  go_wp2_with (first
    | (go_at_call 45; refine (ints_row A c l vs 0 _ HC.out Hc.out HB.out HL.out H.out).mono ?_; rintro e w1 ⟨v, rfl, hR, hB⟩; obtain ⟨A1, c1, rfl, hG⟩ := got_of_R hR hB; have HG := Aside0.mk hG; clear hR hB hG)
    | (go_at_call 94; refine (need_ok 12 _).mono ?_; rintro e w2 ⟨rfl, rfl⟩))
  go_ret
  exact ⟨_, _, rfl, HG.out⟩
set_option maxRecDepth 100000 in
theorem ints_bad (A : Option Addr) (c n : Nat) (l : List Int) (vs : List Int) (x : Int) (w : World) (hC : Kd.C (Kd.int .u8) w A l.length l) (hc : l.length ≤ c) (hb : Byte l) (hl : l.length < 17592186044416) (h : intsP l = (vs, x)) (hn : x ≠ 0 ∨ vs.length ≠ n) :
    Calls Try.prog 108 #[.slice A l.length c, .int .i64 (n : Int)] w fun e w' => e = .panicked (fault 12) ∧ Below w.heap.size w w' := by
  have HC := Aside0.mk hC
  have Hc := Aside0.mk hc
  have HB := Aside0.mk hb
  have HL := Aside0.mk hl
  have H := Aside0.mk h
  clear hC hc h hl hb
  by_cases hx : x = 0
  · have b1 : ((vs.length : Int) == (n : Int)) = false := beq_eq_false_iff_ne.mpr (by rcases hn with hn | hn <;> omega)
    have b1' : (vs.length == n) = false := beq_eq_false_iff_ne.mpr (by rcases hn with hn | hn <;> omega)
    subst hx
    clear hn
    go_enter Try.func108, Try.ntmps108
    go_wp2_with (first
      | (go_at_call 45; refine (ints_row A c l vs 0 _ HC.out Hc.out HB.out HL.out H.out).mono ?_; rintro e w1 ⟨v, rfl, hR, hB⟩; obtain ⟨A1, c1, rfl, hG⟩ := got_of_R hR hB; have HG := Aside0.mk hG; clear hR hB hG)
      | (go_at_call 94; refine (need_bad 12 _).mono ?_; rintro e w2 ⟨rfl, rfl⟩))
    exact ⟨rfl, rfl, HG.out.keep⟩
  · have b1 : (x == 0) = false := beq_eq_false_iff_ne.mpr hx
    clear hn hx
    go_enter Try.func108, Try.ntmps108
    go_wp2_with (first
      | (go_at_call 45; refine (ints_row A c l vs x _ HC.out Hc.out HB.out HL.out H.out).mono ?_; rintro e w1 ⟨v, rfl, hR, hB⟩; obtain ⟨A1, c1, rfl, hG⟩ := got_of_R hR hB; have HG := Aside0.mk hG; clear hR hB hG)
      | (go_at_call 94; refine (need_bad 12 _).mono ?_; rintro e w2 ⟨rfl, rfl⟩))
    exact ⟨rfl, rfl, HG.out.keep⟩
set_option maxRecDepth 100000 in
theorem fields_ok (A : Option Addr) (c n : Nat) (l : List Int) (rs : List (List Int)) (w : World) (hC : Kd.C (Kd.int .u8) w A l.length l) (hc : l.length ≤ c) (hb : Byte l) (hl : l.length < 140737488355328) (h : splitP l = (rs, 0)) (hn : rs.length = n) :
    Calls Try.prog 148 #[.slice A l.length c, .int .i64 (n : Int)] w fun e w' => ∃ A1 c1, e = .returned (.slice A1 rs.length c1) ∧ Got (Kd.slice 5 (Kd.int .u8)) 22 w w' A1 c1 rs := by
  have HC := Aside0.mk hC
  have Hc := Aside0.mk hc
  have HB := Aside0.mk hb
  have HL := Aside0.mk hl
  have H := Aside0.mk h
  subst hn
  clear hC hc h hl hb
  go_enter Try.func148, Try.ntmps148
  go_wp2_with (first
    | (go_at_call 107; refine (split_ok A c l rs _ HC.out Hc.out HB.out HL.out H.out).mono ?_; rintro e w1 ⟨A1, c1, rfl, hG⟩; have HG := Aside0.mk hG; clear hG)
    | (go_at_call 94; refine (need_ok 12 _).mono ?_; rintro e w2 ⟨rfl, rfl⟩))
  go_ret
  exact ⟨_, _, rfl, HG.out⟩
set_option maxRecDepth 100000 in
theorem fields_bad (A : Option Addr) (c n : Nat) (l : List Int) (rs : List (List Int)) (x : Int) (w : World) (hC : Kd.C (Kd.int .u8) w A l.length l) (hc : l.length ≤ c) (hb : Byte l) (hl : l.length < 140737488355328) (h : splitP l = (rs, x)) (hn : x ≠ 0 ∨ rs.length ≠ n) :
    Calls Try.prog 148 #[.slice A l.length c, .int .i64 (n : Int)] w fun e w' => (∃ y, y ≠ 0 ∧ e = .panicked (fault y)) ∧ Below w.heap.size w w' := by
  have HC := Aside0.mk hC
  have Hc := Aside0.mk hc
  have HB := Aside0.mk hb
  have HL := Aside0.mk hl
  have H := Aside0.mk h
  clear hC hc h hl hb
  by_cases hx : x = 0
  · have b1 : ((rs.length : Int) == (n : Int)) = false := beq_eq_false_iff_ne.mpr (by rcases hn with hn | hn <;> omega)
    have b1' : (rs.length == n) = false := beq_eq_false_iff_ne.mpr (by rcases hn with hn | hn <;> omega)
    subst hx
    clear hn
    go_enter Try.func148, Try.ntmps148
    go_wp2_with (first
      | (go_at_call 107; refine (split_ok A c l rs _ HC.out Hc.out HB.out HL.out H.out).mono ?_; rintro e w1 ⟨A1, c1, rfl, hG⟩; have HG := Aside0.mk hG; clear hG)
      | (go_at_call 94; refine (need_bad 12 _).mono ?_; rintro e w2 ⟨rfl, rfl⟩))
    exact ⟨rfl, ⟨12, by decide, rfl⟩, HG.out.keep⟩
  · have HX := Aside0.mk hx
    clear hn hx
    go_enter Try.func148, Try.ntmps148
    go_wp2_with (first
      | (go_at_call 107; refine (split_bad A c l rs x _ HC.out Hc.out HB.out HL.out H.out HX.out).mono ?_; rintro e w1 ⟨rfl, hB⟩; have HK := Aside0.mk hB; clear hB))
    exact ⟨rfl, ⟨x, HX.out, rfl⟩, HK.out⟩
end Go.Proofs.Ytijccobeljoikaa.Ms

/- msg: what is right: entries, what is proven. -/
namespace Go.Proofs.Ytijccobeljoikaa.Ms
open Go.RowKit Go.Proofs.YtijccobeljoikaaW.PrintWords Go.Proofs.YtijccobeljoikaaW.PrintLast
open Go.Proofs.Ytijccobeljoikaa.Plain Go.Proofs.Ytijccobeljoikaa.Walks
set_option linter.unusedVariables false
set_option linter.unusedSimpArgs false

/-- Numbers that a block holds. -/
theorem C_ints_block {W : World} {n t : Nat} {fr : Nat × Nat} {l : List Int} (h : W.heap[n]? = some (.cells (l.map (Value.int .i64)).toArray t fr)) (hl : l.length ≤ 9223372036854775807) : Kd.C (Kd.int .i64) W (some ⟨n, 0, none⟩) l.length l :=
  Kd.C_of_reads (d := (0 : Int)) (h1 := fun _ => rfl) ⟨rfl, hl, fun _ => ⟨_, rfl, fun j hj => by rw [add_plain, cell_of_row W n j _ t fr h]; simp [List.getD_eq_getElem?_getD, hj]⟩⟩
theorem blk_at {w : World} {o : Obj} {n : Nat} (h : w.heap.size = n) : (w.alloc o).heap[n]? = some o := by subst h; exact blk_new _ _

def goodEntry (x : S87) : Bool := if x.f0 = -1 then decide (x.f1 = 0) && decide (x.f3.length = 0) && !([x.f2].any narrow) else withinB x.f0 0 7 && !([x.f1, x.f2].any narrow) && decide (x.f3.length = 32)
set_option maxHeartbeats 4000000 in
set_option maxRecDepth 100000 in
theorem rightEntry_calls (m : S87) (A3 : Option Addr) (c3 : Nat) (w : World) :
    Calls Try.prog 131 #[.agg #[.int .i64 m.f0, .int .i64 m.f1, .int .i64 m.f2, .slice A3 m.f3.length c3]] w fun e w' => e = .returned (.bool (goodEntry m)) ∧ Below w.heap.size w w' := by
  have hu87 := Try.underlying87
  by_cases hm : m.f0 = -1
  · obtain ⟨q3, h3⟩ : ∃ q, q = !([m.f2].any narrow) := ⟨_, rfl⟩
    obtain ⟨q1, h1⟩ : ∃ q, q = decide (m.f1 = 0) := ⟨_, rfl⟩
    obtain ⟨q2, h2⟩ : ∃ q, q = decide (m.f3.length = 0) := ⟨_, rfl⟩
    have HG := Aside0.mk (show goodEntry m = (q1 && q2 && q3) by rw [h1, h2, h3]; simp [goodEntry, hm])
    have H3 := Aside0.mk h3
    have e0 : (m.f0 == -1) = true := beq_iff_eq.mpr hm
    have e1 : (m.f1 == 0) = q1 := by rw [h1]; rfl
    have e2 : ((m.f3.length : Int) == 0) = q2 := by
      rw [h2]
      by_cases hh : m.f3.length = 0
      · rw [decide_eq_true hh]; exact beq_iff_eq.mpr (by omega)
      · rw [decide_eq_false hh]; exact beq_eq_false_iff_ne.mpr (by omega)
    have e2' : (m.f3.length == 0) = q2 := by rw [h2]; rfl
    clear h1 h2 h3 hm
    go_enter Try.func131, Try.ntmps131
    cases q1 with
    | false =>
      go_wp2_with (fail)
      go_ret
      exact ⟨by rw [HG.out]; simp, by repeat (first | exact Below.refl _ _ | apply below_alloc)⟩
    | true =>
      cases q2 with
      | false =>
        go_wp2_with (fail)
        go_ret
        exact ⟨by rw [HG.out]; simp, by repeat (first | exact Below.refl _ _ | apply below_alloc)⟩
      | true =>
        go_wp2_with (fail)
        refine (wide_calls (some _) 1 [m.f2] _ (C_ints_block (l := [m.f2]) (t := 3) (fr := (0, 0)) (blk_at (by simp)) (by simp)) (by simp)).mono ?_
        rintro e w1 ⟨rfl, rfl⟩
        rw [← H3.out]
        go_wp2_with (fail)
        go_ret
        exact ⟨by rw [HG.out]; simp, by repeat (first | exact Below.refl _ _ | apply below_alloc)⟩
  · obtain ⟨q1, h1⟩ : ∃ q, q = withinB m.f0 0 7 := ⟨_, rfl⟩
    obtain ⟨q2, h2⟩ : ∃ q, q = !([m.f1, m.f2].any narrow) := ⟨_, rfl⟩
    obtain ⟨q3, h3⟩ : ∃ q, q = decide (m.f3.length = 32) := ⟨_, rfl⟩
    have HG := Aside0.mk (show goodEntry m = (q1 && q2 && q3) by rw [h1, h2, h3]; simp only [goodEntry, if_neg hm])
    have H1 := Aside0.mk h1
    have H2 := Aside0.mk h2
    have e0 : (m.f0 == -1) = false := beq_eq_false_iff_ne.mpr hm
    have e3 : ((m.f3.length : Int) == 32) = q3 := by
      rw [h3]
      by_cases hh : m.f3.length = 32
      · rw [decide_eq_true hh]; exact beq_iff_eq.mpr (by omega)
      · rw [decide_eq_false hh]; exact beq_eq_false_iff_ne.mpr (by omega)
    have e3' : (m.f3.length == 32) = q3 := by rw [h3]; rfl
    clear h1 h2 h3 hm
    go_enter Try.func131, Try.ntmps131
    cases q1 with
    | false =>
      go_wp2_with (go_at_call 127; with_reducible refine (within_calls m.f0 0 7 _).mono ?_; rintro e w1 ⟨rfl, rfl⟩; rw [← H1.out])
      go_ret
      exact ⟨by rw [HG.out]; simp, by repeat (first | exact Below.refl _ _ | apply below_alloc)⟩
    | true =>
      go_wp2_with (go_at_call 127; with_reducible refine (within_calls m.f0 0 7 _).mono ?_; rintro e w1 ⟨rfl, rfl⟩; rw [← H1.out])
      refine (wide_calls (some _) 2 [m.f1, m.f2] _ (C_ints_block (l := [m.f1, m.f2]) (t := 3) (fr := (0, 0)) (blk_at (by simp)) (by simp)) (by simp)).mono ?_
      rintro e w1 ⟨rfl, rfl⟩
      rw [← H2.out]
      cases q2 with
      | false =>
        go_wp2_with (fail)
        go_ret
        exact ⟨by rw [HG.out]; simp, by repeat (first | exact Below.refl _ _ | apply below_alloc)⟩
      | true =>
        go_wp2_with (fail)
        go_ret
        exact ⟨by rw [HG.out]; simp, by repeat (first | exact Below.refl _ _ | apply below_alloc)⟩

def badProven (x : S101) : Bool := [x.f0, x.f1].any narrow || !goodEntry x.f2 || !goodLetters x.f3
set_option maxHeartbeats 4000000 in
set_option maxRecDepth 100000 in
theorem badProven_calls (m : S101) (A5 : Option Addr) (c5 : Nat) (A6 : Option Addr) (c6 : Nat) (w : World) (hC6 : Kd.C k72 w A6 m.f3.length m.f3) (hc6 : m.f3.length ≤ c6) :
    Calls Try.prog 129 #[.agg #[.int .i64 m.f0, .int .i64 m.f1, .int .i64 m.f2.f0, .int .i64 m.f2.f1, .int .i64 m.f2.f2, .slice A5 m.f2.f3.length c5, .slice A6 m.f3.length c6]] w fun e w' => e = .returned (.bool (badProven m)) ∧ Below w.heap.size w w' := by
  have HC := Aside0.mk hC6
  have Hc := Aside0.mk hc6
  clear hC6 hc6
  have hu101 := Try.underlying101
  have hu87 := Try.underlying87
  obtain ⟨q1, h1⟩ : ∃ q, q = [m.f0, m.f1].any narrow := ⟨_, rfl⟩
  obtain ⟨q2, h2⟩ : ∃ q, q = goodEntry m.f2 := ⟨_, rfl⟩
  obtain ⟨q3, h3⟩ : ∃ q, q = goodLetters m.f3 := ⟨_, rfl⟩
  have HG := Aside0.mk (show badProven m = (q1 || !q2 || !q3) by rw [h1, h2, h3]; rfl)
  have H1 := Aside0.mk h1
  have H2 := Aside0.mk h2
  have H3 := Aside0.mk h3
  clear h1 h2 h3
  have HB0 : Aside0 (Below w.heap.size w ((w.alloc (.cells #[.int .i64 m.f0, .int .i64 m.f1, .int .i64 m.f2.f0, .int .i64 m.f2.f1, .int .i64 m.f2.f2, .slice A5 m.f2.f3.length c5, .slice A6 m.f3.length c6] 101)).alloc (.cells #[.int .i64 m.f0, .int .i64 m.f1] 3))) := ⟨by repeat (first | exact Below.refl _ _ | apply below_alloc)⟩
  go_enter Try.func129, Try.ntmps129
  go_wp2_with (fail)
  refine (wide_calls (some _) 2 [m.f0, m.f1] _ (C_ints_block (l := [m.f0, m.f1]) (t := 3) (fr := (0, 0)) (blk_at (by simp)) (by simp)) (by simp)).mono ?_
  rintro e w1 ⟨rfl, rfl⟩
  rw [← H1.out]
  cases q1 with
  | true =>
    go_wp2_with (fail)
    go_ret
    exact ⟨by rw [HG.out]; simp, HB0.out⟩
  | false =>
    go_wp2_with (fail)
    refine (rightEntry_calls m.f2 A5 c5 _).mono ?_
    rintro e w2 ⟨rfl, hB⟩
    rw [← H2.out]
    have HB2 := Aside0.mk (below_then HB0.out HB0.out.size hB)
    have hx6 : w2.cell? ⟨w.heap.size, 6, none⟩ = some (.slice A6 m.f3.length c6) := by
      rw [blk_cell ((hB.block _ (by simp; omega)).trans ((Below.heap_alloc _ _ _ (by simp)).trans (blk_new _ _)))]; rfl
    clear hB
    cases q2 with
    | false =>
      go_wp2_with (fail)
      go_ret
      exact ⟨by rw [HG.out]; simp, HB2.out⟩
    | true =>
      go_wp2_with (fail)
      refine (rightLetters_calls A6 c6 m.f3 _ (Kd.C_below HC.out HB2.out) Hc.out).mono ?_
      rintro e w3 ⟨rfl, hB⟩
      rw [← H3.out]
      have HB3 := Aside0.mk (below_then HB2.out HB2.out.size hB)
      clear hB
      go_wp2_with (fail)
      go_ret
      exact ⟨by rw [HG.out]; simp, HB3.out⟩
set_option maxHeartbeats 4000000 in
set_option maxRecDepth 100000 in
theorem index_provens (A : Option Addr) (c : Nat) (l : List S101) (w : World) (hC : Kd.C k101 w A l.length l) (hc : l.length ≤ c) :
    Calls Try.prog 153 #[.slice A l.length c, .func (.func 129) #[] #[]] w fun e w' => ∃ r : Int, e = .returned (.int .i64 r) ∧ decide (0 ≤ r) = l.any badProven ∧ Below w.heap.size w w' := by
  have HC := Aside0.mk hC
  have hm := hC.2.1
  have hu101 := Try.underlying101
  clear hC
  go_enter Try.func153, Try.ntmps153
  go_wp2_with (fail)
  go_loopw [8] (fun v8 wr => ∃ i : Nat, v8 = .int .i64 (i : Int) ∧ i ≤ l.length ∧ Aside0 ((l.take i).any badProven = false) ∧ Aside0 (Below w.heap.size w wr)) (fun v8 _ => l.length - (intOf v8).toNat)
  case atStart => exact ⟨0, rfl, Nat.zero_le _, ⟨by simp⟩, ⟨Below.refl _ _⟩⟩
  case round =>
    obtain ⟨i, rfl, hi, HA, HB⟩ := hrel
    by_cases hlt : i < l.length
    · have b0 : decide ((i : Int) < (l.length : Int)) = true := decide_eq_true (by omega)
      have b0' : decide (i < l.length) = true := decide_eq_true hlt
      have b1 : (0 ≤ (i : Int)) = True := eq_true (by omega)
      have b2 : ((i : Int) < (l.length : Int)) = True := eq_true (by omega)
      obtain ⟨ad, A5, c5, A6, c6, e, hx0, hx1, hx2, hx3, hx4, hx5, hx6, hl5, hi5, hl6, hi6⟩ := at_T101 (Kd.C_below HC.out HB.out) (i : Int) (by omega) (by omega)
      subst e
      obtain ⟨x, hxx⟩ : ∃ x, x = rd_T101 l (i : Int) := ⟨_, rfl⟩
      rw [← hxx] at hx0 hx1 hx2 hx3 hx4 hx5 hx6 hl5 hi5 hl6 hi6
      rw [Int.toNat_natCast] at hx0 hx1 hx2 hx3 hx4 hx5 hx6
      have hxi : x = l[i] := by rw [hxx]; simp [rd_T101, List.getD_eq_getElem?_getD, hlt]
      have HXI := Aside0.mk hxi
      have HI6 := Aside0.mk hi6
      have HL6 := Aside0.mk hl6
      clear hxx hxi hl5 hi5 hl6 hi6
      obtain ⟨nb, hnb⟩ : ∃ nb, nb = badProven x := ⟨_, rfl⟩
      have HNB := Aside0.mk hnb
      clear hnb
      cases nb with
      | true =>
        go_wp2_with (go_at_call 129; with_reducible refine (badProven_calls x A5 c5 A6 c6 _ HI6.out HL6.out).mono ?_; rintro e w1 ⟨rfl, hB⟩; have HB1 := Aside0.mk hB; clear hB; rw [← HNB.out])
        go_ret
        refine ⟨_, rfl, ?_, HB.out.trans (HB1.out.mono HB.out.size)⟩
        have hany : l.any badProven = true := List.any_eq_true.2 ⟨l[i], List.getElem_mem hlt, by rw [← HXI.out, ← HNB.out]⟩
        rw [hany]; exact decide_eq_true (by omega)
      | false =>
        go_wp2_with (go_at_call 129; with_reducible refine (badProven_calls x A5 c5 A6 c6 _ HI6.out HL6.out).mono ?_; rintro e w1 ⟨rfl, hB⟩; have HB1 := Aside0.mk hB; clear hB; rw [← HNB.out])
        exact ⟨⟨i + 1, by simp, by omega, ⟨any_take HA.out hlt (by rw [← HXI.out, ← HNB.out])⟩, ⟨HB.out.trans (HB1.out.mono HB.out.size)⟩⟩, by simp only [intOf]; omega⟩
    · have b0 : decide ((i : Int) < (l.length : Int)) = false := decide_eq_false (by omega)
      have b0' : decide (i < l.length) = false := decide_eq_false hlt
      go_wp2_with (fail)
      go_ret
      refine ⟨_, rfl, ?_, HB.out⟩
      have := HA.out
      rw [List.take_of_length_le (by omega)] at this
      rw [this]; decide
set_option maxHeartbeats 4000000 in
set_option maxRecDepth 100000 in
theorem contains_provens (A : Option Addr) (c : Nat) (l : List S101) (w : World) (hC : Kd.C k101 w A l.length l) (hc : l.length ≤ c) :
    Calls Try.prog 134 #[.slice A l.length c, .func (.func 129) #[] #[]] w fun e w' => e = .returned (.bool (l.any badProven)) ∧ Below w.heap.size w w' := by
  have HC := Aside0.mk hC
  have Hc := Aside0.mk hc
  clear hC hc
  go_enter Try.func134, Try.ntmps134
  go_wp2_with (go_at_call 153; refine (index_provens A c l _ HC.out Hc.out).mono ?_; rintro e w1 ⟨r, rfl, hr, hB⟩; have HR := Aside0.mk hr; have HB1 := Aside0.mk hB; clear hr hB)
  go_ret
  exact ⟨by rw [← HR.out]; rfl, HB1.out⟩

end Go.Proofs.Ytijccobeljoikaa.Ms

/- msg: plain facts: what right letters and entries are as bytes. -/
namespace Go.Proofs.Ytijccobeljoikaa.Ms
open Go.RowKit Go.Proofs.YtijccobeljoikaaW.PrintWords Go.Proofs.YtijccobeljoikaaW.PrintLast
open Go.Proofs.Ytijccobeljoikaa.Plain Go.Proofs.Ytijccobeljoikaa.Walks
set_option linter.unusedVariables false
set_option linter.unusedSimpArgs false

/-- Numbers behind one another. -/
def encI : List Int → List Int
  | [] => []
  | v :: l => encN v.toNat ++ encI l
theorem numsGo_ok {l : List Int} (h : ∀ v ∈ l, 0 ≤ v ∧ v < 4611686018427387904) : ∀ acc, numsGo acc l = (acc ++ encI l, 0) := by
  induction l with
  | nil => intro acc; simp [numsGo, encI]
  | cons x l ih =>
    intro acc
    have h1 := h x List.mem_cons_self
    rw [numsGo, if_neg (by omega), ih fun r hr => h r (List.mem_cons_of_mem _ hr)]
    simp [encI]
theorem encI_len {l : List Int} (h : ∀ v ∈ l, 0 ≤ v ∧ v < 4611686018427387904) : (encI l).length ≤ 9 * l.length := by
  induction l with
  | nil => simp [encI]
  | cons x l ih =>
    have h1 := h x List.mem_cons_self
    have := ih fun r hr => h r (List.mem_cons_of_mem _ hr)
    have h9 := encN_len9 x.toNat (by omega)
    simp [encI]; omega
theorem joinP_ok {l : List (List Int)} (h : l.length ≤ 1024) (hr : ∀ r ∈ l, r.length ≤ 65536) : joinP l = (encL l, 0) := by
  rw [joinP, if_neg (by omega), joinGo_ok hr]; rfl
theorem joinP_bad {l : List (List Int)} (h : ¬ (l.length ≤ 1024 ∧ ∀ r ∈ l, r.length ≤ 65536)) : joinP l = ([], 13) := by
  unfold joinP
  split
  · rfl
  · rename_i h1
    exact joinGo_bad (fun hr => h ⟨by omega, hr⟩) _

theorem rowsSize_le {l : List (List Int)} {B : Nat} (h : ∀ r ∈ l, r.length ≤ B) : rowsSize l ≤ l.length * (B + 1) := by
  induction l with
  | nil => simp [rowsSize]
  | cons x l ih =>
    have h1 := h x List.mem_cons_self
    have := ih fun r hr => h r (List.mem_cons_of_mem _ hr)
    simp only [rowsSize, List.length_cons, Nat.succ_mul]; omega

structure Good72 (m : S72) : Prop where
  r0 : 1 ≤ m.f0.f0 ∧ m.f0.f0 ≤ 4
  r1 : 1 ≤ m.f1 ∧ m.f1 ≤ 4
  r2 : 0 ≤ m.f0.f1 ∧ m.f0.f1 ≤ 63
  body : m.f2.length ≤ 65536
  many : m.f3.length ≤ 64
  tags : ∀ t ∈ m.f3, t.length ≤ 16
theorem good72 {m : S72} : goodLetter m = true ↔ Good72 m := by
  constructor
  · intro h
    simp only [goodLetter, withinB, Bool.and_eq_true, decide_eq_true_eq, Bool.not_eq_true', List.any_eq_false] at h
    obtain ⟨⟨⟨⟨⟨h1, h2⟩, h3⟩, h4⟩, h5⟩, h6⟩ := h
    exact ⟨h1, h2, h3, h4, h5, fun t ht => by have := h6 t ht; simp only [longTag, decide_eq_true_eq] at this; omega⟩
  · intro h
    simp only [goodLetter, withinB, Bool.and_eq_true, decide_eq_true_eq, Bool.not_eq_true', List.any_eq_false]
    exact ⟨⟨⟨⟨⟨h.r0, h.r1⟩, h.r2⟩, h.body⟩, h.many⟩, fun t ht => by have := h.tags t ht; simp only [longTag, decide_eq_true_eq]; omega⟩

/-- A right letter's bytes. -/
def letterZ (m : S72) : List Int := encL [encI [m.f0.f0, m.f0.f1, m.f1], m.f2, encL m.f3]
theorem letter_wide {m : S72} (h : Good72 m) : ∀ v ∈ [m.f0.f0, m.f0.f1, m.f1], 0 ≤ v ∧ v < 4611686018427387904 := by
  have h1 := h.r0; have h2 := h.r1; have h3 := h.r2
  intro v hv
  simp only [List.mem_cons, List.not_mem_nil, or_false] at hv
  rcases hv with rfl | rfl | rfl <;> omega
theorem letter_nums {m : S72} (h : Good72 m) : numsP [m.f0.f0, m.f0.f1, m.f1] = (encI [m.f0.f0, m.f0.f1, m.f1], 0) := by
  rw [numsP, numsGo_ok (letter_wide h)]; rfl
theorem letter_tags {m : S72} (h : Good72 m) : joinP m.f3 = (encL m.f3, 0) := joinP_ok (by have := h.many; omega) (fun r hr => by have := h.tags r hr; omega)
theorem tags_len {m : S72} (h : Good72 m) : (encL m.f3).length ≤ 65536 := by
  have h1 := encL_len (l := m.f3) (fun r hr => by have := h.tags r hr; omega)
  have h2 := rowsSize_le h.tags
  have h3 := h.many
  omega
theorem letter_join {m : S72} (h : Good72 m) : joinP [encI [m.f0.f0, m.f0.f1, m.f1], m.f2, encL m.f3] = (letterZ m, 0) := by
  refine joinP_ok (by simp) (fun r hr => ?_)
  simp only [List.mem_cons, List.not_mem_nil, or_false] at hr
  rcases hr with rfl | rfl | rfl
  · have := encI_len (letter_wide h); simp only [List.length_cons, List.length_nil] at this; omega
  · exact h.body
  · exact tags_len h

theorem not_narrow {v : Int} : narrow v = false ↔ 0 ≤ v ∧ v < 1099511627776 := by
  unfold narrow
  rw [decide_eq_false_iff_not]
  omega
structure Good87 (x : S87) : Prop where
  c : -1 ≤ x.f0 ∧ x.f0 ≤ 7
  s : 0 ≤ x.f1 ∧ x.f1 < 1099511627776
  t : 0 ≤ x.f2 ∧ x.f2 < 1099511627776
  d : x.f3.length ≤ 32
theorem good87 {x : S87} (h : goodEntry x = true) : Good87 x := by
  unfold goodEntry at h
  split at h
  · rename_i h0
    simp only [Bool.and_eq_true, decide_eq_true_eq, Bool.not_eq_true', List.any_cons, List.any_nil, Bool.or_false, not_narrow] at h
    obtain ⟨⟨h1, h2⟩, h3⟩ := h
    exact ⟨by omega, by omega, h3, by omega⟩
  · simp only [withinB, Bool.and_eq_true, decide_eq_true_eq, Bool.not_eq_true', List.any_cons, List.any_nil, Bool.or_false, Bool.or_eq_false_iff, not_narrow] at h
    obtain ⟨⟨h1, h2, h3⟩, h4⟩ := h
    exact ⟨by omega, h2, h3, by omega⟩
/-- A right entry's bytes. -/
def entryZ (x : S87) : List Int := encL [encI [x.f0 + 1, x.f1, x.f2], x.f3]
theorem entry_wide {x : S87} (h : Good87 x) : ∀ v ∈ [x.f0 + 1, x.f1, x.f2], 0 ≤ v ∧ v < 4611686018427387904 := by
  have h1 := h.c; have h2 := h.s; have h3 := h.t
  intro v hv
  simp only [List.mem_cons, List.not_mem_nil, or_false] at hv
  rcases hv with rfl | rfl | rfl <;> omega
theorem entry_nums {x : S87} (h : Good87 x) : numsP [x.f0 + 1, x.f1, x.f2] = (encI [x.f0 + 1, x.f1, x.f2], 0) := by
  rw [numsP, numsGo_ok (entry_wide h)]; rfl
theorem entry_join {x : S87} (h : Good87 x) : joinP [encI [x.f0 + 1, x.f1, x.f2], x.f3] = (entryZ x, 0) := by
  refine joinP_ok (by simp) (fun r hr => ?_)
  simp only [List.mem_cons, List.not_mem_nil, or_false] at hr
  rcases hr with rfl | rfl
  · have := encI_len (entry_wide h); simp only [List.length_cons, List.length_nil] at this; omega
  · have := h.d; omega
end Go.Proofs.Ytijccobeljoikaa.Ms
