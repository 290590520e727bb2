/- Written by ownprint.py, an own program round the print: plain Lean functions for Go functions, and that the Go code comes to what they say. -/
import Derived.Test.YtijccobeljoikaaPkx0
import Derived.Test.YtijccobeljoikaaPkx2
import Derived.Test.YtijccobeljoikaaPkx4
import Derived.Test.YtijccobeljoikaaPkOrA
import Derived.Test.YtijccobeljoikaaPkOrC
import Derived.Test.YtijccobeljoikaaPkOrE
import Derived.Test.YtijccobeljoikaaPkOrD
import Derived.Test.YtijccobeljoikaaPkOrB
namespace Go.Proofs.Ytijccobeljoikaa.Pk
open Go.RowKit Go.Proofs.YtijccobeljoikaaW.PrintWords Go.Proofs.YtijccobeljoikaaW.PrintLast Go.Proofs.YtijccobeljoikaaW.PrintMore
attribute [local go_sem] max2_int min2_int max_two min_two max_three min_three max_four min_four   -- for this text's walks alone
set_option linter.unusedVariables false
set_option linter.unusedSimpArgs false

/-! ### stanchionlaw01_PackBehind: function 13 -/
mutual
def stanchionlaw01_PackBehind.j0 : Nat → List (List Int) → List (List Int) → Bool → Option (Bool)
  | 0, _, _, _ => none
  | k + 1, x0, x1, x19 => if x19 = true then (some false) else ((stanchionref00_Rows.f k x0 50000).bind fun t482 => (if t482 = true then (stanchionlaw01_PackBehind.j1 k x0 x1 true) else ((stanchionref00_Rows.f k x1 50000).bind fun t483 => (stanchionlaw01_PackBehind.j1 k x0 x1 t483))))
def stanchionlaw01_PackBehind.j1 : Nat → List (List Int) → List (List Int) → Bool → Option (Bool)
  | 0, _, _, _ => none
  | k + 1, x0, x1, x25 => if x25 = true then (some true) else ((stanchionref00_CopyRows.f k x0).bind fun t484 => ((pack_Join.f t484).bind fun bt487 => ((stanchionref00_CopyRows.f k x1).bind fun t491 => ((pack_Join.f t491).bind fun bt494 => ((stanchionref00_CopyRows.f k x0).bind fun t498 => ((stanchionref00_CopyRows.f k x1).bind fun t501 => (if t498.length + t501.length < 5864062014805 then ((some (t498 ++ t501 : List (List Int))).bind fun y504 => (if bt487.2 = 0 then (if bt494.2 = 0 then (stanchionlaw01_PackBehind.j2 k bt487.1 bt494.1 y504 (decide ((y504.length : Int) > 1024))) else (stanchionlaw01_PackBehind.j2 k bt487.1 bt494.1 y504 true)) else (stanchionlaw01_PackBehind.j2 k bt487.1 bt494.1 y504 true))) else (none))))))))
def stanchionlaw01_PackBehind.j2 : Nat → List Int → List Int → List (List Int) → Bool → Option (Bool)
  | 0, _, _, _, _ => none
  | k + 1, x5, x7, x9, x53 => if x53 = true then (some true) else ((pack_Join.f x9).bind fun bt507 => (if x5.length + x7.length < 140737488355328 then ((pack_Split.f k (x5 ++ x7)).bind fun bt514 => (if bt507.2 = 0 then (if bt514.2 = 0 then ((stanchionref00_SameRows.f k bt514.1 x9).bind fun t518 => (if t518 = true then (some ((bt507.1.length : Int) == (wrap64 ((x5.length : Int) + (x7.length : Int))))) else (some false))) else (some false)) else (some false))) else (none)))
end
def stanchionlaw01_PackBehind.f (k : Nat) (l0 : List (List Int)) (l1 : List (List Int)) : Option (Bool) := (stanchionlaw01_aliveJoin.f).bind fun t480 => (if t480 = true then ((stanchionlaw01_aliveSplit.f).bind fun t481 => (stanchionlaw01_PackBehind.j0 k l0 l1 (!t481))) else (stanchionlaw01_PackBehind.j0 k l0 l1 true))
theorem stanchionlaw01_PackBehind.mono_l : ∀ k, (∀ y0 y1 y2, LeO (stanchionlaw01_PackBehind.j0 k y0 y1 y2) (stanchionlaw01_PackBehind.j0 (k + 1) y0 y1 y2)) ∧ (∀ y0 y1 y2, LeO (stanchionlaw01_PackBehind.j1 k y0 y1 y2) (stanchionlaw01_PackBehind.j1 (k + 1) y0 y1 y2)) ∧ (∀ y0 y1 y2 y3, LeO (stanchionlaw01_PackBehind.j2 k y0 y1 y2 y3) (stanchionlaw01_PackBehind.j2 (k + 1) y0 y1 y2 y3))
  | 0 => ⟨fun _ _ _ r h => by simp [stanchionlaw01_PackBehind.j0] at h, fun _ _ _ r h => by simp [stanchionlaw01_PackBehind.j1] at h, fun _ _ _ _ r h => by simp [stanchionlaw01_PackBehind.j2] at h⟩
  | k + 1 => by
    obtain ⟨ih0, ih1, ih2⟩ := stanchionlaw01_PackBehind.mono_l k
    refine ⟨?_, ?_, ?_⟩
    · intro y0 y1 y2
      unfold stanchionlaw01_PackBehind.j0
      repeat' first
      | (with_reducible exact ih0 _ _ _)
      | (with_reducible exact ih1 _ _ _)
      | (with_reducible exact ih2 _ _ _ _)
      | (with_reducible exact pack_Split.mono _ _)
      | (with_reducible exact stanchionref00_CopyRows.mono _ _)
      | (with_reducible exact stanchionref00_Rows.mono _ _ _)
      | (with_reducible exact stanchionref00_SameRows.mono _ _ _)
      | (with_reducible exact LeO.refl _)
      | (with_reducible exact LeO.none _)
      | (with_reducible refine LeO.ite ?_ ?_)
      | (with_reducible refine LeO.bind ?_ (fun _ => ?_))
      | exact ih0 _ _ _
      | exact ih1 _ _ _
      | exact ih2 _ _ _ _
      | exact pack_Split.mono _ _
      | exact stanchionref00_CopyRows.mono _ _
      | exact stanchionref00_Rows.mono _ _ _
      | exact stanchionref00_SameRows.mono _ _ _
      | exact LeO.none _
      | refine LeO.ite ?_ ?_
      | refine LeO.bind ?_ (fun _ => ?_)
    · intro y0 y1 y2
      unfold stanchionlaw01_PackBehind.j1
      repeat' first
      | (with_reducible exact ih0 _ _ _)
      | (with_reducible exact ih1 _ _ _)
      | (with_reducible exact ih2 _ _ _ _)
      | (with_reducible exact pack_Split.mono _ _)
      | (with_reducible exact stanchionref00_CopyRows.mono _ _)
      | (with_reducible exact stanchionref00_Rows.mono _ _ _)
      | (with_reducible exact stanchionref00_SameRows.mono _ _ _)
      | (with_reducible exact LeO.refl _)
      | (with_reducible exact LeO.none _)
      | (with_reducible refine LeO.ite ?_ ?_)
      | (with_reducible refine LeO.bind ?_ (fun _ => ?_))
      | exact ih0 _ _ _
      | exact ih1 _ _ _
      | exact ih2 _ _ _ _
      | exact pack_Split.mono _ _
      | exact stanchionref00_CopyRows.mono _ _
      | exact stanchionref00_Rows.mono _ _ _
      | exact stanchionref00_SameRows.mono _ _ _
      | exact LeO.none _
      | refine LeO.ite ?_ ?_
      | refine LeO.bind ?_ (fun _ => ?_)
    · intro y0 y1 y2 y3
      unfold stanchionlaw01_PackBehind.j2
      repeat' first
      | (with_reducible exact ih0 _ _ _)
      | (with_reducible exact ih1 _ _ _)
      | (with_reducible exact ih2 _ _ _ _)
      | (with_reducible exact pack_Split.mono _ _)
      | (with_reducible exact stanchionref00_CopyRows.mono _ _)
      | (with_reducible exact stanchionref00_Rows.mono _ _ _)
      | (with_reducible exact stanchionref00_SameRows.mono _ _ _)
      | (with_reducible exact LeO.refl _)
      | (with_reducible exact LeO.none _)
      | (with_reducible refine LeO.ite ?_ ?_)
      | (with_reducible refine LeO.bind ?_ (fun _ => ?_))
      | exact ih0 _ _ _
      | exact ih1 _ _ _
      | exact ih2 _ _ _ _
      | exact pack_Split.mono _ _
      | exact stanchionref00_CopyRows.mono _ _
      | exact stanchionref00_Rows.mono _ _ _
      | exact stanchionref00_SameRows.mono _ _ _
      | exact LeO.none _
      | refine LeO.ite ?_ ?_
      | refine LeO.bind ?_ (fun _ => ?_)
theorem stanchionlaw01_PackBehind.mono : ∀ a0 a1 k, LeO (stanchionlaw01_PackBehind.f k a0 a1) (stanchionlaw01_PackBehind.f (k + 1) a0 a1) := by
  intro a0 a1 k
  obtain ⟨ih0, ih1, ih2⟩ := stanchionlaw01_PackBehind.mono_l k
  unfold stanchionlaw01_PackBehind.f
  repeat' first
      | (with_reducible exact ih0 _ _ _)
      | (with_reducible exact ih1 _ _ _)
      | (with_reducible exact ih2 _ _ _ _)
      | (with_reducible exact pack_Split.mono _ _)
      | (with_reducible exact stanchionref00_CopyRows.mono _ _)
      | (with_reducible exact stanchionref00_Rows.mono _ _ _)
      | (with_reducible exact stanchionref00_SameRows.mono _ _ _)
      | (with_reducible exact LeO.refl _)
      | (with_reducible exact LeO.none _)
      | (with_reducible refine LeO.ite ?_ ?_)
      | (with_reducible refine LeO.bind ?_ (fun _ => ?_))
      | exact ih0 _ _ _
      | exact ih1 _ _ _
      | exact ih2 _ _ _ _
      | exact pack_Split.mono _ _
      | exact stanchionref00_CopyRows.mono _ _
      | exact stanchionref00_Rows.mono _ _ _
      | exact stanchionref00_SameRows.mono _ _ _
      | exact LeO.none _
      | refine LeO.ite ?_ ?_
      | refine LeO.bind ?_ (fun _ => ?_)
set_option maxHeartbeats 8000000 in
set_option maxRecDepth 100000 in
theorem stanchionlaw01_PackBehind.calls (k : Nat) (A0 : Option Addr) (c0 : Nat) (l0 : List (List Int)) (A1 : Option Addr) (c1 : Nat) (l1 : List (List Int)) (r : Bool) (w : World) (hr0 : Kd.C (Kd.slice 5 (Kd.int .u8)) w A0 l0.length l0) (hc0 : l0.length ≤ c0) (hr1 : Kd.C (Kd.slice 5 (Kd.int .u8)) w A1 l1.length l1) (hc1 : l1.length ≤ c1) (h : stanchionlaw01_PackBehind.f k l0 l1 = some r) :
    Calls Try.prog 13 #[.slice A0 l0.length c0, .slice A1 l1.length c1] w fun e w' => e = .returned (.bool r) ∧ Below w.heap.size w w' := by
  have HR0 := Aside0.mk hr0
  have HC0 := Aside0.mk hc0
  clear hr0 hc0
  have HR1 := Aside0.mk hr1
  have HC1 := Aside0.mk hc1
  clear hr1 hc1
  have HB := Aside0.mk (Below.refl w.heap.size w)
  have H : ((stanchionlaw01_aliveJoin.f).bind fun t480 => (if t480 = true then ((stanchionlaw01_aliveSplit.f).bind fun t481 => (stanchionlaw01_PackBehind.j0 k l0 l1 (!t481))) else (stanchionlaw01_PackBehind.j0 k l0 l1 true))) = some r := h
  clear h
  have HC3 := Aside0.mk H
  clear H
  go_enter Try.func13, Try.ntmps13
  go_upto_region 1 with (fail)
  go_cut [19] (fun v19 wc => ∃ (kq : Nat) (x19_2 : Bool), v19 = .bool x19_2 ∧ Aside0 (stanchionlaw01_PackBehind.j0 kq l0 l1 x19_2 = some r) ∧ Aside0 (kq ≤ k) ∧ Aside0 (Below w.heap.size w wc))
  case first =>
    have H := HC3.out
    clear HC3
    replace H := Option.bind_eq_some_iff.mp H
    obtain ⟨t480, A40, H⟩ := H
    replace H : (if t480 = true then ((stanchionlaw01_aliveSplit.f).bind fun t481 => (stanchionlaw01_PackBehind.j0 k l0 l1 (!t481))) else (stanchionlaw01_PackBehind.j0 k l0 l1 true)) = some r := H
    have A4 := Aside0.mk A40
    clear A40
    by_cases c5 : t480 = true
    · subst c5
      have H1 : ((stanchionlaw01_aliveSplit.f).bind fun t481 => (stanchionlaw01_PackBehind.j0 k l0 l1 (!t481))) = some r := by rw [if_pos rfl] at H; exact H
      clear H
      have H := H1
      clear H1
      replace H := Option.bind_eq_some_iff.mp H
      obtain ⟨t481, A60, H⟩ := H
      replace H : (stanchionlaw01_PackBehind.j0 k l0 l1 (!t481)) = some r := H
      have A6 := Aside0.mk A60
      clear A60
      have H' := Aside0.mk H
      clear H
      go_wp2_with (first | ((with_reducible refine gate_callee (f := 28) rfl ?_); refine goesL_ (some 14) rfl rfl Try.func28 (by kernel_rfl) rfl #[] rfl (by (try simp only [List.map_toArray, List.map_cons, List.map_nil]); first | done | rfl | (simp only [List.length_drop, List.length_take]; rfl)) ?_; (with_reducible refine (stanchionlaw01_aliveJoin.calls  true _ A4.out).mono ?_); rintro e w7 ⟨rfl, hb⟩; refine ⟨_, rfl, ?_⟩; have n0_ := Aside0.mk (below_step (by repeat (first | (with_reducible first | exact HB.out | apply below_alloc | apply pw_below_drewN | apply below_drew1) | exact HB.out)) hb); clear HB; have HB := n0_; clear n0_; (try clear hb); (try clear hb2); (try clear hk); (try clear hi)) | (go_at_call 38; (with_reducible refine (stanchionlaw01_aliveSplit.calls  t481 _ A6.out).mono ?_); rintro e w8 ⟨rfl, hb⟩; have n0_ := Aside0.mk (below_step (by repeat (first | (with_reducible first | exact HB.out | apply below_alloc | apply pw_below_drewN | apply below_drew1) | exact HB.out)) hb); clear HB; have HB := n0_; clear n0_; (try clear hb); (try clear hb2); (try clear hk); (try clear hi)))
      go_meet
      case rel => exact ⟨_, (!t481), (by first | rfl | (simp; done) | (simp [*]; done)), H', ⟨by first | omega | exact Nat.le_refl _⟩, ⟨by repeat (first | (with_reducible first | exact HB.out | apply below_alloc | apply pw_below_drewN | apply below_drew1) | exact HB.out)⟩⟩
    · replace c5 := Bool.eq_false_iff.mpr c5
      subst c5
      have H1 : (stanchionlaw01_PackBehind.j0 k l0 l1 true) = some r := by rw [if_neg (show ¬ (false = true) by decide)] at H; exact H
      clear H
      have H := H1
      clear H1
      have H' := Aside0.mk H
      clear H
      go_wp2_with (first | ((with_reducible refine gate_callee (f := 28) rfl ?_); refine goesL_ (some 14) rfl rfl Try.func28 (by kernel_rfl) rfl #[] rfl (by (try simp only [List.map_toArray, List.map_cons, List.map_nil]); first | done | rfl | (simp only [List.length_drop, List.length_take]; rfl)) ?_; (with_reducible refine (stanchionlaw01_aliveJoin.calls  false _ A4.out).mono ?_); rintro e w9 ⟨rfl, hb⟩; refine ⟨_, rfl, ?_⟩; have n0_ := Aside0.mk (below_step (by repeat (first | (with_reducible first | exact HB.out | apply below_alloc | apply pw_below_drewN | apply below_drew1) | exact HB.out)) hb); clear HB; have HB := n0_; clear n0_; (try clear hb); (try clear hb2); (try clear hk); (try clear hi)))
      go_meet
      case rel => exact ⟨_, (true), (by first | rfl | (simp; done) | (simp [*]; done)), H', ⟨by first | omega | exact Nat.le_refl _⟩, ⟨by repeat (first | (with_reducible first | exact HB.out | apply below_alloc | apply pw_below_drewN | apply below_drew1) | exact HB.out)⟩⟩
  case rest =>
    clear HC3
    try clear c1
    try clear c2
    try clear p2
    try clear c5
    obtain ⟨kq, x19_2, rfl, HA, HJ2, HB⟩ := hcut
    cases kq with
    | zero => exact absurd HA.out (by simp [stanchionlaw01_PackBehind.j0])
    | succ kj2 =>
      have H := HA.out
      clear HA
      simp only [stanchionlaw01_PackBehind.j0] at H
      by_cases c10 : x19_2 = true
      · subst c10
        have H1 : (some false) = some r := by rw [if_pos rfl] at H; exact H
        clear H
        have H := H1
        clear H1
        obtain rfl := Option.some.inj H
        go_wp2
        go_ret
        exact ⟨by first | rfl | (simp [errW_none, errW_some] <;> rfl) | (simp [*, errW_none, errW_some] <;> rfl), by repeat (first | (with_reducible first | exact HB.out | apply below_alloc | apply pw_below_drewN | apply below_drew1) | exact HB.out)⟩
      · replace c10 := Bool.eq_false_iff.mpr c10
        subst c10
        have H1 : ((stanchionref00_Rows.f kj2 l0 50000).bind fun t482 => (if t482 = true then (stanchionlaw01_PackBehind.j1 kj2 l0 l1 true) else ((stanchionref00_Rows.f kj2 l1 50000).bind fun t483 => (stanchionlaw01_PackBehind.j1 kj2 l0 l1 t483)))) = some r := by rw [if_neg (show ¬ (false = true) by decide)] at H; exact H
        clear H
        have H := H1
        clear H1
        have HC11 := Aside0.mk H
        clear H
        go_upto_region 3 with (fail)
        go_cut [25] (fun v25 wc => ∃ (kq : Nat) (x25_10 : Bool), v25 = .bool x25_10 ∧ Aside0 (stanchionlaw01_PackBehind.j1 kq l0 l1 x25_10 = some r) ∧ Aside0 (kq ≤ kj2) ∧ Aside0 (Below w.heap.size w wc))
        case first =>
          have H := HC11.out
          clear HC11
          replace H := Option.bind_eq_some_iff.mp H
          obtain ⟨t482, A120, H⟩ := H
          replace H : (if t482 = true then (stanchionlaw01_PackBehind.j1 kj2 l0 l1 true) else ((stanchionref00_Rows.f kj2 l1 50000).bind fun t483 => (stanchionlaw01_PackBehind.j1 kj2 l0 l1 t483))) = some r := H
          have A12 := Aside0.mk A120
          clear A120
          by_cases c13 : t482 = true
          · subst c13
            have H1 : (stanchionlaw01_PackBehind.j1 kj2 l0 l1 true) = some r := by rw [if_pos rfl] at H; exact H
            clear H
            have H := H1
            clear H1
            have H' := Aside0.mk H
            clear H
            go_wp2_with (first | ((with_reducible refine gate_callee (f := 29) rfl ?_); refine goesL_ (some 21) rfl rfl Try.func29 (by kernel_rfl) rfl #[.slice A0 l0.length c0, .int .i64 50000] rfl (by (try simp only [List.map_toArray, List.map_cons, List.map_nil]); first | done | rfl | (simp only [List.length_drop, List.length_take]; rfl)) ?_; (with_reducible refine (stanchionref00_Rows.calls kj2 _ _ l0 50000 true _ ?side1 ?side2 A12.out).mono ?_); (case side1 => repeat (first | exact (Kd.C_below HR0.out HB.out) | (with_reducible refine Kd.C_alloc ?_ _) | (with_reducible refine Kd.C_drewN ?_ _) | (with_reducible refine Kd.C_drew ?_))); (case side2 => exact HC0.out); rintro e w' ⟨rfl, ⟨nd, rfl⟩⟩; refine ⟨_, rfl, ?_⟩))
            go_meet
            case rel => exact ⟨_, (true), (by first | rfl | (simp; done) | (simp [*]; done)), H', ⟨by have := HJ2.out; first | omega | exact Nat.le_refl _⟩, ⟨by repeat (first | (with_reducible first | exact HB.out | apply below_alloc | apply pw_below_drewN | apply below_drew1) | exact HB.out)⟩⟩
          · replace c13 := Bool.eq_false_iff.mpr c13
            subst c13
            have H1 : ((stanchionref00_Rows.f kj2 l1 50000).bind fun t483 => (stanchionlaw01_PackBehind.j1 kj2 l0 l1 t483)) = some r := by rw [if_neg (show ¬ (false = true) by decide)] at H; exact H
            clear H
            have H := H1
            clear H1
            replace H := Option.bind_eq_some_iff.mp H
            obtain ⟨t483, A140, H⟩ := H
            replace H : (stanchionlaw01_PackBehind.j1 kj2 l0 l1 t483) = some r := H
            have A14 := Aside0.mk A140
            clear A140
            have H' := Aside0.mk H
            clear H
            go_wp2_with (first | ((with_reducible refine gate_callee (f := 29) rfl ?_); refine goesL_ (some 21) rfl rfl Try.func29 (by kernel_rfl) rfl #[.slice A0 l0.length c0, .int .i64 50000] rfl (by (try simp only [List.map_toArray, List.map_cons, List.map_nil]); first | done | rfl | (simp only [List.length_drop, List.length_take]; rfl)) ?_; (with_reducible refine (stanchionref00_Rows.calls kj2 _ _ l0 50000 false _ ?side1 ?side2 A12.out).mono ?_); (case side1 => repeat (first | exact (Kd.C_below HR0.out HB.out) | (with_reducible refine Kd.C_alloc ?_ _) | (with_reducible refine Kd.C_drewN ?_ _) | (with_reducible refine Kd.C_drew ?_))); (case side2 => exact HC0.out); rintro e w' ⟨rfl, ⟨nd, rfl⟩⟩; refine ⟨_, rfl, ?_⟩) | (go_at_call 29; (with_reducible refine (stanchionref00_Rows.calls kj2 _ _ l1 50000 t483 _ ?side1 ?side2 A14.out).mono ?_); (case side1 => repeat (first | exact (Kd.C_below HR1.out (by repeat (first | (with_reducible first | exact HB.out | apply below_alloc | apply pw_below_drewN | apply below_drew1) | exact HB.out))) | (with_reducible refine Kd.C_alloc ?_ _) | (with_reducible refine Kd.C_drewN ?_ _) | (with_reducible refine Kd.C_drew ?_))); (case side2 => exact HC1.out); rintro e w' ⟨rfl, ⟨nd, rfl⟩⟩))
            go_meet
            case rel => exact ⟨_, (t483), (by first | rfl | (simp; done) | (simp [*]; done)), H', ⟨by have := HJ2.out; first | omega | exact Nat.le_refl _⟩, ⟨by repeat (first | (with_reducible first | exact HB.out | apply below_alloc | apply pw_below_drewN | apply below_drew1) | exact HB.out)⟩⟩
        case rest =>
          clear HC11
          try clear c1
          try clear c2
          try clear p2
          try clear c5
          try clear c10
          try clear c13
          try clear p2
          obtain ⟨kq, x25_10, rfl, HA, HJ10, HB⟩ := hcut
          cases kq with
          | zero => exact absurd HA.out (by simp [stanchionlaw01_PackBehind.j1])
          | succ kj10 =>
            have H := HA.out
            clear HA
            simp only [stanchionlaw01_PackBehind.j1] at H
            by_cases c15 : x25_10 = true
            · subst c15
              have H1 : (some true) = some r := by rw [if_pos rfl] at H; exact H
              clear H
              have H := H1
              clear H1
              obtain rfl := Option.some.inj H
              go_wp2
              go_ret
              exact ⟨by first | rfl | (simp [errW_none, errW_some] <;> rfl) | (simp [*, errW_none, errW_some] <;> rfl), by repeat (first | (with_reducible first | exact HB.out | apply below_alloc | apply pw_below_drewN | apply below_drew1) | exact HB.out)⟩
            · replace c15 := Bool.eq_false_iff.mpr c15
              subst c15
              have H1 : ((stanchionref00_CopyRows.f kj10 l0).bind fun t484 => ((pack_Join.f t484).bind fun bt487 => ((stanchionref00_CopyRows.f kj10 l1).bind fun t491 => ((pack_Join.f t491).bind fun bt494 => ((stanchionref00_CopyRows.f kj10 l0).bind fun t498 => ((stanchionref00_CopyRows.f kj10 l1).bind fun t501 => (if t498.length + t501.length < 5864062014805 then ((some (t498 ++ t501 : List (List Int))).bind fun y504 => (if bt487.2 = 0 then (if bt494.2 = 0 then (stanchionlaw01_PackBehind.j2 kj10 bt487.1 bt494.1 y504 (decide ((y504.length : Int) > 1024))) else (stanchionlaw01_PackBehind.j2 kj10 bt487.1 bt494.1 y504 true)) else (stanchionlaw01_PackBehind.j2 kj10 bt487.1 bt494.1 y504 true))) else (none)))))))) = some r := by rw [if_neg (show ¬ (false = true) by decide)] at H; exact H
              clear H
              have H := H1
              clear H1
              replace H := Option.bind_eq_some_iff.mp H
              obtain ⟨t484, A160, H⟩ := H
              replace H : ((pack_Join.f t484).bind fun bt487 => ((stanchionref00_CopyRows.f kj10 l1).bind fun t491 => ((pack_Join.f t491).bind fun bt494 => ((stanchionref00_CopyRows.f kj10 l0).bind fun t498 => ((stanchionref00_CopyRows.f kj10 l1).bind fun t501 => (if t498.length + t501.length < 5864062014805 then ((some (t498 ++ t501 : List (List Int))).bind fun y504 => (if bt487.2 = 0 then (if bt494.2 = 0 then (stanchionlaw01_PackBehind.j2 kj10 bt487.1 bt494.1 y504 (decide ((y504.length : Int) > 1024))) else (stanchionlaw01_PackBehind.j2 kj10 bt487.1 bt494.1 y504 true)) else (stanchionlaw01_PackBehind.j2 kj10 bt487.1 bt494.1 y504 true))) else (none))))))) = some r := H
              have A16 := Aside0.mk A160
              clear A160
              replace H := Option.bind_eq_some_iff.mp H
              obtain ⟨⟨t487, t488⟩, A170, H⟩ := H
              replace H : ((stanchionref00_CopyRows.f kj10 l1).bind fun t491 => ((pack_Join.f t491).bind fun bt494 => ((stanchionref00_CopyRows.f kj10 l0).bind fun t498 => ((stanchionref00_CopyRows.f kj10 l1).bind fun t501 => (if t498.length + t501.length < 5864062014805 then ((some (t498 ++ t501 : List (List Int))).bind fun y504 => (if t488 = 0 then (if bt494.2 = 0 then (stanchionlaw01_PackBehind.j2 kj10 t487 bt494.1 y504 (decide ((y504.length : Int) > 1024))) else (stanchionlaw01_PackBehind.j2 kj10 t487 bt494.1 y504 true)) else (stanchionlaw01_PackBehind.j2 kj10 t487 bt494.1 y504 true))) else (none)))))) = some r := H
              have A17 := Aside0.mk A170
              clear A170
              replace H := Option.bind_eq_some_iff.mp H
              obtain ⟨t491, A180, H⟩ := H
              replace H : ((pack_Join.f t491).bind fun bt494 => ((stanchionref00_CopyRows.f kj10 l0).bind fun t498 => ((stanchionref00_CopyRows.f kj10 l1).bind fun t501 => (if t498.length + t501.length < 5864062014805 then ((some (t498 ++ t501 : List (List Int))).bind fun y504 => (if t488 = 0 then (if bt494.2 = 0 then (stanchionlaw01_PackBehind.j2 kj10 t487 bt494.1 y504 (decide ((y504.length : Int) > 1024))) else (stanchionlaw01_PackBehind.j2 kj10 t487 bt494.1 y504 true)) else (stanchionlaw01_PackBehind.j2 kj10 t487 bt494.1 y504 true))) else (none))))) = some r := H
              have A18 := Aside0.mk A180
              clear A180
              replace H := Option.bind_eq_some_iff.mp H
              obtain ⟨⟨t494, t495⟩, A190, H⟩ := H
              replace H : ((stanchionref00_CopyRows.f kj10 l0).bind fun t498 => ((stanchionref00_CopyRows.f kj10 l1).bind fun t501 => (if t498.length + t501.length < 5864062014805 then ((some (t498 ++ t501 : List (List Int))).bind fun y504 => (if t488 = 0 then (if t495 = 0 then (stanchionlaw01_PackBehind.j2 kj10 t487 t494 y504 (decide ((y504.length : Int) > 1024))) else (stanchionlaw01_PackBehind.j2 kj10 t487 t494 y504 true)) else (stanchionlaw01_PackBehind.j2 kj10 t487 t494 y504 true))) else (none)))) = some r := H
              have A19 := Aside0.mk A190
              clear A190
              replace H := Option.bind_eq_some_iff.mp H
              obtain ⟨t498, A200, H⟩ := H
              replace H : ((stanchionref00_CopyRows.f kj10 l1).bind fun t501 => (if t498.length + t501.length < 5864062014805 then ((some (t498 ++ t501 : List (List Int))).bind fun y504 => (if t488 = 0 then (if t495 = 0 then (stanchionlaw01_PackBehind.j2 kj10 t487 t494 y504 (decide ((y504.length : Int) > 1024))) else (stanchionlaw01_PackBehind.j2 kj10 t487 t494 y504 true)) else (stanchionlaw01_PackBehind.j2 kj10 t487 t494 y504 true))) else (none))) = some r := H
              have A20 := Aside0.mk A200
              clear A200
              replace H := Option.bind_eq_some_iff.mp H
              obtain ⟨t501, A210, H⟩ := H
              replace H : (if t498.length + t501.length < 5864062014805 then ((some (t498 ++ t501 : List (List Int))).bind fun y504 => (if t488 = 0 then (if t495 = 0 then (stanchionlaw01_PackBehind.j2 kj10 t487 t494 y504 (decide ((y504.length : Int) > 1024))) else (stanchionlaw01_PackBehind.j2 kj10 t487 t494 y504 true)) else (stanchionlaw01_PackBehind.j2 kj10 t487 t494 y504 true))) else (none)) = some r := H
              have A21 := Aside0.mk A210
              clear A210
              by_cases c22 : t498.length + t501.length < 5864062014805
              · rw [if_pos c22] at H
                have LMc22 := Aside0.mk c22
                clear c22
                obtain ⟨y504, hy504⟩ : ∃ y_ : List (List Int), y_ = (t498 ++ t501) := ⟨_, rfl⟩
                replace H : (if t488 = 0 then (if t495 = 0 then (stanchionlaw01_PackBehind.j2 kj10 t487 t494 y504 (decide ((y504.length : Int) > 1024))) else (stanchionlaw01_PackBehind.j2 kj10 t487 t494 y504 true)) else (stanchionlaw01_PackBehind.j2 kj10 t487 t494 y504 true)) = some r := by first | (rw [hy504]; with_reducible exact H) | (have H2_ := (Option.bind_some _ _).symm.trans H; rw [hy504]; with_reducible exact H2_) | (have H2_ := (Option.bind_some _ _).symm.trans H; with_reducible exact H2_) | with_reducible exact H | (rw [hy504]; exact H) | exact H
                have Ny504 := Aside0.mk hy504
                clear hy504
                have HC23 := Aside0.mk H
                clear H
                go_upto_region 8 with (first | ((with_reducible refine gate_callee (f := 30) rfl ?_); refine goesL_ (some 28) rfl rfl Try.func30 (by kernel_rfl) rfl #[.slice A0 l0.length c0] rfl (by (try simp only [List.map_toArray, List.map_cons, List.map_nil]); first | done | rfl | (simp only [List.length_drop, List.length_take]; rfl)) ?_; (with_reducible refine (stanchionref00_CopyRows.calls kj10 _ _ l0 t484 _ ?side1 ?side2 A16.out).mono ?_); (case side1 => repeat (first | exact (Kd.C_below HR0.out HB.out) | (with_reducible refine Kd.C_alloc ?_ _) | (with_reducible refine Kd.C_drewN ?_ _) | (with_reducible refine Kd.C_drew ?_))); (case side2 => exact HC0.out); rintro e w24 ⟨v485, rfl, ho0, hb⟩; refine ⟨_, rfl, ?_⟩; have n0_ := Aside0.mk (Kd.N_lower (Kd.N_mono (ok' := fun k_ => True) (Kd.S_N (Kd.S_bound ho0)) (fun k_ hk_ => trivial)) (below_size (by repeat (first | (with_reducible first | exact HB.out | apply below_alloc | apply pw_below_drewN | apply below_drew1) | exact HB.out)))); have n1_ := Aside0.mk (below_step (by repeat (first | (with_reducible first | exact HB.out | apply below_alloc | apply pw_below_drewN | apply below_drew1) | exact HB.out)) hb); clear HB; have HO486 := n0_; have HB := n1_; clear n0_ n1_; (try clear hb); (try clear hb2); (try clear hk); (try clear hi); (try clear ho0); obtain ⟨Ao25, co25, eo25⟩ := Kd.N_slice HO486.out; subst eo25) | ((with_reducible refine gate_callee (f := 31) rfl ?_); refine goesL_ (some 29) rfl rfl Try.func31 (by kernel_rfl) rfl #[.slice Ao25 t484.length co25] rfl (by (try simp only [List.map_toArray, List.map_cons, List.map_nil]); first | done | rfl | (simp only [List.length_drop, List.length_take]; rfl)) ?_; (with_reducible refine (pack_Join.calls _ _ t484 t487 t488 _ ?side1 ?side2 A17.out).mono ?_); (case side1 => repeat (first | exact (Kd.N_reads' HO486.out).2.2 | (with_reducible refine Kd.C_alloc ?_ _) | (with_reducible refine Kd.C_drewN ?_ _) | (with_reducible refine Kd.C_drew ?_))); (case side2 => exact (Kd.N_reads' HO486.out).2.1); rintro e w26 ⟨v489, rfl, ho0, hb⟩; refine ⟨_, rfl, ?_⟩; have n0_ := Aside0.mk (Kd.N_elder' (by (with_reducible repeat (first | apply Kd.N_alloc | apply Kd.N_drewN | apply Kd.N_drew)); exact HO486.out) (Kd.R_base ho0) hb); have n1_ := Aside0.mk (Kd.R_lower ho0 (below_size (by repeat (first | (with_reducible first | exact HB.out | apply below_alloc | apply pw_below_drewN | apply below_drew1) | exact HB.out)))); have n2_ := Aside0.mk (below_step (by repeat (first | (with_reducible first | exact HB.out | apply below_alloc | apply pw_below_drewN | apply below_drew1) | exact HB.out)) hb); clear HO486; clear HB; have HO486 := n0_; have HO490 := n1_; have HB := n2_; clear n0_ n1_ n2_; (try clear hb); (try clear hb2); (try clear hk); (try clear hi); (try clear ho0)) | ((with_reducible refine gate_callee (f := 30) rfl ?_); refine goesL_ (some 34) rfl rfl Try.func30 (by kernel_rfl) rfl #[.slice A1 l1.length c1] rfl (by (try simp only [List.map_toArray, List.map_cons, List.map_nil]); first | done | rfl | (simp only [List.length_drop, List.length_take]; rfl)) ?_; (with_reducible refine (stanchionref00_CopyRows.calls kj10 _ _ l1 t491 _ ?side1 ?side2 A18.out).mono ?_); (case side1 => repeat (first | exact (Kd.C_below HR1.out HB.out) | (with_reducible refine Kd.C_alloc ?_ _) | (with_reducible refine Kd.C_drewN ?_ _) | (with_reducible refine Kd.C_drew ?_))); (case side2 => exact HC1.out); rintro e w27 ⟨v492, rfl, ho0, hb⟩; refine ⟨_, rfl, ?_⟩; have n0_ := Aside0.mk (Kd.N_elder' (by (with_reducible repeat (first | apply Kd.N_alloc | apply Kd.N_drewN | apply Kd.N_drew)); exact HO486.out) (Kd.S_base ho0) hb); have n1_ := Aside0.mk (Kd.R_below (by (with_reducible repeat (first | apply Kd.R_alloc | apply Kd.R_drewN | apply Kd.R_drew)); exact HO490.out) hb); have n2_ := Aside0.mk (Kd.N_lower (Kd.N_mono (ok' := fun k_ => some k_ ≠ (.slice Ao25 t484.length co25 : Value).ownBlock ∧ some k_ ≠ (v489 : Value).ownBlock) (Kd.S_N (Kd.S_bound ho0)) (fun k_ hk_ => ⟨(Kd.fresh' (Kd.N_lt (by (with_reducible repeat (first | apply Kd.N_alloc | apply Kd.N_drewN | apply Kd.N_drew)); exact HO486.out)) k_ hk_.2.1), (Kd.fresh' (Kd.R_lt (by (with_reducible repeat (first | apply Kd.R_alloc | apply Kd.R_drewN | apply Kd.R_drew)); exact HO490.out)) k_ hk_.2.1)⟩)) (below_size (by repeat (first | (with_reducible first | exact HB.out | apply below_alloc | apply pw_below_drewN | apply below_drew1) | exact HB.out)))); have n3_ := Aside0.mk (below_step (by repeat (first | (with_reducible first | exact HB.out | apply below_alloc | apply pw_below_drewN | apply below_drew1) | exact HB.out)) hb); clear HO486; clear HO490; clear HB; have HO486 := n0_; have HO490 := n1_; have HO493 := n2_; have HB := n3_; clear n0_ n1_ n2_ n3_; (try clear hb); (try clear hb2); (try clear hk); (try clear hi); (try clear ho0); obtain ⟨Ao28, co28, eo28⟩ := Kd.N_slice HO493.out; subst eo28) | ((with_reducible refine gate_callee (f := 31) rfl ?_); refine goesL_ (some 35) rfl rfl Try.func31 (by kernel_rfl) rfl #[.slice Ao28 t491.length co28] rfl (by (try simp only [List.map_toArray, List.map_cons, List.map_nil]); first | done | rfl | (simp only [List.length_drop, List.length_take]; rfl)) ?_; (with_reducible refine (pack_Join.calls _ _ t491 t494 t495 _ ?side1 ?side2 A19.out).mono ?_); (case side1 => repeat (first | exact (Kd.N_reads' HO493.out).2.2 | (with_reducible refine Kd.C_alloc ?_ _) | (with_reducible refine Kd.C_drewN ?_ _) | (with_reducible refine Kd.C_drew ?_))); (case side2 => exact (Kd.N_reads' HO493.out).2.1); rintro e w29 ⟨v496, rfl, ho0, hb⟩; refine ⟨_, rfl, ?_⟩; have n0_ := Aside0.mk (Kd.N_elder' (by (with_reducible repeat (first | apply Kd.N_alloc | apply Kd.N_drewN | apply Kd.N_drew)); exact HO486.out) (Kd.R_base ho0) hb); have n1_ := Aside0.mk (Kd.R_elder' (by (with_reducible repeat (first | apply Kd.R_alloc | apply Kd.R_drewN | apply Kd.R_drew)); exact HO490.out) (Kd.R_base ho0) hb); have n2_ := Aside0.mk (Kd.N_elder' (by (with_reducible repeat (first | apply Kd.N_alloc | apply Kd.N_drewN | apply Kd.N_drew)); exact HO493.out) (Kd.R_base ho0) hb); have n3_ := Aside0.mk (Kd.R_lower (Kd.R_new' ho0 (Kd.R_lt (by (with_reducible repeat (first | apply Kd.R_alloc | apply Kd.R_drewN | apply Kd.R_drew)); exact HO490.out))) (below_size (by repeat (first | (with_reducible first | exact HB.out | apply below_alloc | apply pw_below_drewN | apply below_drew1) | exact HB.out)))); have n4_ := Aside0.mk (below_step (by repeat (first | (with_reducible first | exact HB.out | apply below_alloc | apply pw_below_drewN | apply below_drew1) | exact HB.out)) hb); clear HO486; clear HO490; clear HO493; clear HB; have HO486 := n0_; have HO490 := n1_; have HO493 := n2_; have HO497 := n3_; have HB := n4_; clear n0_ n1_ n2_ n3_ n4_; (try clear hb); (try clear hb2); (try clear hk); (try clear hi); (try clear ho0)) | ((with_reducible refine gate_callee (f := 30) rfl ?_); refine goesL_ (some 39) rfl rfl Try.func30 (by kernel_rfl) rfl #[.slice A0 l0.length c0] rfl (by (try simp only [List.map_toArray, List.map_cons, List.map_nil]); first | done | rfl | (simp only [List.length_drop, List.length_take]; rfl)) ?_; (with_reducible refine (stanchionref00_CopyRows.calls kj10 _ _ l0 t498 _ ?side1 ?side2 A20.out).mono ?_); (case side1 => repeat (first | exact (Kd.C_below HR0.out HB.out) | (with_reducible refine Kd.C_alloc ?_ _) | (with_reducible refine Kd.C_drewN ?_ _) | (with_reducible refine Kd.C_drew ?_))); (case side2 => exact HC0.out); rintro e w30 ⟨v499, rfl, ho0, hb⟩; refine ⟨_, rfl, ?_⟩; have n0_ := Aside0.mk (Kd.N_elder' (by (with_reducible repeat (first | apply Kd.N_alloc | apply Kd.N_drewN | apply Kd.N_drew)); exact HO486.out) (Kd.S_base ho0) hb); have n1_ := Aside0.mk (Kd.R_below (by (with_reducible repeat (first | apply Kd.R_alloc | apply Kd.R_drewN | apply Kd.R_drew)); exact HO490.out) hb); have n2_ := Aside0.mk (Kd.N_elder' (by (with_reducible repeat (first | apply Kd.N_alloc | apply Kd.N_drewN | apply Kd.N_drew)); exact HO493.out) (Kd.S_base ho0) hb); have n3_ := Aside0.mk (Kd.R_below (by (with_reducible repeat (first | apply Kd.R_alloc | apply Kd.R_drewN | apply Kd.R_drew)); exact HO497.out) hb); have n4_ := Aside0.mk (Kd.N_lower (Kd.N_mono (ok' := fun k_ => some k_ ≠ (.slice Ao25 t484.length co25 : Value).ownBlock ∧ some k_ ≠ (v489 : Value).ownBlock ∧ some k_ ≠ (.slice Ao28 t491.length co28 : Value).ownBlock ∧ some k_ ≠ (v496 : Value).ownBlock) (Kd.S_N (Kd.S_bound ho0)) (fun k_ hk_ => ⟨(Kd.fresh' (Kd.N_lt (by (with_reducible repeat (first | apply Kd.N_alloc | apply Kd.N_drewN | apply Kd.N_drew)); exact HO486.out)) k_ hk_.2.1), (Kd.fresh' (Kd.R_lt (by (with_reducible repeat (first | apply Kd.R_alloc | apply Kd.R_drewN | apply Kd.R_drew)); exact HO490.out)) k_ hk_.2.1), (Kd.fresh' (Kd.N_lt (by (with_reducible repeat (first | apply Kd.N_alloc | apply Kd.N_drewN | apply Kd.N_drew)); exact HO493.out)) k_ hk_.2.1), (Kd.fresh' (Kd.R_lt (by (with_reducible repeat (first | apply Kd.R_alloc | apply Kd.R_drewN | apply Kd.R_drew)); exact HO497.out)) k_ hk_.2.1)⟩)) (below_size (by repeat (first | (with_reducible first | exact HB.out | apply below_alloc | apply pw_below_drewN | apply below_drew1) | exact HB.out)))); have n5_ := Aside0.mk (below_step (by repeat (first | (with_reducible first | exact HB.out | apply below_alloc | apply pw_below_drewN | apply below_drew1) | exact HB.out)) hb); clear HO486; clear HO490; clear HO493; clear HO497; clear HB; have HO486 := n0_; have HO490 := n1_; have HO493 := n2_; have HO497 := n3_; have HO500 := n4_; have HB := n5_; clear n0_ n1_ n2_ n3_ n4_ n5_; (try clear hb); (try clear hb2); (try clear hk); (try clear hi); (try clear ho0)) | ((with_reducible refine gate_callee (f := 30) rfl ?_); refine goesL_ (some 41) rfl rfl Try.func30 (by kernel_rfl) rfl #[.slice A1 l1.length c1] rfl (by (try simp only [List.map_toArray, List.map_cons, List.map_nil]); first | done | rfl | (simp only [List.length_drop, List.length_take]; rfl)) ?_; (with_reducible refine (stanchionref00_CopyRows.calls kj10 _ _ l1 t501 _ ?side1 ?side2 A21.out).mono ?_); (case side1 => repeat (first | exact (Kd.C_below HR1.out HB.out) | (with_reducible refine Kd.C_alloc ?_ _) | (with_reducible refine Kd.C_drewN ?_ _) | (with_reducible refine Kd.C_drew ?_))); (case side2 => exact HC1.out); rintro e w31 ⟨v502, rfl, ho0, hb⟩; refine ⟨_, rfl, ?_⟩; have n0_ := Aside0.mk (Kd.N_elder' (by (with_reducible repeat (first | apply Kd.N_alloc | apply Kd.N_drewN | apply Kd.N_drew)); exact HO486.out) (Kd.S_base ho0) hb); have n1_ := Aside0.mk (Kd.R_below (by (with_reducible repeat (first | apply Kd.R_alloc | apply Kd.R_drewN | apply Kd.R_drew)); exact HO490.out) hb); have n2_ := Aside0.mk (Kd.N_elder' (by (with_reducible repeat (first | apply Kd.N_alloc | apply Kd.N_drewN | apply Kd.N_drew)); exact HO493.out) (Kd.S_base ho0) hb); have n3_ := Aside0.mk (Kd.R_below (by (with_reducible repeat (first | apply Kd.R_alloc | apply Kd.R_drewN | apply Kd.R_drew)); exact HO497.out) hb); have n4_ := Aside0.mk (Kd.N_elder' (by (with_reducible repeat (first | apply Kd.N_alloc | apply Kd.N_drewN | apply Kd.N_drew)); exact HO500.out) (Kd.S_base ho0) hb); have n5_ := Aside0.mk (Kd.N_lower (Kd.N_mono (ok' := fun k_ => some k_ ≠ (.slice Ao25 t484.length co25 : Value).ownBlock ∧ some k_ ≠ (v489 : Value).ownBlock ∧ some k_ ≠ (.slice Ao28 t491.length co28 : Value).ownBlock ∧ some k_ ≠ (v496 : Value).ownBlock ∧ some k_ ≠ (v499 : Value).ownBlock) (Kd.S_N (Kd.S_bound ho0)) (fun k_ hk_ => ⟨(Kd.fresh' (Kd.N_lt (by (with_reducible repeat (first | apply Kd.N_alloc | apply Kd.N_drewN | apply Kd.N_drew)); exact HO486.out)) k_ hk_.2.1), (Kd.fresh' (Kd.R_lt (by (with_reducible repeat (first | apply Kd.R_alloc | apply Kd.R_drewN | apply Kd.R_drew)); exact HO490.out)) k_ hk_.2.1), (Kd.fresh' (Kd.N_lt (by (with_reducible repeat (first | apply Kd.N_alloc | apply Kd.N_drewN | apply Kd.N_drew)); exact HO493.out)) k_ hk_.2.1), (Kd.fresh' (Kd.R_lt (by (with_reducible repeat (first | apply Kd.R_alloc | apply Kd.R_drewN | apply Kd.R_drew)); exact HO497.out)) k_ hk_.2.1), (Kd.fresh' (Kd.N_lt (by (with_reducible repeat (first | apply Kd.N_alloc | apply Kd.N_drewN | apply Kd.N_drew)); exact HO500.out)) k_ hk_.2.1)⟩)) (below_size (by repeat (first | (with_reducible first | exact HB.out | apply below_alloc | apply pw_below_drewN | apply below_drew1) | exact HB.out)))); have n6_ := Aside0.mk (below_step (by repeat (first | (with_reducible first | exact HB.out | apply below_alloc | apply pw_below_drewN | apply below_drew1) | exact HB.out)) hb); clear HO486; clear HO490; clear HO493; clear HO497; clear HO500; clear HB; have HO486 := n0_; have HO490 := n1_; have HO493 := n2_; have HO497 := n3_; have HO500 := n4_; have HO503 := n5_; have HB := n6_; clear n0_ n1_ n2_ n3_ n4_ n5_ n6_; (try clear hb); (try clear hb2); (try clear hk); (try clear hi); (try clear ho0); obtain ⟨Ao33, co33, eo33⟩ := Kd.N_slice HO503.out; subst eo33) | ((with_reducible refine gate_builtin (b := .append) (xs := #[.tmp 39, .tmp 41]) rfl ?_); (try (refine gate_guard (by rfl) ?_; dsimp only)); at_builtin; refine Kd.N_append_rows (Kd.slice 5 (Kd.int .u8)) (w0 := w) w.heap.size rfl (.tmp 39) (.tmp 41) 32 22 (.slice none 0 0) 24 rfl Try.underlying32 info22 rfl (by decide) (by omega) v499 t498 t501 _ _ _ (fun k_ => some k_ ≠ (.slice Ao25 t484.length co25 : Value).ownBlock ∧ some k_ ≠ (v489 : Value).ownBlock ∧ some k_ ≠ (.slice Ao28 t491.length co28 : Value).ownBlock ∧ some k_ ≠ (v496 : Value).ownBlock) (fun k_ => ((fun k_ => some k_ ≠ (.slice Ao25 t484.length co25 : Value).ownBlock ∧ some k_ ≠ (v489 : Value).ownBlock ∧ some k_ ≠ (.slice Ao28 t491.length co28 : Value).ownBlock ∧ some k_ ≠ (v496 : Value).ownBlock)) k_ ∧ some k_ ≠ (v499 : Value).ownBlock) rfl rfl ?aO ?aR (fun _ hk => hk) ?aF ?aB ?aS ?aL ?_; (case aR => exact (by skip; exact Kd.N_F (Kd.N_mono (ok' := (fun k_ => ((fun k_ => some k_ ≠ (.slice Ao25 t484.length co25 : Value).ownBlock ∧ some k_ ≠ (v489 : Value).ownBlock ∧ some k_ ≠ (.slice Ao28 t491.length co28 : Value).ownBlock ∧ some k_ ≠ (v496 : Value).ownBlock)) k_ ∧ some k_ ≠ (v499 : Value).ownBlock)) (HO503.out) (fun k_ hk => ⟨⟨hk.1, ⟨hk.2.1, ⟨hk.2.2.1, hk.2.2.2.1⟩⟩⟩, hk.2.2.2.2⟩)))); (case aB => exact (by repeat (first | (with_reducible first | exact HB.out | apply below_alloc | apply pw_below_drewN | apply below_drew1) | exact HB.out))); (case aF => exact (fun k_ hk => ⟨Kd.fresh' (Kd.N_lt (by (with_reducible repeat (first | apply Kd.N_alloc | apply Kd.N_drewN | apply Kd.N_drew)); exact HO486.out)) k_ hk, Kd.fresh' (Kd.R_lt (by (with_reducible repeat (first | apply Kd.R_alloc | apply Kd.R_drewN | apply Kd.R_drew)); exact HO490.out)) k_ hk, Kd.fresh' (Kd.N_lt (by (with_reducible repeat (first | apply Kd.N_alloc | apply Kd.N_drewN | apply Kd.N_drew)); exact HO493.out)) k_ hk, Kd.fresh' (Kd.R_lt (by (with_reducible repeat (first | apply Kd.R_alloc | apply Kd.R_drewN | apply Kd.R_drew)); exact HO497.out)) k_ hk⟩)); (case aO => exact (by (with_reducible repeat (first | apply Kd.N_alloc | apply Kd.N_drewN | apply Kd.N_drew)); exact Kd.N_mono HO500.out (fun _ hk => ⟨hk.1.1, ⟨hk.1.2.1, ⟨hk.1.2.2.1, hk.1.2.2.2⟩⟩⟩))); (case aS => exact (below_size (by repeat (first | (with_reducible first | exact HB.out | apply below_alloc | apply pw_below_drewN | apply below_drew1) | exact HB.out)))); (case aL => have := LMc22.out; omega); intro v505 w32 ho hb hg hat; rw [← Ny504.out] at ho; have n0_ := Aside0.mk (Kd.N_afterv (ok := (fun k_ => some k_ ≠ (v489 : Value).ownBlock ∧ some k_ ≠ (.slice Ao28 t491.length co28 : Value).ownBlock ∧ some k_ ≠ (v496 : Value).ownBlock ∧ some k_ ≠ (.slice Ao33 t501.length co33 : Value).ownBlock)) (by (with_reducible repeat (first | apply Kd.N_alloc | apply Kd.N_drewN | apply Kd.N_drew)); exact Kd.N_mono HO486.out (fun _ hk => ⟨⟨hk.1.1.1.1.2, ⟨hk.1.1.1.2, ⟨hk.1.1.2, hk.2⟩⟩⟩, hk.1.2⟩)) hg hat); have n1_ := Aside0.mk (Kd.R_over' (by (with_reducible repeat (first | apply Kd.R_alloc | apply Kd.R_drewN | apply Kd.R_drew)); exact HO490.out) (Kd.N_typed (by (with_reducible repeat (first | apply Kd.N_alloc | apply Kd.N_drewN | apply Kd.N_drew)); exact HO500.out)) (by decide) hg); have n2_ := Aside0.mk (Kd.N_afterv (ok := (fun k_ => some k_ ≠ (.slice Ao25 t484.length co25 : Value).ownBlock ∧ some k_ ≠ (v489 : Value).ownBlock ∧ some k_ ≠ (v496 : Value).ownBlock ∧ some k_ ≠ (.slice Ao33 t501.length co33 : Value).ownBlock)) (by (with_reducible repeat (first | apply Kd.N_alloc | apply Kd.N_drewN | apply Kd.N_drew)); exact Kd.N_mono HO493.out (fun _ hk => ⟨⟨hk.1.1.1.1, ⟨hk.1.1.1.2, ⟨hk.1.1.2, hk.2⟩⟩⟩, hk.1.2⟩)) hg hat); have n3_ := Aside0.mk (Kd.R_over' (by (with_reducible repeat (first | apply Kd.R_alloc | apply Kd.R_drewN | apply Kd.R_drew)); exact HO497.out) (Kd.N_typed (by (with_reducible repeat (first | apply Kd.N_alloc | apply Kd.N_drewN | apply Kd.N_drew)); exact HO500.out)) (by decide) hg); have n4_ := Aside0.mk (Kd.N_afterv (ok := (fun k_ => some k_ ≠ (.slice Ao25 t484.length co25 : Value).ownBlock ∧ some k_ ≠ (v489 : Value).ownBlock ∧ some k_ ≠ (.slice Ao28 t491.length co28 : Value).ownBlock ∧ some k_ ≠ (v496 : Value).ownBlock)) (by (with_reducible repeat (first | apply Kd.N_alloc | apply Kd.N_drewN | apply Kd.N_drew)); exact Kd.N_mono HO503.out (fun _ hk => ⟨⟨hk.1, ⟨hk.2.1, ⟨hk.2.2.1, hk.2.2.2.1⟩⟩⟩, hk.2.2.2.2⟩)) hg hat); have n5_ := Aside0.mk (hb); have n6_ := Aside0.mk (ho); clear HO486; clear HO490; clear HO493; clear HO497; clear HO503; clear HB; clear HO500; have HO486 := n0_; have HO490 := n1_; have HO493 := n2_; have HO497 := n3_; have HO503 := n4_; have HB := n5_; have HO506 := n6_; clear n0_ n1_ n2_ n3_ n4_ n5_ n6_; clear ho hb hg hat))
                (try simp only [Act.put, List.setIfInBounds_toArray, List.set_cons_zero, List.set_cons_succ])
                go_cut [53] (fun v53 wc => ∃ (kq : Nat) (x53_22 : Bool), v53 = .bool x53_22 ∧ Aside0 (stanchionlaw01_PackBehind.j2 kq t487 t494 y504 x53_22 = some r) ∧ Aside0 (kq ≤ kj10) ∧ Aside0 (Kd.R (Kd.int .u8) 5 wc w.heap.size (fun k_ => some k_ ≠ (v496 : Value).ownBlock) v489 t487) ∧ Aside0 (Kd.R (Kd.int .u8) 5 wc w.heap.size (fun k_ => some k_ ≠ (v489 : Value).ownBlock) v496 t494) ∧ Aside0 (Kd.N (Kd.slice 5 (Kd.int .u8)) 22 wc w.heap.size (fun k_ => some k_ ≠ (v489 : Value).ownBlock ∧ some k_ ≠ (v496 : Value).ownBlock) v505 y504) ∧ Aside0 (Below w.heap.size w wc))
                case first =>
                  have H := HC23.out
                  clear HC23
                  by_cases c34 : t488 = 0
                  · rw [if_pos c34] at H
                    have c34b0 : (t488 == 0) = true := beq_iff_eq.mpr c34
                    have c34b1 : (t488 != 0) = false := bne_eq_false_iff_eq.mpr c34
                    clear c34
                    (first | rw [c34b0] | (simp only [i64_w, i32_w]; rw [c34b0]) | skip)
                    by_cases c35 : t495 = 0
                    · rw [if_pos c35] at H
                      have c35b0 : (t495 == 0) = true := beq_iff_eq.mpr c35
                      have c35b1 : (t495 != 0) = false := bne_eq_false_iff_eq.mpr c35
                      clear c35
                      have H' := Aside0.mk H
                      clear H
                      obtain ⟨Ao36, co36, eo36⟩ := Kd.N_slice HO506.out
                      subst eo36
                      go_wp2
                      go_meet
                      case rel => exact ⟨_, (decide ((y504.length : Int) > 1024)), (by first | rfl | (simp; done) | (simp [*]; done)), H', ⟨by have := HJ2.out; have := HJ10.out; first | omega | exact Nat.le_refl _⟩, ⟨by (with_reducible repeat (first | apply Kd.R_alloc | apply Kd.R_drewN | apply Kd.R_drew)); exact Kd.R_mono HO490.out (fun _ hk => hk.2)⟩, ⟨by (with_reducible repeat (first | apply Kd.R_alloc | apply Kd.R_drewN | apply Kd.R_drew)); exact Kd.R_mono HO497.out (fun _ hk => hk.2)⟩, ⟨by (with_reducible repeat (first | apply Kd.N_alloc | apply Kd.N_drewN | apply Kd.N_drew)); exact Kd.N_mono HO506.out (fun _ hk => ⟨hk.2.1, hk.2.2.2⟩)⟩, ⟨by repeat (first | (with_reducible first | exact HB.out | apply below_alloc | apply pw_below_drewN | apply below_drew1) | exact HB.out)⟩⟩
                    · rw [if_neg c35] at H
                      have c35b0 : (t495 == 0) = false := beq_eq_false_iff_ne.mpr c35
                      have c35b1 : (t495 != 0) = true := bne_iff_ne.mpr c35
                      have H' := Aside0.mk H
                      clear H
                      go_wp2
                      go_meet
                      case rel => exact ⟨_, (true), (by first | rfl | (simp; done) | (simp [*]; done)), H', ⟨by have := HJ2.out; have := HJ10.out; first | omega | exact Nat.le_refl _⟩, ⟨by (with_reducible repeat (first | apply Kd.R_alloc | apply Kd.R_drewN | apply Kd.R_drew)); exact Kd.R_mono HO490.out (fun _ hk => hk.2)⟩, ⟨by (with_reducible repeat (first | apply Kd.R_alloc | apply Kd.R_drewN | apply Kd.R_drew)); exact Kd.R_mono HO497.out (fun _ hk => hk.2)⟩, ⟨by (with_reducible repeat (first | apply Kd.N_alloc | apply Kd.N_drewN | apply Kd.N_drew)); exact Kd.N_mono HO506.out (fun _ hk => ⟨hk.2.1, hk.2.2.2⟩)⟩, ⟨by repeat (first | (with_reducible first | exact HB.out | apply below_alloc | apply pw_below_drewN | apply below_drew1) | exact HB.out)⟩⟩
                  · rw [if_neg c34] at H
                    have c34b0 : (t488 == 0) = false := beq_eq_false_iff_ne.mpr c34
                    have c34b1 : (t488 != 0) = true := bne_iff_ne.mpr c34
                    (first | rw [c34b0] | (simp only [i64_w, i32_w]; rw [c34b0]) | skip)
                    have H' := Aside0.mk H
                    clear H
                    go_wp2
                    go_meet
                    case rel => exact ⟨_, (true), (by first | rfl | (simp; done) | (simp [*]; done)), H', ⟨by have := HJ2.out; have := HJ10.out; first | omega | exact Nat.le_refl _⟩, ⟨by (with_reducible repeat (first | apply Kd.R_alloc | apply Kd.R_drewN | apply Kd.R_drew)); exact Kd.R_mono HO490.out (fun _ hk => hk.2)⟩, ⟨by (with_reducible repeat (first | apply Kd.R_alloc | apply Kd.R_drewN | apply Kd.R_drew)); exact Kd.R_mono HO497.out (fun _ hk => hk.2)⟩, ⟨by (with_reducible repeat (first | apply Kd.N_alloc | apply Kd.N_drewN | apply Kd.N_drew)); exact Kd.N_mono HO506.out (fun _ hk => ⟨hk.2.1, hk.2.2.2⟩)⟩, ⟨by repeat (first | (with_reducible first | exact HB.out | apply below_alloc | apply pw_below_drewN | apply below_drew1) | exact HB.out)⟩⟩
                case rest =>
                  clear HC23
                  try clear c1
                  try clear c2
                  try clear p2
                  try clear c3
                  try clear c5
                  try clear c10
                  try clear c13
                  try clear c15
                  try clear c22
                  try clear c28
                  try clear c29
                  try clear c30
                  try clear c31
                  try clear c34
                  try clear c34b0
                  try clear c34b1
                  try clear c35
                  try clear c35b0
                  try clear c35b1
                  try clear p2
                  obtain ⟨kq, x53_22, rfl, HA, HJ22, HO_5, HO_7, HO_9, HB⟩ := hcut
                  cases kq with
                  | zero => exact absurd HA.out (by simp [stanchionlaw01_PackBehind.j2])
                  | succ kj22 =>
                    have H := HA.out
                    clear HA
                    simp only [stanchionlaw01_PackBehind.j2] at H
                    by_cases c37 : x53_22 = true
                    · subst c37
                      have H1 : (some true) = some r := by rw [if_pos rfl] at H; exact H
                      clear H
                      have H := H1
                      clear H1
                      obtain rfl := Option.some.inj H
                      go_wp2
                      go_ret
                      exact ⟨by first | rfl | (simp [errW_none, errW_some] <;> rfl) | (simp [*, errW_none, errW_some] <;> rfl), by repeat (first | (with_reducible first | exact HB.out | apply below_alloc | apply pw_below_drewN | apply below_drew1) | exact HB.out)⟩
                    · replace c37 := Bool.eq_false_iff.mpr c37
                      subst c37
                      have H1 : ((pack_Join.f y504).bind fun bt507 => (if t487.length + t494.length < 140737488355328 then ((pack_Split.f kj22 (t487 ++ t494)).bind fun bt514 => (if bt507.2 = 0 then (if bt514.2 = 0 then ((stanchionref00_SameRows.f kj22 bt514.1 y504).bind fun t518 => (if t518 = true then (some ((bt507.1.length : Int) == (wrap64 ((t487.length : Int) + (t494.length : Int))))) else (some false))) else (some false)) else (some false))) else (none))) = some r := by rw [if_neg (show ¬ (false = true) by decide)] at H; exact H
                      clear H
                      have H := H1
                      clear H1
                      replace H := Option.bind_eq_some_iff.mp H
                      obtain ⟨⟨t507, t508⟩, A380, H⟩ := H
                      replace H : (if t487.length + t494.length < 140737488355328 then ((pack_Split.f kj22 (t487 ++ t494)).bind fun bt514 => (if t508 = 0 then (if bt514.2 = 0 then ((stanchionref00_SameRows.f kj22 bt514.1 y504).bind fun t518 => (if t518 = true then (some ((t507.length : Int) == (wrap64 ((t487.length : Int) + (t494.length : Int))))) else (some false))) else (some false)) else (some false))) else (none)) = some r := H
                      have A38 := Aside0.mk A380
                      clear A380
                      by_cases c39 : t487.length + t494.length < 140737488355328
                      · rw [if_pos c39] at H
                        have LMc39 := Aside0.mk c39
                        clear c39
                        obtain ⟨y511, hy511⟩ : ∃ y_ : List Int, y_ = (t487 ++ t494) := ⟨_, rfl⟩
                        replace H : ((pack_Split.f kj22 y511).bind fun bt514 => (if t508 = 0 then (if bt514.2 = 0 then ((stanchionref00_SameRows.f kj22 bt514.1 y504).bind fun t518 => (if t518 = true then (some ((t507.length : Int) == (wrap64 ((t487.length : Int) + (t494.length : Int))))) else (some false))) else (some false)) else (some false))) = some r := by first | (rw [hy511]; with_reducible exact H) | (have H2_ := (Option.bind_some _ _).symm.trans H; rw [hy511]; with_reducible exact H2_) | (have H2_ := (Option.bind_some _ _).symm.trans H; with_reducible exact H2_) | with_reducible exact H | (rw [hy511]; exact H) | exact H
                        have Ny511 := Aside0.mk hy511
                        clear hy511
                        replace H := Option.bind_eq_some_iff.mp H
                        obtain ⟨⟨t514, t517⟩, A400, H⟩ := H
                        replace H : (if t508 = 0 then (if t517 = 0 then ((stanchionref00_SameRows.f kj22 t514 y504).bind fun t518 => (if t518 = true then (some ((t507.length : Int) == (wrap64 ((t487.length : Int) + (t494.length : Int))))) else (some false))) else (some false)) else (some false)) = some r := H
                        have A40 := Aside0.mk A400
                        clear A400
                        by_cases c41 : t508 = 0
                        · rw [if_pos c41] at H
                          have c41b0 : (t508 == 0) = true := beq_iff_eq.mpr c41
                          have c41b1 : (t508 != 0) = false := bne_eq_false_iff_eq.mpr c41
                          clear c41
                          by_cases c42 : t517 = 0
                          · rw [if_pos c42] at H
                            have c42b0 : (t517 == 0) = true := beq_iff_eq.mpr c42
                            have c42b1 : (t517 != 0) = false := bne_eq_false_iff_eq.mpr c42
                            clear c42
                            replace H := Option.bind_eq_some_iff.mp H
                            obtain ⟨t518, A430, H⟩ := H
                            replace H : (if t518 = true then (some ((t507.length : Int) == (wrap64 ((t487.length : Int) + (t494.length : Int))))) else (some false)) = some r := H
                            have A43 := Aside0.mk A430
                            clear A430
                            by_cases c44 : t518 = true
                            · subst c44
                              have H1 : (some ((t507.length : Int) == (wrap64 ((t487.length : Int) + (t494.length : Int))))) = some r := by rw [if_pos rfl] at H; exact H
                              clear H
                              have H := H1
                              clear H1
                              obtain rfl := Option.some.inj H
                              obtain ⟨Ao45, co45, eo45⟩ := Kd.N_slice HO_9.out
                              subst eo45
                              obtain ⟨Ao53, co53, eo530⟩ := Kd.R_slice HO_5.out
                              have eo53 := Aside0.mk eo530
                              clear eo530
                              go_wp2_with (first | ((with_reducible refine gate_callee (f := 31) rfl ?_); refine goesL_ (some 56) rfl rfl Try.func31 (by kernel_rfl) rfl #[.slice Ao45 y504.length co45] rfl (by (try simp only [List.map_toArray, List.map_cons, List.map_nil]); first | done | rfl | (simp only [List.length_drop, List.length_take]; rfl)) ?_; (with_reducible refine (pack_Join.calls _ _ y504 t507 t508 _ ?side1 ?side2 A38.out).mono ?_); (case side1 => repeat (first | exact (Kd.N_reads' HO_9.out).2.2 | (with_reducible refine Kd.C_alloc ?_ _) | (with_reducible refine Kd.C_drewN ?_ _) | (with_reducible refine Kd.C_drew ?_))); (case side2 => exact (Kd.N_reads' HO_9.out).2.1); rintro e w46 ⟨v509, rfl, ho0, hb⟩; refine ⟨_, rfl, ?_⟩; have n0_ := Aside0.mk (Kd.R_elder' (by (with_reducible repeat (first | apply Kd.R_alloc | apply Kd.R_drewN | apply Kd.R_drew)); exact HO_5.out) (Kd.R_base ho0) hb); have n1_ := Aside0.mk (Kd.R_elder' (by (with_reducible repeat (first | apply Kd.R_alloc | apply Kd.R_drewN | apply Kd.R_drew)); exact HO_7.out) (Kd.R_base ho0) hb); have n2_ := Aside0.mk (Kd.N_elder' (by (with_reducible repeat (first | apply Kd.N_alloc | apply Kd.N_drewN | apply Kd.N_drew)); exact HO_9.out) (Kd.R_base ho0) hb); have n3_ := Aside0.mk (Kd.R_lower (Kd.R_new' (Kd.R_new' ho0 (Kd.R_lt (by (with_reducible repeat (first | apply Kd.R_alloc | apply Kd.R_drewN | apply Kd.R_drew)); exact HO_5.out))) (Kd.R_lt (by (with_reducible repeat (first | apply Kd.R_alloc | apply Kd.R_drewN | apply Kd.R_drew)); exact HO_7.out))) (below_size (by repeat (first | (with_reducible first | exact HB.out | apply below_alloc | apply pw_below_drewN | apply below_drew1) | exact HB.out)))); have n4_ := Aside0.mk (below_step (by repeat (first | (with_reducible first | exact HB.out | apply below_alloc | apply pw_below_drewN | apply below_drew1) | exact HB.out)) hb); clear HO_5; clear HO_7; clear HO_9; clear HB; have HO_5 := n0_; have HO_7 := n1_; have HO_9 := n2_; have HO510 := n3_; have HB := n4_; clear n0_ n1_ n2_ n3_ n4_; (try clear hb); (try clear hb2); (try clear hk); (try clear hi); (try clear ho0); obtain ⟨Ao48, co48, eo48⟩ := Kd.R_slice HO_7.out; subst eo48) | ((with_reducible refine gate_builtin (b := .append) (xs := #[.tmp 60, .tmp 61]) rfl ?_); (try (refine gate_guard (by rfl) ?_; dsimp only)); at_builtin; refine Kd.R_append_rows (Kd.int .u8) (w0 := w) w.heap.size rfl (.tmp 60) (.tmp 61) 22 5 (.int .u8 0) 1 rfl Try.underlying22 info5 rfl (by decide) (by omega) v489 t487 t494 _ _ _ (fun k_ => some k_ ≠ (.slice Ao48 t494.length co48 : Value).ownBlock ∧ some k_ ≠ (v509 : Value).ownBlock) (fun _ => False) rfl rfl ?aO ?aR (fun _ _ h => h) (fun _ h => h.elim) ?aF ?aB ?aS ?aL ?_; (case aR => repeat (first | exact (Kd.R_reads' HO_7.out).2.2 | (with_reducible refine Kd.C_alloc ?_ _) | (with_reducible refine Kd.C_drewN ?_ _) | (with_reducible refine Kd.C_drew ?_))); (case aB => exact (by repeat (first | (with_reducible first | exact HB.out | apply below_alloc | apply pw_below_drewN | apply below_drew1) | exact HB.out))); (case aF => exact (fun k_ hk => ⟨Kd.fresh' (Kd.R_lt (by (with_reducible repeat (first | apply Kd.R_alloc | apply Kd.R_drewN | apply Kd.R_drew)); exact HO_7.out)) k_ hk, Kd.fresh' (Kd.R_lt (by (with_reducible repeat (first | apply Kd.R_alloc | apply Kd.R_drewN | apply Kd.R_drew)); exact HO510.out)) k_ hk⟩)); (case aO => exact (by (with_reducible repeat (first | apply Kd.R_alloc | apply Kd.R_drewN | apply Kd.R_drew)); exact HO_5.out)); (case aS => exact (below_size (by repeat (first | (with_reducible first | exact HB.out | apply below_alloc | apply pw_below_drewN | apply below_drew1) | exact HB.out)))); (case aL => have := LMc39.out; omega); intro v512 w47 ho hb hg hat; rw [← Ny511.out] at ho; have n0_ := Aside0.mk (Kd.R_after (ok := (fun k_ => some k_ ≠ (v509 : Value).ownBlock)) (by (with_reducible repeat (first | apply Kd.R_alloc | apply Kd.R_drewN | apply Kd.R_drew)); exact Kd.R_mono HO_7.out (fun _ hk => ⟨hk.2, hk.1⟩)) hg hat); have n1_ := Aside0.mk (Kd.N_afterv (ok := (fun k_ => some k_ ≠ (.slice Ao48 t494.length co48 : Value).ownBlock ∧ some k_ ≠ (v509 : Value).ownBlock)) (by (with_reducible repeat (first | apply Kd.N_alloc | apply Kd.N_drewN | apply Kd.N_drew)); exact Kd.N_mono HO_9.out (fun _ hk => ⟨⟨hk.1.2, hk.2⟩, hk.1.1⟩)) hg hat); have n2_ := Aside0.mk (Kd.R_after (ok := (fun k_ => some k_ ≠ (.slice Ao48 t494.length co48 : Value).ownBlock)) (by (with_reducible repeat (first | apply Kd.R_alloc | apply Kd.R_drewN | apply Kd.R_drew)); exact Kd.R_mono HO510.out (fun _ hk => ⟨hk.2, hk.1.2⟩)) hg hat); have n3_ := Aside0.mk (hb); have n4_ := Aside0.mk (ho); clear HO_7; clear HO_9; clear HO510; clear HB; clear HO_5; have HO_7 := n0_; have HO_9 := n1_; have HO510 := n2_; have HB := n3_; have HO513 := n4_; clear n0_ n1_ n2_ n3_ n4_; clear ho hb hg hat; obtain ⟨Ao49, co49, eo49⟩ := Kd.R_slice HO513.out; subst eo49) | ((with_reducible refine gate_callee (f := 39) rfl ?_); refine goesL_ (some 63) rfl rfl Try.func39 (by kernel_rfl) rfl #[.slice Ao49 y511.length co49] rfl (by (try simp only [List.map_toArray, List.map_cons, List.map_nil]); first | done | rfl | (simp only [List.length_drop, List.length_take]; rfl)) ?_; (with_reducible refine (pack_Split.calls kj22 (fun k_ => some k_ = (.slice Ao49 y511.length co49 : Value).ownBlock) _ _ y511 t514 t517 _ ?side1 A40.out).mono ?_); (case side1 => exact Kd.R_V (Kd.R_tight rfl (Kd.R_apart' (HO513.out) (Kd.N_typed HO_9.out) (by decide)))); rintro e w50 ⟨v515, rfl, ho0, hb⟩; refine ⟨_, rfl, ?_⟩; (try replace ho0 := Kd.S_N ho0); have n0_ := Aside0.mk (Kd.R_below (by (with_reducible repeat (first | apply Kd.R_alloc | apply Kd.R_drewN | apply Kd.R_drew)); exact HO_7.out) hb); have n1_ := Aside0.mk (Kd.N_elder' (by (with_reducible repeat (first | apply Kd.N_alloc | apply Kd.N_drewN | apply Kd.N_drew)); exact HO_9.out) (Kd.N_base ho0) hb); have n2_ := Aside0.mk (Kd.R_below (by (with_reducible repeat (first | apply Kd.R_alloc | apply Kd.R_drewN | apply Kd.R_drew)); exact HO510.out) hb); have n3_ := Aside0.mk (Kd.R_below (by (with_reducible repeat (first | apply Kd.R_alloc | apply Kd.R_drewN | apply Kd.R_drew)); exact HO513.out) hb); have n4_ := Aside0.mk (Kd.N_lower (Kd.N_mono (ok' := fun k_ => some k_ ≠ (.slice Ao48 t494.length co48 : Value).ownBlock ∧ some k_ ≠ (.slice Ao45 y504.length co45 : Value).ownBlock ∧ some k_ ≠ (v509 : Value).ownBlock) ho0 (fun k_ hk_ => ⟨Or.elim (show some k_ = (.slice Ao49 y511.length co49 : Value).ownBlock ∨ _ from Or.inr hk_) (fun hs_ => ((Kd.R_apart' (HO513.out) (Kd.N_typed HO_9.out) (by decide)).1 k_ hs_.symm).1.1) (fun hn_ => (Kd.fresh' (Kd.R_lt (by (with_reducible repeat (first | apply Kd.R_alloc | apply Kd.R_drewN | apply Kd.R_drew)); exact HO_7.out)) k_ hn_)), Or.elim (show some k_ = (.slice Ao49 y511.length co49 : Value).ownBlock ∨ _ from Or.inr hk_) (fun hs_ => ((Kd.R_apart' (HO513.out) (Kd.N_typed HO_9.out) (by decide)).1 k_ hs_.symm).2) (fun hn_ => (Kd.fresh' (Kd.N_lt (by (with_reducible repeat (first | apply Kd.N_alloc | apply Kd.N_drewN | apply Kd.N_drew)); exact HO_9.out)) k_ hn_)), Or.elim (show some k_ = (.slice Ao49 y511.length co49 : Value).ownBlock ∨ _ from Or.inr hk_) (fun hs_ => ((Kd.R_apart' (HO513.out) (Kd.N_typed HO_9.out) (by decide)).1 k_ hs_.symm).1.2) (fun hn_ => (Kd.fresh' (Kd.R_lt (by (with_reducible repeat (first | apply Kd.R_alloc | apply Kd.R_drewN | apply Kd.R_drew)); exact HO510.out)) k_ hn_))⟩)) (below_size (by repeat (first | (with_reducible first | exact HB.out | apply below_alloc | apply pw_below_drewN | apply below_drew1) | exact HB.out)))); have n5_ := Aside0.mk (below_step (by repeat (first | (with_reducible first | exact HB.out | apply below_alloc | apply pw_below_drewN | apply below_drew1) | exact HB.out)) hb); clear HO_7; clear HO_9; clear HO510; clear HO513; clear HB; have HO_7 := n0_; have HO_9 := n1_; have HO510 := n2_; have HO513 := n3_; have HO516 := n4_; have HB := n5_; clear n0_ n1_ n2_ n3_ n4_ n5_; (try clear hb); (try clear hb2); (try clear hk); (try clear hi); (try clear ho0); obtain ⟨Ao51, co51, eo51⟩ := Kd.N_slice HO516.out; subst eo51) | (go_at_call 33; (with_reducible refine (stanchionref00_SameRows.calls kj22 _ _ t514 _ _ y504 true _ ?side1 ?side2 ?side3 ?side4 A43.out).mono ?_); (case side1 => repeat (first | exact (Kd.N_reads' HO516.out).2.2 | (with_reducible refine Kd.C_alloc ?_ _) | (with_reducible refine Kd.C_drewN ?_ _) | (with_reducible refine Kd.C_drew ?_))); (case side2 => exact (Kd.N_reads' HO516.out).2.1); (case side3 => repeat (first | exact (Kd.N_reads' HO_9.out).2.2 | (with_reducible refine Kd.C_alloc ?_ _) | (with_reducible refine Kd.C_drewN ?_ _) | (with_reducible refine Kd.C_drew ?_))); (case side4 => exact (Kd.N_reads' HO_9.out).2.1); rintro e w' ⟨rfl, ⟨nd, rfl⟩⟩; obtain ⟨Ao52, co52, eo52⟩ := Kd.R_slice HO510.out; subst eo52; (have eo53 := eo53.out; subst eo53)))
                              go_ret
                              exact ⟨by first | rfl | (simp [errW_none, errW_some] <;> rfl) | (simp [*, errW_none, errW_some] <;> rfl), by repeat (first | (with_reducible first | exact HB.out | apply below_alloc | apply pw_below_drewN | apply below_drew1) | exact HB.out)⟩
                            · replace c44 := Bool.eq_false_iff.mpr c44
                              subst c44
                              have H1 : (some false) = some r := by rw [if_neg (show ¬ (false = true) by decide)] at H; exact H
                              clear H
                              have H := H1
                              clear H1
                              obtain rfl := Option.some.inj H
                              obtain ⟨Ao54, co54, eo54⟩ := Kd.N_slice HO_9.out
                              subst eo54
                              go_wp2_with (first | ((with_reducible refine gate_callee (f := 31) rfl ?_); refine goesL_ (some 56) rfl rfl Try.func31 (by kernel_rfl) rfl #[.slice Ao54 y504.length co54] rfl (by (try simp only [List.map_toArray, List.map_cons, List.map_nil]); first | done | rfl | (simp only [List.length_drop, List.length_take]; rfl)) ?_; (with_reducible refine (pack_Join.calls _ _ y504 t507 t508 _ ?side1 ?side2 A38.out).mono ?_); (case side1 => repeat (first | exact (Kd.N_reads' HO_9.out).2.2 | (with_reducible refine Kd.C_alloc ?_ _) | (with_reducible refine Kd.C_drewN ?_ _) | (with_reducible refine Kd.C_drew ?_))); (case side2 => exact (Kd.N_reads' HO_9.out).2.1); rintro e w55 ⟨v509, rfl, ho0, hb⟩; refine ⟨_, rfl, ?_⟩; have n0_ := Aside0.mk (Kd.R_elder' (by (with_reducible repeat (first | apply Kd.R_alloc | apply Kd.R_drewN | apply Kd.R_drew)); exact HO_5.out) (Kd.R_base ho0) hb); have n1_ := Aside0.mk (Kd.R_elder' (by (with_reducible repeat (first | apply Kd.R_alloc | apply Kd.R_drewN | apply Kd.R_drew)); exact HO_7.out) (Kd.R_base ho0) hb); have n2_ := Aside0.mk (Kd.N_elder' (by (with_reducible repeat (first | apply Kd.N_alloc | apply Kd.N_drewN | apply Kd.N_drew)); exact HO_9.out) (Kd.R_base ho0) hb); have n3_ := Aside0.mk (Kd.R_lower (Kd.R_new' (Kd.R_new' ho0 (Kd.R_lt (by (with_reducible repeat (first | apply Kd.R_alloc | apply Kd.R_drewN | apply Kd.R_drew)); exact HO_5.out))) (Kd.R_lt (by (with_reducible repeat (first | apply Kd.R_alloc | apply Kd.R_drewN | apply Kd.R_drew)); exact HO_7.out))) (below_size (by repeat (first | (with_reducible first | exact HB.out | apply below_alloc | apply pw_below_drewN | apply below_drew1) | exact HB.out)))); have n4_ := Aside0.mk (below_step (by repeat (first | (with_reducible first | exact HB.out | apply below_alloc | apply pw_below_drewN | apply below_drew1) | exact HB.out)) hb); clear HO_5; clear HO_7; clear HO_9; clear HB; have HO_5 := n0_; have HO_7 := n1_; have HO_9 := n2_; have HO510 := n3_; have HB := n4_; clear n0_ n1_ n2_ n3_ n4_; (try clear hb); (try clear hb2); (try clear hk); (try clear hi); (try clear ho0); obtain ⟨Ao57, co57, eo57⟩ := Kd.R_slice HO_7.out; subst eo57) | ((with_reducible refine gate_builtin (b := .append) (xs := #[.tmp 60, .tmp 61]) rfl ?_); (try (refine gate_guard (by rfl) ?_; dsimp only)); at_builtin; refine Kd.R_append_rows (Kd.int .u8) (w0 := w) w.heap.size rfl (.tmp 60) (.tmp 61) 22 5 (.int .u8 0) 1 rfl Try.underlying22 info5 rfl (by decide) (by omega) v489 t487 t494 _ _ _ (fun k_ => some k_ ≠ (.slice Ao57 t494.length co57 : Value).ownBlock ∧ some k_ ≠ (v509 : Value).ownBlock) (fun _ => False) rfl rfl ?aO ?aR (fun _ _ h => h) (fun _ h => h.elim) ?aF ?aB ?aS ?aL ?_; (case aR => repeat (first | exact (Kd.R_reads' HO_7.out).2.2 | (with_reducible refine Kd.C_alloc ?_ _) | (with_reducible refine Kd.C_drewN ?_ _) | (with_reducible refine Kd.C_drew ?_))); (case aB => exact (by repeat (first | (with_reducible first | exact HB.out | apply below_alloc | apply pw_below_drewN | apply below_drew1) | exact HB.out))); (case aF => exact (fun k_ hk => ⟨Kd.fresh' (Kd.R_lt (by (with_reducible repeat (first | apply Kd.R_alloc | apply Kd.R_drewN | apply Kd.R_drew)); exact HO_7.out)) k_ hk, Kd.fresh' (Kd.R_lt (by (with_reducible repeat (first | apply Kd.R_alloc | apply Kd.R_drewN | apply Kd.R_drew)); exact HO510.out)) k_ hk⟩)); (case aO => exact (by (with_reducible repeat (first | apply Kd.R_alloc | apply Kd.R_drewN | apply Kd.R_drew)); exact HO_5.out)); (case aS => exact (below_size (by repeat (first | (with_reducible first | exact HB.out | apply below_alloc | apply pw_below_drewN | apply below_drew1) | exact HB.out)))); (case aL => have := LMc39.out; omega); intro v512 w56 ho hb hg hat; rw [← Ny511.out] at ho; have n0_ := Aside0.mk (Kd.R_after (ok := (fun k_ => some k_ ≠ (v509 : Value).ownBlock)) (by (with_reducible repeat (first | apply Kd.R_alloc | apply Kd.R_drewN | apply Kd.R_drew)); exact Kd.R_mono HO_7.out (fun _ hk => ⟨hk.2, hk.1⟩)) hg hat); have n1_ := Aside0.mk (Kd.N_afterv (ok := (fun k_ => some k_ ≠ (.slice Ao57 t494.length co57 : Value).ownBlock ∧ some k_ ≠ (v509 : Value).ownBlock)) (by (with_reducible repeat (first | apply Kd.N_alloc | apply Kd.N_drewN | apply Kd.N_drew)); exact Kd.N_mono HO_9.out (fun _ hk => ⟨⟨hk.1.2, hk.2⟩, hk.1.1⟩)) hg hat); have n2_ := Aside0.mk (Kd.R_after (ok := (fun k_ => some k_ ≠ (.slice Ao57 t494.length co57 : Value).ownBlock)) (by (with_reducible repeat (first | apply Kd.R_alloc | apply Kd.R_drewN | apply Kd.R_drew)); exact Kd.R_mono HO510.out (fun _ hk => ⟨hk.2, hk.1.2⟩)) hg hat); have n3_ := Aside0.mk (hb); have n4_ := Aside0.mk (ho); clear HO_7; clear HO_9; clear HO510; clear HB; clear HO_5; have HO_7 := n0_; have HO_9 := n1_; have HO510 := n2_; have HB := n3_; have HO513 := n4_; clear n0_ n1_ n2_ n3_ n4_; clear ho hb hg hat; obtain ⟨Ao58, co58, eo58⟩ := Kd.R_slice HO513.out; subst eo58) | ((with_reducible refine gate_callee (f := 39) rfl ?_); refine goesL_ (some 63) rfl rfl Try.func39 (by kernel_rfl) rfl #[.slice Ao58 y511.length co58] rfl (by (try simp only [List.map_toArray, List.map_cons, List.map_nil]); first | done | rfl | (simp only [List.length_drop, List.length_take]; rfl)) ?_; (with_reducible refine (pack_Split.calls kj22 (fun k_ => some k_ = (.slice Ao58 y511.length co58 : Value).ownBlock) _ _ y511 t514 t517 _ ?side1 A40.out).mono ?_); (case side1 => exact Kd.R_V (Kd.R_tight rfl (Kd.R_apart' (HO513.out) (Kd.N_typed HO_9.out) (by decide)))); rintro e w59 ⟨v515, rfl, ho0, hb⟩; refine ⟨_, rfl, ?_⟩; (try replace ho0 := Kd.S_N ho0); have n0_ := Aside0.mk (Kd.R_below (by (with_reducible repeat (first | apply Kd.R_alloc | apply Kd.R_drewN | apply Kd.R_drew)); exact HO_7.out) hb); have n1_ := Aside0.mk (Kd.N_elder' (by (with_reducible repeat (first | apply Kd.N_alloc | apply Kd.N_drewN | apply Kd.N_drew)); exact HO_9.out) (Kd.N_base ho0) hb); have n2_ := Aside0.mk (Kd.R_below (by (with_reducible repeat (first | apply Kd.R_alloc | apply Kd.R_drewN | apply Kd.R_drew)); exact HO510.out) hb); have n3_ := Aside0.mk (Kd.R_below (by (with_reducible repeat (first | apply Kd.R_alloc | apply Kd.R_drewN | apply Kd.R_drew)); exact HO513.out) hb); have n4_ := Aside0.mk (Kd.N_lower (Kd.N_mono (ok' := fun k_ => some k_ ≠ (.slice Ao57 t494.length co57 : Value).ownBlock ∧ some k_ ≠ (.slice Ao54 y504.length co54 : Value).ownBlock ∧ some k_ ≠ (v509 : Value).ownBlock) ho0 (fun k_ hk_ => ⟨Or.elim (show some k_ = (.slice Ao58 y511.length co58 : Value).ownBlock ∨ _ from Or.inr hk_) (fun hs_ => ((Kd.R_apart' (HO513.out) (Kd.N_typed HO_9.out) (by decide)).1 k_ hs_.symm).1.1) (fun hn_ => (Kd.fresh' (Kd.R_lt (by (with_reducible repeat (first | apply Kd.R_alloc | apply Kd.R_drewN | apply Kd.R_drew)); exact HO_7.out)) k_ hn_)), Or.elim (show some k_ = (.slice Ao58 y511.length co58 : Value).ownBlock ∨ _ from Or.inr hk_) (fun hs_ => ((Kd.R_apart' (HO513.out) (Kd.N_typed HO_9.out) (by decide)).1 k_ hs_.symm).2) (fun hn_ => (Kd.fresh' (Kd.N_lt (by (with_reducible repeat (first | apply Kd.N_alloc | apply Kd.N_drewN | apply Kd.N_drew)); exact HO_9.out)) k_ hn_)), Or.elim (show some k_ = (.slice Ao58 y511.length co58 : Value).ownBlock ∨ _ from Or.inr hk_) (fun hs_ => ((Kd.R_apart' (HO513.out) (Kd.N_typed HO_9.out) (by decide)).1 k_ hs_.symm).1.2) (fun hn_ => (Kd.fresh' (Kd.R_lt (by (with_reducible repeat (first | apply Kd.R_alloc | apply Kd.R_drewN | apply Kd.R_drew)); exact HO510.out)) k_ hn_))⟩)) (below_size (by repeat (first | (with_reducible first | exact HB.out | apply below_alloc | apply pw_below_drewN | apply below_drew1) | exact HB.out)))); have n5_ := Aside0.mk (below_step (by repeat (first | (with_reducible first | exact HB.out | apply below_alloc | apply pw_below_drewN | apply below_drew1) | exact HB.out)) hb); clear HO_7; clear HO_9; clear HO510; clear HO513; clear HB; have HO_7 := n0_; have HO_9 := n1_; have HO510 := n2_; have HO513 := n3_; have HO516 := n4_; have HB := n5_; clear n0_ n1_ n2_ n3_ n4_ n5_; (try clear hb); (try clear hb2); (try clear hk); (try clear hi); (try clear ho0); obtain ⟨Ao60, co60, eo60⟩ := Kd.N_slice HO516.out; subst eo60) | (go_at_call 33; (with_reducible refine (stanchionref00_SameRows.calls kj22 _ _ t514 _ _ y504 false _ ?side1 ?side2 ?side3 ?side4 A43.out).mono ?_); (case side1 => repeat (first | exact (Kd.N_reads' HO516.out).2.2 | (with_reducible refine Kd.C_alloc ?_ _) | (with_reducible refine Kd.C_drewN ?_ _) | (with_reducible refine Kd.C_drew ?_))); (case side2 => exact (Kd.N_reads' HO516.out).2.1); (case side3 => repeat (first | exact (Kd.N_reads' HO_9.out).2.2 | (with_reducible refine Kd.C_alloc ?_ _) | (with_reducible refine Kd.C_drewN ?_ _) | (with_reducible refine Kd.C_drew ?_))); (case side4 => exact (Kd.N_reads' HO_9.out).2.1); rintro e w' ⟨rfl, ⟨nd, rfl⟩⟩))
                              go_ret
                              exact ⟨by first | rfl | (simp [errW_none, errW_some] <;> rfl) | (simp [*, errW_none, errW_some] <;> rfl), by repeat (first | (with_reducible first | exact HB.out | apply below_alloc | apply pw_below_drewN | apply below_drew1) | exact HB.out)⟩
                          · rw [if_neg c42] at H
                            have c42b0 : (t517 == 0) = false := beq_eq_false_iff_ne.mpr c42
                            have c42b1 : (t517 != 0) = true := bne_iff_ne.mpr c42
                            obtain rfl := Option.some.inj H
                            obtain ⟨Ao61, co61, eo61⟩ := Kd.N_slice HO_9.out
                            subst eo61
                            go_wp2_with (first | ((with_reducible refine gate_callee (f := 31) rfl ?_); refine goesL_ (some 56) rfl rfl Try.func31 (by kernel_rfl) rfl #[.slice Ao61 y504.length co61] rfl (by (try simp only [List.map_toArray, List.map_cons, List.map_nil]); first | done | rfl | (simp only [List.length_drop, List.length_take]; rfl)) ?_; (with_reducible refine (pack_Join.calls _ _ y504 t507 t508 _ ?side1 ?side2 A38.out).mono ?_); (case side1 => repeat (first | exact (Kd.N_reads' HO_9.out).2.2 | (with_reducible refine Kd.C_alloc ?_ _) | (with_reducible refine Kd.C_drewN ?_ _) | (with_reducible refine Kd.C_drew ?_))); (case side2 => exact (Kd.N_reads' HO_9.out).2.1); rintro e w62 ⟨v509, rfl, ho0, hb⟩; refine ⟨_, rfl, ?_⟩; have n0_ := Aside0.mk (Kd.R_elder' (by (with_reducible repeat (first | apply Kd.R_alloc | apply Kd.R_drewN | apply Kd.R_drew)); exact HO_5.out) (Kd.R_base ho0) hb); have n1_ := Aside0.mk (Kd.R_elder' (by (with_reducible repeat (first | apply Kd.R_alloc | apply Kd.R_drewN | apply Kd.R_drew)); exact HO_7.out) (Kd.R_base ho0) hb); have n2_ := Aside0.mk (Kd.N_elder' (by (with_reducible repeat (first | apply Kd.N_alloc | apply Kd.N_drewN | apply Kd.N_drew)); exact HO_9.out) (Kd.R_base ho0) hb); have n3_ := Aside0.mk (Kd.R_lower (Kd.R_new' (Kd.R_new' ho0 (Kd.R_lt (by (with_reducible repeat (first | apply Kd.R_alloc | apply Kd.R_drewN | apply Kd.R_drew)); exact HO_5.out))) (Kd.R_lt (by (with_reducible repeat (first | apply Kd.R_alloc | apply Kd.R_drewN | apply Kd.R_drew)); exact HO_7.out))) (below_size (by repeat (first | (with_reducible first | exact HB.out | apply below_alloc | apply pw_below_drewN | apply below_drew1) | exact HB.out)))); have n4_ := Aside0.mk (below_step (by repeat (first | (with_reducible first | exact HB.out | apply below_alloc | apply pw_below_drewN | apply below_drew1) | exact HB.out)) hb); clear HO_5; clear HO_7; clear HO_9; clear HB; have HO_5 := n0_; have HO_7 := n1_; have HO_9 := n2_; have HO510 := n3_; have HB := n4_; clear n0_ n1_ n2_ n3_ n4_; (try clear hb); (try clear hb2); (try clear hk); (try clear hi); (try clear ho0); obtain ⟨Ao64, co64, eo64⟩ := Kd.R_slice HO_7.out; subst eo64) | ((with_reducible refine gate_builtin (b := .append) (xs := #[.tmp 60, .tmp 61]) rfl ?_); (try (refine gate_guard (by rfl) ?_; dsimp only)); at_builtin; refine Kd.R_append_rows (Kd.int .u8) (w0 := w) w.heap.size rfl (.tmp 60) (.tmp 61) 22 5 (.int .u8 0) 1 rfl Try.underlying22 info5 rfl (by decide) (by omega) v489 t487 t494 _ _ _ (fun k_ => some k_ ≠ (.slice Ao64 t494.length co64 : Value).ownBlock ∧ some k_ ≠ (v509 : Value).ownBlock) (fun _ => False) rfl rfl ?aO ?aR (fun _ _ h => h) (fun _ h => h.elim) ?aF ?aB ?aS ?aL ?_; (case aR => repeat (first | exact (Kd.R_reads' HO_7.out).2.2 | (with_reducible refine Kd.C_alloc ?_ _) | (with_reducible refine Kd.C_drewN ?_ _) | (with_reducible refine Kd.C_drew ?_))); (case aB => exact (by repeat (first | (with_reducible first | exact HB.out | apply below_alloc | apply pw_below_drewN | apply below_drew1) | exact HB.out))); (case aF => exact (fun k_ hk => ⟨Kd.fresh' (Kd.R_lt (by (with_reducible repeat (first | apply Kd.R_alloc | apply Kd.R_drewN | apply Kd.R_drew)); exact HO_7.out)) k_ hk, Kd.fresh' (Kd.R_lt (by (with_reducible repeat (first | apply Kd.R_alloc | apply Kd.R_drewN | apply Kd.R_drew)); exact HO510.out)) k_ hk⟩)); (case aO => exact (by (with_reducible repeat (first | apply Kd.R_alloc | apply Kd.R_drewN | apply Kd.R_drew)); exact HO_5.out)); (case aS => exact (below_size (by repeat (first | (with_reducible first | exact HB.out | apply below_alloc | apply pw_below_drewN | apply below_drew1) | exact HB.out)))); (case aL => have := LMc39.out; omega); intro v512 w63 ho hb hg hat; rw [← Ny511.out] at ho; have n0_ := Aside0.mk (Kd.R_after (ok := (fun k_ => some k_ ≠ (v509 : Value).ownBlock)) (by (with_reducible repeat (first | apply Kd.R_alloc | apply Kd.R_drewN | apply Kd.R_drew)); exact Kd.R_mono HO_7.out (fun _ hk => ⟨hk.2, hk.1⟩)) hg hat); have n1_ := Aside0.mk (Kd.N_afterv (ok := (fun k_ => some k_ ≠ (.slice Ao64 t494.length co64 : Value).ownBlock ∧ some k_ ≠ (v509 : Value).ownBlock)) (by (with_reducible repeat (first | apply Kd.N_alloc | apply Kd.N_drewN | apply Kd.N_drew)); exact Kd.N_mono HO_9.out (fun _ hk => ⟨⟨hk.1.2, hk.2⟩, hk.1.1⟩)) hg hat); have n2_ := Aside0.mk (Kd.R_after (ok := (fun k_ => some k_ ≠ (.slice Ao64 t494.length co64 : Value).ownBlock)) (by (with_reducible repeat (first | apply Kd.R_alloc | apply Kd.R_drewN | apply Kd.R_drew)); exact Kd.R_mono HO510.out (fun _ hk => ⟨hk.2, hk.1.2⟩)) hg hat); have n3_ := Aside0.mk (hb); have n4_ := Aside0.mk (ho); clear HO_7; clear HO_9; clear HO510; clear HB; clear HO_5; have HO_7 := n0_; have HO_9 := n1_; have HO510 := n2_; have HB := n3_; have HO513 := n4_; clear n0_ n1_ n2_ n3_ n4_; clear ho hb hg hat; obtain ⟨Ao65, co65, eo65⟩ := Kd.R_slice HO513.out; subst eo65) | ((with_reducible refine gate_callee (f := 39) rfl ?_); refine goesL_ (some 63) rfl rfl Try.func39 (by kernel_rfl) rfl #[.slice Ao65 y511.length co65] rfl (by (try simp only [List.map_toArray, List.map_cons, List.map_nil]); first | done | rfl | (simp only [List.length_drop, List.length_take]; rfl)) ?_; (with_reducible refine (pack_Split.calls kj22 (fun k_ => some k_ = (.slice Ao65 y511.length co65 : Value).ownBlock) _ _ y511 t514 t517 _ ?side1 A40.out).mono ?_); (case side1 => exact Kd.R_V (Kd.R_tight rfl (Kd.R_apart' (HO513.out) (Kd.N_typed HO_9.out) (by decide)))); rintro e w66 ⟨v515, rfl, ho0, hb⟩; refine ⟨_, rfl, ?_⟩; (try replace ho0 := Kd.S_N ho0); have n0_ := Aside0.mk (Kd.R_below (by (with_reducible repeat (first | apply Kd.R_alloc | apply Kd.R_drewN | apply Kd.R_drew)); exact HO_7.out) hb); have n1_ := Aside0.mk (Kd.N_elder' (by (with_reducible repeat (first | apply Kd.N_alloc | apply Kd.N_drewN | apply Kd.N_drew)); exact HO_9.out) (Kd.N_base ho0) hb); have n2_ := Aside0.mk (Kd.R_below (by (with_reducible repeat (first | apply Kd.R_alloc | apply Kd.R_drewN | apply Kd.R_drew)); exact HO510.out) hb); have n3_ := Aside0.mk (Kd.R_below (by (with_reducible repeat (first | apply Kd.R_alloc | apply Kd.R_drewN | apply Kd.R_drew)); exact HO513.out) hb); have n4_ := Aside0.mk (Kd.N_lower (Kd.N_mono (ok' := fun k_ => some k_ ≠ (.slice Ao64 t494.length co64 : Value).ownBlock ∧ some k_ ≠ (.slice Ao61 y504.length co61 : Value).ownBlock ∧ some k_ ≠ (v509 : Value).ownBlock) ho0 (fun k_ hk_ => ⟨Or.elim (show some k_ = (.slice Ao65 y511.length co65 : Value).ownBlock ∨ _ from Or.inr hk_) (fun hs_ => ((Kd.R_apart' (HO513.out) (Kd.N_typed HO_9.out) (by decide)).1 k_ hs_.symm).1.1) (fun hn_ => (Kd.fresh' (Kd.R_lt (by (with_reducible repeat (first | apply Kd.R_alloc | apply Kd.R_drewN | apply Kd.R_drew)); exact HO_7.out)) k_ hn_)), Or.elim (show some k_ = (.slice Ao65 y511.length co65 : Value).ownBlock ∨ _ from Or.inr hk_) (fun hs_ => ((Kd.R_apart' (HO513.out) (Kd.N_typed HO_9.out) (by decide)).1 k_ hs_.symm).2) (fun hn_ => (Kd.fresh' (Kd.N_lt (by (with_reducible repeat (first | apply Kd.N_alloc | apply Kd.N_drewN | apply Kd.N_drew)); exact HO_9.out)) k_ hn_)), Or.elim (show some k_ = (.slice Ao65 y511.length co65 : Value).ownBlock ∨ _ from Or.inr hk_) (fun hs_ => ((Kd.R_apart' (HO513.out) (Kd.N_typed HO_9.out) (by decide)).1 k_ hs_.symm).1.2) (fun hn_ => (Kd.fresh' (Kd.R_lt (by (with_reducible repeat (first | apply Kd.R_alloc | apply Kd.R_drewN | apply Kd.R_drew)); exact HO510.out)) k_ hn_))⟩)) (below_size (by repeat (first | (with_reducible first | exact HB.out | apply below_alloc | apply pw_below_drewN | apply below_drew1) | exact HB.out)))); have n5_ := Aside0.mk (below_step (by repeat (first | (with_reducible first | exact HB.out | apply below_alloc | apply pw_below_drewN | apply below_drew1) | exact HB.out)) hb); clear HO_7; clear HO_9; clear HO510; clear HO513; clear HB; have HO_7 := n0_; have HO_9 := n1_; have HO510 := n2_; have HO513 := n3_; have HO516 := n4_; have HB := n5_; clear n0_ n1_ n2_ n3_ n4_ n5_; (try clear hb); (try clear hb2); (try clear hk); (try clear hi); (try clear ho0)))
                            go_ret
                            exact ⟨by first | rfl | (simp [errW_none, errW_some] <;> rfl) | (simp [*, errW_none, errW_some] <;> rfl), by repeat (first | (with_reducible first | exact HB.out | apply below_alloc | apply pw_below_drewN | apply below_drew1) | exact HB.out)⟩
                        · rw [if_neg c41] at H
                          have c41b0 : (t508 == 0) = false := beq_eq_false_iff_ne.mpr c41
                          have c41b1 : (t508 != 0) = true := bne_iff_ne.mpr c41
                          obtain rfl := Option.some.inj H
                          obtain ⟨Ao67, co67, eo67⟩ := Kd.N_slice HO_9.out
                          subst eo67
                          go_wp2_with (first | ((with_reducible refine gate_callee (f := 31) rfl ?_); refine goesL_ (some 56) rfl rfl Try.func31 (by kernel_rfl) rfl #[.slice Ao67 y504.length co67] rfl (by (try simp only [List.map_toArray, List.map_cons, List.map_nil]); first | done | rfl | (simp only [List.length_drop, List.length_take]; rfl)) ?_; (with_reducible refine (pack_Join.calls _ _ y504 t507 t508 _ ?side1 ?side2 A38.out).mono ?_); (case side1 => repeat (first | exact (Kd.N_reads' HO_9.out).2.2 | (with_reducible refine Kd.C_alloc ?_ _) | (with_reducible refine Kd.C_drewN ?_ _) | (with_reducible refine Kd.C_drew ?_))); (case side2 => exact (Kd.N_reads' HO_9.out).2.1); rintro e w68 ⟨v509, rfl, ho0, hb⟩; refine ⟨_, rfl, ?_⟩; have n0_ := Aside0.mk (Kd.R_elder' (by (with_reducible repeat (first | apply Kd.R_alloc | apply Kd.R_drewN | apply Kd.R_drew)); exact HO_5.out) (Kd.R_base ho0) hb); have n1_ := Aside0.mk (Kd.R_elder' (by (with_reducible repeat (first | apply Kd.R_alloc | apply Kd.R_drewN | apply Kd.R_drew)); exact HO_7.out) (Kd.R_base ho0) hb); have n2_ := Aside0.mk (Kd.N_elder' (by (with_reducible repeat (first | apply Kd.N_alloc | apply Kd.N_drewN | apply Kd.N_drew)); exact HO_9.out) (Kd.R_base ho0) hb); have n3_ := Aside0.mk (Kd.R_lower (Kd.R_new' (Kd.R_new' ho0 (Kd.R_lt (by (with_reducible repeat (first | apply Kd.R_alloc | apply Kd.R_drewN | apply Kd.R_drew)); exact HO_5.out))) (Kd.R_lt (by (with_reducible repeat (first | apply Kd.R_alloc | apply Kd.R_drewN | apply Kd.R_drew)); exact HO_7.out))) (below_size (by repeat (first | (with_reducible first | exact HB.out | apply below_alloc | apply pw_below_drewN | apply below_drew1) | exact HB.out)))); have n4_ := Aside0.mk (below_step (by repeat (first | (with_reducible first | exact HB.out | apply below_alloc | apply pw_below_drewN | apply below_drew1) | exact HB.out)) hb); clear HO_5; clear HO_7; clear HO_9; clear HB; have HO_5 := n0_; have HO_7 := n1_; have HO_9 := n2_; have HO510 := n3_; have HB := n4_; clear n0_ n1_ n2_ n3_ n4_; (try clear hb); (try clear hb2); (try clear hk); (try clear hi); (try clear ho0); obtain ⟨Ao70, co70, eo70⟩ := Kd.R_slice HO_7.out; subst eo70) | ((with_reducible refine gate_builtin (b := .append) (xs := #[.tmp 60, .tmp 61]) rfl ?_); (try (refine gate_guard (by rfl) ?_; dsimp only)); at_builtin; refine Kd.R_append_rows (Kd.int .u8) (w0 := w) w.heap.size rfl (.tmp 60) (.tmp 61) 22 5 (.int .u8 0) 1 rfl Try.underlying22 info5 rfl (by decide) (by omega) v489 t487 t494 _ _ _ (fun k_ => some k_ ≠ (.slice Ao70 t494.length co70 : Value).ownBlock ∧ some k_ ≠ (v509 : Value).ownBlock) (fun _ => False) rfl rfl ?aO ?aR (fun _ _ h => h) (fun _ h => h.elim) ?aF ?aB ?aS ?aL ?_; (case aR => repeat (first | exact (Kd.R_reads' HO_7.out).2.2 | (with_reducible refine Kd.C_alloc ?_ _) | (with_reducible refine Kd.C_drewN ?_ _) | (with_reducible refine Kd.C_drew ?_))); (case aB => exact (by repeat (first | (with_reducible first | exact HB.out | apply below_alloc | apply pw_below_drewN | apply below_drew1) | exact HB.out))); (case aF => exact (fun k_ hk => ⟨Kd.fresh' (Kd.R_lt (by (with_reducible repeat (first | apply Kd.R_alloc | apply Kd.R_drewN | apply Kd.R_drew)); exact HO_7.out)) k_ hk, Kd.fresh' (Kd.R_lt (by (with_reducible repeat (first | apply Kd.R_alloc | apply Kd.R_drewN | apply Kd.R_drew)); exact HO510.out)) k_ hk⟩)); (case aO => exact (by (with_reducible repeat (first | apply Kd.R_alloc | apply Kd.R_drewN | apply Kd.R_drew)); exact HO_5.out)); (case aS => exact (below_size (by repeat (first | (with_reducible first | exact HB.out | apply below_alloc | apply pw_below_drewN | apply below_drew1) | exact HB.out)))); (case aL => have := LMc39.out; omega); intro v512 w69 ho hb hg hat; rw [← Ny511.out] at ho; have n0_ := Aside0.mk (Kd.R_after (ok := (fun k_ => some k_ ≠ (v509 : Value).ownBlock)) (by (with_reducible repeat (first | apply Kd.R_alloc | apply Kd.R_drewN | apply Kd.R_drew)); exact Kd.R_mono HO_7.out (fun _ hk => ⟨hk.2, hk.1⟩)) hg hat); have n1_ := Aside0.mk (Kd.N_afterv (ok := (fun k_ => some k_ ≠ (.slice Ao70 t494.length co70 : Value).ownBlock ∧ some k_ ≠ (v509 : Value).ownBlock)) (by (with_reducible repeat (first | apply Kd.N_alloc | apply Kd.N_drewN | apply Kd.N_drew)); exact Kd.N_mono HO_9.out (fun _ hk => ⟨⟨hk.1.2, hk.2⟩, hk.1.1⟩)) hg hat); have n2_ := Aside0.mk (Kd.R_after (ok := (fun k_ => some k_ ≠ (.slice Ao70 t494.length co70 : Value).ownBlock)) (by (with_reducible repeat (first | apply Kd.R_alloc | apply Kd.R_drewN | apply Kd.R_drew)); exact Kd.R_mono HO510.out (fun _ hk => ⟨hk.2, hk.1.2⟩)) hg hat); have n3_ := Aside0.mk (hb); have n4_ := Aside0.mk (ho); clear HO_7; clear HO_9; clear HO510; clear HB; clear HO_5; have HO_7 := n0_; have HO_9 := n1_; have HO510 := n2_; have HB := n3_; have HO513 := n4_; clear n0_ n1_ n2_ n3_ n4_; clear ho hb hg hat; obtain ⟨Ao71, co71, eo71⟩ := Kd.R_slice HO513.out; subst eo71) | ((with_reducible refine gate_callee (f := 39) rfl ?_); refine goesL_ (some 63) rfl rfl Try.func39 (by kernel_rfl) rfl #[.slice Ao71 y511.length co71] rfl (by (try simp only [List.map_toArray, List.map_cons, List.map_nil]); first | done | rfl | (simp only [List.length_drop, List.length_take]; rfl)) ?_; (with_reducible refine (pack_Split.calls kj22 (fun k_ => some k_ = (.slice Ao71 y511.length co71 : Value).ownBlock) _ _ y511 t514 t517 _ ?side1 A40.out).mono ?_); (case side1 => exact Kd.R_V (Kd.R_tight rfl (Kd.R_apart' (HO513.out) (Kd.N_typed HO_9.out) (by decide)))); rintro e w72 ⟨v515, rfl, ho0, hb⟩; refine ⟨_, rfl, ?_⟩; (try replace ho0 := Kd.S_N ho0); have n0_ := Aside0.mk (Kd.R_below (by (with_reducible repeat (first | apply Kd.R_alloc | apply Kd.R_drewN | apply Kd.R_drew)); exact HO_7.out) hb); have n1_ := Aside0.mk (Kd.N_elder' (by (with_reducible repeat (first | apply Kd.N_alloc | apply Kd.N_drewN | apply Kd.N_drew)); exact HO_9.out) (Kd.N_base ho0) hb); have n2_ := Aside0.mk (Kd.R_below (by (with_reducible repeat (first | apply Kd.R_alloc | apply Kd.R_drewN | apply Kd.R_drew)); exact HO510.out) hb); have n3_ := Aside0.mk (Kd.R_below (by (with_reducible repeat (first | apply Kd.R_alloc | apply Kd.R_drewN | apply Kd.R_drew)); exact HO513.out) hb); have n4_ := Aside0.mk (Kd.N_lower (Kd.N_mono (ok' := fun k_ => some k_ ≠ (.slice Ao70 t494.length co70 : Value).ownBlock ∧ some k_ ≠ (.slice Ao67 y504.length co67 : Value).ownBlock ∧ some k_ ≠ (v509 : Value).ownBlock) ho0 (fun k_ hk_ => ⟨Or.elim (show some k_ = (.slice Ao71 y511.length co71 : Value).ownBlock ∨ _ from Or.inr hk_) (fun hs_ => ((Kd.R_apart' (HO513.out) (Kd.N_typed HO_9.out) (by decide)).1 k_ hs_.symm).1.1) (fun hn_ => (Kd.fresh' (Kd.R_lt (by (with_reducible repeat (first | apply Kd.R_alloc | apply Kd.R_drewN | apply Kd.R_drew)); exact HO_7.out)) k_ hn_)), Or.elim (show some k_ = (.slice Ao71 y511.length co71 : Value).ownBlock ∨ _ from Or.inr hk_) (fun hs_ => ((Kd.R_apart' (HO513.out) (Kd.N_typed HO_9.out) (by decide)).1 k_ hs_.symm).2) (fun hn_ => (Kd.fresh' (Kd.N_lt (by (with_reducible repeat (first | apply Kd.N_alloc | apply Kd.N_drewN | apply Kd.N_drew)); exact HO_9.out)) k_ hn_)), Or.elim (show some k_ = (.slice Ao71 y511.length co71 : Value).ownBlock ∨ _ from Or.inr hk_) (fun hs_ => ((Kd.R_apart' (HO513.out) (Kd.N_typed HO_9.out) (by decide)).1 k_ hs_.symm).1.2) (fun hn_ => (Kd.fresh' (Kd.R_lt (by (with_reducible repeat (first | apply Kd.R_alloc | apply Kd.R_drewN | apply Kd.R_drew)); exact HO510.out)) k_ hn_))⟩)) (below_size (by repeat (first | (with_reducible first | exact HB.out | apply below_alloc | apply pw_below_drewN | apply below_drew1) | exact HB.out)))); have n5_ := Aside0.mk (below_step (by repeat (first | (with_reducible first | exact HB.out | apply below_alloc | apply pw_below_drewN | apply below_drew1) | exact HB.out)) hb); clear HO_7; clear HO_9; clear HO510; clear HO513; clear HB; have HO_7 := n0_; have HO_9 := n1_; have HO510 := n2_; have HO513 := n3_; have HO516 := n4_; have HB := n5_; clear n0_ n1_ n2_ n3_ n4_ n5_; (try clear hb); (try clear hb2); (try clear hk); (try clear hi); (try clear ho0)))
                          go_ret
                          exact ⟨by first | rfl | (simp [errW_none, errW_some] <;> rfl) | (simp [*, errW_none, errW_some] <;> rfl), by repeat (first | (with_reducible first | exact HB.out | apply below_alloc | apply pw_below_drewN | apply below_drew1) | exact HB.out)⟩
                      · rw [if_neg c39] at H
                        exact absurd H (by simp)
              · rw [if_neg c22] at H
                exact absurd H (by simp)


end Go.Proofs.Ytijccobeljoikaa.Pk
