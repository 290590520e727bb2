/- Put together of my texts: MtY, MuA. -/
import Derived.Test.YtijccobeljoikaaMi7
import Derived.Test.YtijccobeljoikaaMi1
import Derived.Test.YtijccobeljoikaaWRepsOne
/- msg: the document's Num, Nums, Join. Written by mkref.py out of my printed texts of the pack laws. -/
namespace Go.Proofs.Ytijccobeljoikaa.Pk
open Go.RowKit Go.Proofs.YtijccobeljoikaaW.PrintWords Go.Proofs.YtijccobeljoikaaW.PrintLast
open Go.Proofs.Ytijccobeljoikaa.Plain Go.Proofs.Ytijccobeljoikaa.Walks
set_option linter.unusedVariables false
set_option linter.unusedSimpArgs false
theorem atCallee {P : Program} {ops : Array Oper} {Q : Exit → Act → World → Prop} {o : Oper} {rest : List Oper} {a : Act} {W : World} {f : FuncId} {xs : Array Operand} {ts : Array TypeId} (_ho : o.op = .call { callee := .value (.func f), args := xs, argTypes := ts }) (h : wpList P ops Q (o :: rest) a W) : wpList P ops Q (o :: rest) a W := h
theorem atBuiltin {P : Program} {ops : Array Oper} {Q : Exit → Act → World → Prop} {o : Oper} {rest : List Oper} {a : Act} {W : World} {b : Builtin} {xs : Array Operand} {ts : Array TypeId} (_ho : o.op = .call { callee := .builtin b, args := xs, argTypes := ts }) (h : wpList P ops Q (o :: rest) a W) : wpList P ops Q (o :: rest) a W := h
def errW : Option Int → Value
  | none => .nilIface
  | some c => .iface 0 (.int .i64 c)
theorem errW_none : errW none = .nilIface := rfl
theorem errW_some (c : Int) : errW (some c) = .iface 0 (.int .i64 c) := rfl

theorem info3 : (Try.prog.info? 3).map (fun i => (i.zero, i.size, i.bytes)) = some (some (.int .i64 0), 1, 8) := by kernel_rfl
theorem info5 : (Try.prog.info? 5).map (fun i => (i.zero, i.size, i.bytes)) = some (some (.int .u8 0), 1, 1) := by kernel_rfl
theorem info22 : (Try.prog.info? 22).map (fun i => (i.zero, i.size, i.bytes)) = some (some (.slice none 0 0), 1, 24) := by kernel_rfl
-- the values' own types
def rd_L2 (xs : List (List Int)) (i : Int) : (List Int) := xs.getD i.toNat ([] : List Int)
theorem at_L2 {w : World} {A : Option Addr} {n : Nat} {xs : List (List Int)} (h : Kd.C (Kd.slice 5 (Kd.int .u8)) w A n xs) (i : Int) (h0 : 0 ≤ i) (h1 : i < n) : ∃ ad A0 c0, A = some ad ∧ w.cell? (ad.add i.toNat) = some (.slice A0 (rd_L2 xs i).length c0) ∧ (rd_L2 xs i).length ≤ c0 ∧ (Kd.int .u8).C w A0 (rd_L2 xs i).length (rd_L2 xs i) := by
  obtain ⟨ad, c, e, _, hK, hc0⟩ := Kd.C_get h ([] : List Int) i h0 h1
  have hc : ∀ j u, c[j]? = some u → w.cell? (ad.add (i.toNat * 1 + j)) = some u := hc0
  obtain ⟨A0, c0, rfl, l0, g0⟩ := hK
  exact ⟨ad, A0, c0, e, by have hq := hc 0 _ rfl; rwa [Nat.mul_one, Nat.add_zero] at hq, l0, g0⟩

/-! ### stanchionref01_Num: function 26 -/
mutual
def stanchionref01_Num.j0 : Nat → Int → Bool → Option (List Int × Int)
  | 0, _, _ => none
  | k + 1, x0, x10 => if x10 = true then (some (([] : List Int), 10)) else (stanchionref01_Num.l0 k x0 (([(Int.tmod x0 128) % 256] : List Int)))
def stanchionref01_Num.l0 : Nat → Int → List Int → Option (List Int × Int)
  | 0, _, _ => none
  | k + 1, x0, x4 => if x0 ≥ 128 then (if 0 ≤ (wrap64 ((x4.length : Int) - 1)) then (if (wrap64 ((x4.length : Int) - 1)) < (x4.length : Int) then ((some (x4.set ((wrap64 ((x4.length : Int) - 1)) : Int).toNat (((rd x4 (wrap64 ((x4.length : Int) - 1))) + 128) % 256) : List Int)).bind fun y145 => (if y145.length < 140737488355328 then (stanchionref01_Num.l0 k (wrap64 (Int.tdiv x0 128)) (y145 ++ [(Int.tmod (wrap64 (Int.tdiv x0 128)) 128) % 256])) else (none))) else (none)) else (none)) else (some (x4, 0))
end
def stanchionref01_Num.f (k : Nat) (a0 : Int) : Option (List Int × Int) := if a0 < 0 then (stanchionref01_Num.j0 k a0 true) else (stanchionref01_Num.j0 k a0 (decide (a0 ≥ 4611686018427387904)))
theorem stanchionref01_Num.mono_l : ∀ k, (∀ y0 y1, LeO (stanchionref01_Num.j0 k y0 y1) (stanchionref01_Num.j0 (k + 1) y0 y1)) ∧ (∀ y0 y1, LeO (stanchionref01_Num.l0 k y0 y1) (stanchionref01_Num.l0 (k + 1) y0 y1))
  | 0 => ⟨fun _ _ r h => by simp [stanchionref01_Num.j0] at h, fun _ _ r h => by simp [stanchionref01_Num.l0] at h⟩
  | k + 1 => by
    obtain ⟨ih0, ih1⟩ := stanchionref01_Num.mono_l k
    refine ⟨?_, ?_⟩
    · intro y0 y1
      unfold stanchionref01_Num.j0
      repeat' first
      | (with_reducible exact ih0 _ _)
      | (with_reducible exact ih1 _ _)
      | (with_reducible exact LeO.refl _)
      | (with_reducible exact LeO.none _)
      | (with_reducible refine LeO.ite ?_ ?_)
      | (with_reducible refine LeO.bind ?_ (fun _ => ?_))
      | exact ih0 _ _
      | exact ih1 _ _
      | exact LeO.none _
      | refine LeO.ite ?_ ?_
      | refine LeO.bind ?_ (fun _ => ?_)
    · intro y0 y1
      unfold stanchionref01_Num.l0
      repeat' first
      | (with_reducible exact ih0 _ _)
      | (with_reducible exact ih1 _ _)
      | (with_reducible exact LeO.refl _)
      | (with_reducible exact LeO.none _)
      | (with_reducible refine LeO.ite ?_ ?_)
      | (with_reducible refine LeO.bind ?_ (fun _ => ?_))
      | exact ih0 _ _
      | exact ih1 _ _
      | exact LeO.none _
      | refine LeO.ite ?_ ?_
      | refine LeO.bind ?_ (fun _ => ?_)
theorem stanchionref01_Num.mono : ∀ a0 k, LeO (stanchionref01_Num.f k a0) (stanchionref01_Num.f (k + 1) a0) := by
  intro a0 k
  obtain ⟨ih0, ih1⟩ := stanchionref01_Num.mono_l k
  unfold stanchionref01_Num.f
  repeat' first
      | (with_reducible exact ih0 _ _)
      | (with_reducible exact ih1 _ _)
      | (with_reducible exact LeO.refl _)
      | (with_reducible exact LeO.none _)
      | (with_reducible refine LeO.ite ?_ ?_)
      | (with_reducible refine LeO.bind ?_ (fun _ => ?_))
      | exact ih0 _ _
      | exact ih1 _ _
      | exact LeO.none _
      | refine LeO.ite ?_ ?_
      | refine LeO.bind ?_ (fun _ => ?_)
set_option maxHeartbeats 8000000 in
set_option maxRecDepth 100000 in
theorem stanchionref01_Num.calls (k : Nat) (a0 : Int) (r1 : List Int) (r2 : Int) (w : World) (h : stanchionref01_Num.f k a0 = some (r1, r2)) :
    Calls Try.prog 26 #[.int .i64 a0] w fun e w' => ∃ v0_ : Value, e = .returned (.tuple #[v0_, .int .i64 r2]) ∧ Kd.R (Kd.int .u8) 5 w' w.heap.size (fun _ => True) v0_ r1 ∧ Below w.heap.size w w' := by
  have HB := Aside0.mk (Below.refl w.heap.size w)
  have H : (if a0 < 0 then (stanchionref01_Num.j0 k a0 true) else (stanchionref01_Num.j0 k a0 (decide (a0 ≥ 4611686018427387904)))) = some (r1, r2) := h
  clear h
  have HC2 := Aside0.mk H
  clear H
  go_enter Try.func26, Try.ntmps26
  go_upto_region 1 with (fail)
  go_cut [10] (fun v10 wc => ∃ (kq : Nat) (x10_1 : Bool), v10 = .bool x10_1 ∧ Aside0 (stanchionref01_Num.j0 kq a0 x10_1 = some (r1, r2)) ∧ Aside0 (kq ≤ k) ∧ Aside0 (Below w.heap.size w wc))
  case first =>
    have H := HC2.out
    clear HC2
    by_cases c3 : a0 < 0
    · rw [if_pos c3] at H
      have c3b0 : decide (a0 < 0) = true := decide_eq_true c3
      clear c3
      (first | rw [c3b0] | (simp only [i64_w, i32_w]; rw [c3b0]) | skip)
      have H' := Aside0.mk H
      clear H
      go_wp2
      go_meet
      case rel => exact ⟨_, (true), (by first | rfl | (simp; done) | (simp [*]; done)), H', ⟨by first | omega | exact Nat.le_refl _⟩, ⟨by repeat (first | (with_reducible first | exact HB.out | apply below_alloc | apply pw_below_drewN | apply below_drew1) | exact HB.out)⟩⟩
    · rw [if_neg c3] at H
      have c3b0 : decide (a0 < 0) = false := decide_eq_false c3
      clear c3
      (first | rw [c3b0] | (simp only [i64_w, i32_w]; rw [c3b0]) | skip)
      have H' := Aside0.mk H
      clear H
      go_wp2
      go_meet
      case rel => exact ⟨_, (decide (a0 ≥ 4611686018427387904)), (by first | rfl | (simp; done) | (simp [*]; done)), H', ⟨by first | omega | exact Nat.le_refl _⟩, ⟨by repeat (first | (with_reducible first | exact HB.out | apply below_alloc | apply pw_below_drewN | apply below_drew1) | exact HB.out)⟩⟩
  case rest =>
    clear HC2
    try clear c2
    try clear p2
    try clear c3
    try clear c3b0
    obtain ⟨kq, x10_1, rfl, HA, HJ1, HB⟩ := hcut
    cases kq with
    | zero => exact absurd HA.out (by simp [stanchionref01_Num.j0])
    | succ kj1 =>
      have H := HA.out
      clear HA
      simp only [stanchionref01_Num.j0] at H
      by_cases c4 : x10_1 = true
      · subst c4
        have H1 : (some (([] : List Int), 10)) = some (r1, r2) := by rw [if_pos rfl] at H; exact H
        clear H
        have H := H1
        clear H1
        simp only [Option.some.injEq, Prod.mk.injEq] at H
        obtain ⟨rfl, rfl⟩ := H
        go_wp2
        go_ret2
        exact ⟨_, by first | rfl | (simp [errW_none, errW_some] <;> rfl) | (simp [*, errW_none, errW_some] <;> rfl), by first | exact Kd.R_nil _ _ _ _ _ | exact Kd.N_nil _ _ _ _ _ | exact Kd.V_nil _ _ _ _ _ | exact Kd.Q_nil _ _ _ _ _ | exact Kd.S_nil _ _ _ _ _, by repeat (first | (with_reducible first | exact HB.out | apply below_alloc | apply pw_below_drewN | apply below_drew1) | exact HB.out)⟩
      · replace c4 := Bool.eq_false_iff.mpr c4
        subst c4
        have H1 : (stanchionref01_Num.l0 kj1 a0 (([(Int.tmod a0 128) % 256] : List Int))) = some (r1, r2) := by rw [if_neg (show ¬ (false = true) by decide)] at H; exact H
        clear H
        have H := H1
        clear H1
        obtain ⟨y141, hy141⟩ : ∃ y_ : List Int, y_ = (([(Int.tmod a0 128) % 256] : List Int)) := ⟨_, rfl⟩
        replace H : (stanchionref01_Num.l0 kj1 a0 y141) = some (r1, r2) := by first | (rw [hy141]; with_reducible exact H) | (have H2_ := (Option.bind_some _ _).symm.trans H; rw [hy141]; with_reducible exact H2_) | (have H2_ := (Option.bind_some _ _).symm.trans H; with_reducible exact H2_) | with_reducible exact H | (rw [hy141]; exact H) | exact H
        have Ny141 := Aside0.mk hy141
        clear hy141
        have H' := Aside0.mk H
        clear H
        go_wp2_with (first | ((with_reducible refine gate_dst (N := 14) rfl ?_); refine Kd.R_lit (Kd.int .u8) _ 5 ?hg (N := 14) ?hd (xs := ([(Int.tmod a0 128) % 256] : List Int)) (inner := [.int .u8 ((Int.tmod a0 128) % 256)]) (ok := fun _ => True) (okp := fun _ => True) ?hr ?hp (fun _ hk => hk) trivial (Below.refl _ _) (Nat.le_refl _) (by simp) ?_; (case hd => rfl); (case hg => rfl); (case hr => first | (go_simp; done) | (go_simp; rfl)); (case hp => exact (Reps.one (show Kd.M (Kd.int .u8) _ _ _ ((Int.tmod a0 128) % 256) [.int .u8 ((Int.tmod a0 128) % 256)] from rfl) (Reps.none _ _))); intro v142 w5 ho6 hb hg_ hnew_; clear hg_ hnew_; (first | rw [← Ny141.out] at ho6 | (simp only [Int.reduceToNat] at ho6; rw [← Ny141.out] at ho6)); have n0_ := Aside0.mk (Kd.R_lower ho6 (below_size (by repeat (first | (with_reducible first | exact HB.out | apply below_alloc | apply pw_below_drewN | apply below_drew1) | exact HB.out)))); have n1_ := Aside0.mk (below_step (by repeat (first | (with_reducible first | exact HB.out | apply below_alloc | apply pw_below_drewN | apply below_drew1) | exact HB.out)) hb); clear HB; have HO143 := n0_; have HB := n1_; clear n0_ n1_; clear hb ho6))
        go_loopg [0, 4] kj1 (fun kq v0 v4 w' => ∃ (x0_2 : Int) (x4_2 : List Int), v0 = .int .i64 x0_2 ∧ Aside0 (stanchionref01_Num.l0 kq x0_2 x4_2 = some (r1, r2)) ∧ Aside0 (kq ≤ kj1) ∧ Aside0 (Kd.R (Kd.int .u8) 5 w' w.heap.size (fun _ => True) v4 x4_2) ∧ Aside0 (Below w.heap.size w w'))
        case atStart => exact ⟨(a0), (y141), (by first | rfl | (simp; done) | (simp [*]; done)), H', ⟨Nat.le_refl _⟩, ⟨by (with_reducible repeat (first | apply Kd.R_alloc | apply Kd.R_drewN | apply Kd.R_drew)); exact HO143.out⟩, ⟨by repeat (first | (with_reducible first | exact HB.out | apply below_alloc | apply pw_below_drewN | apply below_drew1) | exact HB.out)⟩⟩
        case round =>
          clear H'
          try clear c2
          try clear p2
          try clear c3
          try clear c3b0
          try clear c4
          try clear p2
          obtain ⟨x0_2, x4_2, rfl, HA, HK2, HO_4, HB⟩ := hrel
          cases gk with
          | zero => exact absurd HA.out (by simp [stanchionref01_Num.l0])
          | succ k2 =>
            have H := HA.out
            clear HA
            simp only [stanchionref01_Num.l0] at H
            by_cases c7 : x0_2 ≥ 128
            · rw [if_pos c7] at H
              have c7b0 : decide (128 ≤ x0_2) = true := decide_eq_true c7
              clear c7
              obtain ⟨ji8, hji8⟩ : ∃ j_ : Int, (wrap64 ((x4_2.length : Int) - 1)) = j_ := ⟨_, rfl⟩
              replace H : (if 0 ≤ (ji8) then (if (ji8) < (x4_2.length : Int) then ((some (x4_2.set ((ji8) : Int).toNat (((rd x4_2 (ji8)) + 128) % 256) : List Int)).bind fun y145 => (if y145.length < 140737488355328 then (stanchionref01_Num.l0 k2 (wrap64 (Int.tdiv x0_2 128)) (y145 ++ [(Int.tmod (wrap64 (Int.tdiv x0_2 128)) 128) % 256])) else (none))) else (none)) else (none)) = some (r1, r2) := by first | (rw [hji8] at H; exact H) | (simp only [hji8] at H ⊢; exact H)
              have hji8w : (IntKind.i64.wrap ((x4_2.length : Int) - 1)) = ji8 := (i64_w _).trans hji8
              by_cases c9 : 0 ≤ (ji8)
              · rw [if_pos c9] at H
                have c9b0 : decide (0 ≤ (ji8)) = true := decide_eq_true c9
                clear c9
                by_cases c10 : (ji8) < (x4_2.length : Int)
                · rw [if_pos c10] at H
                  have c10b0 : decide ((ji8) < (x4_2.length : Int)) = true := decide_eq_true c10
                  clear c10
                  obtain ⟨y145, hy145⟩ : ∃ y_ : List Int, y_ = (x4_2.set ((ji8) : Int).toNat (((rd x4_2 (ji8)) + 128) % 256)) := ⟨_, rfl⟩
                  replace H : (if y145.length < 140737488355328 then (stanchionref01_Num.l0 k2 (wrap64 (Int.tdiv x0_2 128)) (y145 ++ [(Int.tmod (wrap64 (Int.tdiv x0_2 128)) 128) % 256])) else (none)) = some (r1, r2) := by first | (rw [hy145]; with_reducible exact H) | (have H2_ := (Option.bind_some _ _).symm.trans H; rw [hy145]; with_reducible exact H2_) | (have H2_ := (Option.bind_some _ _).symm.trans H; with_reducible exact H2_) | with_reducible exact H | (rw [hy145]; exact H) | exact H
                  have Ny145 := Aside0.mk hy145
                  clear hy145
                  by_cases c12 : y145.length < 140737488355328
                  · rw [if_pos c12] at H
                    have LMc12 := Aside0.mk c12
                    clear c12
                    obtain ⟨y146, hy146⟩ : ∃ y_ : List Int, y_ = (y145 ++ [(Int.tmod (wrap64 (Int.tdiv x0_2 128)) 128) % 256]) := ⟨_, rfl⟩
                    replace H : (stanchionref01_Num.l0 k2 (wrap64 (Int.tdiv x0_2 128)) y146) = some (r1, r2) := by first | (rw [hy146]; with_reducible exact H) | (have H2_ := (Option.bind_some _ _).symm.trans H; rw [hy146]; with_reducible exact H2_) | (have H2_ := (Option.bind_some _ _).symm.trans H; with_reducible exact H2_) | with_reducible exact H | (rw [hy146]; exact H) | exact H
                    have Ny146 := Aside0.mk hy146
                    clear hy146
                    have H' := Aside0.mk H
                    clear H
                    obtain ⟨Ao13, co13, eo13⟩ := Kd.R_slice HO_4.out
                    subst eo13
                    have p144 : 0 ≤ ((ji8) : Int) := of_decide_eq_true (by first | (with_reducible assumption) | assumption)
                    have q144 : (ji8) < (x4_2.length : Int) := of_decide_eq_true (by first | (with_reducible assumption) | assumption)
                    obtain ⟨ad144, e144, hx144_0⟩ := Kd.at_int (Kd.R_reads' HO_4.out).2.2 (ji8) p144 q144
                    cases e144
                    replace p144 := eq_true p144
                    replace q144 := eq_true q144
                    have p11 : 0 ≤ ((ji8) : Int) := of_decide_eq_true (by first | (with_reducible assumption) | assumption)
                    have q11 : ((ji8) : Int) < ((x4_2.length : Int) : Int) := of_decide_eq_true (by first | (with_reducible assumption) | assumption)
                    obtain ⟨go11, co11, eo11, gb11, gl11, cl11, HG11⟩ := Kd.R_form HO_4.out (by omega)
                    (first | cases eo11 | (injection eo11 with ea_ en_ ec_; (first | subst ea_ | (injection ea_ with ea_; subst ea_)); subst ec_; clear en_))
                    have GB11 := Aside0.mk gb11
                    have GG11 := Aside0.mk HG11
                    clear gb11 gl11 HG11
                    (first | simp only [add_plain] at hx144_0 | skip)
                    obtain ⟨hx11_0, hf11_0⟩ := Kd.R_celln 0 HO_4.out ((ji8) : Int) p11 q11
                    replace p11 := eq_true p11
                    replace q11 := eq_true q11
                    have HP14 := Kd.R_putg HO_4.out ((ji8) : Int) (((rd x4_2 (ji8)) + 128) % 256)
                    go_wp2_with (first | ((with_reducible refine gate_store (t := 5) (p := 26) rfl ?_); refine store_event (t := 5) (p := 26) (v := ?vo_w15) (w1 := (wr.setCell ⟨go11, ((ji8) : Int).toNat, none⟩ (.int .u8 (((rd x4_2 (ji8)) + 128) % 256)))) ?hg ?ho ?hn ?hr ?_; (case ho => rfl); (case hg => rfl); (case hn => rfl); (case hr => first | (go_simp; done) | (go_simp; rfl)); intro w15 hw; have hg : wr.grownBy w15 (some go11) := (by rw [hw]; exact HP14.2); have hp_ : Kd.R (Kd.int .u8) 5 w15 w.heap.size (fun _ => True) (.slice (some ⟨go11, 0, none⟩) x4_2.length co13) y145 := (by rw [hw, Ny145.out]; exact HP14.1); clear HP14; have n0_ := Aside0.mk (hp_); have n1_ := Aside0.mk ((by rw [hw]; exact below_set (HB.out) GB11.out : Below w.heap.size w w15)); clear HO_4; clear HB; have HO_4 := n0_; have HB := n1_; clear n0_ n1_; clear hg hw hp_) | ((with_reducible refine atBuiltin (b := .append) (xs := #[.tmp 27, .tmp 31]) rfl ?_); at_builtin; refine Kd.R_append (Kd.int .u8) (w0 := w) w.heap.size rfl (.tmp 27) (.tmp 31) 22 5 (.int .u8 0) 1 rfl Try.underlying22 info5 rfl (by decide) (by omega) (.slice (some ⟨go11, 0, none⟩) x4_2.length co13) y145 ((Int.tmod (wrap64 (Int.tdiv x0_2 128)) 128) % 256) [.int .u8 ((Int.tmod (wrap64 (Int.tdiv x0_2 128)) 128) % 256)] (fun _ => True) (fun _ => False) rfl rfl ?aP (fun _ hk => hk.elim) ?aF ?aO ?aB ?aS ?aL ?_; (case aP => exact rfl); (case aB => exact (by repeat (first | (with_reducible first | exact HB.out | apply below_alloc | apply pw_below_drewN | apply below_drew1) | exact HB.out))); (case aF => exact (fun _ _ => trivial)); (case aO => exact (by (with_reducible repeat (first | apply Kd.R_alloc | apply Kd.R_drewN | apply Kd.R_drew)); exact HO_4.out)); (case aS => exact (below_size (by repeat (first | (with_reducible first | exact HB.out | apply below_alloc | apply pw_below_drewN | apply below_drew1) | exact HB.out)))); (case aL => have := LMc12.out; omega); intro v147 w16 ho hb hg hat; rw [← Ny146.out] at ho; have n0_ := Aside0.mk (hb); have n1_ := Aside0.mk (ho); clear HB; clear HO_4; have HB := n0_; have HO148 := n1_; clear n0_ n1_; clear ho hb hg hat))
                    go_roundg k2
                    case measure => have := HJ1.out; have := HK2.out; omega
                    case rel => exact ⟨(wrap64 (Int.tdiv x0_2 128)), (y146), (by first | rfl | (simp; done) | (simp [*]; done)), H', ⟨by have := HJ1.out; have := HK2.out; omega⟩, ⟨by (with_reducible repeat (first | apply Kd.R_alloc | apply Kd.R_drewN | apply Kd.R_drew)); exact HO148.out⟩, ⟨by repeat (first | (with_reducible first | exact HB.out | apply below_alloc | apply pw_below_drewN | apply below_drew1) | exact HB.out)⟩⟩
                  · rw [if_neg c12] at H
                    exact absurd H (by simp)
                · rw [if_neg c10] at H
                  exact absurd H (by simp)
              · rw [if_neg c9] at H
                exact absurd H (by simp)
            · rw [if_neg c7] at H
              have c7b0 : decide (128 ≤ x0_2) = false := decide_eq_false c7
              clear c7
              simp only [Option.some.injEq, Prod.mk.injEq] at H
              obtain ⟨rfl, rfl⟩ := H
              go_wp2
              go_ret2
              exact ⟨_, by first | rfl | (simp [errW_none, errW_some] <;> rfl) | (simp [*, errW_none, errW_some] <;> rfl), by (with_reducible repeat (first | apply Kd.R_alloc | apply Kd.R_drewN | apply Kd.R_drew)); exact HO_4.out, by repeat (first | (with_reducible first | exact HB.out | apply below_alloc | apply pw_below_drewN | apply below_drew1) | exact HB.out)⟩

/-! ### stanchionref01_Join: function 32 -/
def stanchionref01_Join.l0 : Nat → List (List Int) → List Int → Int → Option (List Int × Int)
  | 0, _, _, _ => none
  | k + 1, x0, x4, x5 => if x5 < (x0.length : Int) then (if 0 ≤ x5 then (if ((rd_L2 x0 x5).length : Int) > 65536 then (some (([] : List Int), 13)) else ((stanchionref01_Num.f k ((rd_L2 x0 x5).length : Int)).bind fun bt200 => (if x4.length + bt200.1.length < 140737488355328 then ((some (x4 ++ bt200.1 : List Int)).bind fun y204 => (if y204.length + (rd_L2 x0 x5).length < 140737488355328 then (stanchionref01_Join.l0 k x0 (y204 ++ (rd_L2 x0 x5)) (wrap64 (x5 + 1))) else (none))) else (none)))) else (none)) else (some (x4, 0))
def stanchionref01_Join.f (k : Nat) (l0 : List (List Int)) : Option (List Int × Int) := if (l0.length : Int) > 1024 then (some (([] : List Int), 13)) else (stanchionref01_Join.l0 k l0 (([] : List Int)) 0)
theorem stanchionref01_Join.mono_l : ∀ k, (∀ y0 y1 y2, LeO (stanchionref01_Join.l0 k y0 y1 y2) (stanchionref01_Join.l0 (k + 1) y0 y1 y2))
  | 0 => fun _ _ _ r h => by simp [stanchionref01_Join.l0] at h
  | k + 1 => by
    have ih0 := stanchionref01_Join.mono_l k
    · intro y0 y1 y2
      unfold stanchionref01_Join.l0
      repeat' first
      | (with_reducible exact ih0 _ _ _)
      | (with_reducible exact stanchionref01_Num.mono _ _)
      | (with_reducible exact LeO.refl _)
      | (with_reducible exact LeO.none _)
      | (with_reducible refine LeO.ite ?_ ?_)
      | (with_reducible refine LeO.bind ?_ (fun _ => ?_))
      | exact ih0 _ _ _
      | exact stanchionref01_Num.mono _ _
      | exact LeO.none _
      | refine LeO.ite ?_ ?_
      | refine LeO.bind ?_ (fun _ => ?_)
theorem stanchionref01_Join.mono : ∀ a0 k, LeO (stanchionref01_Join.f k a0) (stanchionref01_Join.f (k + 1) a0) := by
  intro a0 k
  have ih0 := stanchionref01_Join.mono_l k
  unfold stanchionref01_Join.f
  repeat' first
      | (with_reducible exact ih0 _ _ _)
      | (with_reducible exact stanchionref01_Num.mono _ _)
      | (with_reducible exact LeO.refl _)
      | (with_reducible exact LeO.none _)
      | (with_reducible refine LeO.ite ?_ ?_)
      | (with_reducible refine LeO.bind ?_ (fun _ => ?_))
      | exact ih0 _ _ _
      | exact stanchionref01_Num.mono _ _
      | exact LeO.none _
      | refine LeO.ite ?_ ?_
      | refine LeO.bind ?_ (fun _ => ?_)
set_option maxHeartbeats 8000000 in
set_option maxRecDepth 100000 in
theorem stanchionref01_Join.calls (k : Nat) (A0 : Option Addr) (c0 : Nat) (l0 : List (List Int)) (r1 : List Int) (r2 : Int) (w : World) (hr0 : Kd.C (Kd.slice 5 (Kd.int .u8)) w A0 l0.length l0) (hc0 : l0.length ≤ c0) (h : stanchionref01_Join.f k l0 = some (r1, r2)) :
    Calls Try.prog 32 #[.slice A0 l0.length c0] w fun e w' => ∃ v0_ : Value, e = .returned (.tuple #[v0_, .int .i64 r2]) ∧ Kd.R (Kd.int .u8) 5 w' w.heap.size (fun _ => True) v0_ r1 ∧ Below w.heap.size w w' := by
  have HR0 := Aside0.mk hr0
  have HC0 := Aside0.mk hc0
  clear hr0 hc0
  have HB := Aside0.mk (Below.refl w.heap.size w)
  have H : (if (l0.length : Int) > 1024 then (some (([] : List Int), 13)) else (stanchionref01_Join.l0 k l0 (([] : List Int)) 0)) = some (r1, r2) := h
  clear h
  by_cases c2 : (l0.length : Int) > 1024
  · rw [if_pos c2] at H
    have c2b0 : decide (1024 < (l0.length : Int)) = true := decide_eq_true c2
    have c2b1 : decide (1024 < l0.length) = true := decide_eq_true (by omega)
    clear c2
    simp only [Option.some.injEq, Prod.mk.injEq] at H
    obtain ⟨rfl, rfl⟩ := H
    go_enter Try.func32, Try.ntmps32
    go_wp2
    go_ret2
    exact ⟨_, by first | rfl | (simp [errW_none, errW_some] <;> rfl) | (simp [*, errW_none, errW_some] <;> rfl), by first | exact Kd.R_nil _ _ _ _ _ | exact Kd.N_nil _ _ _ _ _ | exact Kd.V_nil _ _ _ _ _ | exact Kd.Q_nil _ _ _ _ _ | exact Kd.S_nil _ _ _ _ _, by repeat (first | (with_reducible first | exact HB.out | apply below_alloc | apply pw_below_drewN | apply below_drew1) | exact HB.out)⟩
  · rw [if_neg c2] at H
    have c2b0 : decide (1024 < (l0.length : Int)) = false := decide_eq_false c2
    have c2b1 : decide (1024 < l0.length) = false := decide_eq_false (by omega)
    clear c2
    obtain ⟨y195, hy195⟩ : ∃ y_ : List Int, y_ = (([] : List Int)) := ⟨_, rfl⟩
    replace H : (stanchionref01_Join.l0 k l0 y195 0) = some (r1, r2) := by first | (rw [hy195]; with_reducible exact H) | (have H2_ := (Option.bind_some _ _).symm.trans H; rw [hy195]; with_reducible exact H2_) | (have H2_ := (Option.bind_some _ _).symm.trans H; with_reducible exact H2_) | with_reducible exact H | (rw [hy195]; exact H) | exact H
    have Ny195 := Aside0.mk hy195
    clear hy195
    have H' := Aside0.mk H
    clear H
    go_enter Try.func32, Try.ntmps32
    go_wp2_with (first | ((with_reducible refine gate_dst (N := 11) rfl ?_); refine Kd.R_lit (Kd.int .u8) _ 5 ?hg (N := 11) ?hd (xs := ([] : List Int)) (inner := []) (ok := fun _ => True) (okp := fun _ => True) ?hr ?hp (fun _ hk => hk) trivial (Below.refl _ _) (Nat.le_refl _) (by simp) ?_; (case hd => rfl); (case hg => rfl); (case hr => first | (go_simp; done) | (go_simp; rfl)); (case hp => exact (Reps.none _ _)); intro v196 w3 ho4 hb hg_ hnew_; clear hg_ hnew_; (first | rw [← Ny195.out] at ho4 | (simp only [Int.reduceToNat] at ho4; rw [← Ny195.out] at ho4)); have n0_ := Aside0.mk (Kd.R_lower ho4 (below_size (by repeat (first | (with_reducible first | exact HB.out | apply below_alloc | apply pw_below_drewN | apply below_drew1) | exact HB.out)))); have n1_ := Aside0.mk (below_step (by repeat (first | (with_reducible first | exact HB.out | apply below_alloc | apply pw_below_drewN | apply below_drew1) | exact HB.out)) hb); clear HB; have HO197 := n0_; have HB := n1_; clear n0_ n1_; clear hb ho4))
    go_loopg [4, 5] k (fun kq v4 v5 w' => ∃ (x4_1 : List Int) (x5_1 : Int), v5 = .int .i64 x5_1 ∧ Aside0 (stanchionref01_Join.l0 kq l0 x4_1 x5_1 = some (r1, r2)) ∧ Aside0 (kq ≤ k) ∧ Aside0 (Kd.R (Kd.int .u8) 5 w' w.heap.size (fun _ => True) v4 x4_1) ∧ Aside0 (Below w.heap.size w w'))
    case atStart => exact ⟨(y195), (0), (by first | rfl | (simp; done) | (simp [*]; done)), H', ⟨Nat.le_refl _⟩, ⟨by (with_reducible repeat (first | apply Kd.R_alloc | apply Kd.R_drewN | apply Kd.R_drew)); exact HO197.out⟩, ⟨by repeat (first | (with_reducible first | exact HB.out | apply below_alloc | apply pw_below_drewN | apply below_drew1) | exact HB.out)⟩⟩
    case round =>
      clear H'
      try clear c2
      try clear c2b0
      try clear c2b1
      try clear p2
      try clear c3
      obtain ⟨x4_1, x5_1, rfl, HA, HK1, HO_4, HB⟩ := hrel
      cases gk with
      | zero => exact absurd HA.out (by simp [stanchionref01_Join.l0])
      | succ k1 =>
        have H := HA.out
        clear HA
        simp only [stanchionref01_Join.l0] at H
        by_cases c5 : x5_1 < (l0.length : Int)
        · rw [if_pos c5] at H
          have c5b0 : decide (x5_1 < (l0.length : Int)) = true := decide_eq_true c5
          clear c5
          by_cases c6 : 0 ≤ x5_1
          · rw [if_pos c6] at H
            have c6b0 : decide (0 ≤ x5_1) = true := decide_eq_true c6
            clear c6
            by_cases c7 : ((rd_L2 l0 x5_1).length : Int) > 65536
            · rw [if_pos c7] at H
              have c7b0 : decide (65536 < ((rd_L2 l0 x5_1).length : Int)) = true := decide_eq_true c7
              have c7b1 : decide (65536 < (rd_L2 l0 x5_1).length) = true := decide_eq_true (by omega)
              clear c7
              simp only [Option.some.injEq, Prod.mk.injEq] at H
              obtain ⟨rfl, rfl⟩ := H
              have p198 : 0 ≤ (x5_1 : Int) := of_decide_eq_true (by first | (with_reducible assumption) | assumption)
              have q198 : x5_1 < (l0.length : Int) := of_decide_eq_true (by first | (with_reducible assumption) | assumption)
              obtain ⟨ad198, A198_0, c198_0, e198, hx198_0, hl198_0, hi198_0⟩ := at_L2 HR0.out x5_1 p198 q198
              cases e198
              replace hx198_0 := (HB.out.cell (World.block_lt_of_cell? w _ hx198_0)).trans hx198_0
              have HR198_0 := Aside0.mk hi198_0
              have HC198_0 := Aside0.mk hl198_0
              clear hi198_0 hl198_0
              replace p198 := eq_true p198
              replace q198 := eq_true q198
              go_wp2
              go_ret2
              exact ⟨_, by first | rfl | (simp [errW_none, errW_some] <;> rfl) | (simp [*, errW_none, errW_some] <;> rfl), by first | exact Kd.R_nil _ _ _ _ _ | exact Kd.N_nil _ _ _ _ _ | exact Kd.V_nil _ _ _ _ _ | exact Kd.Q_nil _ _ _ _ _ | exact Kd.S_nil _ _ _ _ _, by repeat (first | (with_reducible first | exact HB.out | apply below_alloc | apply pw_below_drewN | apply below_drew1) | exact HB.out)⟩
            · rw [if_neg c7] at H
              have c7b0 : decide (65536 < ((rd_L2 l0 x5_1).length : Int)) = false := decide_eq_false c7
              have c7b1 : decide (65536 < (rd_L2 l0 x5_1).length) = false := decide_eq_false (by omega)
              clear c7
              replace H := Option.bind_eq_some_iff.mp H
              obtain ⟨⟨t200, t201⟩, A80, H⟩ := H
              replace H : (if x4_1.length + t200.length < 140737488355328 then ((some (x4_1 ++ t200 : List Int)).bind fun y204 => (if y204.length + (rd_L2 l0 x5_1).length < 140737488355328 then (stanchionref01_Join.l0 k1 l0 (y204 ++ (rd_L2 l0 x5_1)) (wrap64 (x5_1 + 1))) else (none))) else (none)) = some (r1, r2) := H
              have A8 := Aside0.mk A80
              clear A80
              by_cases c9 : x4_1.length + t200.length < 140737488355328
              · rw [if_pos c9] at H
                have LMc9 := Aside0.mk c9
                clear c9
                obtain ⟨y204, hy204⟩ : ∃ y_ : List Int, y_ = (x4_1 ++ t200) := ⟨_, rfl⟩
                replace H : (if y204.length + (rd_L2 l0 x5_1).length < 140737488355328 then (stanchionref01_Join.l0 k1 l0 (y204 ++ (rd_L2 l0 x5_1)) (wrap64 (x5_1 + 1))) else (none)) = some (r1, r2) := by first | (rw [hy204]; with_reducible exact H) | (have H2_ := (Option.bind_some _ _).symm.trans H; rw [hy204]; with_reducible exact H2_) | (have H2_ := (Option.bind_some _ _).symm.trans H; with_reducible exact H2_) | with_reducible exact H | (rw [hy204]; exact H) | exact H
                have Ny204 := Aside0.mk hy204
                clear hy204
                by_cases c10 : y204.length + (rd_L2 l0 x5_1).length < 140737488355328
                · rw [if_pos c10] at H
                  have LMc10 := Aside0.mk c10
                  clear c10
                  obtain ⟨y208, hy208⟩ : ∃ y_ : List Int, y_ = (y204 ++ (rd_L2 l0 x5_1)) := ⟨_, rfl⟩
                  replace H : (stanchionref01_Join.l0 k1 l0 y208 (wrap64 (x5_1 + 1))) = some (r1, r2) := by first | (rw [hy208]; with_reducible exact H) | (have H2_ := (Option.bind_some _ _).symm.trans H; rw [hy208]; with_reducible exact H2_) | (have H2_ := (Option.bind_some _ _).symm.trans H; with_reducible exact H2_) | with_reducible exact H | (rw [hy208]; exact H) | exact H
                  have Ny208 := Aside0.mk hy208
                  clear hy208
                  have H' := Aside0.mk H
                  clear H
                  have p198 : 0 ≤ (x5_1 : Int) := of_decide_eq_true (by first | (with_reducible assumption) | assumption)
                  have q198 : x5_1 < (l0.length : Int) := of_decide_eq_true (by first | (with_reducible assumption) | assumption)
                  obtain ⟨ad198, A198_0, c198_0, e198, hx198_0, hl198_0, hi198_0⟩ := at_L2 HR0.out x5_1 p198 q198
                  cases e198
                  replace hx198_0 := (HB.out.cell (World.block_lt_of_cell? w _ hx198_0)).trans hx198_0
                  have HR198_0 := Aside0.mk hi198_0
                  have HC198_0 := Aside0.mk hl198_0
                  clear hi198_0 hl198_0
                  replace p198 := eq_true p198
                  replace q198 := eq_true q198
                  have p199 : 0 ≤ (x5_1 : Int) := of_decide_eq_true (by first | (with_reducible assumption) | assumption)
                  have q199 : x5_1 < (l0.length : Int) := of_decide_eq_true (by first | (with_reducible assumption) | assumption)
                  obtain ⟨ad199, A199_0, c199_0, e199, hx199_0, hl199_0, hi199_0⟩ := at_L2 HR0.out x5_1 p199 q199
                  obtain rfl : ad198 = ad199 := (by injection e199)
                  replace hx199_0 := (HB.out.cell (World.block_lt_of_cell? w _ hx199_0)).trans hx199_0
                  have HR199_0 := Aside0.mk hi199_0
                  have HC199_0 := Aside0.mk hl199_0
                  clear hi199_0 hl199_0
                  replace p199 := eq_true p199
                  replace q199 := eq_true q199
                  have ea_ := Option.some.inj (hx198_0.symm.trans hx199_0)
                  injection ea_ with ea_ en_ ec_
                  subst ea_
                  subst ec_
                  clear en_
                  go_wp2_with (first | ((with_reducible refine atCallee (f := 26) rfl ?_); refine goesL_ (some 30) rfl rfl Try.func26 (by kernel_rfl) rfl #[.int .i64 ((rd_L2 l0 x5_1).length : Int)] rfl (by (try simp only [List.map_toArray, List.map_cons, List.map_nil]); first | done | rfl | (simp only [List.length_drop, List.length_take]; rfl)) ?_; (with_reducible refine (stanchionref01_Num.calls k1 ((rd_L2 l0 x5_1).length : Int) t200 t201 _ A8.out).mono ?_); rintro e w11 ⟨v202, rfl, ho0, hb⟩; refine ⟨_, rfl, ?_⟩; have n0_ := Aside0.mk (Kd.R_elder' (by (with_reducible repeat (first | apply Kd.R_alloc | apply Kd.R_drewN | apply Kd.R_drew)); exact HO_4.out) (Kd.R_base ho0) hb); have n1_ := Aside0.mk (Kd.R_lower (Kd.R_new' ho0 (Kd.R_lt (by (with_reducible repeat (first | apply Kd.R_alloc | apply Kd.R_drewN | apply Kd.R_drew)); exact HO_4.out))) (below_size (by repeat (first | (with_reducible first | exact HB.out | apply below_alloc | apply pw_below_drewN | apply below_drew1) | exact HB.out)))); have n2_ := Aside0.mk (below_step (by repeat (first | (with_reducible first | exact HB.out | apply below_alloc | apply pw_below_drewN | apply below_drew1) | exact HB.out)) hb); clear HO_4; clear HB; have HO_4 := n0_; have HO203 := n1_; have HB := n2_; clear n0_ n1_ n2_; (try clear hb); (try clear hb2); (try clear hk); (try clear hi); (try clear ho0); obtain ⟨Ao13, co13, eo13⟩ := Kd.R_slice HO203.out; subst eo13) | ((with_reducible refine atBuiltin (b := .append) (xs := #[.tmp 33, .tmp 34]) rfl ?_); at_builtin; refine Kd.R_append_rows (Kd.int .u8) (w0 := w) w.heap.size rfl (.tmp 33) (.tmp 34) 22 5 (.int .u8 0) 1 rfl Try.underlying22 info5 rfl (by decide) (by omega) u4 x4_1 t200 _ _ _ (fun k_ => some k_ ≠ (.slice Ao13 t200.length co13 : Value).ownBlock) (fun _ => False) rfl rfl ?aO ?aR (fun _ _ h => h) (fun _ h => h.elim) ?aF ?aB ?aS ?aL ?_; (case aR => repeat (first | exact (Kd.R_reads' HO203.out).2.2 | (with_reducible refine Kd.C_alloc ?_ _) | (with_reducible refine Kd.C_drewN ?_ _) | (with_reducible refine Kd.C_drew ?_))); (case aB => exact (by repeat (first | (with_reducible first | exact HB.out | apply below_alloc | apply pw_below_drewN | apply below_drew1) | exact HB.out))); (case aF => exact (fun k_ hk => Kd.fresh' (Kd.R_lt (by (with_reducible repeat (first | apply Kd.R_alloc | apply Kd.R_drewN | apply Kd.R_drew)); exact HO203.out)) k_ hk)); (case aO => exact (by (with_reducible repeat (first | apply Kd.R_alloc | apply Kd.R_drewN | apply Kd.R_drew)); exact Kd.R_mono HO_4.out (fun _ hk => hk.2))); (case aS => exact (below_size (by repeat (first | (with_reducible first | exact HB.out | apply below_alloc | apply pw_below_drewN | apply below_drew1) | exact HB.out)))); (case aL => have := LMc9.out; omega); intro v205 w12 ho hb hg hat; rw [← Ny204.out] at ho; have n0_ := Aside0.mk (Kd.R_after (ok := (fun _ => True)) (by (with_reducible repeat (first | apply Kd.R_alloc | apply Kd.R_drewN | apply Kd.R_drew)); exact HO203.out) hg hat); have n1_ := Aside0.mk (hb); have n2_ := Aside0.mk (ho); clear HO203; clear HB; clear HO_4; have HO203 := n0_; have HB := n1_; have HO206 := n2_; clear n0_ n1_ n2_; clear ho hb hg hat; have p207 : 0 ≤ (x5_1 : Int) := of_decide_eq_true (by first | (with_reducible assumption) | assumption); have q207 : x5_1 < (l0.length : Int) := of_decide_eq_true (by first | (with_reducible assumption) | assumption); obtain ⟨ad207, A207_0, c207_0, e207, hx207_0, hl207_0, hi207_0⟩ := at_L2 HR0.out x5_1 p207 q207; obtain rfl : ad198 = ad207 := (by injection e207); replace hx207_0 := (HB.out.cell (World.block_lt_of_cell? w _ hx207_0)).trans hx207_0; have HR207_0 := Aside0.mk hi207_0; have HC207_0 := Aside0.mk hl207_0; clear hi207_0 hl207_0; replace p207 := eq_true p207; replace q207 := eq_true q207) | ((with_reducible refine atBuiltin (b := .append) (xs := #[.tmp 36, .tmp 40]) rfl ?_); at_builtin; refine Kd.R_append_rows (Kd.int .u8) (w0 := w) w.heap.size rfl (.tmp 36) (.tmp 40) 22 5 (.int .u8 0) 1 rfl Try.underlying22 info5 rfl (by decide) (by omega) v205 y204 (rd_L2 l0 x5_1) _ _ _ (fun k_ => some k_ ≠ (.slice Ao13 t200.length co13 : Value).ownBlock) (fun _ => False) rfl rfl ?aO ?aR (fun _ _ h => h) (fun _ h => h.elim) ?aF ?aB ?aS ?aL ?_; (case aR => repeat (first | exact (Kd.C_below HR207_0.out HB.out) | (with_reducible refine Kd.C_alloc ?_ _) | (with_reducible refine Kd.C_drewN ?_ _) | (with_reducible refine Kd.C_drew ?_))); (case aB => exact (by repeat (first | (with_reducible first | exact HB.out | apply below_alloc | apply pw_below_drewN | apply below_drew1) | exact HB.out))); (case aF => exact (fun k_ hk => Kd.fresh' (Kd.R_lt (by (with_reducible repeat (first | apply Kd.R_alloc | apply Kd.R_drewN | apply Kd.R_drew)); exact HO203.out)) k_ hk)); (case aO => exact (by (with_reducible repeat (first | apply Kd.R_alloc | apply Kd.R_drewN | apply Kd.R_drew)); exact HO206.out)); (case aS => exact (below_size (by repeat (first | (with_reducible first | exact HB.out | apply below_alloc | apply pw_below_drewN | apply below_drew1) | exact HB.out)))); (case aL => have := LMc10.out; omega); intro v209 w14 ho hb hg hat; rw [← Ny208.out] at ho; have n0_ := Aside0.mk (Kd.R_after (ok := (fun _ => True)) (by (with_reducible repeat (first | apply Kd.R_alloc | apply Kd.R_drewN | apply Kd.R_drew)); exact HO203.out) hg hat); have n1_ := Aside0.mk (hb); have n2_ := Aside0.mk (ho); clear HO203; clear HB; clear HO206; have HO203 := n0_; have HB := n1_; have HO210 := n2_; clear n0_ n1_ n2_; clear ho hb hg hat))
                  go_roundg k1
                  case measure => have := HK1.out; omega
                  case rel => exact ⟨(y208), (wrap64 (x5_1 + 1)), (by first | rfl | (simp; done) | (simp [*]; done)), H', ⟨by have := HK1.out; omega⟩, ⟨by (with_reducible repeat (first | apply Kd.R_alloc | apply Kd.R_drewN | apply Kd.R_drew)); exact Kd.R_mono HO210.out (fun _ hk => trivial)⟩, ⟨by repeat (first | (with_reducible first | exact HB.out | apply below_alloc | apply pw_below_drewN | apply below_drew1) | exact HB.out)⟩⟩
                · rw [if_neg c10] at H
                  exact absurd H (by simp)
              · rw [if_neg c9] at H
                exact absurd H (by simp)
          · rw [if_neg c6] at H
            exact absurd H (by simp)
        · rw [if_neg c5] at H
          have c5b0 : decide (x5_1 < (l0.length : Int)) = false := decide_eq_false c5
          clear c5
          simp only [Option.some.injEq, Prod.mk.injEq] at H
          obtain ⟨rfl, rfl⟩ := H
          go_wp2
          go_ret2
          exact ⟨_, by first | rfl | (simp [errW_none, errW_some] <;> rfl) | (simp [*, errW_none, errW_some] <;> rfl), by (with_reducible repeat (first | apply Kd.R_alloc | apply Kd.R_drewN | apply Kd.R_drew)); exact HO_4.out, by repeat (first | (with_reducible first | exact HB.out | apply below_alloc | apply pw_below_drewN | apply below_drew1) | exact HB.out)⟩

/-! ### stanchionref01_Nums: function 44 -/
def stanchionref01_Nums.l0 : Nat → List Int → List Int → Int → Option (List Int × Int)
  | 0, _, _, _ => none
  | k + 1, x0, x4, x5 => if x5 < (x0.length : Int) then (if 0 ≤ x5 then ((stanchionref01_Num.f k (rd x0 x5)).bind fun bt395 => (if bt395.2 = 0 then (if x4.length + bt395.1.length < 140737488355328 then (stanchionref01_Nums.l0 k x0 (x4 ++ bt395.1) (wrap64 (x5 + 1))) else (none)) else (some (([] : List Int), bt395.2)))) else (none)) else (some (x4, 0))
def stanchionref01_Nums.f (k : Nat) (l0 : List Int) : Option (List Int × Int) := stanchionref01_Nums.l0 k l0 (([] : List Int)) 0
theorem stanchionref01_Nums.mono_l : ∀ k, (∀ y0 y1 y2, LeO (stanchionref01_Nums.l0 k y0 y1 y2) (stanchionref01_Nums.l0 (k + 1) y0 y1 y2))
  | 0 => fun _ _ _ r h => by simp [stanchionref01_Nums.l0] at h
  | k + 1 => by
    have ih0 := stanchionref01_Nums.mono_l k
    · intro y0 y1 y2
      unfold stanchionref01_Nums.l0
      repeat' first
      | (with_reducible exact ih0 _ _ _)
      | (with_reducible exact stanchionref01_Num.mono _ _)
      | (with_reducible exact LeO.refl _)
      | (with_reducible exact LeO.none _)
      | (with_reducible refine LeO.ite ?_ ?_)
      | (with_reducible refine LeO.bind ?_ (fun _ => ?_))
      | exact ih0 _ _ _
      | exact stanchionref01_Num.mono _ _
      | exact LeO.none _
      | refine LeO.ite ?_ ?_
      | refine LeO.bind ?_ (fun _ => ?_)
theorem stanchionref01_Nums.mono : ∀ a0 k, LeO (stanchionref01_Nums.f k a0) (stanchionref01_Nums.f (k + 1) a0) := by
  intro a0 k
  have ih0 := stanchionref01_Nums.mono_l k
  unfold stanchionref01_Nums.f
  repeat' first
      | (with_reducible exact ih0 _ _ _)
      | (with_reducible exact stanchionref01_Num.mono _ _)
      | (with_reducible exact LeO.refl _)
      | (with_reducible exact LeO.none _)
      | (with_reducible refine LeO.ite ?_ ?_)
      | (with_reducible refine LeO.bind ?_ (fun _ => ?_))
      | exact ih0 _ _ _
      | exact stanchionref01_Num.mono _ _
      | exact LeO.none _
      | refine LeO.ite ?_ ?_
      | refine LeO.bind ?_ (fun _ => ?_)
set_option maxHeartbeats 8000000 in
set_option maxRecDepth 100000 in
theorem stanchionref01_Nums.calls (k : Nat) (A0 : Option Addr) (c0 : Nat) (l0 : List Int) (r1 : List Int) (r2 : Int) (w : World) (hr0 : Kd.C (Kd.int .i64) w A0 l0.length l0) (hc0 : l0.length ≤ c0) (h : stanchionref01_Nums.f k l0 = some (r1, r2)) :
    Calls Try.prog 44 #[.slice A0 l0.length c0] w fun e w' => ∃ v0_ : Value, e = .returned (.tuple #[v0_, .int .i64 r2]) ∧ Kd.R (Kd.int .u8) 5 w' w.heap.size (fun _ => True) v0_ r1 ∧ Below w.heap.size w w' := by
  have HR0 := Aside0.mk hr0
  have HC0 := Aside0.mk hc0
  clear hr0 hc0
  have HB := Aside0.mk (Below.refl w.heap.size w)
  have H : (stanchionref01_Nums.l0 k l0 (([] : List Int)) 0) = some (r1, r2) := h
  clear h
  obtain ⟨y391, hy391⟩ : ∃ y_ : List Int, y_ = (([] : List Int)) := ⟨_, rfl⟩
  replace H : (stanchionref01_Nums.l0 k l0 y391 0) = some (r1, r2) := by first | (rw [hy391]; with_reducible exact H) | (have H2_ := (Option.bind_some _ _).symm.trans H; rw [hy391]; with_reducible exact H2_) | (have H2_ := (Option.bind_some _ _).symm.trans H; with_reducible exact H2_) | with_reducible exact H | (rw [hy391]; exact H) | exact H
  have Ny391 := Aside0.mk hy391
  clear hy391
  have H' := Aside0.mk H
  clear H
  go_enter Try.func44, Try.ntmps44
  go_wp2_with (first | ((with_reducible refine gate_dst (N := 8) rfl ?_); refine Kd.R_lit (Kd.int .u8) _ 5 ?hg (N := 8) ?hd (xs := ([] : List Int)) (inner := []) (ok := fun _ => True) (okp := fun _ => True) ?hr ?hp (fun _ hk => hk) trivial (Below.refl _ _) (Nat.le_refl _) (by simp) ?_; (case hd => rfl); (case hg => rfl); (case hr => first | (go_simp; done) | (go_simp; rfl)); (case hp => exact (Reps.none _ _)); intro v392 w2 ho3 hb hg_ hnew_; clear hg_ hnew_; (first | rw [← Ny391.out] at ho3 | (simp only [Int.reduceToNat] at ho3; rw [← Ny391.out] at ho3)); have n0_ := Aside0.mk (Kd.R_lower ho3 (below_size (by repeat (first | (with_reducible first | exact HB.out | apply below_alloc | apply pw_below_drewN | apply below_drew1) | exact HB.out)))); have n1_ := Aside0.mk (below_step (by repeat (first | (with_reducible first | exact HB.out | apply below_alloc | apply pw_below_drewN | apply below_drew1) | exact HB.out)) hb); clear HB; have HO393 := n0_; have HB := n1_; clear n0_ n1_; clear hb ho3))
  go_loopg [4, 5] k (fun kq v4 v5 w' => ∃ (x4_1 : List Int) (x5_1 : Int), v5 = .int .i64 x5_1 ∧ Aside0 (stanchionref01_Nums.l0 kq l0 x4_1 x5_1 = some (r1, r2)) ∧ Aside0 (kq ≤ k) ∧ Aside0 (Kd.R (Kd.int .u8) 5 w' w.heap.size (fun _ => True) v4 x4_1) ∧ Aside0 (Below w.heap.size w w'))
  case atStart => exact ⟨(y391), (0), (by first | rfl | (simp; done) | (simp [*]; done)), H', ⟨Nat.le_refl _⟩, ⟨by (with_reducible repeat (first | apply Kd.R_alloc | apply Kd.R_drewN | apply Kd.R_drew)); exact HO393.out⟩, ⟨by repeat (first | (with_reducible first | exact HB.out | apply below_alloc | apply pw_below_drewN | apply below_drew1) | exact HB.out)⟩⟩
  case round =>
    clear H'
    try clear p2
    obtain ⟨x4_1, x5_1, rfl, HA, HK1, HO_4, HB⟩ := hrel
    cases gk with
    | zero => exact absurd HA.out (by simp [stanchionref01_Nums.l0])
    | succ k1 =>
      have H := HA.out
      clear HA
      simp only [stanchionref01_Nums.l0] at H
      by_cases c4 : x5_1 < (l0.length : Int)
      · rw [if_pos c4] at H
        have c4b0 : decide (x5_1 < (l0.length : Int)) = true := decide_eq_true c4
        clear c4
        by_cases c5 : 0 ≤ x5_1
        · rw [if_pos c5] at H
          have c5b0 : decide (0 ≤ x5_1) = true := decide_eq_true c5
          clear c5
          replace H := Option.bind_eq_some_iff.mp H
          obtain ⟨⟨t395, t396⟩, A60, H⟩ := H
          replace H : (if t396 = 0 then (if x4_1.length + t395.length < 140737488355328 then (stanchionref01_Nums.l0 k1 l0 (x4_1 ++ t395) (wrap64 (x5_1 + 1))) else (none)) else (some (([] : List Int), t396))) = some (r1, r2) := H
          have A6 := Aside0.mk A60
          clear A60
          by_cases c7 : t396 = 0
          · rw [if_pos c7] at H
            have c7b0 : (t396 == 0) = true := beq_iff_eq.mpr c7
            have c7b1 : (t396 != 0) = false := bne_eq_false_iff_eq.mpr c7
            clear c7
            by_cases c8 : x4_1.length + t395.length < 140737488355328
            · rw [if_pos c8] at H
              have LMc8 := Aside0.mk c8
              clear c8
              obtain ⟨y399, hy399⟩ : ∃ y_ : List Int, y_ = (x4_1 ++ t395) := ⟨_, rfl⟩
              replace H : (stanchionref01_Nums.l0 k1 l0 y399 (wrap64 (x5_1 + 1))) = some (r1, r2) := by first | (rw [hy399]; with_reducible exact H) | (have H2_ := (Option.bind_some _ _).symm.trans H; rw [hy399]; with_reducible exact H2_) | (have H2_ := (Option.bind_some _ _).symm.trans H; with_reducible exact H2_) | with_reducible exact H | (rw [hy399]; exact H) | exact H
              have Ny399 := Aside0.mk hy399
              clear hy399
              have H' := Aside0.mk H
              clear H
              have p394 : 0 ≤ (x5_1 : Int) := of_decide_eq_true (by first | (with_reducible assumption) | assumption)
              have q394 : x5_1 < (l0.length : Int) := of_decide_eq_true (by first | (with_reducible assumption) | assumption)
              obtain ⟨ad394, e394, hx394_0⟩ := Kd.at_int HR0.out x5_1 p394 q394
              cases e394
              replace hx394_0 := (HB.out.cell (World.block_lt_of_cell? w _ hx394_0)).trans hx394_0
              replace p394 := eq_true p394
              replace q394 := eq_true q394
              go_wp2_with (first | ((with_reducible refine atCallee (f := 26) rfl ?_); refine goesL_ (some 20) rfl rfl Try.func26 (by kernel_rfl) rfl #[.int .i64 (rd l0 x5_1)] rfl (by (try simp only [List.map_toArray, List.map_cons, List.map_nil]); first | done | rfl | (simp only [List.length_drop, List.length_take]; rfl)) ?_; (with_reducible refine (stanchionref01_Num.calls k1 (rd l0 x5_1) t395 t396 _ A6.out).mono ?_); rintro e w9 ⟨v397, rfl, ho0, hb⟩; refine ⟨_, rfl, ?_⟩; have n0_ := Aside0.mk (Kd.R_elder' (by (with_reducible repeat (first | apply Kd.R_alloc | apply Kd.R_drewN | apply Kd.R_drew)); exact HO_4.out) (Kd.R_base ho0) hb); have n1_ := Aside0.mk (Kd.R_lower (Kd.R_new' ho0 (Kd.R_lt (by (with_reducible repeat (first | apply Kd.R_alloc | apply Kd.R_drewN | apply Kd.R_drew)); exact HO_4.out))) (below_size (by repeat (first | (with_reducible first | exact HB.out | apply below_alloc | apply pw_below_drewN | apply below_drew1) | exact HB.out)))); have n2_ := Aside0.mk (below_step (by repeat (first | (with_reducible first | exact HB.out | apply below_alloc | apply pw_below_drewN | apply below_drew1) | exact HB.out)) hb); clear HO_4; clear HB; have HO_4 := n0_; have HO398 := n1_; have HB := n2_; clear n0_ n1_ n2_; (try clear hb); (try clear hb2); (try clear hk); (try clear hi); (try clear ho0); obtain ⟨Ao11, co11, eo11⟩ := Kd.R_slice HO398.out; subst eo11) | ((with_reducible refine atBuiltin (b := .append) (xs := #[.tmp 26, .tmp 27]) rfl ?_); at_builtin; refine Kd.R_append_rows (Kd.int .u8) (w0 := w) w.heap.size rfl (.tmp 26) (.tmp 27) 22 5 (.int .u8 0) 1 rfl Try.underlying22 info5 rfl (by decide) (by omega) u4 x4_1 t395 _ _ _ (fun k_ => some k_ ≠ (.slice Ao11 t395.length co11 : Value).ownBlock) (fun _ => False) rfl rfl ?aO ?aR (fun _ _ h => h) (fun _ h => h.elim) ?aF ?aB ?aS ?aL ?_; (case aR => repeat (first | exact (Kd.R_reads' HO398.out).2.2 | (with_reducible refine Kd.C_alloc ?_ _) | (with_reducible refine Kd.C_drewN ?_ _) | (with_reducible refine Kd.C_drew ?_))); (case aB => exact (by repeat (first | (with_reducible first | exact HB.out | apply below_alloc | apply pw_below_drewN | apply below_drew1) | exact HB.out))); (case aF => exact (fun k_ hk => Kd.fresh' (Kd.R_lt (by (with_reducible repeat (first | apply Kd.R_alloc | apply Kd.R_drewN | apply Kd.R_drew)); exact HO398.out)) k_ hk)); (case aO => exact (by (with_reducible repeat (first | apply Kd.R_alloc | apply Kd.R_drewN | apply Kd.R_drew)); exact Kd.R_mono HO_4.out (fun _ hk => hk.2))); (case aS => exact (below_size (by repeat (first | (with_reducible first | exact HB.out | apply below_alloc | apply pw_below_drewN | apply below_drew1) | exact HB.out)))); (case aL => have := LMc8.out; omega); intro v400 w10 ho hb hg hat; rw [← Ny399.out] at ho; have n0_ := Aside0.mk (Kd.R_after (ok := (fun _ => True)) (by (with_reducible repeat (first | apply Kd.R_alloc | apply Kd.R_drewN | apply Kd.R_drew)); exact HO398.out) hg hat); have n1_ := Aside0.mk (hb); have n2_ := Aside0.mk (ho); clear HO398; clear HB; clear HO_4; have HO398 := n0_; have HB := n1_; have HO401 := n2_; clear n0_ n1_ n2_; clear ho hb hg hat))
              go_roundg k1
              case measure => have := HK1.out; omega
              case rel => exact ⟨(y399), (wrap64 (x5_1 + 1)), (by first | rfl | (simp; done) | (simp [*]; done)), H', ⟨by have := HK1.out; omega⟩, ⟨by (with_reducible repeat (first | apply Kd.R_alloc | apply Kd.R_drewN | apply Kd.R_drew)); exact Kd.R_mono HO401.out (fun _ hk => trivial)⟩, ⟨by repeat (first | (with_reducible first | exact HB.out | apply below_alloc | apply pw_below_drewN | apply below_drew1) | exact HB.out)⟩⟩
            · rw [if_neg c8] at H
              exact absurd H (by simp)
          · rw [if_neg c7] at H
            have c7b0 : (t396 == 0) = false := beq_eq_false_iff_ne.mpr c7
            have c7b1 : (t396 != 0) = true := bne_iff_ne.mpr c7
            simp only [Option.some.injEq, Prod.mk.injEq] at H
            obtain ⟨rfl, rfl⟩ := H
            have p394 : 0 ≤ (x5_1 : Int) := of_decide_eq_true (by first | (with_reducible assumption) | assumption)
            have q394 : x5_1 < (l0.length : Int) := of_decide_eq_true (by first | (with_reducible assumption) | assumption)
            obtain ⟨ad394, e394, hx394_0⟩ := Kd.at_int HR0.out x5_1 p394 q394
            cases e394
            replace hx394_0 := (HB.out.cell (World.block_lt_of_cell? w _ hx394_0)).trans hx394_0
            replace p394 := eq_true p394
            replace q394 := eq_true q394
            go_wp2_with (first | ((with_reducible refine atCallee (f := 26) rfl ?_); refine goesL_ (some 20) rfl rfl Try.func26 (by kernel_rfl) rfl #[.int .i64 (rd l0 x5_1)] rfl (by (try simp only [List.map_toArray, List.map_cons, List.map_nil]); first | done | rfl | (simp only [List.length_drop, List.length_take]; rfl)) ?_; (with_reducible refine (stanchionref01_Num.calls k1 (rd l0 x5_1) t395 t396 _ A6.out).mono ?_); rintro e w12 ⟨v397, rfl, ho0, hb⟩; refine ⟨_, rfl, ?_⟩; have n0_ := Aside0.mk (Kd.R_elder' (by (with_reducible repeat (first | apply Kd.R_alloc | apply Kd.R_drewN | apply Kd.R_drew)); exact HO_4.out) (Kd.R_base ho0) hb); have n1_ := Aside0.mk (Kd.R_lower (Kd.R_new' ho0 (Kd.R_lt (by (with_reducible repeat (first | apply Kd.R_alloc | apply Kd.R_drewN | apply Kd.R_drew)); exact HO_4.out))) (below_size (by repeat (first | (with_reducible first | exact HB.out | apply below_alloc | apply pw_below_drewN | apply below_drew1) | exact HB.out)))); have n2_ := Aside0.mk (below_step (by repeat (first | (with_reducible first | exact HB.out | apply below_alloc | apply pw_below_drewN | apply below_drew1) | exact HB.out)) hb); clear HO_4; clear HB; have HO_4 := n0_; have HO398 := n1_; have HB := n2_; clear n0_ n1_ n2_; (try clear hb); (try clear hb2); (try clear hk); (try clear hi); (try clear ho0)))
            go_ret2
            exact ⟨_, by first | rfl | (simp [errW_none, errW_some] <;> rfl) | (simp [*, errW_none, errW_some] <;> rfl), by first | exact Kd.R_nil _ _ _ _ _ | exact Kd.N_nil _ _ _ _ _ | exact Kd.V_nil _ _ _ _ _ | exact Kd.Q_nil _ _ _ _ _ | exact Kd.S_nil _ _ _ _ _, by repeat (first | (with_reducible first | exact HB.out | apply below_alloc | apply pw_below_drewN | apply below_drew1) | exact HB.out)⟩
        · rw [if_neg c5] at H
          exact absurd H (by simp)
      · rw [if_neg c4] at H
        have c4b0 : decide (x5_1 < (l0.length : Int)) = false := decide_eq_false c4
        clear c4
        simp only [Option.some.injEq, Prod.mk.injEq] at H
        obtain ⟨rfl, rfl⟩ := H
        go_wp2
        go_ret2
        exact ⟨_, by first | rfl | (simp [errW_none, errW_some] <;> rfl) | (simp [*, errW_none, errW_some] <;> rfl), by (with_reducible repeat (first | apply Kd.R_alloc | apply Kd.R_drewN | apply Kd.R_drew)); exact HO_4.out, by repeat (first | (with_reducible first | exact HB.out | apply below_alloc | apply pw_below_drewN | apply below_drew1) | exact HB.out)⟩

end Go.Proofs.Ytijccobeljoikaa.Pk
namespace Go.Proofs.Ytijccobeljoikaa.Pk
open Go.RowKit Go.Proofs.YtijccobeljoikaaW.PrintWords Go.Proofs.YtijccobeljoikaaW.PrintLast
open Go.Proofs.Ytijccobeljoikaa.Plain Go.Proofs.Ytijccobeljoikaa.Walks
set_option linter.unusedVariables false
set_option linter.unusedSimpArgs false
end Go.Proofs.Ytijccobeljoikaa.Pk
namespace Go.Proofs.Ytijccobeljoikaa.Ms
open Go.RowKit Go.Proofs.YtijccobeljoikaaW.PrintWords Go.Proofs.YtijccobeljoikaaW.PrintLast
open Go.Proofs.Ytijccobeljoikaa.Plain Go.Proofs.Ytijccobeljoikaa.Walks
set_option linter.unusedVariables false
set_option linter.unusedSimpArgs false
end Go.Proofs.Ytijccobeljoikaa.Ms

/- msg: the document: is a number, a letter, an entry right? -/
namespace Go.Proofs.Ytijccobeljoikaa.Ms
open Go.RowKit Go.Proofs.YtijccobeljoikaaW.PrintWords Go.Proofs.YtijccobeljoikaaW.PrintLast
open Go.Proofs.Ytijccobeljoikaa.Plain Go.Proofs.Ytijccobeljoikaa.Walks
set_option linter.unusedVariables false
set_option linter.unusedSimpArgs false
set_option maxHeartbeats 4000000 in
theorem wide141_calls (v : Int) (w : World) : Calls Try.prog 141 #[.int .i64 v] w fun e w' => e = .returned (.bool (!narrow v)) ∧ w' = w := by
  by_cases h0 : 0 ≤ v
  · by_cases h1 : v < 1099511627776
    · have b0 : decide (0 ≤ v) = true := decide_eq_true h0
      have b1 : decide (v < 1099511627776) = true := decide_eq_true h1
      have HQ := Aside0.mk (show (!narrow v) = true by simp [narrow]; omega)
      clear h0 h1
      go_enter Try.func141, Try.ntmps141
      go_wp2
      go_ret
      exact ⟨by rw [HQ.out]; rfl, rfl⟩
    · have b0 : decide (0 ≤ v) = true := decide_eq_true h0
      have b1 : decide (v < 1099511627776) = false := decide_eq_false h1
      have HQ := Aside0.mk (show (!narrow v) = false by simp [narrow]; omega)
      clear h0 h1
      go_enter Try.func141, Try.ntmps141
      go_wp2
      go_ret
      exact ⟨by rw [HQ.out]; rfl, rfl⟩
  · have b0 : decide (0 ≤ v) = false := decide_eq_false h0
    have HQ := Aside0.mk (show (!narrow v) = false by simp [narrow]; omega)
    clear h0
    go_enter Try.func141, Try.ntmps141
    go_wp2
    go_ret
    exact ⟨by rw [HQ.out]; rfl, rfl⟩
set_option maxHeartbeats 4000000 in
theorem peer142_calls (v : Int) (w : World) : Calls Try.prog 142 #[.int .i64 v] w fun e w' => e = .returned (.bool (withinB v 0 7)) ∧ w' = w := by
  by_cases h0 : 0 ≤ v
  · by_cases h1 : v < 8
    · have b0 : decide (0 ≤ v) = true := decide_eq_true h0
      have b1 : decide (v < 8) = true := decide_eq_true h1
      have HQ := Aside0.mk (show withinB v 0 7 = true by simp [withinB]; omega)
      clear h0 h1
      go_enter Try.func142, Try.ntmps142
      go_wp2
      go_ret
      exact ⟨by rw [HQ.out]; rfl, rfl⟩
    · have b0 : decide (0 ≤ v) = true := decide_eq_true h0
      have b1 : decide (v < 8) = false := decide_eq_false h1
      have HQ := Aside0.mk (show withinB v 0 7 = false by simp [withinB]; omega)
      clear h0 h1
      go_enter Try.func142, Try.ntmps142
      go_wp2
      go_ret
      exact ⟨by rw [HQ.out]; rfl, rfl⟩
  · have b0 : decide (0 ≤ v) = false := decide_eq_false h0
    have HQ := Aside0.mk (show withinB v 0 7 = false by simp [withinB]; omega)
    clear h0
    go_enter Try.func142, Try.ntmps142
    go_wp2
    go_ret
    exact ⟨by rw [HQ.out]; rfl, rfl⟩
set_option maxHeartbeats 8000000 in
set_option maxRecDepth 100000 in
/-- letter: is it right? -/
theorem letter116_calls (x : S72) (A3 : Option Addr) (c3 : Nat) (A4 : Option Addr) (c4 : Nat) (w : World) (hC4 : Kd.C (Kd.slice 5 (Kd.int .u8)) w A4 x.f3.length x.f3) :
    Calls Try.prog 116 #[.agg #[.int .i64 x.f0.f0, .int .i64 x.f0.f1, .int .i64 x.f1, .slice A3 x.f2.length c3, .slice A4 x.f3.length c4]] w fun e w' => e = .returned (.bool (goodLetter x)) ∧ Below w.heap.size w w' := by
  have hu72 := Try.underlying72
  have hm := hC4.2.1
  have HC4 := Aside0.mk (Kd.C_alloc hC4 (.cells #[.int .i64 x.f0.f0, .int .i64 x.f0.f1, .int .i64 x.f1, .slice A3 x.f2.length c3, .slice A4 x.f3.length c4] 72))
  have HB0 := Aside0.mk (below_alloc (Below.refl w.heap.size w) (.cells #[.int .i64 x.f0.f0, .int .i64 x.f0.f1, .int .i64 x.f1, .slice A3 x.f2.length c3, .slice A4 x.f3.length c4] 72))
  have HX0 := Aside0.mk (blk_new w (.cells #[.int .i64 x.f0.f0, .int .i64 x.f0.f1, .int .i64 x.f1, .slice A3 x.f2.length c3, .slice A4 x.f3.length c4] 72))
  clear hC4
  go_enter Try.func116, Try.ntmps116
  go_upto_region 1 with (fail)
  generalize w.alloc (.cells #[.int .i64 x.f0.f0, .int .i64 x.f0.f1, .int .i64 x.f1, .slice A3 x.f2.length c3, .slice A4 x.f3.length c4] 72) = w0 at HC4 HB0 HX0 ⊢
  have x0 : w0.cell? ⟨w.heap.size, 0, none⟩ = some (.int .i64 x.f0.f0) := (blk_cell HX0.out 0).trans rfl
  have x1 : w0.cell? ⟨w.heap.size, 1, none⟩ = some (.int .i64 x.f0.f1) := (blk_cell HX0.out 1).trans rfl
  have x2 : w0.cell? ⟨w.heap.size, 2, none⟩ = some (.int .i64 x.f1) := (blk_cell HX0.out 2).trans rfl
  have x3 : w0.cell? ⟨w.heap.size, 3, none⟩ = some (.slice A3 x.f2.length c3) := (blk_cell HX0.out 3).trans rfl
  have x4 : w0.cell? ⟨w.heap.size, 4, none⟩ = some (.slice A4 x.f3.length c4) := (blk_cell HX0.out 4).trans rfl
  by_cases h : x.f0.f0 < 1
  · have b0 : decide (x.f0.f0 < 1) = true := decide_eq_true h
    have HQ := Aside0.mk (Bool.eq_false_iff.2 (fun hg : goodLetter x = true => by have := (good72.1 hg).r0; omega))
    clear h
    go_wp2_with (fail)
    go_ret
    exact ⟨by rw [HQ.out]; rfl, HB0.out⟩
  · have b0 : decide (x.f0.f0 < 1) = false := decide_eq_false h
    have HN0 := Aside0.mk h
    clear h
    by_cases h : 4 < x.f0.f0
    · have b1 : decide (4 < x.f0.f0) = true := decide_eq_true h
      have HQ := Aside0.mk (Bool.eq_false_iff.2 (fun hg : goodLetter x = true => by have := (good72.1 hg).r0; omega))
      clear h
      go_wp2_with (fail)
      go_ret
      exact ⟨by rw [HQ.out]; rfl, HB0.out⟩
    · have b1 : decide (4 < x.f0.f0) = false := decide_eq_false h
      have HN1 := Aside0.mk h
      clear h
      by_cases h : x.f1 < 1
      · have b2 : decide (x.f1 < 1) = true := decide_eq_true h
        have HQ := Aside0.mk (Bool.eq_false_iff.2 (fun hg : goodLetter x = true => by have := (good72.1 hg).r1; omega))
        clear h
        go_wp2_with (fail)
        go_ret
        exact ⟨by rw [HQ.out]; rfl, HB0.out⟩
      · have b2 : decide (x.f1 < 1) = false := decide_eq_false h
        have HN2 := Aside0.mk h
        clear h
        by_cases h : 4 < x.f1
        · have b3 : decide (4 < x.f1) = true := decide_eq_true h
          have HQ := Aside0.mk (Bool.eq_false_iff.2 (fun hg : goodLetter x = true => by have := (good72.1 hg).r1; omega))
          clear h
          go_wp2_with (fail)
          go_ret
          exact ⟨by rw [HQ.out]; rfl, HB0.out⟩
        · have b3 : decide (4 < x.f1) = false := decide_eq_false h
          have HN3 := Aside0.mk h
          clear h
          by_cases h : x.f0.f1 < 0
          · have b4 : decide (x.f0.f1 < 0) = true := decide_eq_true h
            have HQ := Aside0.mk (Bool.eq_false_iff.2 (fun hg : goodLetter x = true => by have := (good72.1 hg).r2; omega))
            clear h
            go_wp2_with (fail)
            go_ret
            exact ⟨by rw [HQ.out]; rfl, HB0.out⟩
          · have b4 : decide (x.f0.f1 < 0) = false := decide_eq_false h
            have HN4 := Aside0.mk h
            clear h
            by_cases h : 63 < x.f0.f1
            · have b5 : decide (63 < x.f0.f1) = true := decide_eq_true h
              have HQ := Aside0.mk (Bool.eq_false_iff.2 (fun hg : goodLetter x = true => by have := (good72.1 hg).r2; omega))
              clear h
              go_wp2_with (fail)
              go_ret
              exact ⟨by rw [HQ.out]; rfl, HB0.out⟩
            · have b5 : decide (63 < x.f0.f1) = false := decide_eq_false h
              have HN5 := Aside0.mk h
              clear h
              by_cases h : (65536 : Int) < (x.f2.length : Int)
              · have b6 : decide ((65536 : Int) < (x.f2.length : Int)) = true := decide_eq_true h
                have n6 : decide (65536 < x.f2.length) = true := decide_eq_true (by omega)
                have HQ := Aside0.mk (Bool.eq_false_iff.2 (fun hg : goodLetter x = true => by have := (good72.1 hg).body; omega))
                clear h
                go_wp2_with (fail)
                go_ret
                exact ⟨by rw [HQ.out]; rfl, HB0.out⟩
              · have b6 : decide ((65536 : Int) < (x.f2.length : Int)) = false := decide_eq_false h
                have n6 : decide (65536 < x.f2.length) = false := decide_eq_false (by omega)
                have HN6 := Aside0.mk h
                clear h
                by_cases h : (64 : Int) < (x.f3.length : Int)
                · have b7 : decide ((64 : Int) < (x.f3.length : Int)) = true := decide_eq_true h
                  have n7 : decide (64 < x.f3.length) = true := decide_eq_true (by omega)
                  have HQ := Aside0.mk (Bool.eq_false_iff.2 (fun hg : goodLetter x = true => by have := (good72.1 hg).many; omega))
                  clear h
                  go_wp2_with (fail)
                  go_ret
                  exact ⟨by rw [HQ.out]; rfl, HB0.out⟩
                · have b7 : decide ((64 : Int) < (x.f3.length : Int)) = false := decide_eq_false h
                  have n7 : decide (64 < x.f3.length) = false := decide_eq_false (by omega)
                  have HN7 := Aside0.mk h
                  clear h
                  go_wp2_with (fail)
                  go_loopw [3] (fun u wr => ∃ i : Nat, u = .int .i64 (i : Int) ∧ i ≤ x.f3.length ∧ Aside0 (∀ t ∈ x.f3.take i, t.length ≤ 16) ∧ wr = w0) (fun u _ => x.f3.length - (intOf u).toNat)
                  case atStart => exact ⟨0, rfl, Nat.zero_le _, ⟨by simp⟩, rfl⟩
                  case round =>
                    obtain ⟨i, rfl, hi, HT, rfl⟩ := hrel
                    by_cases hlt : i < x.f3.length
                    · have d0 : decide ((i : Int) < (x.f3.length : Int)) = true := decide_eq_true (by omega)
                      have d0' : decide (i < x.f3.length) = true := decide_eq_true hlt
                      have p0 : (0 ≤ (i : Int)) = True := eq_true (by omega)
                      have p1 : ((i : Int) < (x.f3.length : Int)) = True := eq_true (by omega)
                      obtain ⟨ad, B, d, e, hx, hl, hC⟩ := at_L3 HC4.out (i : Int) (by omega) (by omega)
                      subst e
                      rw [Int.toNat_natCast] at hx
                      obtain ⟨r, hr⟩ : ∃ r, r = rd_L3 x.f3 (i : Int) := ⟨_, rfl⟩
                      rw [← hr] at hx hl hC
                      have HRI := Aside0.mk (show r = x.f3[i] by rw [hr]; simp [rd_L3, List.getD_eq_getElem?_getD, hlt])
                      clear hr hl hC
                      by_cases h : (16 : Int) < (r.length : Int)
                      · have e0 : decide ((16 : Int) < (r.length : Int)) = true := decide_eq_true h
                        have e0' : decide (16 < r.length) = true := decide_eq_true (by omega)
                        have HQ := Aside0.mk (Bool.eq_false_iff.2 (fun hg : goodLetter x = true => by have := (good72.1 hg).tags r (by rw [HRI.out]; exact List.getElem_mem hlt); omega))
                        clear h
                        go_wp2_with (fail)
                        go_ret
                        exact ⟨by rw [HQ.out]; rfl, HB0.out⟩
                      · have e0 : decide ((16 : Int) < (r.length : Int)) = false := decide_eq_false h
                        have e0' : decide (16 < r.length) = false := decide_eq_false (by omega)
                        have HR := Aside0.mk h
                        clear h
                        go_wp2_with (fail)
                        exact ⟨⟨i + 1, by simp, by omega, ⟨fun t ht => by
                          rw [← List.take_append_getElem hlt, List.mem_append, List.mem_singleton] at ht
                          rcases ht with ht | ht
                          · exact HT.out t ht
                          · rw [ht, ← HRI.out]; have := HR.out; omega⟩, by first | rfl | trivial⟩, by simp only [intOf]; omega⟩
                    · have d0 : decide ((i : Int) < (x.f3.length : Int)) = false := decide_eq_false (by omega)
                      have d0' : decide (i < x.f3.length) = false := decide_eq_false hlt
                      have HQ := Aside0.mk (show goodLetter x = true from good72.2 ⟨by have := HN0.out; have := HN1.out; omega, by have := HN2.out; have := HN3.out; omega, by have := HN4.out; have := HN5.out; omega, by have := HN6.out; omega, by have := HN7.out; omega, fun t ht => HT.out t (by rw [List.take_of_length_le (by omega)]; exact ht)⟩)
                      go_wp2_with (fail)
                      go_ret
                      exact ⟨by rw [HQ.out]; rfl, HB0.out⟩
set_option maxHeartbeats 8000000 in
set_option maxRecDepth 100000 in
/-- entry: is it right? -/
theorem entry119_calls (x : S87) (A3 : Option Addr) (c3 : Nat) (w : World) :
    Calls Try.prog 119 #[.agg #[.int .i64 x.f0, .int .i64 x.f1, .int .i64 x.f2, .slice A3 x.f3.length c3]] w fun e w' => e = .returned (.bool (goodEntry x)) ∧ Below w.heap.size w w' := by
  have hu87 := Try.underlying87
  have HB0 := Aside0.mk (below_alloc (Below.refl w.heap.size w) (.cells #[.int .i64 x.f0, .int .i64 x.f1, .int .i64 x.f2, .slice A3 x.f3.length c3] 87))
  have HX0 := Aside0.mk (blk_new w (.cells #[.int .i64 x.f0, .int .i64 x.f1, .int .i64 x.f2, .slice A3 x.f3.length c3] 87))
  go_enter Try.func119, Try.ntmps119
  go_upto_region 1 with (fail)
  generalize w.alloc (.cells #[.int .i64 x.f0, .int .i64 x.f1, .int .i64 x.f2, .slice A3 x.f3.length c3] 87) = w0 at HB0 HX0 ⊢
  have x0 : w0.cell? ⟨w.heap.size, 0, none⟩ = some (.int .i64 x.f0) := (blk_cell HX0.out 0).trans rfl
  have x1 : w0.cell? ⟨w.heap.size, 1, none⟩ = some (.int .i64 x.f1) := (blk_cell HX0.out 1).trans rfl
  have x2 : w0.cell? ⟨w.heap.size, 2, none⟩ = some (.int .i64 x.f2) := (blk_cell HX0.out 2).trans rfl
  have x3 : w0.cell? ⟨w.heap.size, 3, none⟩ = some (.slice A3 x.f3.length c3) := (blk_cell HX0.out 3).trans rfl
  cases h0 : (x.f0 == -1) with
  | true =>
    cases h1 : (x.f1 == 0) with
    | false =>
      have HQ := Aside0.mk (show goodEntry x = false by simp at h0 h1; simp [goodEntry, h0, h1])
      go_wp2_with (fail)
      go_ret
      exact ⟨by rw [HQ.out]; rfl, HB0.out⟩
    | true =>
      cases h2 : (x.f3.length == 0) with
      | false =>
        have h2' : ((x.f3.length : Int) == 0) = false := by simp at h2 ⊢; omega
        have HQ := Aside0.mk (show goodEntry x = false by simp at h0 h1 h2; simp [goodEntry, h0, h1, h2])
        go_wp2_with (fail)
        go_ret
        exact ⟨by rw [HQ.out]; rfl, HB0.out⟩
      | true =>
        have h2' : ((x.f3.length : Int) == 0) = true := by simp at h2 ⊢; omega
        obtain ⟨q, hq⟩ : ∃ q, (!narrow x.f2) = q := ⟨_, rfl⟩
        have HQ := Aside0.mk (show goodEntry x = q by rw [← hq]; simp at h0 h1 h2; simp [goodEntry, h0, h1, h2])
        go_wp2_with (fail)
        refine (wide141_calls x.f2 w0).mono ?_
        rw [hq]
        rintro e w' ⟨rfl, rfl⟩
        clear hq
        go_wp2_with (fail)
        go_ret
        exact ⟨by rw [HQ.out]; rfl, HB0.out⟩
  | false =>
    obtain ⟨q0, hq0⟩ : ∃ q, withinB x.f0 0 7 = q := ⟨_, rfl⟩
    obtain ⟨q1, hq1⟩ : ∃ q, (!narrow x.f1) = q := ⟨_, rfl⟩
    obtain ⟨q2, hq2⟩ : ∃ q, (!narrow x.f2) = q := ⟨_, rfl⟩
    obtain ⟨q3, h3⟩ : ∃ q, (x.f3.length == 32) = q := ⟨_, rfl⟩
    have h3' : ((x.f3.length : Int) == 32) = q3 := by
      rw [← h3]
      cases hh : (x.f3.length == 32) with
      | true => simp at hh ⊢; omega
      | false => simp at hh ⊢; omega
    have HQ := Aside0.mk (show goodEntry x = (q0 && (q1 && q2) && q3) by
      simp at h0
      have e1 : decide (x.f3.length = 32) = q3 := by rw [← h3]; cases hh : (x.f3.length == 32) <;> simp at hh ⊢ <;> omega
      rw [goodEntry, if_neg h0, hq0, e1, ← hq1, ← hq2]
      simp)
    go_wp2_with (fail)
    refine (peer142_calls x.f0 w0).mono ?_
    rw [hq0]
    rintro e w' ⟨rfl, rfl⟩
    cases q0 with
    | false =>
      go_wp2_with (fail)
      go_ret
      exact ⟨by rw [HQ.out]; rfl, HB0.out⟩
    | true =>
      clear hq0
      go_wp2_with (fail)
      refine (wide141_calls x.f1 _).mono ?_
      rw [hq1]
      rintro e w' ⟨rfl, rfl⟩
      cases q1 with
      | false =>
        go_wp2_with (fail)
        go_ret
        exact ⟨by rw [HQ.out]; rfl, HB0.out⟩
      | true =>
        clear hq1
        go_wp2_with (fail)
        refine (wide141_calls x.f2 _).mono ?_
        rw [hq2]
        rintro e w' ⟨rfl, rfl⟩
        cases q2 with
        | false =>
          go_wp2_with (fail)
          go_ret
          exact ⟨by rw [HQ.out]; rfl, HB0.out⟩
        | true =>
          clear hq2
          go_wp2_with (fail)
          go_ret
          exact ⟨by rw [HQ.out]; cases q3 <;> rfl, HB0.out⟩
end Go.Proofs.Ytijccobeljoikaa.Ms
