/- Rows.NetStepsSaid is proved: for every input of its types the Go function of that name returns true, and each argument reads behind the call as it read before; there is no condition. -/
import Derived.Test.YtijccobeljoikaaRows
import Derived.Test.YtijccobeljoikaaHead
import Derived.Test.YtijccobeljoikaaNetO
import Derived.Test.YtijccobeljoikaaNetOpens
import Derived.WalkKit
import Derived.ProofKit
import Derived.OpenShut
import Derived.ShutString
import Derived.ChangeOld
import Derived.Below
import Derived.SizedLaws
import Derived.Test.YtijccobeljoikaaWSized
namespace Go.Proofs.Ytijccobeljoikaa.netSteps
open Go.ChangeShapes Go.WideShapes Go.ChangeAt Go.RowKit
set_option linter.unusedVariables false
theorem own : ownKnob Try.prog.godebug = none := by kernel_rfl
theorem laidOut : laidOutB Try.prog = true := by kernel_rfl
set_option maxRecDepth 100000 in
theorem lifted (os : Os) (started : os.Started) (H : Type) (enc : TypeId × Value → H) :
    ReturnsInHanded {} Try.checked os 14 .any (Rows.netStepsSpec.pre6 enc Try.prog Try.f14 Rows.netStepsRow.domain false) (Rows.netStepsSpec.post enc Try.prog Try.f14 false true false false) := by
  refine returnsInHanded_of_change_sized (C := Try.checked) own started (by kernel_rfl) Try.func14
    (ChangeSpec.witness6 (enc := enc) (C := Try.checked) false ⟨#[], #[.int .i64 0, .slice none 0 0], []⟩ 8 (by kernel_rfl) (by kernel_rfl) (by kernel_rfl) (by kernel_rfl)) ?_
  intro W base args ds gs before hval0 hW hcnd hsz0 _
  have hsz : (DataW.weightsEach Try.prog (Try.f14.params.toList ++ Rows.netStepsSpec.plain.varTypes Try.prog) (ds ++ gs)).all (· ≤ reachBytes) = true := hsz0
  have hval : ∀ (j : Nat) t v, Try.f14.params[j]? = some t → args[j]? = some v → Value.okWide Try.prog W .any base t v := hval0
  have hW' := hW
  obtain ⟨p, q, hA0, hV, rfl, hfz, hnd⟩ := hW
  have hA : DataW.TrodAll enc Try.prog W 0 (fun _ => true) true Try.f14.params.toList args.toList ds p := hA0
  rw [Try.params14] at hA hval hsz
  obtain ⟨v0, vs0, d0, ds0, p0, q0, hargs, rfl, rfl, h0, r0⟩ := trodAll_cons hA
  obtain ⟨v1, vs1, d1, ds1, p1, q1, rfl, rfl, rfl, h1, r1⟩ := trodAll_cons r0
  obtain ⟨rfl, rfl, rfl⟩ := trodAll_nil r1
  obtain rfl : args = #[v0, v1] := by cases args; simp_all
  obtain ⟨rfl, rfl⟩ := trodVars_none hV
  obtain ⟨a0, rfl, rfl, rfl, w0⟩ := open_int Try.underlying3 (hval 0 3 v0 rfl rfl) h0
  obtain ⟨a1, len1, c1, rfl⟩ := okWide_slice Try.underlying54 (hval 1 54 v1 rfl rfl)
  have k1 := h1
  have lt1 : ∀ x ∈ p1, x.block < W.heap.size := by obtain ⟨m, hm⟩ := k1; exact DataW.trod_lt m _ _ _ hm
  obtain ⟨l1, rfl, hc1, hC1, hG1⟩ := Opens.open_slice_arg Opens.m54 hsz (j := 1) rfl rfl h1
  clear hA0 hval0 hsz0 hsz
  refine (Nt.netSteps_calls a0 a1 c1 l1 W hC1 hc1 hG1.1 hG1.2).mono fun e W' ⟨he, bel⟩ => ?_
  subst he
  exact ⟨_, rfl, _, _, _, [], _, [], hW', trodAll_mk1 (shut_bool Try.underlying4 _), (trodAll_cons_mk (shut_int Try.underlying3 w0) (trodAll_cons_mk (Below.trod laidOut (by kernel_rfl) (of_decide_eq_true (by kernel_rfl)) k1 bel lt1) trodAll_mk0)), rfl, bel.frame _, fun h => by cases h⟩
theorem f27 : (Rows.netStepsRow.lifted == false) = true := by kernel_rfl
theorem f28 : (some Make.cut == some Rows.netStepsRow.make) = true := by kernel_rfl
theorem facts : joinedFacts Try.prog 14 Try.f14 Rows.netStepsSpec Rows.netStepsRow = true := by
  simp only [joinedFacts, Bool.and_eq_true]
  refine ⟨⟨⟨⟨⟨⟨⟨⟨⟨⟨⟨⟨⟨⟨⟨⟨⟨⟨⟨⟨⟨⟨⟨⟨⟨⟨⟨⟨⟨⟨⟨?_, Head.laidOut_is⟩, Head.mapsRowed_is⟩, ?_⟩, ?_⟩, ?_⟩, ?_⟩, ?_⟩, ?_⟩, ?_⟩, ?_⟩, ?_⟩, ?_⟩, ?_⟩, ?_⟩, ?_⟩, ?_⟩, ?_⟩, ?_⟩, ?_⟩, ?_⟩, ?_⟩, ?_⟩, ?_⟩, Head.stopsHeard_is⟩, Head.mayEnter_is⟩, by rw [Head.lifts_is]; exact f27⟩, by rw [Head.make_is]; exact f28⟩, ?_⟩, ?_⟩, ?_⟩, ?_⟩
  all_goals (as_aux_lemma => kernel_rfl)
theorem inst : Func.isInstance Try.prog Try.f14 Rows.netStepsRow.origin Rows.netStepsRow.targs := of_decide_eq_true (by kernel_rfl)
theorem named : Try.prog.funcNamed Rows.netStepsRow.func = some 14 := by kernel_rfl
theorem wrap : Func.isWrapper Try.prog Try.f14 Rows.netStepsRow.wrapper Rows.netStepsRow.mainSum := by unfold Func.isWrapper; rw [if_neg (of_decide_eq_false (by kernel_rfl))]; exact ⟨rfl, rfl⟩
theorem over : Rows.netStepsRow.holds Try.pinned (OpenSpec.ofChange Rows.netStepsSpec) :=
  OpenClaim.holds_of_wide 14 Try.f14 rfl rfl rfl rfl rfl rfl rfl ⟨rfl, rfl, rfl, rfl, rfl⟩ rfl rfl rfl rfl rfl named Try.func14 facts inst wrap
    (fun os started H enc _ => lifted os started H enc)
theorem proved : Rows.NetStepsSaid := over
#print axioms proved
end Go.Proofs.Ytijccobeljoikaa.netSteps
namespace Go.Proofs.Ytijccobeljoikaa
/-- The row, under a short name, for the claim. -/
theorem netSteps_holds : Rows.NetStepsSaid := netSteps.proved
end Go.Proofs.Ytijccobeljoikaa
