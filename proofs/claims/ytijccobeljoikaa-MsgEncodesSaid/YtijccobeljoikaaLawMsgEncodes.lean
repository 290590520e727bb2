/- Rows.MsgEncodesSaid is proved: for every input of its types the Go function of that name returns true, and each argument reads behind the call as it read before; there is no condition. -/
import Derived.Test.YtijccobeljoikaaRows
import Derived.Test.YtijccobeljoikaaHead
import Derived.Test.YtijccobeljoikaaMh20
import Derived.WalkKit
import Derived.ProofKit
import Derived.OpenShut
import Derived.ShutString
import Derived.ChangeOld
import Derived.Below
import Derived.SizedLaws
import Derived.Test.YtijccobeljoikaaWSized
namespace Go.Proofs.Ytijccobeljoikaa.msgEncodes
open Go.ChangeShapes Go.WideShapes Go.ChangeAt Go.RowKit
set_option linter.unusedVariables false
theorem own : ownKnob Try.prog.godebug = none := by kernel_rfl
theorem laidOut : laidOutB Try.prog = true := by kernel_rfl
set_option maxRecDepth 100000 in
theorem lifted (os : Os) (started : os.Started) (H : Type) (enc : TypeId × Value → H) :
    ReturnsInHanded {} Try.checked os 17 .any (Rows.msgEncodesSpec.pre6 enc Try.prog Try.f17 Rows.msgEncodesRow.domain false) (Rows.msgEncodesSpec.post enc Try.prog Try.f17 false true false false) := by
  refine returnsInHanded_of_change_sized (C := Try.checked) own started (by kernel_rfl) Try.func17
    (ChangeSpec.witness6 (enc := enc) (C := Try.checked) false ⟨#[], #[.agg #[.int .i64 0, .int .i64 0, .int .i64 0, .int .i64 0, .int .i64 0, .int .i64 0, .int .i64 0, .int .i64 0, .slice none 0 0, .slice none 0 0, .slice none 0 0, .slice none 0 0, .slice none 0 0]], []⟩ 8 (by kernel_rfl) (by kernel_rfl) (by kernel_rfl) (by kernel_rfl)) ?_
  intro W base args ds gs before hval0 hW hcnd hsz0 _
  have hsz : (DataW.weightsEach Try.prog (Try.f17.params.toList ++ Rows.msgEncodesSpec.plain.varTypes Try.prog) (ds ++ gs)).all (· ≤ reachBytes) = true := hsz0
  have hval : ∀ (j : Nat) t v, Try.f17.params[j]? = some t → args[j]? = some v → Value.okWide Try.prog W .any base t v := hval0
  have hW' := hW
  obtain ⟨p, q, hA0, hV, rfl, hfz, hnd⟩ := hW
  have hA : DataW.TrodAll enc Try.prog W 0 (fun _ => true) true Try.f17.params.toList args.toList ds p := hA0
  rw [Try.params17] at hA hval hsz
  obtain ⟨v0, vs0, d0, ds0, p0, q0, hargs, rfl, rfl, h0, r0⟩ := trodAll_cons hA
  obtain ⟨rfl, rfl, rfl⟩ := trodAll_nil r0
  obtain rfl : args = #[v0] := by cases args; simp_all
  obtain ⟨rfl, rfl⟩ := trodVars_none hV
  obtain ⟨cs0, rfl, sz0⟩ := okWide_struct Try.underlying91 (hval 0 91 v0 rfl rfl)
  have k0 := h0
  have lt0 : ∀ x ∈ p0, x.block < W.heap.size := by obtain ⟨m, hm⟩ := k0; exact DataW.trod_lt m _ _ _ hm
  obtain ⟨x0, hK0, hG0⟩ := Opens.open_arg Opens.o91 hsz (j := 0) rfl rfl h0
  clear hA0 hval0 hsz0 hsz
  refine (Ms.encodes_opened hK0 hG0.1).mono fun e W' ⟨he, bel⟩ => ?_
  subst he
  exact ⟨_, rfl, _, _, _, [], _, [], hW', trodAll_mk1 (shut_bool Try.underlying4 _), (trodAll_cons_mk (Below.trod laidOut (by kernel_rfl) (of_decide_eq_true (by kernel_rfl)) k0 bel lt0) trodAll_mk0), rfl, bel.frame _, fun h => by cases h⟩
theorem f27 : (Rows.msgEncodesRow.lifted == false) = true := by kernel_rfl
theorem f28 : (some Make.cut == some Rows.msgEncodesRow.make) = true := by kernel_rfl
set_option maxHeartbeats 8000000 in
theorem facts : joinedFacts Try.prog 17 Try.f17 Rows.msgEncodesSpec Rows.msgEncodesRow = true := by
  simp only [joinedFacts, Bool.and_eq_true]
  refine ⟨⟨⟨⟨⟨⟨⟨⟨⟨⟨⟨⟨⟨⟨⟨⟨⟨⟨⟨⟨⟨⟨⟨⟨⟨⟨⟨⟨⟨⟨⟨?_, Head.laidOut_is⟩, Head.mapsRowed_is⟩, ?_⟩, ?_⟩, ?_⟩, ?_⟩, ?_⟩, ?_⟩, ?_⟩, ?_⟩, ?_⟩, ?_⟩, ?_⟩, ?_⟩, ?_⟩, ?_⟩, ?_⟩, ?_⟩, ?_⟩, ?_⟩, ?_⟩, ?_⟩, ?_⟩, Head.stopsHeard_is⟩, Head.mayEnter_is⟩, by rw [Head.lifts_is]; exact f27⟩, by rw [Head.make_is]; exact f28⟩, ?_⟩, ?_⟩, ?_⟩, ?_⟩
  all_goals (as_aux_lemma => kernel_rfl)
theorem inst : Func.isInstance Try.prog Try.f17 Rows.msgEncodesRow.origin Rows.msgEncodesRow.targs := of_decide_eq_true (by kernel_rfl)
theorem named : Try.prog.funcNamed Rows.msgEncodesRow.func = some 17 := by kernel_rfl
theorem wrap : Func.isWrapper Try.prog Try.f17 Rows.msgEncodesRow.wrapper Rows.msgEncodesRow.mainSum := by unfold Func.isWrapper; rw [if_neg (of_decide_eq_false (by kernel_rfl))]; exact ⟨rfl, rfl⟩
theorem over : Rows.msgEncodesRow.holds Try.pinned (OpenSpec.ofChange Rows.msgEncodesSpec) :=
  OpenClaim.holds_of_wide 17 Try.f17 rfl rfl rfl rfl rfl rfl rfl ⟨rfl, rfl, rfl, rfl, rfl⟩ rfl rfl rfl rfl rfl named Try.func17 facts inst wrap
    (fun os started H enc _ => lifted os started H enc)
theorem proved : Rows.MsgEncodesSaid := over
#print axioms proved
end Go.Proofs.Ytijccobeljoikaa.msgEncodes
namespace Go.Proofs.Ytijccobeljoikaa
/-- The row, under a short name, for the claim. -/
theorem msgEncodes_holds : Rows.MsgEncodesSaid := msgEncodes.proved
end Go.Proofs.Ytijccobeljoikaa
