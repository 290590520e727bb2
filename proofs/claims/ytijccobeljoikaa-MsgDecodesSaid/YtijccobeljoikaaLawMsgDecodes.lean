/- Rows.MsgDecodesSaid is proved: for every input of its types the Go function of that name returns true, and each argument reads behind the call as it read before; there is no condition. -/
import Derived.Test.YtijccobeljoikaaRows
import Derived.Test.YtijccobeljoikaaHead
import Derived.Test.YtijccobeljoikaaMi23
import Derived.WalkKit
import Derived.ProofKit
import Derived.OpenShut
import Derived.ShutString
import Derived.ChangeOld
import Derived.Below
import Derived.SizedLaws
import Derived.Test.YtijccobeljoikaaWSized
namespace Go.Proofs.Ytijccobeljoikaa.msgDecodes
open Go.ChangeShapes Go.WideShapes Go.ChangeAt Go.RowKit
set_option linter.unusedVariables false
theorem own : ownKnob Try.prog.godebug = none := by kernel_rfl
theorem laidOut : laidOutB Try.prog = true := by kernel_rfl
set_option maxRecDepth 100000 in
theorem lifted (os : Os) (started : os.Started) (H : Type) (enc : TypeId × Value → H) :
    ReturnsInHanded {} Try.checked os 18 .any (Rows.msgDecodesSpec.pre6 enc Try.prog Try.f18 Rows.msgDecodesRow.domain false) (Rows.msgDecodesSpec.post enc Try.prog Try.f18 false true false false) := by
  refine returnsInHanded_of_change_sized (C := Try.checked) own started (by kernel_rfl) Try.func18
    (ChangeSpec.witness6 (enc := enc) (C := Try.checked) false ⟨#[], #[.slice none 0 0], []⟩ 8 (by kernel_rfl) (by kernel_rfl) (by kernel_rfl) (by kernel_rfl)) ?_
  intro W base args ds gs before hval0 hW hcnd hsz0 _
  have hsz : (DataW.weightsEach Try.prog (Try.f18.params.toList ++ Rows.msgDecodesSpec.plain.varTypes Try.prog) (ds ++ gs)).all (· ≤ reachBytes) = true := hsz0
  have hval : ∀ (j : Nat) t v, Try.f18.params[j]? = some t → args[j]? = some v → Value.okWide Try.prog W .any base t v := hval0
  have hW' := hW
  obtain ⟨p, q, hA0, hV, rfl, hfz, hnd⟩ := hW
  have hA : DataW.TrodAll enc Try.prog W 0 (fun _ => true) true Try.f18.params.toList args.toList ds p := hA0
  rw [Try.params18] at hA hval hsz
  obtain ⟨v0, vs0, d0, ds0, p0, q0, hargs, rfl, rfl, h0, r0⟩ := trodAll_cons hA
  obtain ⟨rfl, rfl, rfl⟩ := trodAll_nil r0
  obtain rfl : args = #[v0] := by cases args; simp_all
  obtain ⟨rfl, rfl⟩ := trodVars_none hV
  obtain ⟨a0, len0, c0, rfl⟩ := okWide_slice Try.underlying22 (hval 0 22 v0 rfl rfl)
  have k0 := h0
  have lt0 : ∀ x ∈ p0, x.block < W.heap.size := by obtain ⟨m, hm⟩ := k0; exact DataW.trod_lt m _ _ _ hm
  obtain ⟨l0, rfl, hc0, hC0, hG0⟩ := Opens.open_slice_arg Opens.o22 hsz (j := 0) rfl rfl h0
  clear hA0 hval0 hsz0 hsz
  refine (Ms.decodes_opened hC0 hc0 hG0.2).mono fun e W' ⟨he, bel⟩ => ?_
  subst he
  exact ⟨_, rfl, _, _, _, [], _, [], hW', trodAll_mk1 (shut_bool Try.underlying4 _), (trodAll_cons_mk (Below.trod laidOut (by kernel_rfl) (of_decide_eq_true (by kernel_rfl)) k0 bel lt0) trodAll_mk0), rfl, bel.frame _, fun h => by cases h⟩
theorem f27 : (Rows.msgDecodesRow.lifted == false) = true := by kernel_rfl
theorem f28 : (some Make.cut == some Rows.msgDecodesRow.make) = true := by kernel_rfl
set_option maxHeartbeats 8000000 in
theorem facts : joinedFacts Try.prog 18 Try.f18 Rows.msgDecodesSpec Rows.msgDecodesRow = true := by
  simp only [joinedFacts, Bool.and_eq_true]
  refine ⟨⟨⟨⟨⟨⟨⟨⟨⟨⟨⟨⟨⟨⟨⟨⟨⟨⟨⟨⟨⟨⟨⟨⟨⟨⟨⟨⟨⟨⟨⟨?_, Head.laidOut_is⟩, Head.mapsRowed_is⟩, ?_⟩, ?_⟩, ?_⟩, ?_⟩, ?_⟩, ?_⟩, ?_⟩, ?_⟩, ?_⟩, ?_⟩, ?_⟩, ?_⟩, ?_⟩, ?_⟩, ?_⟩, ?_⟩, ?_⟩, ?_⟩, ?_⟩, ?_⟩, ?_⟩, Head.stopsHeard_is⟩, Head.mayEnter_is⟩, by rw [Head.lifts_is]; exact f27⟩, by rw [Head.make_is]; exact f28⟩, ?_⟩, ?_⟩, ?_⟩, ?_⟩
  all_goals (as_aux_lemma => kernel_rfl)
theorem inst : Func.isInstance Try.prog Try.f18 Rows.msgDecodesRow.origin Rows.msgDecodesRow.targs := of_decide_eq_true (by kernel_rfl)
theorem named : Try.prog.funcNamed Rows.msgDecodesRow.func = some 18 := by kernel_rfl
theorem wrap : Func.isWrapper Try.prog Try.f18 Rows.msgDecodesRow.wrapper Rows.msgDecodesRow.mainSum := by unfold Func.isWrapper; rw [if_neg (of_decide_eq_false (by kernel_rfl))]; exact ⟨rfl, rfl⟩
theorem over : Rows.msgDecodesRow.holds Try.pinned (OpenSpec.ofChange Rows.msgDecodesSpec) :=
  OpenClaim.holds_of_wide 18 Try.f18 rfl rfl rfl rfl rfl rfl rfl ⟨rfl, rfl, rfl, rfl, rfl⟩ rfl rfl rfl rfl rfl named Try.func18 facts inst wrap
    (fun os started H enc _ => lifted os started H enc)
theorem proved : Rows.MsgDecodesSaid := over
#print axioms proved
end Go.Proofs.Ytijccobeljoikaa.msgDecodes
namespace Go.Proofs.Ytijccobeljoikaa
/-- The row, under a short name, for the claim. -/
theorem msgDecodes_holds : Rows.MsgDecodesSaid := msgDecodes.proved
end Go.Proofs.Ytijccobeljoikaa
