/- Rows.PackNamesSaid is proved: for every input of its types the Go function of that name returns true, and each argument reads behind the call as it read before; there is no condition. -/
/- Written by ownprint.py, an own program round the print: plain Lean functions for Go functions, and that the Go code comes to what they say. -/
import Derived.Test.YtijccobeljoikaaRows
import Derived.Test.YtijccobeljoikaaHead
import Derived.Test.YtijccobeljoikaaPkx1
import Derived.Test.YtijccobeljoikaaPurePackNames
import Derived.WalkKit
import Derived.ProofKit
import Derived.OpenShut
import Derived.ShutString
import Derived.ChangeOld
import Derived.Below
import Derived.SizedLaws
namespace Go.Proofs.Ytijccobeljoikaa.packNames
open Go.ChangeShapes Go.WideShapes Go.ChangeAt Go.RowKit
open Go.ChangeMaps (open_string shut_string)
set_option linter.unusedVariables false
theorem own : ownKnob Try.prog.godebug = none := by kernel_rfl
set_option maxRecDepth 100000 in
theorem lifted (os : Os) (started : os.Started) (H : Type) (enc : TypeId × Value → H) :
    ReturnsInHanded {} Try.checked os 3 .any (Rows.packNamesSpec.pre6 enc Try.prog Try.f3 Rows.packNamesRow.domain false) (Rows.packNamesSpec.post enc Try.prog Try.f3 false true false false) := by
  refine returnsInHanded_of_change_sized (C := Try.checked) own started (by kernel_rfl) Try.func3
    (ChangeSpec.witness6 (enc := enc) (C := Try.checked) false ⟨#[], #[], []⟩ 8 (by kernel_rfl) (by kernel_rfl) (by kernel_rfl) (by kernel_rfl)) ?_
  intro W base args ds gs before hval0 hW hcnd hsz0 _
  have hsz : (DataW.weightsEach Try.prog (Try.f3.params.toList ++ Rows.packNamesSpec.plain.varTypes Try.prog) (ds ++ gs)).all (· ≤ reachBytes) = true := hsz0
  have hval : ∀ (j : Nat) t v, Try.f3.params[j]? = some t → args[j]? = some v → Value.okWide Try.prog W .any base t v := hval0
  have hW' := hW
  obtain ⟨p, q, hA0, hV, rfl, hfz, hnd⟩ := hW
  have hA : DataW.TrodAll enc Try.prog W 0 (fun _ => true) true Try.f3.params.toList args.toList ds p := hA0
  rw [Try.params3] at hA hval hsz
  obtain ⟨rfl, rfl, rfl⟩ := trodAll_none hA
  obtain ⟨rfl, rfl⟩ := trodVars_none hV
  clear hA0 hval0 hsz0 hsz
  refine (Pk.stanchionlaw01_PackNames.walk Pure.PackNames  W ).mono fun e W' ⟨he, bel⟩ => ?_
  subst he
  exact ⟨_, rfl, _, _, _, [], _, [], hW', trodAll_mk1 (shut_bool Try.underlying4 _), trodAll_mk0, rfl, bel.frame _, fun h => by cases h⟩
theorem f27 : (Rows.packNamesRow.lifted == false) = true := by kernel_rfl
theorem f28 : (some Make.cut == some Rows.packNamesRow.make) = true := by kernel_rfl
theorem facts : joinedFacts Try.prog 3 Try.f3 Rows.packNamesSpec Rows.packNamesRow = true := by
  simp only [joinedFacts, Bool.and_eq_true]
  refine ⟨⟨⟨⟨⟨⟨⟨⟨⟨⟨⟨⟨⟨⟨⟨⟨⟨⟨⟨⟨⟨⟨⟨⟨⟨⟨⟨⟨⟨⟨⟨?_, Head.laidOut_is⟩, Head.mapsRowed_is⟩, ?_⟩, ?_⟩, ?_⟩, ?_⟩, ?_⟩, ?_⟩, ?_⟩, ?_⟩, ?_⟩, ?_⟩, ?_⟩, ?_⟩, ?_⟩, ?_⟩, ?_⟩, ?_⟩, ?_⟩, ?_⟩, ?_⟩, ?_⟩, ?_⟩, Head.stopsHeard_is⟩, Head.mayEnter_is⟩, by rw [Head.lifts_is]; exact f27⟩, by rw [Head.make_is]; exact f28⟩, ?_⟩, ?_⟩, ?_⟩, ?_⟩
  all_goals (as_aux_lemma => kernel_rfl)
theorem inst : Func.isInstance Try.prog Try.f3 Rows.packNamesRow.origin Rows.packNamesRow.targs := of_decide_eq_true (by kernel_rfl)
theorem named : Try.prog.funcNamed Rows.packNamesRow.func = some 3 := by kernel_rfl
theorem wrap : Func.isWrapper Try.prog Try.f3 Rows.packNamesRow.wrapper Rows.packNamesRow.mainSum := by unfold Func.isWrapper; rw [if_neg (of_decide_eq_false (by kernel_rfl))]; exact ⟨rfl, rfl⟩
theorem over : Rows.packNamesRow.holds Try.pinned (OpenSpec.ofChange Rows.packNamesSpec) :=
  OpenClaim.holds_of_wide 3 Try.f3 rfl rfl rfl rfl rfl rfl rfl ⟨rfl, rfl, rfl, rfl, rfl⟩ rfl rfl rfl rfl rfl named Try.func3 facts inst wrap
    (fun os started H enc _ => lifted os started H enc)
theorem proved : Rows.PackNamesSaid := over
#print axioms proved
end Go.Proofs.Ytijccobeljoikaa.packNames
namespace Go.Proofs.Ytijccobeljoikaa
/-- The row, under a short name, for the claim. -/
theorem packNames_holds : Rows.PackNamesSaid := packNames.proved
end Go.Proofs.Ytijccobeljoikaa
