/- Rows.MsgLettersSaid is proved: for every input of its types the Go function of that name returns true, and each argument reads behind the call as it read before; there is no condition. -/
import Derived.Test.YtijccobeljoikaaRows
import Derived.Test.YtijccobeljoikaaHead
import Derived.Test.YtijccobeljoikaaMh17
import Derived.WalkKit
import Derived.ProofKit
import Derived.OpenShut
import Derived.ShutString
import Derived.ChangeOld
import Derived.Below
import Derived.SizedLaws
import Derived.Test.YtijccobeljoikaaWSized
namespace Go.Proofs.Ytijccobeljoikaa.msgLetters
open Go.ChangeShapes Go.WideShapes Go.ChangeAt Go.RowKit
set_option linter.unusedVariables false
theorem own : ownKnob Try.prog.godebug = none := by kernel_rfl
theorem laidOut : laidOutB Try.prog = true := by kernel_rfl
set_option maxRecDepth 100000 in
theorem lifted (os : Os) (started : os.Started) (H : Type) (enc : TypeId × Value → H) :
    ReturnsInHanded {} Try.checked os 22 .any (Rows.msgLettersSpec.pre6 enc Try.prog Try.f22 Rows.msgLettersRow.domain false) (Rows.msgLettersSpec.post enc Try.prog Try.f22 false true false false) := by
  refine returnsInHanded_of_change_sized (C := Try.checked) own started (by kernel_rfl) Try.func22
    (ChangeSpec.witness6 (enc := enc) (C := Try.checked) false ⟨#[], #[.agg #[.int .i64 0, .int .i64 0, .int .i64 0, .slice none 0 0, .slice none 0 0], .agg #[.int .i64 0, .int .i64 0, .int .i64 0, .slice none 0 0], .slice none 0 0], []⟩ 8 (by kernel_rfl) (by kernel_rfl) (by kernel_rfl) (by kernel_rfl)) ?_
  intro W base args ds gs before hval0 hW hcnd hsz0 _
  have hsz : (DataW.weightsEach Try.prog (Try.f22.params.toList ++ Rows.msgLettersSpec.plain.varTypes Try.prog) (ds ++ gs)).all (· ≤ reachBytes) = true := hsz0
  have hval : ∀ (j : Nat) t v, Try.f22.params[j]? = some t → args[j]? = some v → Value.okWide Try.prog W .any base t v := hval0
  have hW' := hW
  obtain ⟨p, q, hA0, hV, rfl, hfz, hnd⟩ := hW
  have hA : DataW.TrodAll enc Try.prog W 0 (fun _ => true) true Try.f22.params.toList args.toList ds p := hA0
  rw [Try.params22] at hA hval hsz
  obtain ⟨v0, vs0, d0, ds0, p0, q0, hargs, rfl, rfl, h0, r0⟩ := trodAll_cons hA
  obtain ⟨v1, vs1, d1, ds1, p1, q1, rfl, rfl, rfl, h1, r1⟩ := trodAll_cons r0
  obtain ⟨v2, vs2, d2, ds2, p2, q2, rfl, rfl, rfl, h2, r2⟩ := trodAll_cons r1
  obtain ⟨rfl, rfl, rfl⟩ := trodAll_nil r2
  obtain rfl : args = #[v0, v1, v2] := by cases args; simp_all
  obtain ⟨rfl, rfl⟩ := trodVars_none hV
  obtain ⟨cs0, rfl, sz0⟩ := okWide_struct Try.underlying72 (hval 0 72 v0 rfl rfl)
  have k0 := h0
  have lt0 : ∀ x ∈ p0, x.block < W.heap.size := by obtain ⟨m, hm⟩ := k0; exact DataW.trod_lt m _ _ _ hm
  obtain ⟨x0, hK0, hG0⟩ := Opens.open_arg Opens.o72 hsz (j := 0) rfl rfl h0
  obtain ⟨cs1, rfl, sz1⟩ := okWide_struct Try.underlying87 (hval 1 87 v1 rfl rfl)
  have k1 := h1
  have lt1 : ∀ x ∈ p1, x.block < W.heap.size := by obtain ⟨m, hm⟩ := k1; exact DataW.trod_lt m _ _ _ hm
  obtain ⟨x1, hK1, hG1⟩ := Opens.open_arg Opens.o87 hsz (j := 1) rfl rfl h1
  obtain ⟨a2, len2, c2, rfl⟩ := okWide_slice Try.underlying22 (hval 2 22 v2 rfl rfl)
  have k2 := h2
  have lt2 : ∀ x ∈ p2, x.block < W.heap.size := by obtain ⟨m, hm⟩ := k2; exact DataW.trod_lt m _ _ _ hm
  obtain ⟨l2, rfl, hc2, hC2, hG2⟩ := Opens.open_slice_arg Opens.o22 hsz (j := 2) rfl rfl h2
  clear hA0 hval0 hsz0 hsz
  refine (Ms.letters_opened hK0 hK1 hG0.1 hG1.1 hC2 hc2 hG2.2).mono fun e W' ⟨he, bel⟩ => ?_
  subst he
  exact ⟨_, rfl, _, _, _, [], _, [], hW', trodAll_mk1 (shut_bool Try.underlying4 _), (trodAll_cons_mk (Below.trod laidOut (by kernel_rfl) (of_decide_eq_true (by kernel_rfl)) k0 bel lt0) (trodAll_cons_mk (Below.trod laidOut (by kernel_rfl) (of_decide_eq_true (by kernel_rfl)) k1 bel lt1) (trodAll_cons_mk (Below.trod laidOut (by kernel_rfl) (of_decide_eq_true (by kernel_rfl)) k2 bel lt2) trodAll_mk0))), rfl, bel.frame _, fun h => by cases h⟩
theorem f27 : (Rows.msgLettersRow.lifted == false) = true := by kernel_rfl
theorem f28 : (some Make.cut == some Rows.msgLettersRow.make) = true := by kernel_rfl
set_option maxHeartbeats 8000000 in
theorem facts : joinedFacts Try.prog 22 Try.f22 Rows.msgLettersSpec Rows.msgLettersRow = true := by
  simp only [joinedFacts, Bool.and_eq_true]
  refine ⟨⟨⟨⟨⟨⟨⟨⟨⟨⟨⟨⟨⟨⟨⟨⟨⟨⟨⟨⟨⟨⟨⟨⟨⟨⟨⟨⟨⟨⟨⟨?_, Head.laidOut_is⟩, Head.mapsRowed_is⟩, ?_⟩, ?_⟩, ?_⟩, ?_⟩, ?_⟩, ?_⟩, ?_⟩, ?_⟩, ?_⟩, ?_⟩, ?_⟩, ?_⟩, ?_⟩, ?_⟩, ?_⟩, ?_⟩, ?_⟩, ?_⟩, ?_⟩, ?_⟩, ?_⟩, Head.stopsHeard_is⟩, Head.mayEnter_is⟩, by rw [Head.lifts_is]; exact f27⟩, by rw [Head.make_is]; exact f28⟩, ?_⟩, ?_⟩, ?_⟩, ?_⟩
  all_goals (as_aux_lemma => kernel_rfl)
theorem inst : Func.isInstance Try.prog Try.f22 Rows.msgLettersRow.origin Rows.msgLettersRow.targs := of_decide_eq_true (by kernel_rfl)
theorem named : Try.prog.funcNamed Rows.msgLettersRow.func = some 22 := by kernel_rfl
theorem wrap : Func.isWrapper Try.prog Try.f22 Rows.msgLettersRow.wrapper Rows.msgLettersRow.mainSum := by unfold Func.isWrapper; rw [if_neg (of_decide_eq_false (by kernel_rfl))]; exact ⟨rfl, rfl⟩
theorem over : Rows.msgLettersRow.holds Try.pinned (OpenSpec.ofChange Rows.msgLettersSpec) :=
  OpenClaim.holds_of_wide 22 Try.f22 rfl rfl rfl rfl rfl rfl rfl ⟨rfl, rfl, rfl, rfl, rfl⟩ rfl rfl rfl rfl rfl named Try.func22 facts inst wrap
    (fun os started H enc _ => lifted os started H enc)
theorem proved : Rows.MsgLettersSaid := over
#print axioms proved
end Go.Proofs.Ytijccobeljoikaa.msgLetters
namespace Go.Proofs.Ytijccobeljoikaa
/-- The row, under a short name, for the claim. -/
theorem msgLetters_holds : Rows.MsgLettersSaid := msgLetters.proved
end Go.Proofs.Ytijccobeljoikaa
