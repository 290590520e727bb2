/- What the printed functions of reading come to: plain lemmas, no program. -/
import Derived.Test.YtijccobeljoikaaPkEvA
import Derived.Test.YtijccobeljoikaaPlainB
import Derived.Test.YtijccobeljoikaaPkx3
import Derived.Test.YtijccobeljoikaaPkOrE
namespace Go.Proofs.Ytijccobeljoikaa.Pure
open Go.RowKit Go.Proofs.Ytijccobeljoikaa.Pk Go.Proofs.YtijccobeljoikaaW.PrintWords Go.Proofs.YtijccobeljoikaaW.PrintLast
open Go.Proofs.Ytijccobeljoikaa.Plain Go.Proofs.Ytijccobeljoikaa.Walks
set_option linter.unusedVariables false
set_option linter.unusedSimpArgs false

theorem clone_eq {l : List Int} (h : l.length < 140737488355328) : slices_Clone_byte_byte.f l = some l := if_pos h
theorem copy_eq {l : List Int} (h : l.length < 140737488355328) : stanchionref00_CopyBytes.f l = some l := by
  unfold stanchionref00_CopyBytes.f
  simp [h]
/-- What Read answers. -/
def readAns (l : List Int) : Int × List Int × Int := refAns l (readGo 0 0 l)
theorem refRead_eq {l : List Int} (hb : Byte l) (h : l.length < 140737488355328) : stanchionref01_Read.f l = some (readAns l) := if_pos ⟨hb, h⟩
theorem packread_eq {l : List Int} (hb : Byte l) : pack_read.f l = some (readGo 0 0 l) := if_pos hb
theorem packRead_eq {l : List Int} (hb : Byte l) (h : l.length < 140737488355328) : pack_Read.f l = some (readAns l) := by
  unfold pack_Read.f readAns refAns
  rw [packread_eq hb, Option.bind_some]
  by_cases he : (readGo 0 0 l).2.2 = 0
  · have ht := readGo_told l 0 0 (by omega) hb he
    rw [if_pos he, if_pos he, if_pos (by omega), if_pos (by omega), clone_eq (by rw [List.length_drop]; omega), Option.bind_some]
  · rw [if_neg he, if_neg he]
theorem readAns_rest {l : List Int} (hb : Byte l) : Byte (readAns l).2.1 ∧ (readAns l).2.1.length ≤ l.length := by
  unfold readAns refAns
  split
  · exact ⟨hb.drop _, by rw [List.length_drop]; omega⟩
  · exact ⟨Byte.nil, by simp⟩

def marks : List Int := [201, 202, 203, 204, 205, 206, 207, 208]
theorem ev_spare {l : List Int} (h : l.length < 140737488355000) : Ev (fun k => stanchionref00_Spare.f k l) (l ++ marks) := by
  unfold stanchionref00_Spare.f
  rw [copy_eq (by omega)]
  simp only [Option.bind_some]
  have step : ∀ (i : Nat) (ys : List Int) (r : List Int), i < 8 → ys.length = l.length + i → Ev (fun k => stanchionref00_Spare.l0 k (ys ++ [(201 : Int) + i]) ((i + 1 : Nat) : Int)) r → Ev (fun k => stanchionref00_Spare.l0 k ys (i : Int)) r := by
    intro i ys r hi hl hr
    refine ev_succ (Ev.congr (fun k => ?_) hr)
    simp only [stanchionref00_Spare.l0]
    rw [if_pos (by omega), if_pos (by omega), w64 (x := 201 + (i : Int)) (by omega) (by omega), w64 (x := (i : Int) + 1) (by omega) (by omega), show ((201 : Int) + i) % 256 = 201 + i by omega]
    rfl
  refine step 0 _ _ (by omega) (by simp) ?_
  refine step 1 _ _ (by omega) (by simp) ?_
  refine step 2 _ _ (by omega) (by simp) ?_
  refine step 3 _ _ (by omega) (by simp) ?_
  refine step 4 _ _ (by omega) (by simp) ?_
  refine step 5 _ _ (by omega) (by simp) ?_
  refine step 6 _ _ (by omega) (by simp) ?_
  refine step 7 _ _ (by omega) (by simp) ?_
  refine ev_succ (ev_of fun k => ?_)
  simp only [stanchionref00_Spare.l0]
  rw [if_neg (by omega)]
  simp [marks]
theorem byte_of_wf {l : List Int} (h : ∀ x ∈ l, (Lit.int .u8 x).wf = true) : Byte l := by
  intro c hc
  have := h c hc
  simp [Lit.wf, IntKind.min, IntKind.max, IntKind.signed, IntKind.bits] at this
  omega

theorem ev_aliveRead : Ev (fun k => stanchionlaw01_aliveRead.f k) true := by
  unfold stanchionlaw01_aliveRead.f
  have hr : readAns [172, 2, 9] = (300, [9], 0) := by decide +kernel
  rw [packRead_eq (by decide) (by simp), hr]
  simp only [Option.bind_some, if_true]
  exact Ev.bind (ev_same [9] [9] (by simp)) (ev_const _)
end Go.Proofs.Ytijccobeljoikaa.Pure
