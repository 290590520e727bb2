/- What SameMails comes to over two lists that are the same; one mail as a row. Plain lemmas, no program. -/
import Derived.Test.YtijccobeljoikaaNetEv
import Derived.Test.YtijccobeljoikaaNtx5
import Derived.Test.YtijccobeljoikaaNetC
namespace Go.Proofs.Ytijccobeljoikaa.Nt
open Go.RowKit Go.Proofs.YtijccobeljoikaaW.PrintWords Go.Proofs.YtijccobeljoikaaW.PrintLast
set_option linter.unusedVariables false
set_option linter.unusedSimpArgs false

theorem ev_sameLetter {m : S74} (h : Fits m) : Ev (fun k => stanchionref00_SameLetter.f k m.f1.f0.f0 m.f1.f0.f1 m.f1.f1 m.f1.f2 m.f1.f3 m.f1.f0.f0 m.f1.f0.f1 m.f1.f1 m.f1.f2 m.f1.f3) true := by
  obtain ⟨h1, h2, h3⟩ := h
  obtain ⟨K1, e1⟩ := ev_sameBytes (a := m.f1.f2) (by omega)
  obtain ⟨K2, e2⟩ := ev_sameRows (a := m.f1.f3) (by omega) (fun r hr => by have := h3 r hr; omega)
  refine ⟨max K1 K2, fun k hk => ?_⟩
  show stanchionref00_SameLetter.f k m.f1.f0.f0 m.f1.f0.f1 m.f1.f1 m.f1.f2 m.f1.f3 m.f1.f0.f0 m.f1.f0.f1 m.f1.f1 m.f1.f2 m.f1.f3 = some true
  unfold stanchionref00_SameLetter.f
  rw [if_pos (by simp), if_pos rfl, show stanchionref00_SameBytes.f k m.f1.f2 m.f1.f2 = _ from e1 k (by omega), Option.bind_some, if_pos rfl, show stanchionref00_SameRows.f k m.f1.f3 m.f1.f3 = _ from e2 k (by omega), Option.bind_some]
theorem ev_sameMails_l0 (a : List S74) (hn : a.length < 4611686018427387904) (hr : ∀ m ∈ a, Fits m) (n : Nat) : ∀ i : Nat, i + n = a.length → Ev (fun k => stanchionref00_SameMails.l0 k a a (i : Int)) true := by
  induction n with
  | zero =>
    intro i hi
    refine ev_succ (ev_of fun k => ?_)
    simp only [stanchionref00_SameMails.l0]
    rw [if_neg (by omega)]
  | succ n ih =>
    intro i hi
    have hil : i < a.length := by omega
    obtain ⟨K1, h1⟩ := ev_sameLetter (hr _ (List.getElem_mem hil))
    obtain ⟨K2, h2⟩ := ih (i + 1) (by omega)
    refine ev_succ ⟨max K1 K2, fun k hk => ?_⟩
    simp only [stanchionref00_SameMails.l0]
    rw [if_pos (by omega), if_pos (by omega), if_pos (by omega), rd74_at hil, if_neg (by simp), show stanchionref00_SameLetter.f k a[i].f1.f0.f0 a[i].f1.f0.f1 a[i].f1.f1 a[i].f1.f2 a[i].f1.f3 a[i].f1.f0.f0 a[i].f1.f0.f1 a[i].f1.f1 a[i].f1.f2 a[i].f1.f3 = _ from h1 k (by omega), Option.bind_some, if_pos rfl, w64 (by omega) (by omega)]
    exact h2 k (by omega)
theorem ev_sameMails {a : List S74} (hn : a.length < 4611686018427387904) (hr : ∀ m ∈ a, Fits m) : Ev (fun k => stanchionref00_SameMails.f k a a) true := by
  have := ev_sameMails_l0 a hn hr a.length 0 (by omega)
  simpa [stanchionref00_SameMails.f] using this

theorem one_C {W : World} {g : Nat} {m : S74} {A5 A6 : Option Addr} {c5 c6 : Nat} (h : W.heap[g]? = some (.cells #[.int .i64 m.f0.f0, .int .i64 m.f0.f1, .int .i64 m.f1.f0.f0, .int .i64 m.f1.f0.f1, .int .i64 m.f1.f1, .slice A5 m.f1.f2.length c5, .slice A6 m.f1.f3.length c6] 74 (0, 0)))
    (l5 : m.f1.f2.length ≤ c5) (h5 : (Kd.int .u8).C W A5 m.f1.f2.length m.f1.f2) (l6 : m.f1.f3.length ≤ c6) (h6 : (Kd.slice 5 (Kd.int .u8)).C W A6 m.f1.f3.length m.f1.f3) : Kd.C k74 W (some ⟨g, 0, none⟩) [m].length [m] := by
  refine ⟨rfl, by simp, fun _ => ⟨_, rfl, fun j p hj => ?_⟩⟩
  rcases j with _ | j
  · obtain rfl : m = p := by simpa using hj
    refine ⟨_, rfl, k74_mk W m l5 h5 l6 h6, fun i u hu => ?_⟩
    rw [Addr.add_lit, blk_cell h]
    rcases i with _ | _ | _ | _ | _ | _ | _ | i
    all_goals first | (simp at hu; subst hu; rfl) | simp at hu
  · simp at hj
end Go.Proofs.Ytijccobeljoikaa.Nt
