/- What comes in to the net's laws, opened: mails and calls, each no longer than memory allows. -/
import Derived.Test.YtijccobeljoikaaOpens
import Derived.Test.YtijccobeljoikaaNetEv
namespace Go.Proofs.Ytijccobeljoikaa.Opens
open Go.RowKit Go.ChangeShapes Go.WideShapes Go.Deep
open Go.Proofs.YtijccobeljoikaaW.PrintWords
set_option linter.unusedVariables false
set_option linter.unusedSimpArgs false

theorem open_arg {α H : Type} {enc : TypeId × Value → H} {W : World} {base : Nat} {held : Bool} {t : TypeId} {d : Kd α} {G : α → Prop} (ho : Opens Try.prog W t d G) {ts : List TypeId} {ds : List (DataW H)} {j : Nat} {dd : DataW H} {ps : List MemPlace} {v : Value}
    (hsz : (DataW.weightsEach Try.prog ts ds).all (· ≤ reachBytes) = true) (ht : ts[j]? = some t) (hd : ds[j]? = some dd) (h : DataW.Trod enc Try.prog W base (fun _ => true) held t v dd ps) : ∃ x, d.K W x v.cells.toList ∧ G x := by
  obtain ⟨fuel, hf⟩ := h
  exact ho enc base held fuel _ _ hf (fun n hn => by
    have := List.all_eq_true.1 hsz _ (DataW.weights_mem_each ht hd _ hn)
    simpa using this)
/-- An argument that is a slice. -/
theorem open_slice_arg {α H : Type} {enc : TypeId × Value → H} {W : World} {base : Nat} {held : Bool} {t e : TypeId} {d : Kd α} {G : List α → Prop} (ho : Opens Try.prog W t (Kd.slice e d) G) {ts : List TypeId} {ds : List (DataW H)} {j : Nat} {dd : DataW H} {ps : List MemPlace} {a : Option Addr} {len cap : Nat}
    (hsz : (DataW.weightsEach Try.prog ts ds).all (· ≤ reachBytes) = true) (ht : ts[j]? = some t) (hd : ds[j]? = some dd) (h : DataW.Trod enc Try.prog W base (fun _ => true) held t (.slice a len cap) dd ps) :
    ∃ l : List α, len = l.length ∧ l.length ≤ cap ∧ Kd.C d W a l.length l ∧ G l := by
  obtain ⟨l, ⟨A, c, he, hl, hC⟩, hg⟩ := open_arg ho hsz ht hd h
  simp [Value.cells] at he
  obtain ⟨rfl, rfl, rfl⟩ := he
  exact ⟨l, rfl, hl, hC, hg⟩

instance : Inhabited Nt.S74 := ⟨Nt.z74⟩
instance : Inhabited Nt.S63 := ⟨Nt.z63⟩
section
variable {W : World}
theorem o3 : Opens Try.prog W 3 (Kd.int .i64) (fun v => (Lit.int .i64 v).wf = true) := opens_int Try.underlying3
theorem o5 : Opens Try.prog W 5 (Kd.int .u8) (fun v => (Lit.int .u8 v).wf = true) := opens_int Try.underlying5
theorem o22 : Opens Try.prog W 22 (Kd.slice 5 (Kd.int .u8)) (fun l => l.length * 1 ≤ reachBytes ∧ ∀ r ∈ l, (Lit.int .u8 r).wf = true) := opens_slice Try.underlying22 (by kernel_rfl) (by kernel_rfl) o5
theorem o32 : Opens Try.prog W 32 (Kd.slice 22 (Kd.slice 5 (Kd.int .u8))) (fun l => l.length * 24 ≤ reachBytes ∧ ∀ r ∈ l, r.length * 1 ≤ reachBytes ∧ ∀ q ∈ r, (Lit.int .u8 q).wf = true) := opens_slice Try.underlying32 (by kernel_rfl) (by kernel_rfl) o22
theorem o27 : Opens Try.prog W 27 (Kd.slice 3 (Kd.int .i64)) (fun l => l.length * 8 ≤ reachBytes ∧ ∀ r ∈ l, (Lit.int .i64 r).wf = true) := opens_slice Try.underlying27 (by kernel_rfl) (by kernel_rfl) o3
theorem o70 : Opens Try.prog W 70 Nt.k70 (fun y => (Lit.int .i64 y.f0).wf = true ∧ (Lit.int .i64 y.f1).wf = true) :=
  opens_struct Try.underlying70 rfl (by kernel_rfl) (opensF_cons rfl (by kernel_rfl) o3 (opensF_one rfl (by kernel_rfl) o3)) (fun x : Nt.S70 => (x.f0, x.f1)) (fun p => ⟨p.1, p.2⟩) (fun _ => rfl)
theorem o72 : Opens Try.prog W 72 Nt.k72 (fun y => ((Lit.int .i64 y.f0.f0).wf = true ∧ (Lit.int .i64 y.f0.f1).wf = true) ∧ (Lit.int .i64 y.f1).wf = true ∧ (y.f2.length * 1 ≤ reachBytes ∧ ∀ r ∈ y.f2, (Lit.int .u8 r).wf = true) ∧ (y.f3.length * 24 ≤ reachBytes ∧ ∀ r ∈ y.f3, r.length * 1 ≤ reachBytes ∧ ∀ q ∈ r, (Lit.int .u8 q).wf = true)) :=
  opens_struct Try.underlying72 rfl (by kernel_rfl) (opensF_cons rfl (by kernel_rfl) o70 (opensF_cons rfl (by kernel_rfl) o3 (opensF_cons rfl (by kernel_rfl) o22 (opensF_one rfl (by kernel_rfl) o32)))) (fun x : Nt.S72 => (x.f0, x.f1, x.f2, x.f3)) (fun p => ⟨p.1, p.2.1, p.2.2.1, p.2.2.2⟩) (fun _ => rfl)
theorem o74 : Opens Try.prog W 74 Nt.k74 (fun y => ((Lit.int .i64 y.f0.f0).wf = true ∧ (Lit.int .i64 y.f0.f1).wf = true) ∧ (((Lit.int .i64 y.f1.f0.f0).wf = true ∧ (Lit.int .i64 y.f1.f0.f1).wf = true) ∧ (Lit.int .i64 y.f1.f1).wf = true ∧ (y.f1.f2.length * 1 ≤ reachBytes ∧ ∀ r ∈ y.f1.f2, (Lit.int .u8 r).wf = true) ∧ (y.f1.f3.length * 24 ≤ reachBytes ∧ ∀ r ∈ y.f1.f3, r.length * 1 ≤ reachBytes ∧ ∀ q ∈ r, (Lit.int .u8 q).wf = true))) :=
  opens_struct Try.underlying74 rfl (by kernel_rfl) (opensF_cons rfl (by kernel_rfl) o70 (opensF_one rfl (by kernel_rfl) o72)) (fun x : Nt.S74 => (x.f0, x.f1)) (fun p => ⟨p.1, p.2⟩) (fun _ => rfl)
theorem opens_mono {α : Type} {P : Program} {t : TypeId} {d : Kd α} {G G' : α → Prop} (h : Opens P W t d G) (hg : ∀ x, G x → G' x) : Opens P W t d G' := fun enc base held fuel cs x hx hw => by
  obtain ⟨v, h1, h2⟩ := h enc base held fuel cs x hx hw
  exact ⟨v, h1, hg v h2⟩
theorem m74 : Opens Try.prog W 74 Nt.k74 Nt.Mem := opens_mono o74 (fun y h => by
  obtain ⟨_, _, _, ⟨h1, _⟩, h2, h3⟩ := h
  simp only [reachBytes] at h1 h2 h3
  exact ⟨by omega, by omega, fun r hr => by have := (h3 r hr).1; omega⟩)
theorem m58 : Opens Try.prog W 58 (Kd.slice 74 Nt.k74) Nt.Mems := opens_mono (opens_slice (B := 88) Try.underlying58 (by kernel_rfl) (by kernel_rfl) m74) (fun l h => by
  obtain ⟨h1, h2⟩ := h
  simp only [reachBytes] at h1
  exact ⟨by omega, h2⟩)
theorem m63 : Opens Try.prog W 63 Nt.k63 (fun y => (Lit.int .i64 y.f0).wf = true ∧ (Lit.int .i64 y.f1).wf = true ∧ Nt.Mems y.f2) :=
  opens_struct Try.underlying63 rfl (by kernel_rfl) (opensF_cons rfl (by kernel_rfl) o3 (opensF_cons rfl (by kernel_rfl) o3 (opensF_one rfl (by kernel_rfl) m58))) (fun x : Nt.S63 => (x.f0, x.f1, x.f2)) (fun p => ⟨p.1, p.2.1, p.2.2⟩) (fun _ => rfl)
theorem m54 : Opens Try.prog W 54 (Kd.slice 63 Nt.k63) (fun l => l.length < 4611686018427387904 ∧ ∀ o ∈ l, Nt.Mems o.f2) := opens_mono (opens_slice (B := 40) Try.underlying54 (by kernel_rfl) (by kernel_rfl) m63) (fun l h => by
  obtain ⟨h1, h2⟩ := h
  simp only [reachBytes] at h1
  exact ⟨by omega, fun o ho => (h2 o ho).2.2⟩)
end
end Go.Proofs.Ytijccobeljoikaa.Opens
