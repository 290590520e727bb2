/- Put together of my texts: MuG. -/
import Derived.Test.YtijccobeljoikaaMi15
import Derived.Test.YtijccobeljoikaaMi10
/- msg: the document: is a message right? -/
namespace Go.Proofs.Ytijccobeljoikaa.Ms
open Go.RowKit Go.Proofs.YtijccobeljoikaaW.PrintWords Go.Proofs.YtijccobeljoikaaW.PrintLast
open Go.Proofs.Ytijccobeljoikaa.Plain Go.Proofs.Ytijccobeljoikaa.Walks
set_option linter.unusedVariables false
set_option linter.unusedSimpArgs false
/-! Operations of a plain region one by one, where a guard is not known: the values that come up behind a guard are told only where it holds. -/
section
variable {P : Program} {ops : Array Oper} {Q : Exit → Act → World → Prop} {rest : List Oper} {o o1 o2 o3 o4 : Oper} {a : Act} {w : World} {N N1 N2 N3 N4 : Option Tmp}
theorem seq_fork (hd : o.dst = N) (R : Value → World → Prop)
    (h : ∀ K : Act → World → Prop, (∀ v w', R v w' → K (a.put N v) w') → if Region.wanted o (yielded ops a.tmps) = true then Oper.wp P o a w K Q else K (a.put N undef) w)
    (next : ∀ v w', R v w' → wpList P ops Q rest (a.put N v) w') : wpList P ops Q (o :: rest) a w := by
  subst hd
  have := h (wpList P ops Q rest) next
  unfold wpList
  split at this
  · rename_i hw; rw [if_pos hw]; exact Or.inl this
  · rename_i hw; rw [if_neg hw]; exact this
def On (P : Program) (ops : Array Oper) (o : Oper) (a : Act) (w : World) (v : Value) : Prop := Region.wanted o (yielded ops a.tmps) = true ∧ (execOp a.eval o).run P w = .ok (.value v) w
def Off (ops : Array Oper) (o : Oper) (a : Act) : Prop := Region.wanted o (yielded ops a.tmps) = false
theorem seq_on {v : Value} (hd : o.dst = N) (h : On P ops o a w v) (next : wpList P ops Q rest (a.put N v) w) : wpList P ops Q (o :: rest) a w := by
  refine seq_fork hd (fun v' w' => v' = v ∧ w' = w) (fun K hK => ?_) (fun v' w' ⟨e1, e2⟩ => by rw [e1, e2]; exact next)
  rw [if_pos h.1]
  subst hd
  unfold Oper.wp
  rw [h.2]
  exact hK _ _ ⟨rfl, rfl⟩
theorem seq_off (hd : o.dst = N) (h : Off ops o a) (next : wpList P ops Q rest (a.put N undef) w) : wpList P ops Q (o :: rest) a w := by
  subst hd
  unfold wpList
  rw [if_neg (by rw [show Region.wanted o (yielded ops a.tmps) = false from h]; decide)]
  exact next
theorem wpl_norm {a' : Act} (ha : a = a') (h : wpList P ops Q rest a' w) : wpList P ops Q rest a w := ha ▸ h
theorem seq3 (h : Bool) (v1 v2 v3 : Value) (d1 : o1.dst = N1) (d2 : o2.dst = N2) (d3 : o3.dst = N3)
    (hoff : h = true → Off ops o1 a ∧ Off ops o2 (a.put N1 undef) ∧ Off ops o3 ((a.put N1 undef).put N2 undef))
    (hon : h = false → On P ops o1 a w v1 ∧ On P ops o2 (a.put N1 v1) w v2 ∧ On P ops o3 ((a.put N1 v1).put N2 v2) w v3)
    (next : ∀ t1 t2 t3, (h = false → t1 = v1 ∧ t2 = v2 ∧ t3 = v3) → wpList P ops Q rest (((a.put N1 t1).put N2 t2).put N3 t3) w) : wpList P ops Q (o1 :: o2 :: o3 :: rest) a w := by
  cases h with
  | true => obtain ⟨h1, h2, h3⟩ := hoff rfl; exact seq_off d1 h1 (seq_off d2 h2 (seq_off d3 h3 (next _ _ _ (fun e => by cases e))))
  | false => obtain ⟨h1, h2, h3⟩ := hon rfl; exact seq_on d1 h1 (seq_on d2 h2 (seq_on d3 h3 (next _ _ _ (fun _ => ⟨rfl, rfl, rfl⟩))))
theorem seq1 (h : Bool) (v1 : Value) (d1 : o1.dst = N1) (hoff : h = true → Off ops o1 a) (hon : h = false → On P ops o1 a w v1)
    (next : ∀ t1, (h = false → t1 = v1) → wpList P ops Q rest (a.put N1 t1) w) : wpList P ops Q (o1 :: rest) a w := by
  cases h with
  | true => exact seq_off d1 (hoff rfl) (next _ (fun e => by cases e))
  | false => exact seq_on d1 (hon rfl) (next _ (fun _ => rfl))
end
theorem right_no {m : S91} {p : ByteArray} {t : UInt8 × Bool} (ht : t ∈ tabE m) (h : hasB p t.1 = false) (h2 : t.2 = false) : rightB m p = false := by
  have : emptyB m p = false := by
    unfold emptyB
    rw [List.all_eq_false]
    exact ⟨t, ht, by rw [h, h2]; decide⟩
  unfold rightB
  rw [this]
  simp only [Bool.false_and]
theorem and_no {h b : Bool} (e : (!h && b) = true) : h = false ∧ b = true := by cases h <;> cases b <;> simp_all
theorem or_yes {h b : Bool} (e : (!h && b) = false) : h = true ∨ b = false := by cases h <;> cases b <;> simp_all
theorem same_zero (x : S87) : sameE x z87 = (decide (x.f0 = 0) && decide (x.f1 = 0) && decide (x.f2 = 0) && decide (x.f3.length = 0)) := by
  show ((x.f0 == 0) && (x.f1 == 0) && (x.f2 == 0) && decide (x.f3 = [])) = _
  have e : decide (x.f3 = []) = decide (x.f3.length = 0) := decide_eq_decide.2 List.length_eq_zero_iff.symm
  rw [e]; rfl
theorem no_v {m : S91} {p : ByteArray} {h : Bool} (e : hasB p 118 = h) (q : (!h && (m.view != 0)) = true) : rightB m p = false := by
  obtain ⟨rfl, b⟩ := and_no q
  exact right_no (t := (118, decide (m.view = 0))) (by simp [tabE]) e (show (decide (m.view = 0)) = false by exact decide_eq_false (bne_iff_ne.1 b))
theorem yes_v {m : S91} {p : ByteArray} {h : Bool} (e : hasB p 118 = h) (q : (!h && (m.view != 0)) = false) : ((decide (m.view = 0)) || hasB p 118) = true := by
  rw [e]
  rcases or_yes q with rfl | b
  · exact Bool.or_true _
  · rw [show (decide (m.view = 0)) = true by exact decide_eq_true (bne_eq_false_iff_eq.1 b)]; rfl
theorem no_s {m : S91} {p : ByteArray} {h : Bool} (e : hasB p 115 = h) (q : (!h && (m.seq != 0)) = true) : rightB m p = false := by
  obtain ⟨rfl, b⟩ := and_no q
  exact right_no (t := (115, decide (m.seq = 0))) (by simp [tabE]) e (show (decide (m.seq = 0)) = false by exact decide_eq_false (bne_iff_ne.1 b))
theorem yes_s {m : S91} {p : ByteArray} {h : Bool} (e : hasB p 115 = h) (q : (!h && (m.seq != 0)) = false) : ((decide (m.seq = 0)) || hasB p 115) = true := by
  rw [e]
  rcases or_yes q with rfl | b
  · exact Bool.or_true _
  · rw [show (decide (m.seq = 0)) = true by exact decide_eq_true (bne_eq_false_iff_eq.1 b)]; rfl
theorem no_c {m : S91} {p : ByteArray} {h : Bool} (e : hasB p 99 = h) (q : (!h && (m.client != 0)) = true) : rightB m p = false := by
  obtain ⟨rfl, b⟩ := and_no q
  exact right_no (t := (99, decide (m.client = 0))) (by simp [tabE]) e (show (decide (m.client = 0)) = false by exact decide_eq_false (bne_iff_ne.1 b))
theorem yes_c {m : S91} {p : ByteArray} {h : Bool} (e : hasB p 99 = h) (q : (!h && (m.client != 0)) = false) : ((decide (m.client = 0)) || hasB p 99) = true := by
  rw [e]
  rcases or_yes q with rfl | b
  · exact Bool.or_true _
  · rw [show (decide (m.client = 0)) = true by exact decide_eq_true (bne_eq_false_iff_eq.1 b)]; rfl
theorem no_t {m : S91} {p : ByteArray} {h : Bool} (e : hasB p 116 = h) (q : (!h && (m.stamp != 0)) = true) : rightB m p = false := by
  obtain ⟨rfl, b⟩ := and_no q
  exact right_no (t := (116, decide (m.stamp = 0))) (by simp [tabE]) e (show (decide (m.stamp = 0)) = false by exact decide_eq_false (bne_iff_ne.1 b))
theorem yes_t {m : S91} {p : ByteArray} {h : Bool} (e : hasB p 116 = h) (q : (!h && (m.stamp != 0)) = false) : ((decide (m.stamp = 0)) || hasB p 116) = true := by
  rw [e]
  rcases or_yes q with rfl | b
  · exact Bool.or_true _
  · rw [show (decide (m.stamp = 0)) = true by exact decide_eq_true (bne_eq_false_iff_eq.1 b)]; rfl
theorem no_e {m : S91} {p : ByteArray} {h : Bool} (e : hasB p 101 = h) (q : (!h && !sameE m.entry z87) = true) : rightB m p = false := by
  obtain ⟨rfl, b⟩ := and_no q
  exact right_no (t := (101, decide (m.entry.f0 = 0) && decide (m.entry.f1 = 0) && decide (m.entry.f2 = 0) && decide (m.entry.f3.length = 0))) (by simp [tabE]) e (show (decide (m.entry.f0 = 0) && decide (m.entry.f1 = 0) && decide (m.entry.f2 = 0) && decide (m.entry.f3.length = 0)) = false by rw [same_zero] at b; exact (Bool.not_eq_true' _).mp b)
theorem yes_e {m : S91} {p : ByteArray} {h : Bool} (e : hasB p 101 = h) (q : (!h && !sameE m.entry z87) = false) : ((decide (m.entry.f0 = 0) && decide (m.entry.f1 = 0) && decide (m.entry.f2 = 0) && decide (m.entry.f3.length = 0)) || hasB p 101) = true := by
  rw [e]
  rcases or_yes q with rfl | b
  · exact Bool.or_true _
  · rw [show (decide (m.entry.f0 = 0) && decide (m.entry.f1 = 0) && decide (m.entry.f2 = 0) && decide (m.entry.f3.length = 0)) = true by rw [same_zero] at b; exact (Bool.not_eq_false' _).mp b]; rfl
theorem no_d {m : S91} {p : ByteArray} {h : Bool} (e : hasB p 100 = h) (q : (!h && ((m.digest.length : Int) != 0)) = true) : rightB m p = false := by
  obtain ⟨rfl, b⟩ := and_no q
  exact right_no (t := (100, decide (m.digest.length = 0))) (by simp [tabE]) e (show (decide (m.digest.length = 0)) = false by have := bne_iff_ne.1 b; exact decide_eq_false (by omega))
theorem yes_d {m : S91} {p : ByteArray} {h : Bool} (e : hasB p 100 = h) (q : (!h && ((m.digest.length : Int) != 0)) = false) : ((decide (m.digest.length = 0)) || hasB p 100) = true := by
  rw [e]
  rcases or_yes q with rfl | b
  · exact Bool.or_true _
  · rw [show (decide (m.digest.length = 0)) = true by have := bne_eq_false_iff_eq.1 b; exact decide_eq_true (by omega)]; rfl
theorem no_b {m : S91} {p : ByteArray} {h : Bool} (e : hasB p 98 = h) (q : (!h && ((m.data.length : Int) != 0)) = true) : rightB m p = false := by
  obtain ⟨rfl, b⟩ := and_no q
  exact right_no (t := (98, decide (m.data.length = 0))) (by simp [tabE]) e (show (decide (m.data.length = 0)) = false by have := bne_iff_ne.1 b; exact decide_eq_false (by omega))
theorem yes_b {m : S91} {p : ByteArray} {h : Bool} (e : hasB p 98 = h) (q : (!h && ((m.data.length : Int) != 0)) = false) : ((decide (m.data.length = 0)) || hasB p 98) = true := by
  rw [e]
  rcases or_yes q with rfl | b
  · exact Bool.or_true _
  · rw [show (decide (m.data.length = 0)) = true by have := bne_eq_false_iff_eq.1 b; exact decide_eq_true (by omega)]; rfl
theorem no_l {m : S91} {p : ByteArray} {h : Bool} (e : hasB p 108 = h) (q : (!h && ((m.proof.length : Int) != 0)) = true) : rightB m p = false := by
  obtain ⟨rfl, b⟩ := and_no q
  exact right_no (t := (108, decide (m.proof.length = 0))) (by simp [tabE]) e (show (decide (m.proof.length = 0)) = false by have := bne_iff_ne.1 b; exact decide_eq_false (by omega))
theorem yes_l {m : S91} {p : ByteArray} {h : Bool} (e : hasB p 108 = h) (q : (!h && ((m.proof.length : Int) != 0)) = false) : ((decide (m.proof.length = 0)) || hasB p 108) = true := by
  rw [e]
  rcases or_yes q with rfl | b
  · exact Bool.or_true _
  · rw [show (decide (m.proof.length = 0)) = true by have := bne_eq_false_iff_eq.1 b; exact decide_eq_true (by omega)]; rfl
theorem no_p {m : S91} {p : ByteArray} {h : Bool} (e : hasB p 112 = h) (q : (!h && ((m.proven.length : Int) != 0)) = true) : rightB m p = false := by
  obtain ⟨rfl, b⟩ := and_no q
  exact right_no (t := (112, decide (m.proven.length = 0))) (by simp [tabE]) e (show (decide (m.proven.length = 0)) = false by have := bne_iff_ne.1 b; exact decide_eq_false (by omega))
theorem yes_p {m : S91} {p : ByteArray} {h : Bool} (e : hasB p 112 = h) (q : (!h && ((m.proven.length : Int) != 0)) = false) : ((decide (m.proven.length = 0)) || hasB p 112) = true := by
  rw [e]
  rcases or_yes q with rfl | b
  · exact Bool.or_true _
  · rw [show (decide (m.proven.length = 0)) = true by have := bne_eq_false_iff_eq.1 b; exact decide_eq_true (by omega)]; rfl
theorem rno_wide {m : S91} {p : ByteArray} {v : Int} (hv : v ∈ [m.view, m.seq, m.stamp]) (e : (!narrow v) = false) : rightB m p = false := by
  have : [m.view, m.seq, m.stamp].any narrow = true := List.any_eq_true.2 ⟨v, hv, by simpa using e⟩
  simp only [rightB, this, Bool.not_true, Bool.and_false, Bool.false_and]
theorem rno_client {m : S91} {p : ByteArray} (e : withinB m.client 0 7 = false) : rightB m p = false := by
  simp only [rightB, e, Bool.and_false, Bool.false_and]
theorem rno_entry {m : S91} {p : ByteArray} {h : Bool} (e : hasB p 101 = !h) (q : (!h && !goodEntry m.entry) = true) : rightB m p = false := by
  obtain ⟨rfl, b⟩ := and_no q
  rw [Bool.not_eq_true'] at b
  simp only [rightB, e, b, Bool.not_false, Bool.not_true, Bool.or_false, Bool.and_false, Bool.false_and]
theorem rno_digest {m : S91} {p : ByteArray} {h : Bool} (e : hasB p 100 = !h) (q : (!h && ((m.digest.length : Int) != 32)) = true) : rightB m p = false := by
  obtain ⟨rfl, b⟩ := and_no q
  have b' : decide (m.digest.length = 32) = false := decide_eq_false (by have := bne_iff_ne.1 b; omega)
  simp only [rightB, e, b', Bool.not_false, Bool.not_true, Bool.or_false, Bool.and_false, Bool.false_and]
theorem ryes_entry {m : S91} {p : ByteArray} {h : Bool} (e : hasB p 101 = !h) (q : (!h && !goodEntry m.entry) = false) : (!hasB p 101 || goodEntry m.entry) = true := by
  rw [e]; rcases or_yes q with rfl | b
  · rfl
  · rw [Bool.not_eq_false'] at b; rw [b]; exact Bool.or_true _
theorem ryes_digest {m : S91} {p : ByteArray} {h : Bool} (e : hasB p 100 = !h) (q : (!h && ((m.digest.length : Int) != 32)) = false) : (!hasB p 100 || decide (m.digest.length = 32)) = true := by
  rw [e]; rcases or_yes q with rfl | b
  · rfl
  · rw [decide_eq_true (show m.digest.length = 32 by have := bne_eq_false_iff_eq.1 b; omega)]; exact Bool.or_true _
theorem rno_data {m : S91} {p : ByteArray} (e : mostOf m.kind < (m.data.length : Int)) : rightB m p = false := by
  simp only [rightB, decide_eq_false (show ¬ (m.data.length : Int) ≤ mostOf m.kind by omega), Bool.and_false, Bool.false_and]
theorem rno_proof {m : S91} {p : ByteArray} (e : goodLetters m.proof = false) : rightB m p = false := by
  simp only [rightB, e, Bool.and_false, Bool.false_and]
theorem rno_many {m : S91} {p : ByteArray} (e : 8 < m.proven.length) : rightB m p = false := by
  simp only [rightB, decide_eq_false (show ¬ m.proven.length ≤ 8 by omega), Bool.and_false, Bool.false_and]
theorem rno_proven {m : S91} {p : ByteArray} {x : S101} (hx : x ∈ m.proven) (e : badProven x = true) : rightB m p = false := by
  have : m.proven.any badProven = true := List.any_eq_true.2 ⟨x, hx, e⟩
  simp only [rightB, this, Bool.not_true, Bool.and_false, Bool.false_and]
theorem right_all {m : S91} {p : ByteArray} (z : ∀ t ∈ tabE m, (t.2 || hasB p t.1) = true) (w0 : (!narrow m.view) = true) (w1 : (!narrow m.seq) = true) (w2 : (!narrow m.stamp) = true) (c : withinB m.client 0 7 = true) (d : (m.data.length : Int) ≤ mostOf m.kind) (l : goodLetters m.proof = true) (n : m.proven.length ≤ 8) (b : ∀ x ∈ m.proven, badProven x = false)
    (e : (!hasB p 101 || goodEntry m.entry) = true) (g : (!hasB p 100 || decide (m.digest.length = 32)) = true) : rightB m p = true := by
  have h1 : emptyB m p = true := List.all_eq_true.2 z
  have h2 : [m.view, m.seq, m.stamp].any narrow = false := by
    rw [Bool.not_eq_true'] at w0 w1 w2
    simp [w0, w1, w2]
  have h3 : m.proven.any badProven = false := List.any_eq_false.2 (fun x hx => by rw [b x hx]; decide)
  simp only [rightB, h1, h2, c, decide_eq_true d, l, decide_eq_true n, h3, e, g, Bool.not_false, Bool.and_true]
theorem bad_of {x : S101} (h : (!narrow x.f0) = false ∨ (!narrow x.f1) = false ∨ goodEntry x.f2 = false ∨ goodLetters x.f3 = false) : badProven x = true := by
  rcases h with h | h | h | h
  · rw [Bool.not_eq_false'] at h; simp [badProven, h]
  · rw [Bool.not_eq_false'] at h; simp [badProven, h]
  · simp [badProven, h]
  · simp [badProven, h]
theorem bad_not {x : S101} (a : (!narrow x.f0) = true) (b : (!narrow x.f1) = true) (c : goodEntry x.f2 = true) (d : goodLetters x.f3 = true) : badProven x = false := by
  rw [Bool.not_eq_true'] at a b
  simp [badProven, a, b, c, d]
set_option maxHeartbeats 16000000 in
set_option maxRecDepth 100000 in
theorem right100_calls (m : S91) (a : Nat → Option Addr) (c : Nat → Nat) (p : ByteArray) (hp : partsS m.kind = p) (hps : p.size ≤ 1000) (w : World) (hM : Msg w m a c) :
    Calls Try.prog 100 #[.agg #[.int .i64 m.kind, .int .i64 m.view, .int .i64 m.seq, .int .i64 m.client, .int .i64 m.stamp, .int .i64 m.entry.f0, .int .i64 m.entry.f1, .int .i64 m.entry.f2, .slice (a 0) m.entry.f3.length (c 0), .slice (a 1) m.digest.length (c 1), .slice (a 2) m.data.length (c 2), .slice (a 3) m.proof.length (c 3), .slice (a 4) m.proven.length (c 4)]] w fun e w' => e = .returned (.bool (rightB m p)) ∧ Below w.heap.size w w' := by
  have hu91 := Try.underlying91
  have hu87 := Try.underlying87
  have HM := Aside0.mk hM
  have HX0 := Aside0.mk (blk_new w (.cells #[.int .i64 m.kind, .int .i64 m.view, .int .i64 m.seq, .int .i64 m.client, .int .i64 m.stamp, .int .i64 m.entry.f0, .int .i64 m.entry.f1, .int .i64 m.entry.f2, .slice (a 0) m.entry.f3.length (c 0), .slice (a 1) m.digest.length (c 1), .slice (a 2) m.data.length (c 2), .slice (a 3) m.proof.length (c 3), .slice (a 4) m.proven.length (c 4)] 91))
  have HB0 := Aside0.mk (below_alloc (Below.refl w.heap.size w) (.cells #[.int .i64 m.kind, .int .i64 m.view, .int .i64 m.seq, .int .i64 m.client, .int .i64 m.stamp, .int .i64 m.entry.f0, .int .i64 m.entry.f1, .int .i64 m.entry.f2, .slice (a 0) m.entry.f3.length (c 0), .slice (a 1) m.digest.length (c 1), .slice (a 2) m.data.length (c 2), .slice (a 3) m.proof.length (c 3), .slice (a 4) m.proven.length (c 4)] 91))
  clear hM
  go_enter Try.func100, Try.ntmps100
  go_upto_region 1 with (fail)
  generalize w.alloc (.cells #[.int .i64 m.kind, .int .i64 m.view, .int .i64 m.seq, .int .i64 m.client, .int .i64 m.stamp, .int .i64 m.entry.f0, .int .i64 m.entry.f1, .int .i64 m.entry.f2, .slice (a 0) m.entry.f3.length (c 0), .slice (a 1) m.digest.length (c 1), .slice (a 2) m.data.length (c 2), .slice (a 3) m.proof.length (c 3), .slice (a 4) m.proven.length (c 4)] 91) = w0 at HX0 HB0 ⊢
  have x0 : w0.cell? ⟨w.heap.size, 0, none⟩ = some (.int .i64 m.kind) := (blk_cell HX0.out 0).trans rfl
  have x1 : w0.cell? ⟨w.heap.size, 1, none⟩ = some (.int .i64 m.view) := (blk_cell HX0.out 1).trans rfl
  have x2 : w0.cell? ⟨w.heap.size, 2, none⟩ = some (.int .i64 m.seq) := (blk_cell HX0.out 2).trans rfl
  have x3 : w0.cell? ⟨w.heap.size, 3, none⟩ = some (.int .i64 m.client) := (blk_cell HX0.out 3).trans rfl
  have x4 : w0.cell? ⟨w.heap.size, 4, none⟩ = some (.int .i64 m.stamp) := (blk_cell HX0.out 4).trans rfl
  have x5 : w0.cell? ⟨w.heap.size, 5, none⟩ = some (.int .i64 m.entry.f0) := (blk_cell HX0.out 5).trans rfl
  have x6 : w0.cell? ⟨w.heap.size, 6, none⟩ = some (.int .i64 m.entry.f1) := (blk_cell HX0.out 6).trans rfl
  have x7 : w0.cell? ⟨w.heap.size, 7, none⟩ = some (.int .i64 m.entry.f2) := (blk_cell HX0.out 7).trans rfl
  have x8 : w0.cell? ⟨w.heap.size, 8, none⟩ = some (.slice (a 0) m.entry.f3.length (c 0)) := (blk_cell HX0.out 8).trans rfl
  have x9 : w0.cell? ⟨w.heap.size, 9, none⟩ = some (.slice (a 1) m.digest.length (c 1)) := (blk_cell HX0.out 9).trans rfl
  have x10 : w0.cell? ⟨w.heap.size, 10, none⟩ = some (.slice (a 2) m.data.length (c 2)) := (blk_cell HX0.out 10).trans rfl
  have x11 : w0.cell? ⟨w.heap.size, 11, none⟩ = some (.slice (a 3) m.proof.length (c 3)) := (blk_cell HX0.out 11).trans rfl
  have x12 : w0.cell? ⟨w.heap.size, 12, none⟩ = some (.slice (a 4) m.proven.length (c 4)) := (blk_cell HX0.out 12).trans rfl
  go_wp2_with (fail)
  refine (parts99_calls m.kind w0).mono ?_
  rw [hp]
  rintro e w1 ⟨rfl, hB⟩
  have HX1 := Aside0.mk ((hB.block _ (blk_lt2 HX0.out)).trans HX0.out)
  have HB1 := Aside0.mk (below_then HB0.out HB0.out.size hB)
  clear hB x0 x1 x2 x3 x4 x5 x6 x7 x8 x9 x10 x11 x12
  go_upto_region 2 with (fail)
  dsimp only [List.append] at *
  have x0 : w1.cell? ⟨w.heap.size, 0, none⟩ = some (.int .i64 m.kind) := (blk_cell HX1.out 0).trans rfl
  have x1 : w1.cell? ⟨w.heap.size, 1, none⟩ = some (.int .i64 m.view) := (blk_cell HX1.out 1).trans rfl
  have x2 : w1.cell? ⟨w.heap.size, 2, none⟩ = some (.int .i64 m.seq) := (blk_cell HX1.out 2).trans rfl
  have x3 : w1.cell? ⟨w.heap.size, 3, none⟩ = some (.int .i64 m.client) := (blk_cell HX1.out 3).trans rfl
  have x4 : w1.cell? ⟨w.heap.size, 4, none⟩ = some (.int .i64 m.stamp) := (blk_cell HX1.out 4).trans rfl
  have x5 : w1.cell? ⟨w.heap.size, 5, none⟩ = some (.int .i64 m.entry.f0) := (blk_cell HX1.out 5).trans rfl
  have x6 : w1.cell? ⟨w.heap.size, 6, none⟩ = some (.int .i64 m.entry.f1) := (blk_cell HX1.out 6).trans rfl
  have x7 : w1.cell? ⟨w.heap.size, 7, none⟩ = some (.int .i64 m.entry.f2) := (blk_cell HX1.out 7).trans rfl
  have x8 : w1.cell? ⟨w.heap.size, 8, none⟩ = some (.slice (a 0) m.entry.f3.length (c 0)) := (blk_cell HX1.out 8).trans rfl
  have x9 : w1.cell? ⟨w.heap.size, 9, none⟩ = some (.slice (a 1) m.digest.length (c 1)) := (blk_cell HX1.out 9).trans rfl
  have x10 : w1.cell? ⟨w.heap.size, 10, none⟩ = some (.slice (a 2) m.data.length (c 2)) := (blk_cell HX1.out 10).trans rfl
  have x11 : w1.cell? ⟨w.heap.size, 11, none⟩ = some (.slice (a 3) m.proof.length (c 3)) := (blk_cell HX1.out 11).trans rfl
  have x12 : w1.cell? ⟨w.heap.size, 12, none⟩ = some (.slice (a 4) m.proven.length (c 4)) := (blk_cell HX1.out 12).trans rfl
  go_wp2_with (fail)
  refine (has140_calls p 118 w1 hps).mono ?_
  rintro e w' ⟨rfl, hw⟩
  rw [hw]
  clear hw w'
  obtain ⟨h, eh⟩ : ∃ h, hasB p 118 = h := ⟨_, rfl⟩
  have EH0 := Aside0.mk eh
  rw [eh]
  clear eh
  dsimp only
  apply_assumption
  refine seq_on (N := some 11) (v := .bool (!h)) rfl ⟨by go_simp, by go_simp <;> with_reducible rfl⟩ ?_
  refine seq_on (N := some 12) (v := .bool (!h)) rfl ⟨by go_simp, by go_simp <;> with_reducible rfl⟩ ?_
  refine wpl_norm (a' := ?_) ?_ ?_
  rotate_left
  · simp only [Act.put, List.setIfInBounds_toArray, List.set_cons_zero, List.set_cons_succ, i64_w, i32_w]
    rfl
  refine seq1 h (.pointer (some ⟨w.heap.size, 1, none⟩)) rfl (by rintro rfl; unfold Off; go_simp) (by rintro rfl; exact ⟨by go_simp, by go_simp <;> with_reducible rfl⟩) (fun t1 R1 => ?_)
  refine wpl_norm (a' := ?_) ?_ ?_
  rotate_left
  · simp only [Act.put, List.setIfInBounds_toArray, List.set_cons_zero, List.set_cons_succ, i64_w, i32_w]
    rfl
  refine seq1 h (.int .i64 m.view) rfl (by rintro rfl; unfold Off; go_simp) (by rintro rfl; obtain rfl := R1 rfl; exact ⟨by go_simp, by go_simp <;> with_reducible rfl⟩) (fun t2 R2 => ?_)
  refine wpl_norm (a' := ?_) ?_ ?_
  rotate_left
  · simp only [Act.put, List.setIfInBounds_toArray, List.set_cons_zero, List.set_cons_succ, i64_w, i32_w]
    rfl
  clear R1
  refine seq1 h (.bool (m.view != 0)) rfl (by rintro rfl; unfold Off; go_simp) (by rintro rfl; obtain rfl := R2 rfl; exact ⟨by go_simp, by go_simp <;> with_reducible rfl⟩) (fun t3 R3 => ?_)
  refine wpl_norm (a' := ?_) ?_ ?_
  rotate_left
  · simp only [Act.put, List.setIfInBounds_toArray, List.set_cons_zero, List.set_cons_succ, i64_w, i32_w]
    rfl
  clear R2
  obtain ⟨q, hq⟩ : ∃ q, (!h && (m.view != 0)) = q := ⟨_, rfl⟩
  refine seq_on (N := some 16) (v := .bool q) rfl (by cases h with | true => exact ⟨by go_simp, by subst hq; go_simp <;> with_reducible rfl⟩ | false => (obtain rfl := R3 rfl; exact ⟨by go_simp, by subst hq; go_simp <;> with_reducible rfl⟩)) ?_
  refine wpl_norm (a' := ?_) ?_ ?_
  rotate_left
  · simp only [Act.put, List.setIfInBounds_toArray, List.set_cons_zero, List.set_cons_succ, i64_w, i32_w]
    rfl
  clear R3
  have HQ0 := Aside0.mk hq
  clear hq
  cases q
  case true =>
    have HR := Aside0.mk (no_v EH0.out HQ0.out)
    go_wp2_with (fail)
    go_ret
    exact ⟨by rw [HR.out]; rfl, HB1.out⟩
  have HZ0 := Aside0.mk (yes_v EH0.out HQ0.out)
  clear HQ0 EH0
  go_wp2_with (fail)
  refine (has140_calls p 115 w1 hps).mono ?_
  rintro e w' ⟨rfl, hw⟩
  rw [hw]
  clear hw w'
  obtain ⟨h, eh⟩ : ∃ h, hasB p 115 = h := ⟨_, rfl⟩
  have EH1 := Aside0.mk eh
  rw [eh]
  clear eh
  dsimp only
  apply_assumption
  refine seq_on (N := some 20) (v := .bool (!h)) rfl ⟨by go_simp, by go_simp <;> with_reducible rfl⟩ ?_
  refine seq_on (N := some 21) (v := .bool (!h)) rfl ⟨by go_simp, by go_simp <;> with_reducible rfl⟩ ?_
  refine wpl_norm (a' := ?_) ?_ ?_
  rotate_left
  · simp only [Act.put, List.setIfInBounds_toArray, List.set_cons_zero, List.set_cons_succ, i64_w, i32_w]
    rfl
  refine seq1 h (.pointer (some ⟨w.heap.size, 2, none⟩)) rfl (by rintro rfl; unfold Off; go_simp) (by rintro rfl; exact ⟨by go_simp, by go_simp <;> with_reducible rfl⟩) (fun t1 R1 => ?_)
  refine wpl_norm (a' := ?_) ?_ ?_
  rotate_left
  · simp only [Act.put, List.setIfInBounds_toArray, List.set_cons_zero, List.set_cons_succ, i64_w, i32_w]
    rfl
  refine seq1 h (.int .i64 m.seq) rfl (by rintro rfl; unfold Off; go_simp) (by rintro rfl; obtain rfl := R1 rfl; exact ⟨by go_simp, by go_simp <;> with_reducible rfl⟩) (fun t2 R2 => ?_)
  refine wpl_norm (a' := ?_) ?_ ?_
  rotate_left
  · simp only [Act.put, List.setIfInBounds_toArray, List.set_cons_zero, List.set_cons_succ, i64_w, i32_w]
    rfl
  clear R1
  refine seq1 h (.bool (m.seq != 0)) rfl (by rintro rfl; unfold Off; go_simp) (by rintro rfl; obtain rfl := R2 rfl; exact ⟨by go_simp, by go_simp <;> with_reducible rfl⟩) (fun t3 R3 => ?_)
  refine wpl_norm (a' := ?_) ?_ ?_
  rotate_left
  · simp only [Act.put, List.setIfInBounds_toArray, List.set_cons_zero, List.set_cons_succ, i64_w, i32_w]
    rfl
  clear R2
  obtain ⟨q, hq⟩ : ∃ q, (!h && (m.seq != 0)) = q := ⟨_, rfl⟩
  refine seq_on (N := some 25) (v := .bool q) rfl (by cases h with | true => exact ⟨by go_simp, by subst hq; go_simp <;> with_reducible rfl⟩ | false => (obtain rfl := R3 rfl; exact ⟨by go_simp, by subst hq; go_simp <;> with_reducible rfl⟩)) ?_
  refine wpl_norm (a' := ?_) ?_ ?_
  rotate_left
  · simp only [Act.put, List.setIfInBounds_toArray, List.set_cons_zero, List.set_cons_succ, i64_w, i32_w]
    rfl
  clear R3
  have HQ1 := Aside0.mk hq
  clear hq
  cases q
  case true =>
    have HR := Aside0.mk (no_s EH1.out HQ1.out)
    go_wp2_with (fail)
    go_ret
    exact ⟨by rw [HR.out]; rfl, HB1.out⟩
  have HZ1 := Aside0.mk (yes_s EH1.out HQ1.out)
  clear HQ1 EH1
  go_wp2_with (fail)
  refine (has140_calls p 99 w1 hps).mono ?_
  rintro e w' ⟨rfl, hw⟩
  rw [hw]
  clear hw w'
  obtain ⟨h, eh⟩ : ∃ h, hasB p 99 = h := ⟨_, rfl⟩
  have EH2 := Aside0.mk eh
  rw [eh]
  clear eh
  dsimp only
  apply_assumption
  refine seq_on (N := some 30) (v := .bool (!h)) rfl ⟨by go_simp, by go_simp <;> with_reducible rfl⟩ ?_
  refine seq_on (N := some 31) (v := .bool (!h)) rfl ⟨by go_simp, by go_simp <;> with_reducible rfl⟩ ?_
  refine wpl_norm (a' := ?_) ?_ ?_
  rotate_left
  · simp only [Act.put, List.setIfInBounds_toArray, List.set_cons_zero, List.set_cons_succ, i64_w, i32_w]
    rfl
  refine seq1 h (.pointer (some ⟨w.heap.size, 3, none⟩)) rfl (by rintro rfl; unfold Off; go_simp) (by rintro rfl; exact ⟨by go_simp, by go_simp <;> with_reducible rfl⟩) (fun t1 R1 => ?_)
  refine wpl_norm (a' := ?_) ?_ ?_
  rotate_left
  · simp only [Act.put, List.setIfInBounds_toArray, List.set_cons_zero, List.set_cons_succ, i64_w, i32_w]
    rfl
  refine seq1 h (.int .i64 m.client) rfl (by rintro rfl; unfold Off; go_simp) (by rintro rfl; obtain rfl := R1 rfl; exact ⟨by go_simp, by go_simp <;> with_reducible rfl⟩) (fun t2 R2 => ?_)
  refine wpl_norm (a' := ?_) ?_ ?_
  rotate_left
  · simp only [Act.put, List.setIfInBounds_toArray, List.set_cons_zero, List.set_cons_succ, i64_w, i32_w]
    rfl
  clear R1
  refine seq1 h (.bool (m.client != 0)) rfl (by rintro rfl; unfold Off; go_simp) (by rintro rfl; obtain rfl := R2 rfl; exact ⟨by go_simp, by go_simp <;> with_reducible rfl⟩) (fun t3 R3 => ?_)
  refine wpl_norm (a' := ?_) ?_ ?_
  rotate_left
  · simp only [Act.put, List.setIfInBounds_toArray, List.set_cons_zero, List.set_cons_succ, i64_w, i32_w]
    rfl
  clear R2
  obtain ⟨q, hq⟩ : ∃ q, (!h && (m.client != 0)) = q := ⟨_, rfl⟩
  refine seq_on (N := some 35) (v := .bool q) rfl (by cases h with | true => exact ⟨by go_simp, by subst hq; go_simp <;> with_reducible rfl⟩ | false => (obtain rfl := R3 rfl; exact ⟨by go_simp, by subst hq; go_simp <;> with_reducible rfl⟩)) ?_
  refine wpl_norm (a' := ?_) ?_ ?_
  rotate_left
  · simp only [Act.put, List.setIfInBounds_toArray, List.set_cons_zero, List.set_cons_succ, i64_w, i32_w]
    rfl
  clear R3
  have HQ2 := Aside0.mk hq
  clear hq
  cases q
  case true =>
    have HR := Aside0.mk (no_c EH2.out HQ2.out)
    go_wp2_with (fail)
    go_ret
    exact ⟨by rw [HR.out]; rfl, HB1.out⟩
  have HZ2 := Aside0.mk (yes_c EH2.out HQ2.out)
  clear HQ2 EH2
  go_wp2_with (fail)
  refine (has140_calls p 116 w1 hps).mono ?_
  rintro e w' ⟨rfl, hw⟩
  rw [hw]
  clear hw w'
  obtain ⟨h, eh⟩ : ∃ h, hasB p 116 = h := ⟨_, rfl⟩
  have EH3 := Aside0.mk eh
  rw [eh]
  clear eh
  dsimp only
  apply_assumption
  refine seq_on (N := some 40) (v := .bool (!h)) rfl ⟨by go_simp, by go_simp <;> with_reducible rfl⟩ ?_
  refine seq_on (N := some 41) (v := .bool (!h)) rfl ⟨by go_simp, by go_simp <;> with_reducible rfl⟩ ?_
  refine wpl_norm (a' := ?_) ?_ ?_
  rotate_left
  · simp only [Act.put, List.setIfInBounds_toArray, List.set_cons_zero, List.set_cons_succ, i64_w, i32_w]
    rfl
  refine seq1 h (.pointer (some ⟨w.heap.size, 4, none⟩)) rfl (by rintro rfl; unfold Off; go_simp) (by rintro rfl; exact ⟨by go_simp, by go_simp <;> with_reducible rfl⟩) (fun t1 R1 => ?_)
  refine wpl_norm (a' := ?_) ?_ ?_
  rotate_left
  · simp only [Act.put, List.setIfInBounds_toArray, List.set_cons_zero, List.set_cons_succ, i64_w, i32_w]
    rfl
  refine seq1 h (.int .i64 m.stamp) rfl (by rintro rfl; unfold Off; go_simp) (by rintro rfl; obtain rfl := R1 rfl; exact ⟨by go_simp, by go_simp <;> with_reducible rfl⟩) (fun t2 R2 => ?_)
  refine wpl_norm (a' := ?_) ?_ ?_
  rotate_left
  · simp only [Act.put, List.setIfInBounds_toArray, List.set_cons_zero, List.set_cons_succ, i64_w, i32_w]
    rfl
  clear R1
  refine seq1 h (.bool (m.stamp != 0)) rfl (by rintro rfl; unfold Off; go_simp) (by rintro rfl; obtain rfl := R2 rfl; exact ⟨by go_simp, by go_simp <;> with_reducible rfl⟩) (fun t3 R3 => ?_)
  refine wpl_norm (a' := ?_) ?_ ?_
  rotate_left
  · simp only [Act.put, List.setIfInBounds_toArray, List.set_cons_zero, List.set_cons_succ, i64_w, i32_w]
    rfl
  clear R2
  obtain ⟨q, hq⟩ : ∃ q, (!h && (m.stamp != 0)) = q := ⟨_, rfl⟩
  refine seq_on (N := some 45) (v := .bool q) rfl (by cases h with | true => exact ⟨by go_simp, by subst hq; go_simp <;> with_reducible rfl⟩ | false => (obtain rfl := R3 rfl; exact ⟨by go_simp, by subst hq; go_simp <;> with_reducible rfl⟩)) ?_
  refine wpl_norm (a' := ?_) ?_ ?_
  rotate_left
  · simp only [Act.put, List.setIfInBounds_toArray, List.set_cons_zero, List.set_cons_succ, i64_w, i32_w]
    rfl
  clear R3
  have HQ3 := Aside0.mk hq
  clear hq
  cases q
  case true =>
    have HR := Aside0.mk (no_t EH3.out HQ3.out)
    go_wp2_with (fail)
    go_ret
    exact ⟨by rw [HR.out]; rfl, HB1.out⟩
  have HZ3 := Aside0.mk (yes_t EH3.out HQ3.out)
  clear HQ3 EH3
  go_wp2_with (fail)
  refine (has140_calls p 101 w1 hps).mono ?_
  rintro e w' ⟨rfl, hw⟩
  rw [hw]
  clear hw w'
  obtain ⟨h, eh⟩ : ∃ h, hasB p 101 = h := ⟨_, rfl⟩
  have EH4 := Aside0.mk eh
  rw [eh]
  clear eh
  dsimp only
  apply_assumption
  refine seq_on (N := some 50) (v := .bool (!h)) rfl ⟨by go_simp, by go_simp <;> with_reducible rfl⟩ ?_
  refine seq_on (N := some 51) (v := .bool (!h)) rfl ⟨by go_simp, by go_simp <;> with_reducible rfl⟩ ?_
  refine wpl_norm (a' := ?_) ?_ ?_
  rotate_left
  · simp only [Act.put, List.setIfInBounds_toArray, List.set_cons_zero, List.set_cons_succ, i64_w, i32_w]
    rfl
  refine seq3 h (.pointer (some ⟨w.heap.size, 5, none⟩)) (.agg #[.int .i64 m.entry.f0, .int .i64 m.entry.f1, .int .i64 m.entry.f2, .slice (a 0) m.entry.f3.length (c 0)]) (.agg #[.int .i64 0, .int .i64 0, .int .i64 0, .slice none 0 0]) rfl rfl rfl (by rintro rfl; refine ⟨?_, ?_, ?_⟩ <;> (unfold Off; go_simp)) (by rintro rfl; exact ⟨⟨by go_simp, by go_simp <;> with_reducible rfl⟩, ⟨by go_simp, by go_simp <;> with_reducible rfl⟩, ⟨by go_simp, by go_simp <;> with_reducible rfl⟩⟩) (fun t1 t2 t3 R => ?_)
  refine wpl_norm (a' := ?_) ?_ ?_
  rotate_left
  · simp only [Act.put, List.setIfInBounds_toArray, List.set_cons_zero, List.set_cons_succ, i64_w, i32_w]
    rfl
  refine seq_fork (N := some 55) rfl (fun v w' => Below w1.heap.size w1 w' ∧ (h = false → v = .bool (sameE m.entry z87))) (fun K hK => ?_) (fun t4 v2 R4 => ?_)
  · cases h with
    | true => exact off_ (by go_simp) (hK _ _ ⟨Below.refl _ _, fun e => by cases e⟩)
    | false =>
      obtain ⟨_, rfl, rfl⟩ := R rfl
      refine goes_ Try.func82 (by kernel_rfl) rfl #[.agg #[.int .i64 m.entry.f0, .int .i64 m.entry.f1, .int .i64 m.entry.f2, .slice (a 0) m.entry.f3.length (c 0)], .agg #[.int .i64 0, .int .i64 0, .int .i64 0, .slice none 0 0]] (by go_simp) rfl rfl (by go_simp) ?_
      have hE : Calls Try.prog 82 #[.agg #[.int .i64 m.entry.f0, .int .i64 m.entry.f1, .int .i64 m.entry.f2, .slice (a 0) m.entry.f3.length (c 0)], .agg #[.int .i64 0, .int .i64 0, .int .i64 0, .slice none 0 0]] w1 _ := sameEntry_calls m.entry z87 (a 0) none (c 0) 0 w1 (HM.out.below HB1.out).r0 HM.out.l0 (Kd.C_nil_ _ _) (Nat.le_refl _)
      refine hE.mono ?_
      rintro e w' ⟨rfl, hB⟩
      exact ⟨_, rfl, hK _ _ ⟨hB, fun _ => rfl⟩⟩
  refine wpl_norm (a' := ?_) ?_ ?_
  rotate_left
  · simp only [Act.put, List.setIfInBounds_toArray, List.set_cons_zero, List.set_cons_succ, i64_w, i32_w]
    rfl
  refine seq1 h (.bool (!sameE m.entry z87)) rfl (by rintro rfl; unfold Off; go_simp) (by rintro rfl; obtain rfl := R4.2 rfl; exact ⟨by go_simp, by go_simp <;> with_reducible rfl⟩) (fun t5 R5 => ?_)
  obtain ⟨q, hq⟩ : ∃ q, (!h && !sameE m.entry z87) = q := ⟨_, rfl⟩
  refine seq_on (N := some 57) (v := .bool q) rfl (by cases h with | true => exact ⟨by go_simp, by subst hq; go_simp <;> with_reducible rfl⟩ | false => (obtain rfl := R5 rfl; exact ⟨by go_simp, by subst hq; go_simp <;> with_reducible rfl⟩)) ?_
  refine wpl_norm (a' := ?_) ?_ ?_
  rotate_left
  · simp only [Act.put, List.setIfInBounds_toArray, List.set_cons_zero, List.set_cons_succ, i64_w, i32_w]
    rfl
  have hB := R4.1
  have HX2 := Aside0.mk ((hB.block _ (blk_lt2 HX1.out)).trans HX1.out)
  have HB2 := Aside0.mk (below_then HB1.out HB1.out.size hB)
  clear hB R R4 R5
  have HQ4 := Aside0.mk hq
  clear hq
  clear x0 x1 x2 x3 x4 x5 x6 x7 x8 x9 x10 x11 x12
  have x0 : v2.cell? ⟨w.heap.size, 0, none⟩ = some (.int .i64 m.kind) := (blk_cell HX2.out 0).trans rfl
  have x1 : v2.cell? ⟨w.heap.size, 1, none⟩ = some (.int .i64 m.view) := (blk_cell HX2.out 1).trans rfl
  have x2 : v2.cell? ⟨w.heap.size, 2, none⟩ = some (.int .i64 m.seq) := (blk_cell HX2.out 2).trans rfl
  have x3 : v2.cell? ⟨w.heap.size, 3, none⟩ = some (.int .i64 m.client) := (blk_cell HX2.out 3).trans rfl
  have x4 : v2.cell? ⟨w.heap.size, 4, none⟩ = some (.int .i64 m.stamp) := (blk_cell HX2.out 4).trans rfl
  have x5 : v2.cell? ⟨w.heap.size, 5, none⟩ = some (.int .i64 m.entry.f0) := (blk_cell HX2.out 5).trans rfl
  have x6 : v2.cell? ⟨w.heap.size, 6, none⟩ = some (.int .i64 m.entry.f1) := (blk_cell HX2.out 6).trans rfl
  have x7 : v2.cell? ⟨w.heap.size, 7, none⟩ = some (.int .i64 m.entry.f2) := (blk_cell HX2.out 7).trans rfl
  have x8 : v2.cell? ⟨w.heap.size, 8, none⟩ = some (.slice (a 0) m.entry.f3.length (c 0)) := (blk_cell HX2.out 8).trans rfl
  have x9 : v2.cell? ⟨w.heap.size, 9, none⟩ = some (.slice (a 1) m.digest.length (c 1)) := (blk_cell HX2.out 9).trans rfl
  have x10 : v2.cell? ⟨w.heap.size, 10, none⟩ = some (.slice (a 2) m.data.length (c 2)) := (blk_cell HX2.out 10).trans rfl
  have x11 : v2.cell? ⟨w.heap.size, 11, none⟩ = some (.slice (a 3) m.proof.length (c 3)) := (blk_cell HX2.out 11).trans rfl
  have x12 : v2.cell? ⟨w.heap.size, 12, none⟩ = some (.slice (a 4) m.proven.length (c 4)) := (blk_cell HX2.out 12).trans rfl
  cases q
  case true =>
    have HR := Aside0.mk (no_e EH4.out HQ4.out)
    go_wp2_with (fail)
    go_ret
    exact ⟨by rw [HR.out]; rfl, HB2.out⟩
  have HZ4 := Aside0.mk (yes_e EH4.out HQ4.out)
  clear HQ4 EH4
  go_wp2_with (fail)
  refine (has140_calls p 100 v2 hps).mono ?_
  rintro e w' ⟨rfl, hw⟩
  rw [hw]
  clear hw w'
  obtain ⟨h, eh⟩ : ∃ h, hasB p 100 = h := ⟨_, rfl⟩
  have EH5 := Aside0.mk eh
  rw [eh]
  clear eh
  dsimp only
  apply_assumption
  refine seq_on (N := some 62) (v := .bool (!h)) rfl ⟨by go_simp, by go_simp <;> with_reducible rfl⟩ ?_
  refine seq_on (N := some 63) (v := .bool (!h)) rfl ⟨by go_simp, by go_simp <;> with_reducible rfl⟩ ?_
  refine wpl_norm (a' := ?_) ?_ ?_
  rotate_left
  · simp only [Act.put, List.setIfInBounds_toArray, List.set_cons_zero, List.set_cons_succ, i64_w, i32_w]
    rfl
  refine seq1 h (.pointer (some ⟨w.heap.size, 9, none⟩)) rfl (by rintro rfl; unfold Off; go_simp) (by rintro rfl; exact ⟨by go_simp, by go_simp <;> with_reducible rfl⟩) (fun t1 R1 => ?_)
  refine wpl_norm (a' := ?_) ?_ ?_
  rotate_left
  · simp only [Act.put, List.setIfInBounds_toArray, List.set_cons_zero, List.set_cons_succ, i64_w, i32_w]
    rfl
  refine seq1 h (.slice (a 1) m.digest.length (c 1)) rfl (by rintro rfl; unfold Off; go_simp) (by rintro rfl; obtain rfl := R1 rfl; exact ⟨by go_simp, by go_simp <;> with_reducible rfl⟩) (fun t2 R2 => ?_)
  refine wpl_norm (a' := ?_) ?_ ?_
  rotate_left
  · simp only [Act.put, List.setIfInBounds_toArray, List.set_cons_zero, List.set_cons_succ, i64_w, i32_w]
    rfl
  clear R1
  refine seq1 h (.int .i64 (m.digest.length : Int)) rfl (by rintro rfl; unfold Off; go_simp) (by rintro rfl; obtain rfl := R2 rfl; exact ⟨by go_simp, by go_simp <;> with_reducible rfl⟩) (fun t3 R3 => ?_)
  refine wpl_norm (a' := ?_) ?_ ?_
  rotate_left
  · simp only [Act.put, List.setIfInBounds_toArray, List.set_cons_zero, List.set_cons_succ, i64_w, i32_w]
    rfl
  clear R2
  refine seq1 h (.bool ((m.digest.length : Int) != 0)) rfl (by rintro rfl; unfold Off; go_simp) (by rintro rfl; obtain rfl := R3 rfl; exact ⟨by go_simp, by go_simp <;> with_reducible rfl⟩) (fun t4 R4 => ?_)
  refine wpl_norm (a' := ?_) ?_ ?_
  rotate_left
  · simp only [Act.put, List.setIfInBounds_toArray, List.set_cons_zero, List.set_cons_succ, i64_w, i32_w]
    rfl
  clear R3
  obtain ⟨q, hq⟩ : ∃ q, (!h && ((m.digest.length : Int) != 0)) = q := ⟨_, rfl⟩
  refine seq_on (N := some 68) (v := .bool q) rfl (by cases h with | true => exact ⟨by go_simp, by subst hq; go_simp <;> with_reducible rfl⟩ | false => (obtain rfl := R4 rfl; exact ⟨by go_simp, by subst hq; go_simp <;> with_reducible rfl⟩)) ?_
  refine wpl_norm (a' := ?_) ?_ ?_
  rotate_left
  · simp only [Act.put, List.setIfInBounds_toArray, List.set_cons_zero, List.set_cons_succ, i64_w, i32_w]
    rfl
  clear R4
  have HQ5 := Aside0.mk hq
  clear hq
  cases q
  case true =>
    have HR := Aside0.mk (no_d EH5.out HQ5.out)
    go_wp2_with (fail)
    go_ret
    exact ⟨by rw [HR.out]; rfl, HB2.out⟩
  have HZ5 := Aside0.mk (yes_d EH5.out HQ5.out)
  clear HQ5 EH5
  go_wp2_with (fail)
  refine (has140_calls p 98 v2 hps).mono ?_
  rintro e w' ⟨rfl, hw⟩
  rw [hw]
  clear hw w'
  obtain ⟨h, eh⟩ : ∃ h, hasB p 98 = h := ⟨_, rfl⟩
  have EH6 := Aside0.mk eh
  rw [eh]
  clear eh
  dsimp only
  apply_assumption
  refine seq_on (N := some 73) (v := .bool (!h)) rfl ⟨by go_simp, by go_simp <;> with_reducible rfl⟩ ?_
  refine seq_on (N := some 74) (v := .bool (!h)) rfl ⟨by go_simp, by go_simp <;> with_reducible rfl⟩ ?_
  refine wpl_norm (a' := ?_) ?_ ?_
  rotate_left
  · simp only [Act.put, List.setIfInBounds_toArray, List.set_cons_zero, List.set_cons_succ, i64_w, i32_w]
    rfl
  refine seq1 h (.pointer (some ⟨w.heap.size, 10, none⟩)) rfl (by rintro rfl; unfold Off; go_simp) (by rintro rfl; exact ⟨by go_simp, by go_simp <;> with_reducible rfl⟩) (fun t1 R1 => ?_)
  refine wpl_norm (a' := ?_) ?_ ?_
  rotate_left
  · simp only [Act.put, List.setIfInBounds_toArray, List.set_cons_zero, List.set_cons_succ, i64_w, i32_w]
    rfl
  refine seq1 h (.slice (a 2) m.data.length (c 2)) rfl (by rintro rfl; unfold Off; go_simp) (by rintro rfl; obtain rfl := R1 rfl; exact ⟨by go_simp, by go_simp <;> with_reducible rfl⟩) (fun t2 R2 => ?_)
  refine wpl_norm (a' := ?_) ?_ ?_
  rotate_left
  · simp only [Act.put, List.setIfInBounds_toArray, List.set_cons_zero, List.set_cons_succ, i64_w, i32_w]
    rfl
  clear R1
  refine seq1 h (.int .i64 (m.data.length : Int)) rfl (by rintro rfl; unfold Off; go_simp) (by rintro rfl; obtain rfl := R2 rfl; exact ⟨by go_simp, by go_simp <;> with_reducible rfl⟩) (fun t3 R3 => ?_)
  refine wpl_norm (a' := ?_) ?_ ?_
  rotate_left
  · simp only [Act.put, List.setIfInBounds_toArray, List.set_cons_zero, List.set_cons_succ, i64_w, i32_w]
    rfl
  clear R2
  refine seq1 h (.bool ((m.data.length : Int) != 0)) rfl (by rintro rfl; unfold Off; go_simp) (by rintro rfl; obtain rfl := R3 rfl; exact ⟨by go_simp, by go_simp <;> with_reducible rfl⟩) (fun t4 R4 => ?_)
  refine wpl_norm (a' := ?_) ?_ ?_
  rotate_left
  · simp only [Act.put, List.setIfInBounds_toArray, List.set_cons_zero, List.set_cons_succ, i64_w, i32_w]
    rfl
  clear R3
  obtain ⟨q, hq⟩ : ∃ q, (!h && ((m.data.length : Int) != 0)) = q := ⟨_, rfl⟩
  refine seq_on (N := some 79) (v := .bool q) rfl (by cases h with | true => exact ⟨by go_simp, by subst hq; go_simp <;> with_reducible rfl⟩ | false => (obtain rfl := R4 rfl; exact ⟨by go_simp, by subst hq; go_simp <;> with_reducible rfl⟩)) ?_
  refine wpl_norm (a' := ?_) ?_ ?_
  rotate_left
  · simp only [Act.put, List.setIfInBounds_toArray, List.set_cons_zero, List.set_cons_succ, i64_w, i32_w]
    rfl
  clear R4
  have HQ6 := Aside0.mk hq
  clear hq
  cases q
  case true =>
    have HR := Aside0.mk (no_b EH6.out HQ6.out)
    go_wp2_with (fail)
    go_ret
    exact ⟨by rw [HR.out]; rfl, HB2.out⟩
  have HZ6 := Aside0.mk (yes_b EH6.out HQ6.out)
  clear HQ6 EH6
  go_wp2_with (fail)
  refine (has140_calls p 108 v2 hps).mono ?_
  rintro e w' ⟨rfl, hw⟩
  rw [hw]
  clear hw w'
  obtain ⟨h, eh⟩ : ∃ h, hasB p 108 = h := ⟨_, rfl⟩
  have EH7 := Aside0.mk eh
  rw [eh]
  clear eh
  dsimp only
  apply_assumption
  refine seq_on (N := some 84) (v := .bool (!h)) rfl ⟨by go_simp, by go_simp <;> with_reducible rfl⟩ ?_
  refine seq_on (N := some 85) (v := .bool (!h)) rfl ⟨by go_simp, by go_simp <;> with_reducible rfl⟩ ?_
  refine wpl_norm (a' := ?_) ?_ ?_
  rotate_left
  · simp only [Act.put, List.setIfInBounds_toArray, List.set_cons_zero, List.set_cons_succ, i64_w, i32_w]
    rfl
  refine seq1 h (.pointer (some ⟨w.heap.size, 11, none⟩)) rfl (by rintro rfl; unfold Off; go_simp) (by rintro rfl; exact ⟨by go_simp, by go_simp <;> with_reducible rfl⟩) (fun t1 R1 => ?_)
  refine wpl_norm (a' := ?_) ?_ ?_
  rotate_left
  · simp only [Act.put, List.setIfInBounds_toArray, List.set_cons_zero, List.set_cons_succ, i64_w, i32_w]
    rfl
  refine seq1 h (.slice (a 3) m.proof.length (c 3)) rfl (by rintro rfl; unfold Off; go_simp) (by rintro rfl; obtain rfl := R1 rfl; exact ⟨by go_simp, by go_simp <;> with_reducible rfl⟩) (fun t2 R2 => ?_)
  refine wpl_norm (a' := ?_) ?_ ?_
  rotate_left
  · simp only [Act.put, List.setIfInBounds_toArray, List.set_cons_zero, List.set_cons_succ, i64_w, i32_w]
    rfl
  clear R1
  refine seq1 h (.int .i64 (m.proof.length : Int)) rfl (by rintro rfl; unfold Off; go_simp) (by rintro rfl; obtain rfl := R2 rfl; exact ⟨by go_simp, by go_simp <;> with_reducible rfl⟩) (fun t3 R3 => ?_)
  refine wpl_norm (a' := ?_) ?_ ?_
  rotate_left
  · simp only [Act.put, List.setIfInBounds_toArray, List.set_cons_zero, List.set_cons_succ, i64_w, i32_w]
    rfl
  clear R2
  refine seq1 h (.bool ((m.proof.length : Int) != 0)) rfl (by rintro rfl; unfold Off; go_simp) (by rintro rfl; obtain rfl := R3 rfl; exact ⟨by go_simp, by go_simp <;> with_reducible rfl⟩) (fun t4 R4 => ?_)
  refine wpl_norm (a' := ?_) ?_ ?_
  rotate_left
  · simp only [Act.put, List.setIfInBounds_toArray, List.set_cons_zero, List.set_cons_succ, i64_w, i32_w]
    rfl
  clear R3
  obtain ⟨q, hq⟩ : ∃ q, (!h && ((m.proof.length : Int) != 0)) = q := ⟨_, rfl⟩
  refine seq_on (N := some 90) (v := .bool q) rfl (by cases h with | true => exact ⟨by go_simp, by subst hq; go_simp <;> with_reducible rfl⟩ | false => (obtain rfl := R4 rfl; exact ⟨by go_simp, by subst hq; go_simp <;> with_reducible rfl⟩)) ?_
  refine wpl_norm (a' := ?_) ?_ ?_
  rotate_left
  · simp only [Act.put, List.setIfInBounds_toArray, List.set_cons_zero, List.set_cons_succ, i64_w, i32_w]
    rfl
  clear R4
  have HQ7 := Aside0.mk hq
  clear hq
  cases q
  case true =>
    have HR := Aside0.mk (no_l EH7.out HQ7.out)
    go_wp2_with (fail)
    go_ret
    exact ⟨by rw [HR.out]; rfl, HB2.out⟩
  have HZ7 := Aside0.mk (yes_l EH7.out HQ7.out)
  clear HQ7 EH7
  go_wp2_with (fail)
  refine (has140_calls p 112 v2 hps).mono ?_
  rintro e w' ⟨rfl, hw⟩
  rw [hw]
  clear hw w'
  obtain ⟨h, eh⟩ : ∃ h, hasB p 112 = h := ⟨_, rfl⟩
  have EH8 := Aside0.mk eh
  rw [eh]
  clear eh
  dsimp only
  apply_assumption
  refine seq_on (N := some 95) (v := .bool (!h)) rfl ⟨by go_simp, by go_simp <;> with_reducible rfl⟩ ?_
  refine seq_on (N := some 96) (v := .bool (!h)) rfl ⟨by go_simp, by go_simp <;> with_reducible rfl⟩ ?_
  refine wpl_norm (a' := ?_) ?_ ?_
  rotate_left
  · simp only [Act.put, List.setIfInBounds_toArray, List.set_cons_zero, List.set_cons_succ, i64_w, i32_w]
    rfl
  refine seq1 h (.pointer (some ⟨w.heap.size, 12, none⟩)) rfl (by rintro rfl; unfold Off; go_simp) (by rintro rfl; exact ⟨by go_simp, by go_simp <;> with_reducible rfl⟩) (fun t1 R1 => ?_)
  refine wpl_norm (a' := ?_) ?_ ?_
  rotate_left
  · simp only [Act.put, List.setIfInBounds_toArray, List.set_cons_zero, List.set_cons_succ, i64_w, i32_w]
    rfl
  refine seq1 h (.slice (a 4) m.proven.length (c 4)) rfl (by rintro rfl; unfold Off; go_simp) (by rintro rfl; obtain rfl := R1 rfl; exact ⟨by go_simp, by go_simp <;> with_reducible rfl⟩) (fun t2 R2 => ?_)
  refine wpl_norm (a' := ?_) ?_ ?_
  rotate_left
  · simp only [Act.put, List.setIfInBounds_toArray, List.set_cons_zero, List.set_cons_succ, i64_w, i32_w]
    rfl
  clear R1
  refine seq1 h (.int .i64 (m.proven.length : Int)) rfl (by rintro rfl; unfold Off; go_simp) (by rintro rfl; obtain rfl := R2 rfl; exact ⟨by go_simp, by go_simp <;> with_reducible rfl⟩) (fun t3 R3 => ?_)
  refine wpl_norm (a' := ?_) ?_ ?_
  rotate_left
  · simp only [Act.put, List.setIfInBounds_toArray, List.set_cons_zero, List.set_cons_succ, i64_w, i32_w]
    rfl
  clear R2
  refine seq1 h (.bool ((m.proven.length : Int) != 0)) rfl (by rintro rfl; unfold Off; go_simp) (by rintro rfl; obtain rfl := R3 rfl; exact ⟨by go_simp, by go_simp <;> with_reducible rfl⟩) (fun t4 R4 => ?_)
  refine wpl_norm (a' := ?_) ?_ ?_
  rotate_left
  · simp only [Act.put, List.setIfInBounds_toArray, List.set_cons_zero, List.set_cons_succ, i64_w, i32_w]
    rfl
  clear R3
  obtain ⟨q, hq⟩ : ∃ q, (!h && ((m.proven.length : Int) != 0)) = q := ⟨_, rfl⟩
  refine seq_on (N := some 101) (v := .bool q) rfl (by cases h with | true => exact ⟨by go_simp, by subst hq; go_simp <;> with_reducible rfl⟩ | false => (obtain rfl := R4 rfl; exact ⟨by go_simp, by subst hq; go_simp <;> with_reducible rfl⟩)) ?_
  refine wpl_norm (a' := ?_) ?_ ?_
  rotate_left
  · simp only [Act.put, List.setIfInBounds_toArray, List.set_cons_zero, List.set_cons_succ, i64_w, i32_w]
    rfl
  clear R4
  have HQ8 := Aside0.mk hq
  clear hq
  cases q
  case true =>
    have HR := Aside0.mk (no_p EH8.out HQ8.out)
    go_wp2_with (fail)
    go_ret
    exact ⟨by rw [HR.out]; rfl, HB2.out⟩
  have HZ8 := Aside0.mk (yes_p EH8.out HQ8.out)
  clear HQ8 EH8
  go_wp2_with (fail)
  refine (wide141_calls m.view v2).mono ?_
  rintro e w' ⟨rfl, hw⟩
  rw [hw]
  clear hw w'
  obtain ⟨g, eg⟩ : ∃ g, (!narrow m.view) = g := ⟨_, rfl⟩
  rw [eg]
  have HG := Aside0.mk eg
  clear eg
  cases g
  case false =>
    have HR := Aside0.mk (show rightB m p = false from rno_wide (by simp) HG.out)
    go_wp2_with (fail)
    go_ret
    exact ⟨by rw [HR.out]; rfl, HB2.out⟩
  have HW0 := HG
  clear HG
  go_wp2_with (fail)
  refine (wide141_calls m.seq v2).mono ?_
  rintro e w' ⟨rfl, hw⟩
  rw [hw]
  clear hw w'
  obtain ⟨g, eg⟩ : ∃ g, (!narrow m.seq) = g := ⟨_, rfl⟩
  rw [eg]
  have HG := Aside0.mk eg
  clear eg
  cases g
  case false =>
    have HR := Aside0.mk (show rightB m p = false from rno_wide (by simp) HG.out)
    go_wp2_with (fail)
    go_ret
    exact ⟨by rw [HR.out]; rfl, HB2.out⟩
  have HW1 := HG
  clear HG
  go_wp2_with (fail)
  refine (wide141_calls m.stamp v2).mono ?_
  rintro e w' ⟨rfl, hw⟩
  rw [hw]
  clear hw w'
  obtain ⟨g, eg⟩ : ∃ g, (!narrow m.stamp) = g := ⟨_, rfl⟩
  rw [eg]
  have HG := Aside0.mk eg
  clear eg
  cases g
  case false =>
    have HR := Aside0.mk (show rightB m p = false from rno_wide (by simp) HG.out)
    go_wp2_with (fail)
    go_ret
    exact ⟨by rw [HR.out]; rfl, HB2.out⟩
  have HW2 := HG
  clear HG
  go_wp2_with (fail)
  refine (peer142_calls m.client v2).mono ?_
  rintro e w' ⟨rfl, hw⟩
  rw [hw]
  clear hw w'
  obtain ⟨g, eg⟩ : ∃ g, withinB m.client 0 7 = g := ⟨_, rfl⟩
  rw [eg]
  have HG := Aside0.mk eg
  clear eg
  cases g
  case false =>
    have HR := Aside0.mk (show rightB m p = false from rno_client HG.out)
    go_wp2_with (fail)
    go_ret
    exact ⟨by rw [HR.out]; rfl, HB2.out⟩
  have HW3 := HG
  clear HG
  go_wp2_with (fail)
  refine (has140_calls p 101 v2 hps).mono ?_
  rintro e w' ⟨rfl, hw⟩
  rw [hw]
  clear hw w'
  obtain ⟨h, eh⟩ : ∃ h, hasB p 101 = (!h) := ⟨!hasB p 101, by simp⟩
  have EH10 := Aside0.mk eh
  rw [eh]
  clear eh
  dsimp only
  apply_assumption
  refine seq_on (N := some 128) (v := .bool (!h)) rfl ⟨by go_simp, by go_simp <;> with_reducible rfl⟩ ?_
  refine wpl_norm (a' := ?_) ?_ ?_
  rotate_left
  · simp only [Act.put, List.setIfInBounds_toArray, List.set_cons_zero, List.set_cons_succ, i64_w, i32_w]
    rfl
  refine seq1 h (.pointer (some ⟨w.heap.size, 5, none⟩)) rfl (by rintro rfl; unfold Off; go_simp) (by rintro rfl; exact ⟨by go_simp, by go_simp <;> with_reducible rfl⟩) (fun t1 R1 => ?_)
  refine wpl_norm (a' := ?_) ?_ ?_
  rotate_left
  · simp only [Act.put, List.setIfInBounds_toArray, List.set_cons_zero, List.set_cons_succ, i64_w, i32_w]
    rfl
  refine seq1 h (.agg #[.int .i64 m.entry.f0, .int .i64 m.entry.f1, .int .i64 m.entry.f2, .slice (a 0) m.entry.f3.length (c 0)]) rfl (by rintro rfl; unfold Off; go_simp) (by rintro rfl; obtain rfl := R1 rfl; exact ⟨by go_simp, by go_simp <;> with_reducible rfl⟩) (fun t2 R2 => ?_)
  refine wpl_norm (a' := ?_) ?_ ?_
  rotate_left
  · simp only [Act.put, List.setIfInBounds_toArray, List.set_cons_zero, List.set_cons_succ, i64_w, i32_w]
    rfl
  refine seq_fork (N := some 131) rfl (fun v w' => Below v2.heap.size v2 w' ∧ (h = false → v = .bool (goodEntry m.entry))) (fun K hK => ?_) (fun t3 v3 R3 => ?_)
  · cases h with
    | true => exact off_ (by go_simp) (hK _ _ ⟨Below.refl _ _, fun e => by cases e⟩)
    | false =>
      obtain rfl := R2 rfl
      refine goes_ Try.func119 (by kernel_rfl) rfl #[.agg #[.int .i64 m.entry.f0, .int .i64 m.entry.f1, .int .i64 m.entry.f2, .slice (a 0) m.entry.f3.length (c 0)]] (by go_simp) rfl rfl (by go_simp) ?_
      refine (entry119_calls m.entry (a 0) (c 0) v2).mono ?_
      rintro e w' ⟨rfl, hB⟩
      exact ⟨_, rfl, hK _ _ ⟨hB, fun _ => rfl⟩⟩
  refine wpl_norm (a' := ?_) ?_ ?_
  rotate_left
  · simp only [Act.put, List.setIfInBounds_toArray, List.set_cons_zero, List.set_cons_succ, i64_w, i32_w]
    rfl
  refine seq1 h (.bool (!goodEntry m.entry)) rfl (by rintro rfl; unfold Off; go_simp) (by rintro rfl; obtain rfl := R3.2 rfl; exact ⟨by go_simp, by go_simp <;> with_reducible rfl⟩) (fun t4 R4 => ?_)
  refine wpl_norm (a' := ?_) ?_ ?_
  rotate_left
  · simp only [Act.put, List.setIfInBounds_toArray, List.set_cons_zero, List.set_cons_succ, i64_w, i32_w]
    rfl
  obtain ⟨q, hq⟩ : ∃ q, (!h && !goodEntry m.entry) = q := ⟨_, rfl⟩
  refine seq_on (N := some 133) (v := .bool q) rfl (by cases h with | true => exact ⟨by go_simp, by subst hq; go_simp <;> with_reducible rfl⟩ | false => (obtain rfl := R4 rfl; exact ⟨by go_simp, by subst hq; go_simp <;> with_reducible rfl⟩)) ?_
  refine wpl_norm (a' := ?_) ?_ ?_
  rotate_left
  · simp only [Act.put, List.setIfInBounds_toArray, List.set_cons_zero, List.set_cons_succ, i64_w, i32_w]
    rfl
  have hB := R3.1
  have HX3 := Aside0.mk ((hB.block _ (blk_lt2 HX2.out)).trans HX2.out)
  have HB3 := Aside0.mk (below_then HB2.out HB2.out.size hB)
  clear hB R1 R2 R3 R4 x0 x1 x2 x3 x4 x5 x6 x7 x8 x9 x10 x11 x12
  have HQ := Aside0.mk hq
  clear hq
  have x0 : v3.cell? ⟨w.heap.size, 0, none⟩ = some (.int .i64 m.kind) := (blk_cell HX3.out 0).trans rfl
  have x1 : v3.cell? ⟨w.heap.size, 1, none⟩ = some (.int .i64 m.view) := (blk_cell HX3.out 1).trans rfl
  have x2 : v3.cell? ⟨w.heap.size, 2, none⟩ = some (.int .i64 m.seq) := (blk_cell HX3.out 2).trans rfl
  have x3 : v3.cell? ⟨w.heap.size, 3, none⟩ = some (.int .i64 m.client) := (blk_cell HX3.out 3).trans rfl
  have x4 : v3.cell? ⟨w.heap.size, 4, none⟩ = some (.int .i64 m.stamp) := (blk_cell HX3.out 4).trans rfl
  have x5 : v3.cell? ⟨w.heap.size, 5, none⟩ = some (.int .i64 m.entry.f0) := (blk_cell HX3.out 5).trans rfl
  have x6 : v3.cell? ⟨w.heap.size, 6, none⟩ = some (.int .i64 m.entry.f1) := (blk_cell HX3.out 6).trans rfl
  have x7 : v3.cell? ⟨w.heap.size, 7, none⟩ = some (.int .i64 m.entry.f2) := (blk_cell HX3.out 7).trans rfl
  have x8 : v3.cell? ⟨w.heap.size, 8, none⟩ = some (.slice (a 0) m.entry.f3.length (c 0)) := (blk_cell HX3.out 8).trans rfl
  have x9 : v3.cell? ⟨w.heap.size, 9, none⟩ = some (.slice (a 1) m.digest.length (c 1)) := (blk_cell HX3.out 9).trans rfl
  have x10 : v3.cell? ⟨w.heap.size, 10, none⟩ = some (.slice (a 2) m.data.length (c 2)) := (blk_cell HX3.out 10).trans rfl
  have x11 : v3.cell? ⟨w.heap.size, 11, none⟩ = some (.slice (a 3) m.proof.length (c 3)) := (blk_cell HX3.out 11).trans rfl
  have x12 : v3.cell? ⟨w.heap.size, 12, none⟩ = some (.slice (a 4) m.proven.length (c 4)) := (blk_cell HX3.out 12).trans rfl
  cases q
  case true =>
    have HR := Aside0.mk (show rightB m p = false from rno_entry EH10.out HQ.out)
    go_wp2_with (fail)
    go_ret
    exact ⟨by rw [HR.out]; rfl, HB3.out⟩
  have HW4 := Aside0.mk (ryes_entry EH10.out HQ.out)
  clear HQ EH10
  go_wp2_with (fail)
  refine (has140_calls p 100 v3 hps).mono ?_
  rintro e w' ⟨rfl, hw⟩
  rw [hw]
  clear hw w'
  obtain ⟨h, eh⟩ : ∃ h, hasB p 100 = (!h) := ⟨!hasB p 100, by simp⟩
  have EH11 := Aside0.mk eh
  rw [eh]
  clear eh
  dsimp only
  apply_assumption
  refine seq_on (N := some 138) (v := .bool (!h)) rfl ⟨by go_simp, by go_simp <;> with_reducible rfl⟩ ?_
  refine wpl_norm (a' := ?_) ?_ ?_
  rotate_left
  · simp only [Act.put, List.setIfInBounds_toArray, List.set_cons_zero, List.set_cons_succ, i64_w, i32_w]
    rfl
  refine seq1 h (.pointer (some ⟨w.heap.size, 9, none⟩)) rfl (by rintro rfl; unfold Off; go_simp) (by rintro rfl; exact ⟨by go_simp, by go_simp <;> with_reducible rfl⟩) (fun t1 R1 => ?_)
  refine wpl_norm (a' := ?_) ?_ ?_
  rotate_left
  · simp only [Act.put, List.setIfInBounds_toArray, List.set_cons_zero, List.set_cons_succ, i64_w, i32_w]
    rfl
  refine seq1 h (.slice (a 1) m.digest.length (c 1)) rfl (by rintro rfl; unfold Off; go_simp) (by rintro rfl; obtain rfl := R1 rfl; exact ⟨by go_simp, by go_simp <;> with_reducible rfl⟩) (fun t2 R2 => ?_)
  refine wpl_norm (a' := ?_) ?_ ?_
  rotate_left
  · simp only [Act.put, List.setIfInBounds_toArray, List.set_cons_zero, List.set_cons_succ, i64_w, i32_w]
    rfl
  refine seq1 h (.int .i64 (m.digest.length : Int)) rfl (by rintro rfl; unfold Off; go_simp) (by rintro rfl; obtain rfl := R2 rfl; exact ⟨by go_simp, by go_simp <;> with_reducible rfl⟩) (fun t3 R3 => ?_)
  refine wpl_norm (a' := ?_) ?_ ?_
  rotate_left
  · simp only [Act.put, List.setIfInBounds_toArray, List.set_cons_zero, List.set_cons_succ, i64_w, i32_w]
    rfl
  refine seq1 h (.bool ((m.digest.length : Int) != 32)) rfl (by rintro rfl; unfold Off; go_simp) (by rintro rfl; obtain rfl := R3 rfl; exact ⟨by go_simp, by go_simp <;> with_reducible rfl⟩) (fun t4 R4 => ?_)
  refine wpl_norm (a' := ?_) ?_ ?_
  rotate_left
  · simp only [Act.put, List.setIfInBounds_toArray, List.set_cons_zero, List.set_cons_succ, i64_w, i32_w]
    rfl
  obtain ⟨q, hq⟩ : ∃ q, (!h && ((m.digest.length : Int) != 32)) = q := ⟨_, rfl⟩
  refine seq_on (N := some 143) (v := .bool q) rfl (by cases h with | true => exact ⟨by go_simp, by subst hq; go_simp <;> with_reducible rfl⟩ | false => (obtain rfl := R4 rfl; exact ⟨by go_simp, by subst hq; go_simp <;> with_reducible rfl⟩)) ?_
  refine wpl_norm (a' := ?_) ?_ ?_
  rotate_left
  · simp only [Act.put, List.setIfInBounds_toArray, List.set_cons_zero, List.set_cons_succ, i64_w, i32_w]
    rfl
  clear R1 R2 R3 R4
  have HQ := Aside0.mk hq
  clear hq
  cases q
  case true =>
    have HR := Aside0.mk (show rightB m p = false from rno_digest EH11.out HQ.out)
    go_wp2_with (fail)
    go_ret
    exact ⟨by rw [HR.out]; rfl, HB3.out⟩
  have HW5 := Aside0.mk (ryes_digest EH11.out HQ.out)
  clear HQ EH11
  by_cases hd : (65536 : Int) < (m.data.length : Int)
  · have b0 : decide ((65536 : Int) < (m.data.length : Int)) = true := decide_eq_true hd
    have b1 : decide (65536 < m.data.length) = true := decide_eq_true (by omega)
    have HR := Aside0.mk (show rightB m p = false from rno_data (by unfold mostOf; split <;> omega))
    go_wp2_with (fail)
    go_ret
    exact ⟨by rw [HR.out]; rfl, HB3.out⟩
  have b0 : decide ((65536 : Int) < (m.data.length : Int)) = false := decide_eq_false hd
  have b1 : decide (65536 < m.data.length) = false := decide_eq_false (by omega)
  have HD := Aside0.mk hd
  clear hd
  go_wp2_with (fail)
  refine (letters143_calls (a 3) (c 3) m.proof v3 (HM.out.below HB3.out).r3 HM.out.l3).mono ?_
  rintro e v4 ⟨rfl, hB⟩
  have HX4 := Aside0.mk ((hB.block _ (blk_lt2 HX3.out)).trans HX3.out)
  have HB4 := Aside0.mk (below_then HB3.out HB3.out.size hB)
  clear hB b0 b1 x0 x1 x2 x3 x4 x5 x6 x7 x8 x9 x10 x11 x12
  have x0 : v4.cell? ⟨w.heap.size, 0, none⟩ = some (.int .i64 m.kind) := (blk_cell HX4.out 0).trans rfl
  have x1 : v4.cell? ⟨w.heap.size, 1, none⟩ = some (.int .i64 m.view) := (blk_cell HX4.out 1).trans rfl
  have x2 : v4.cell? ⟨w.heap.size, 2, none⟩ = some (.int .i64 m.seq) := (blk_cell HX4.out 2).trans rfl
  have x3 : v4.cell? ⟨w.heap.size, 3, none⟩ = some (.int .i64 m.client) := (blk_cell HX4.out 3).trans rfl
  have x4 : v4.cell? ⟨w.heap.size, 4, none⟩ = some (.int .i64 m.stamp) := (blk_cell HX4.out 4).trans rfl
  have x5 : v4.cell? ⟨w.heap.size, 5, none⟩ = some (.int .i64 m.entry.f0) := (blk_cell HX4.out 5).trans rfl
  have x6 : v4.cell? ⟨w.heap.size, 6, none⟩ = some (.int .i64 m.entry.f1) := (blk_cell HX4.out 6).trans rfl
  have x7 : v4.cell? ⟨w.heap.size, 7, none⟩ = some (.int .i64 m.entry.f2) := (blk_cell HX4.out 7).trans rfl
  have x8 : v4.cell? ⟨w.heap.size, 8, none⟩ = some (.slice (a 0) m.entry.f3.length (c 0)) := (blk_cell HX4.out 8).trans rfl
  have x9 : v4.cell? ⟨w.heap.size, 9, none⟩ = some (.slice (a 1) m.digest.length (c 1)) := (blk_cell HX4.out 9).trans rfl
  have x10 : v4.cell? ⟨w.heap.size, 10, none⟩ = some (.slice (a 2) m.data.length (c 2)) := (blk_cell HX4.out 10).trans rfl
  have x11 : v4.cell? ⟨w.heap.size, 11, none⟩ = some (.slice (a 3) m.proof.length (c 3)) := (blk_cell HX4.out 11).trans rfl
  have x12 : v4.cell? ⟨w.heap.size, 12, none⟩ = some (.slice (a 4) m.proven.length (c 4)) := (blk_cell HX4.out 12).trans rfl
  obtain ⟨g, eg⟩ : ∃ g, goodLetters m.proof = g := ⟨_, rfl⟩
  rw [eg]
  have HG := Aside0.mk eg
  clear eg
  cases g
  case false =>
    have HR := Aside0.mk (show rightB m p = false from rno_proof HG.out)
    go_wp2_with (fail)
    go_ret
    exact ⟨by rw [HR.out]; rfl, HB4.out⟩
  by_cases hd : (8 : Int) < (m.proven.length : Int)
  · have b0 : decide ((8 : Int) < (m.proven.length : Int)) = true := decide_eq_true hd
    have b1 : decide (8 < m.proven.length) = true := decide_eq_true (by omega)
    have HR := Aside0.mk (show rightB m p = false from rno_many (by omega))
    go_wp2_with (fail)
    go_ret
    exact ⟨by rw [HR.out]; rfl, HB4.out⟩
  have b0 : decide ((8 : Int) < (m.proven.length : Int)) = false := decide_eq_false hd
  have b1 : decide (8 < m.proven.length) = false := decide_eq_false (by omega)
  have HN := Aside0.mk (show m.proven.length ≤ 8 by omega)
  clear hd
  by_cases hb : (1024 : Int) < (m.data.length : Int) ∧ (m.kind = 1 ∨ m.kind = 8)
  · obtain ⟨hl, hk⟩ := hb
    have HR := Aside0.mk (show rightB m p = false from rno_data (by rw [mostOf, if_pos hk]; omega))
    have d0 : decide ((1024 : Int) < (m.data.length : Int)) = true := decide_eq_true hl
    have d1 : decide (1024 < m.data.length) = true := decide_eq_true (by omega)
    rcases hk with hk | hk
    · have k1 : (m.kind == 1) = true := beq_iff_eq.mpr hk
      clear hk hl
      go_wp2_with (fail)
      go_ret
      exact ⟨by rw [HR.out]; rfl, HB4.out⟩
    · have k1 : (m.kind == 1) = false := beq_eq_false_iff_ne.mpr (by omega)
      have k8 : (m.kind == 8) = true := beq_iff_eq.mpr hk
      clear hk hl
      go_wp2_with (fail)
      go_ret
      exact ⟨by rw [HR.out]; rfl, HB4.out⟩
  have HDM := Aside0.mk (show (m.data.length : Int) ≤ mostOf m.kind by unfold mostOf; have := HD.out; split <;> omega)
  have hk3 : (m.kind = 1 ∧ ¬ (1024 : Int) < (m.data.length : Int)) ∨ (m.kind = 8 ∧ ¬ (1024 : Int) < (m.data.length : Int)) ∨ ¬ (m.kind = 1 ∨ m.kind = 8) := by omega
  clear hb
  rcases hk3 with ⟨hk, hl⟩ | ⟨hk, hl⟩ | hk
  case' inl =>
    have k1 : (m.kind == 1) = true := beq_iff_eq.mpr hk
    have d0 : decide ((1024 : Int) < (m.data.length : Int)) = false := decide_eq_false hl
    have d1 : decide (1024 < m.data.length) = false := decide_eq_false (by omega)
    clear hk hl
    go_wp2_with (fail)
  case' inr.inl =>
    have k1 : (m.kind == 1) = false := beq_eq_false_iff_ne.mpr (by omega)
    have k8 : (m.kind == 8) = true := beq_iff_eq.mpr hk
    have d0 : decide ((1024 : Int) < (m.data.length : Int)) = false := decide_eq_false hl
    have d1 : decide (1024 < m.data.length) = false := decide_eq_false (by omega)
    clear hk hl
    go_wp2_with (fail)
  case' inr.inr =>
    have k1 : (m.kind == 1) = false := beq_eq_false_iff_ne.mpr (fun e => hk (Or.inl e))
    have k8 : (m.kind == 8) = false := beq_eq_false_iff_ne.mpr (fun e => hk (Or.inr e))
    clear hk
    go_wp2_with (fail)
  all_goals
    go_loopw [4] (fun u wr => ∃ i : Nat, u = .int .i64 (i : Int) ∧ i ≤ m.proven.length ∧ Aside0 (∀ x ∈ m.proven.take i, badProven x = false) ∧ Aside0 (Below v4.heap.size v4 wr)) (fun u _ => m.proven.length - (intOf u).toNat)
    case atStart => exact ⟨0, rfl, Nat.zero_le _, ⟨by simp⟩, ⟨Below.refl _ _⟩⟩
    case round =>
      clear x0 x1 x2 x3 x4 x5 x6 x7 x8 x9 x10 x11 x12
      have h8 := HN.out
      obtain ⟨i, rfl, hi, HT, HB⟩ := hrel
      have HBW := Aside0.mk (below_then HB4.out HB4.out.size HB.out)
      have HXr := Aside0.mk ((HB.out.block _ (blk_lt2 HX4.out)).trans HX4.out)
      have x12 : wr.cell? ⟨w.heap.size, 12, none⟩ = some (.slice (a 4) m.proven.length (c 4)) := (blk_cell HXr.out 12).trans rfl
      by_cases hlt : i < m.proven.length
      · have c0 : decide ((i : Int) < (m.proven.length : Int)) = true := decide_eq_true (by omega)
        have c0' : decide (i < m.proven.length) = true := decide_eq_true hlt
        have c1 : (0 ≤ (i : Int)) = True := eq_true (by omega)
        have c2 : ((i : Int) < (m.proven.length : Int)) = True := eq_true (by omega)
        obtain ⟨ad, B5, d5, B6, d6, e, hx0, hx1, hx2, hx3, hx4, hx5, hx6, hl5, hi5, hl6, hi6⟩ := at_T101 (HM.out.below HBW.out).r4 (i : Int) (by omega) (by omega)
        rw [e] at x12
        obtain ⟨x, hm⟩ : ∃ x, x = rd_T101 m.proven (i : Int) := ⟨_, rfl⟩
        rw [← hm] at hx0 hx1 hx2 hx3 hx4 hx5 hx6 hl5 hi5 hl6 hi6
        rw [Int.toNat_natCast] at hx0 hx1 hx2 hx3 hx4 hx5 hx6
        have HMI := Aside0.mk (show x = m.proven[i] by rw [hm]; simp [rd_T101, List.getD_eq_getElem?_getD, hlt])
        have HA := Aside0.mk (And.intro hl5 (And.intro hi5 (And.intro hl6 hi6)))
        clear hm hl5 hi5 hl6 hi6 e
        have HN0 := Aside0.mk (blk_new wr (.cells #[.int .i64 0, .int .i64 0, .int .i64 0, .int .i64 0, .int .i64 0, .slice none 0 0, .slice none 0 0] 101))
        have HK0 := Aside0.mk (below_alloc (Below.refl wr.heap.size wr) (.cells #[.int .i64 0, .int .i64 0, .int .i64 0, .int .i64 0, .int .i64 0, .slice none 0 0, .slice none 0 0] 101))
        go_upto_region 12 with (refine wpList_store_row rfl 101 (.tmp 5) (.tmp 188) rfl wr.heap.size #[.int .i64 x.f0, .int .i64 x.f1, .int .i64 x.f2.f0, .int .i64 x.f2.f1, .int .i64 x.f2.f2, .slice B5 x.f2.f3.length d5, .slice B6 x.f3.length d6] rfl rfl 101 _ HN0.out size101 rfl (by simp [Value.oneCell']) ?_; have HN1 := Aside0.mk (setRow_heap _ _ _ #[.int .i64 x.f0, .int .i64 x.f1, .int .i64 x.f2.f0, .int .i64 x.f2.f1, .int .i64 x.f2.f2, .slice B5 x.f2.f3.length d5, .slice B6 x.f3.length d6] _ _ HN0.out); have HK1 := Aside0.mk (below_setRow HK0.out (Nat.le_refl _) #[.int .i64 x.f0, .int .i64 x.f1, .int .i64 x.f2.f0, .int .i64 x.f2.f1, .int .i64 x.f2.f2, .slice B5 x.f2.f3.length d5, .slice B6 x.f3.length d6]))
        generalize (wr.alloc (.cells #[.int .i64 0, .int .i64 0, .int .i64 0, .int .i64 0, .int .i64 0, .slice none 0 0, .slice none 0 0] 101)).setRow wr.heap.size #[.int .i64 x.f0, .int .i64 x.f1, .int .i64 x.f2.f0, .int .i64 x.f2.f1, .int .i64 x.f2.f2, .slice B5 x.f2.f3.length d5, .slice B6 x.f3.length d6] = q0 at HN1 HK1 ⊢
        have HC6 := Aside0.mk (Kd.C_below HA.out.2.2.2 HK1.out)
        have HBq := Aside0.mk (below_then HBW.out HBW.out.size HK1.out)
        clear hx0 hx1 hx2 hx3 hx4 hx5 hx6 x12 HN0 HK0
        have p0 : q0.cell? ⟨wr.heap.size, 0, none⟩ = some (.int .i64 x.f0) := (blk_cell HN1.out 0).trans rfl
        have p1 : q0.cell? ⟨wr.heap.size, 1, none⟩ = some (.int .i64 x.f1) := (blk_cell HN1.out 1).trans rfl
        have p2 : q0.cell? ⟨wr.heap.size, 2, none⟩ = some (.int .i64 x.f2.f0) := (blk_cell HN1.out 2).trans rfl
        have p3 : q0.cell? ⟨wr.heap.size, 3, none⟩ = some (.int .i64 x.f2.f1) := (blk_cell HN1.out 3).trans rfl
        have p4 : q0.cell? ⟨wr.heap.size, 4, none⟩ = some (.int .i64 x.f2.f2) := (blk_cell HN1.out 4).trans rfl
        have p5 : q0.cell? ⟨wr.heap.size, 5, none⟩ = some (.slice B5 x.f2.f3.length d5) := (blk_cell HN1.out 5).trans rfl
        have p6 : q0.cell? ⟨wr.heap.size, 6, none⟩ = some (.slice B6 x.f3.length d6) := (blk_cell HN1.out 6).trans rfl
        go_wp2_with (fail)
        refine (wide141_calls x.f0 q0).mono ?_
        rintro e w' ⟨rfl, hw⟩
        rw [hw]
        clear hw w'
        obtain ⟨g, eg⟩ : ∃ g, (!narrow x.f0) = g := ⟨_, rfl⟩
        rw [eg]
        cases g with
        | false =>
          have HR := Aside0.mk (show rightB m p = false from rno_proven (x := x) (by rw [HMI.out]; exact List.getElem_mem hlt) (bad_of (by first | exact Or.inl eg | exact Or.inr (Or.inl eg) | exact Or.inr (Or.inr (Or.inl eg)) | exact Or.inr (Or.inr (Or.inr eg)))))
          clear eg
          go_wp2_with (fail)
          go_ret
          exact ⟨by rw [HR.out]; rfl, HBq.out⟩
        | true =>
          have HV0 := Aside0.mk eg
          clear eg
          go_wp2_with (fail)
          refine (wide141_calls x.f1 q0).mono ?_
          rintro e w' ⟨rfl, hw⟩
          rw [hw]
          clear hw w'
          obtain ⟨g, eg⟩ : ∃ g, (!narrow x.f1) = g := ⟨_, rfl⟩
          rw [eg]
          cases g with
          | false =>
            have HR := Aside0.mk (show rightB m p = false from rno_proven (x := x) (by rw [HMI.out]; exact List.getElem_mem hlt) (bad_of (by first | exact Or.inl eg | exact Or.inr (Or.inl eg) | exact Or.inr (Or.inr (Or.inl eg)) | exact Or.inr (Or.inr (Or.inr eg)))))
            clear eg
            go_wp2_with (fail)
            go_ret
            exact ⟨by rw [HR.out]; rfl, HBq.out⟩
          | true =>
            have HV1 := Aside0.mk eg
            clear eg
            go_wp2_with (fail)
            refine (entry119_calls x.f2 B5 d5 q0).mono ?_
            rintro e q1 ⟨rfl, hB⟩
            have HN2 := Aside0.mk ((hB.block _ (blk_lt2 HN1.out)).trans HN1.out)
            have HBq1 := Aside0.mk (below_then HBq.out HBq.out.size hB)
            have HC61 := Aside0.mk (Kd.C_below HC6.out hB)
            have HK2 := Aside0.mk (below_then HK1.out HK1.out.size hB)
            clear hB p0 p1 p2 p3 p4 p5 p6
            have p0 : q1.cell? ⟨wr.heap.size, 0, none⟩ = some (.int .i64 x.f0) := (blk_cell HN2.out 0).trans rfl
            have p1 : q1.cell? ⟨wr.heap.size, 1, none⟩ = some (.int .i64 x.f1) := (blk_cell HN2.out 1).trans rfl
            have p2 : q1.cell? ⟨wr.heap.size, 2, none⟩ = some (.int .i64 x.f2.f0) := (blk_cell HN2.out 2).trans rfl
            have p3 : q1.cell? ⟨wr.heap.size, 3, none⟩ = some (.int .i64 x.f2.f1) := (blk_cell HN2.out 3).trans rfl
            have p4 : q1.cell? ⟨wr.heap.size, 4, none⟩ = some (.int .i64 x.f2.f2) := (blk_cell HN2.out 4).trans rfl
            have p5 : q1.cell? ⟨wr.heap.size, 5, none⟩ = some (.slice B5 x.f2.f3.length d5) := (blk_cell HN2.out 5).trans rfl
            have p6 : q1.cell? ⟨wr.heap.size, 6, none⟩ = some (.slice B6 x.f3.length d6) := (blk_cell HN2.out 6).trans rfl
            obtain ⟨g, eg⟩ : ∃ g, goodEntry x.f2 = g := ⟨_, rfl⟩
            rw [eg]
            cases g with
            | false =>
              have HR := Aside0.mk (show rightB m p = false from rno_proven (x := x) (by rw [HMI.out]; exact List.getElem_mem hlt) (bad_of (by first | exact Or.inl eg | exact Or.inr (Or.inl eg) | exact Or.inr (Or.inr (Or.inl eg)) | exact Or.inr (Or.inr (Or.inr eg)))))
              clear eg
              go_wp2_with (fail)
              go_ret
              exact ⟨by rw [HR.out]; rfl, HBq1.out⟩
            | true =>
              have HV2 := Aside0.mk eg
              clear eg
              go_wp2_with (fail)
              refine (letters143_calls B6 d6 x.f3 q1 HC61.out HA.out.2.2.1).mono ?_
              rintro e q2 ⟨rfl, hB⟩
              have HBq2 := Aside0.mk (below_then HBq1.out HBq1.out.size hB)
              have HK3 := Aside0.mk (below_then HB.out HB.out.size (below_then HK2.out HK2.out.size hB))
              clear hB p0 p1 p2 p3 p4 p5 p6
              obtain ⟨g, eg⟩ : ∃ g, goodLetters x.f3 = g := ⟨_, rfl⟩
              rw [eg]
              cases g with
              | false =>
                have HR := Aside0.mk (show rightB m p = false from rno_proven (x := x) (by rw [HMI.out]; exact List.getElem_mem hlt) (bad_of (by first | exact Or.inl eg | exact Or.inr (Or.inl eg) | exact Or.inr (Or.inr (Or.inl eg)) | exact Or.inr (Or.inr (Or.inr eg)))))
                clear eg
                go_wp2_with (fail)
                go_ret
                exact ⟨by rw [HR.out]; rfl, HBq2.out⟩
              | true =>
                have HV3 := Aside0.mk (bad_not HV0.out HV1.out HV2.out eg)
                clear eg
                go_wp2_with (fail)
                exact ⟨⟨i + 1, by simp, by omega, ⟨fun y hy => by
                  rw [← List.take_append_getElem hlt, List.mem_append, List.mem_singleton] at hy
                  rcases hy with hy | hy
                  · exact HT.out y hy
                  · rw [hy, ← HMI.out]; exact HV3.out⟩, HK3⟩, by simp only [intOf]; omega⟩
      · have c0 : decide ((i : Int) < (m.proven.length : Int)) = false := decide_eq_false (by omega)
        have c0' : decide (i < m.proven.length) = false := decide_eq_false hlt
        have HR := Aside0.mk (show rightB m p = true from right_all (by intro t ht; simp only [tabE, List.mem_cons, List.not_mem_nil, or_false] at ht; rcases ht with rfl | rfl | rfl | rfl | rfl | rfl | rfl | rfl | rfl <;> first | exact HZ0.out | exact HZ1.out | exact HZ2.out | exact HZ3.out | exact HZ5.out | exact HZ6.out | exact HZ7.out | exact HZ8.out | exact HZ4.out) HW0.out HW1.out HW2.out HW3.out HDM.out HG.out HN.out (fun x hx => HT.out x (by rw [List.take_of_length_le (by omega)]; exact hx)) HW4.out HW5.out)
        go_wp2_with (fail)
        go_ret
        exact ⟨by rw [HR.out]; rfl, HBW.out⟩
end Go.Proofs.Ytijccobeljoikaa.Ms
