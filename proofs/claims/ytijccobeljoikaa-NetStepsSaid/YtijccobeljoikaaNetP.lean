/- For stanchionlaw21.NetSteps: what the reference comes to; the state of both nets; memory that is scribbled over. -/
import Derived.Test.YtijccobeljoikaaNetN
import Derived.Test.YtijccobeljoikaaNtx7
namespace Go.Proofs.Ytijccobeljoikaa.Nt
open Go.RowKit Go.Proofs.YtijccobeljoikaaW.PrintWords Go.Proofs.YtijccobeljoikaaW.PrintLast Go.Proofs.YtijccobeljoikaaW.PrintMore
set_option linter.unusedVariables false
set_option linter.unusedSimpArgs false

theorem ev_rpost_l0 (list all0 : List S74) (room : Int) (hl : list.length * 88 ≤ 140737488351232) (hr : room ≤ 4096) (n : Nat) : ∀ (i x7 q : Nat) (x6 : List S74), i + n = list.length → x7 ≤ i → (x6.length : Int) ≤ room → (q : Int) = min (n : Int) (room - x6.length) →
    Ev (fun k => stanchionref21_Net_Post.l0 k list x6 (x7 : Int) (i : Int) room all0) (room, x6 ++ (list.drop i).take q, ((x7 + (n - q) : Nat) : Int)) := by
  induction n with
  | zero =>
    intro i x7 q x6 hi hx hr0 hq
    obtain rfl : q = 0 := by omega
    refine ev_succ (ev_of fun k => ?_)
    simp only [stanchionref21_Net_Post.l0]
    rw [if_neg (by omega)]
    simp
  | succ n ih =>
    intro i x7 q x6 hi hx hr0 hq
    have hil : i < list.length := by omega
    by_cases c : (x6.length : Int) < room
    · obtain ⟨q', rfl⟩ : ∃ q', q = q' + 1 := ⟨q - 1, by omega⟩
      obtain ⟨K, h⟩ := ih (i + 1) x7 q' (x6 ++ [list[i]]) (by omega) (by omega) (by rw [List.length_append]; simp; omega) (by rw [List.length_append]; simp; omega)
      refine ev_succ ⟨K, fun k hk => ?_⟩
      simp only [stanchionref21_Net_Post.l0]
      rw [if_pos (by omega), if_pos c, if_pos (by omega), if_pos (by omega), w64 (by omega) (by omega), rd74_at hil]
      have := h k hk
      rw [List.append_assoc] at this
      rw [show (List.drop i list).take (q' + 1) = [list[i]] ++ (list.drop (i + 1)).take q' by rw [List.drop_eq_getElem_cons hil]; rfl, show n + 1 - (q' + 1) = n - q' by omega]
      exact this
    · obtain rfl : q = 0 := by omega
      obtain ⟨K, h⟩ := ih (i + 1) (x7 + 1) 0 x6 (by omega) (by omega) hr0 (by omega)
      refine ev_succ ⟨K, fun k hk => ?_⟩
      simp only [stanchionref21_Net_Post.l0]
      rw [if_pos (by omega), if_neg c, w64 (x := (x7 : Int) + 1) (by omega) (by omega), w64 (x := (i : Int) + 1) (by omega) (by omega)]
      have := h k hk
      rw [show x7 + (n + 1 - 0) = x7 + 1 + (n - 0) by omega]
      simpa using this
theorem ev_rpost {list all : List S74} {room : Int} {fit : Nat} (hl : list.length * 88 ≤ 140737488351232) (hr : room ≤ 4096) (ha : (all.length : Int) ≤ room) (hf : (fit : Int) = min (list.length : Int) (room - all.length)) :
    Ev (fun k => stanchionref21_Net_Post.f k room all list) (room, all ++ list.take fit, ((list.length - fit : Nat) : Int)) := by
  obtain ⟨K, h⟩ := ev_rpost_l0 list all room hl hr list.length 0 0 fit all (by omega) (Nat.le_refl _) ha hf
  refine ⟨K, fun k hk => ?_⟩
  show stanchionref21_Net_Post.f k room all list = _
  unfold stanchionref21_Net_Post.f
  simp only [Option.bind_some, List.length_nil, Nat.zero_add, List.nil_append]
  rw [if_pos (by omega)]
  have := h k hk
  simpa using this
theorem ev_rcopy_bad {all : List S74} {room a : Int} (hk : ¬ (0 ≤ a ∧ a < all.length)) : Ev (fun k => stanchionref21_Net_Copy.f k room all a) (room, all, 211) := by
  refine ev_succ (ev_of fun k => ?_)
  unfold stanchionref21_Net_Copy.f
  by_cases c : a < 0
  · rw [if_pos c]; simp only [stanchionref21_Net_Copy.j0, if_true]
  · rw [if_neg c, decide_eq_true (by omega)]; simp only [stanchionref21_Net_Copy.j0, if_true]
theorem ev_rcopy_full {all : List S74} {room a : Int} (hk : 0 ≤ a ∧ a < all.length) (hf : room ≤ all.length) : Ev (fun k => stanchionref21_Net_Copy.f k room all a) (room, all, 210) := by
  refine ev_succ (ev_of fun k => ?_)
  unfold stanchionref21_Net_Copy.f
  rw [if_neg (by omega), decide_eq_false (by omega)]
  simp only [stanchionref21_Net_Copy.j0]
  rw [if_neg (by decide), if_pos (by omega)]
theorem ev_rcopy_ok {all : List S74} {room : Int} {i : Nat} (hk : i < all.length) (hf : ¬ room ≤ all.length) (hm : all.length ≤ 4096) : Ev (fun k => stanchionref21_Net_Copy.f k room all (i : Int)) (room, all ++ [all[i]], 0) := by
  refine ev_succ (ev_of fun k => ?_)
  unfold stanchionref21_Net_Copy.f
  rw [if_neg (by omega), decide_eq_false (by omega)]
  simp only [stanchionref21_Net_Copy.j0, Option.bind_some, List.length_nil, Nat.zero_add, List.nil_append]
  rw [if_neg (by decide), if_neg (by omega), if_pos (by omega), if_pos (by omega), if_pos (by omega), if_pos (by omega), rd74_at hk]
theorem rnew_eq (room : Int) : stanchionref21_New.f room = some (clamp room, []) := by
  unfold stanchionref21_New.f clamp
  by_cases c : room < 0
  · rw [if_pos c, if_neg (show ¬ (0 > 4096) by decide), if_neg (show ¬ 4096 < room by omega), if_neg (show ¬ 0 < room by omega)]
  · rw [if_neg c]
    by_cases d : room > 4096
    · rw [if_pos d, if_pos (show 4096 < room by omega), if_pos (by omega)]
    · rw [if_neg d, if_neg (show ¬ 4096 < room by omega)]
      by_cases e : 0 < room
      · rw [if_pos e]
      · rw [if_neg e, show room = 0 by omega]
theorem clamp_room (room : Int) : 0 ≤ clamp room ∧ clamp room ≤ 4096 := by unfold clamp; split <;> (try split) <;> omega

theorem heap74 : Kd.Heap k74 :=
  Kd.heap_iso _ (Kd.heap_pair (Kd.heap_iso _ (Kd.heap_pair (Kd.heap_int _) (Kd.heap_int _))) (Kd.heap_iso _ (Kd.heap_pair (Kd.heap_iso _ (Kd.heap_pair (Kd.heap_int _) (Kd.heap_int _))) (Kd.heap_pair (Kd.heap_int _) (Kd.heap_pair (Kd.heap_slice _ (Kd.heap_int _)) (Kd.heap_slice _ (Kd.heap_slice _ (Kd.heap_int _))))))))

theorem netS_old {b : Nat} {w : World} {g : Nat} {room : Int} {v : Value} {ms : List S74} (h : NetIs b w g room v ms) {k : Nat} (hk : w.heap.size ≤ k) : ¬ NetS g v k := by
  rintro (rfl | hk')
  · have := blk_lt h.blk; omega
  · have := Kd.R_lt h.row k hk'.symm; omega
theorem netS_base {b : Nat} {w : World} {g : Nat} {room : Int} {v : Value} {ms : List S74} (h : NetIs b w g room v ms) {k : Nat} (hk : k < b) : ¬ NetS g v k := by
  rintro (rfl | hk')
  · have := h.ge; omega
  · have := Kd.R_base h.row k hk'.symm; omega
theorem own_kept {b : Nat} {w4 w5 : World} {g n c : Nat} {room : Int} {v : Value} {ms list : List S74} {A : Option Addr} {ok : Nat → Prop} (h : NetIs b w4 g room v ms) (hR : Kd.R k74 74 w5 w4.heap.size ok (.slice A n c) list) : ∀ W', Kept w5 W' (NetS g v) → Kd.C k74 W' A n list :=
  Kd.C_kept_own (Kd.R_bound hR) (fun k hk => netS_old h hk.2.1)
theorem R_len {w : World} {b : Nat} {ok : Nat → Prop} {v : Value} {xs : List S74} (h : Kd.R k74 74 w b ok v xs) : ∃ A c, v = .slice A xs.length c ∧ xs.length ≤ c ∧ Kd.C k74 w A xs.length xs := Kd.R_reads h

/-- Both nets: the one in memory holds ms; the reference's value, in its box, holds rs. -/
structure St2 (b : Nat) (w0 W : World) (g r6 : Nat) (room : Int) (v : Value) (Am : Option Addr) (cm : Nat) (ms rs : List S74) : Prop where
  net : NetIs b W g room v ms
  box : W.heap[r6]? = some (.cells #[.int .i64 room, .slice Am rs.length cm] 60 (0, 0))
  ref : Kd.V k74 74 W b (fun k => ¬ NetS g v k ∧ k ≠ r6) (.slice Am rs.length cm) rs
  mem : ∀ m ∈ rs, Mem m
  room : (rs.length : Int) ≤ room
  ge : b ≤ r6
  below : Below b w0 W
abbrev St (b : Nat) (w0 W : World) (g r6 : Nat) (room : Int) (v : Value) (Am : Option Addr) (cm : Nat) (ms : List S74) : Prop := St2 b w0 W g r6 room v Am cm ms ms
section
variable {b : Nat} {w0 W W1 W6 : World} {g r6 : Nat} {room : Int} {v v2 : Value} {Am A2 : Option Addr} {cm c2 : Nat} {ms ms2 rs rs2 : List S74}
theorem St2.lt (h : St2 b w0 W g r6 room v Am cm ms rs) : g < W.heap.size ∧ r6 < W.heap.size ∧ b ≤ W.heap.size := ⟨blk_lt h.net.blk, blk_lt h.box, Nat.le_of_lt (Nat.lt_of_le_of_lt h.ge (blk_lt h.box))⟩
theorem St2.step (h : St2 b w0 W g r6 room v Am cm ms rs) (hb : Below W.heap.size W W1) : St2 b w0 W1 g r6 room v Am cm ms rs :=
  ⟨h.net.below hb, blk_below h.box hb, Kd.V_below h.ref hb, h.mem, h.room, h.ge, below_then h.below h.lt.2.2 hb⟩
theorem St2.drew (h : St2 b w0 W g r6 room v Am cm ms rs) : St2 b w0 W.drew g r6 room v Am cm ms rs := h.step (below_drew1 (Below.refl _ _))
theorem V_any {P : Nat → Prop} {u : Value} {l : List S74} {b' : Nat} (h : Kd.V k74 74 W b P u l) : Kd.V k74 74 W b' P u l := Kd.V_map h (fun _ hf => hf)
theorem V_netop {P : Nat → Prop} {u : Value} {l : List S74} {b' : Nat} (h : Kd.V k74 74 W b' (fun q => (¬ NetS g v q ∧ q ≠ r6) ∧ P q) u l) (hK : Kept W W1 (NetS g v)) (hA : RowAt W v v2) : Kd.V k74 74 W1 b' (fun q => (¬ NetS g v2 q ∧ q ≠ r6) ∧ P q) u l :=
  Kd.V_mono (Kd.V_keptB h hK (fun k hk => hk.1.1)) (fun k hk => ⟨⟨fun hS => by
    obtain ⟨h1, h2, h3⟩ := hk
    rcases hS with rfl | hS
    · exact h1.1.1 (.inl rfl)
    · rcases hA with hA | ⟨k', hA, hk'⟩
      · exact h1.1.1 (.inr (by rw [hS, hA]))
      · rw [hA] at hS; injection hS with hS; omega, hk.1.1.2⟩, hk.1.2⟩)
/-- The net was written. -/
theorem St2.netop (h : St2 b w0 W g r6 room v Am cm ms rs) (hN : NetIs b W1 g room v2 ms2) (hA : RowAt W v v2) (hK : Kept W W1 (NetS g v)) (hB : Below b w0 W1) : St2 b w0 W1 g r6 room v2 Am cm ms2 rs := by
  have n1 : ¬ NetS g v r6 := by
    rintro (he | he)
    · exact blk_ne h.box h.net.blk (by decide) he
    · exact Kd.R_ne h.net.row h.box (by decide) he
  refine ⟨hN, blk_kept h.box hK n1, Kd.V_mono (Kd.V_keptB h.ref hK (fun k hk => hk.1)) (fun k hk => ⟨fun hS => ?_, hk.1.2⟩), h.mem, h.room, h.ge, hB⟩
  obtain ⟨h1, h2, h3⟩ := hk
  rcases hS with rfl | hS
  · exact h1.1 (.inl rfl)
  · rcases hA with hA | ⟨k', hA, hk'⟩
    · exact h1.1 (.inr (by rw [hS, hA]))
    · rw [hA] at hS; injection hS with hS; omega
/-- The reference's value was laid into its box. -/
theorem St2.refop (h : St2 b w0 W g r6 room v Am cm ms rs) (hB : Below W.heap.size W W6) (hV : Kd.V k74 74 W6 W.heap.size (fun k => (¬ NetS g v k ∧ k ≠ r6) ∨ W.heap.size ≤ k) (.slice A2 rs2.length c2) rs2) (hm : ∀ m ∈ rs2, Mem m) (hr : (rs2.length : Int) ≤ room) :
    St2 b w0 ((W6.setCell ⟨r6, 0, none⟩ (.int .i64 room)).setCell ⟨r6, 1, none⟩ (.slice A2 rs2.length c2)) g r6 room v A2 c2 ms rs2 := by
  have h6 := h.step hB
  have hs := blk_set h6.box 0 (.int .i64 room)
  have hlt := h.lt
  have hV' : Kd.V k74 74 W6 b (fun k => ¬ NetS g v k ∧ k ≠ r6) (.slice A2 rs2.length c2) rs2 := V_any (Kd.V_mono hV (fun k hk => hk.elim id (fun hk => ⟨netS_old h.net hk, by omega⟩)))
  refine ⟨⟨blk_far (blk_far h6.net.blk (blk_ne h6.net.blk h6.box (by decide)) _) (blk_ne h6.net.blk h6.box (by decide)) _, Kd.R_set (Kd.R_set h6.net.row h6.box (by decide) 0 _) hs (by decide) 1 _, h6.net.ge, h6.net.fits, h6.net.many⟩, box2 h6.box _ _, Kd.V_far (Kd.V_far hV' (fun k hk => hk.2) _) (fun k hk => hk.2) _, hm, hr, h.ge, (h6.below.setCell h.ge _).setCell h.ge _⟩
end

/-! ### Bytes that are written over -/
def T5 (w : World) (g L : Nat) : Prop := ∃ cells, w.heap[g]? = some (.cells cells 5 (0, 0)) ∧ ∀ b, b < L → ∃ y : Int, cells[b]? = some (.int .u8 y)
structure Scr (w : World) (base top gr n : Nat) (As : Nat → Option Addr) (Ls cs : Nat → Nat) : Prop where
  row : ∃ cells, w.heap[gr]? = some (.cells cells 74 (0, 0)) ∧ (∀ j, j < n → cells[j * 7 + 5]? = some (.slice (As j) (Ls j) (cs j))) ∧ (∀ j, j < n → ∃ u, cells[j * 7 + 1]? = some u)
  ge : base ≤ gr
  lt : gr < top
  bod : ∀ j, j < n → 0 < Ls j → ∃ g, As j = some ⟨g, 0, none⟩ ∧ base ≤ g ∧ g < top ∧ T5 w g (Ls j)
  small : ∀ j, j < n → Ls j < 140737488355328
theorem T5.set {w : World} {g L g5 b : Nat} {y : Int} (h : T5 w g L) : T5 (w.setCell ⟨g5, b, none⟩ (.int .u8 y)) g L := by
  obtain ⟨cells, hg, hc⟩ := h
  by_cases e : g = g5
  · subst e
    refine ⟨_, blk_set hg b _, fun q hq => ?_⟩
    obtain ⟨z, hz⟩ := hc q hq
    by_cases e : q = b
    · subst e
      have : q < cells.size := (Array.getElem?_eq_some_iff.1 hz).1
      exact ⟨y, by simp [this]⟩
    · exact ⟨z, by rw [Array.getElem?_setIfInBounds_ne (Ne.symm e)]; exact hz⟩
  · exact ⟨cells, blk_far hg e _, hc⟩
theorem T5.other {w : World} {g L g5 b t : Nat} {u : Value} {cells : Array Value} (h : T5 w g L) (hg : w.heap[g5]? = some (.cells cells t (0, 0))) (ht : t ≠ 5) : T5 (w.setCell ⟨g5, b, none⟩ u) g L := by
  obtain ⟨cs, h1, hc⟩ := h
  exact ⟨cs, blk_far h1 (blk_ne h1 hg (Ne.symm ht)) _, hc⟩
theorem Scr.put5 {w : World} {base top gr n : Nat} {As : Nat → Option Addr} {Ls cs : Nat → Nat} (h : Scr w base top gr n As Ls cs) {g5 L : Nat} (h5 : T5 w g5 L) (b : Nat) (y : Int) : Scr (w.setCell ⟨g5, b, none⟩ (.int .u8 y)) base top gr n As Ls cs := by
  obtain ⟨cells, hr, h1, h2⟩ := h.row
  obtain ⟨c5, hg5, _⟩ := h5
  refine ⟨⟨cells, blk_far hr (blk_ne hr hg5 (by decide)) _, h1, h2⟩, h.ge, h.lt, fun j hj hl => ?_, h.small⟩
  obtain ⟨g, e, hb, ht, hT⟩ := h.bod j hj hl
  exact ⟨g, e, hb, ht, hT.set⟩
theorem Scr.put74 {w : World} {base top gr n : Nat} {As : Nat → Option Addr} {Ls cs : Nat → Nat} (h : Scr w base top gr n As Ls cs) (i : Nat) (u : Value) : Scr (w.setCell ⟨gr, i * 7 + 1, none⟩ u) base top gr n As Ls cs := by
  obtain ⟨cells, hr, h1, h2⟩ := h.row
  refine ⟨⟨_, blk_set hr _ _, fun j hj => ?_, fun j hj => ?_⟩, h.ge, h.lt, fun j hj hl => ?_, h.small⟩
  · rw [Array.getElem?_setIfInBounds_ne (by omega)]; exact h1 j hj
  · obtain ⟨z, hz⟩ := h2 j hj
    have hlt : j * 7 + 1 < cells.size := (Array.getElem?_eq_some_iff.1 hz).1
    by_cases e : i = j
    · subst e; exact ⟨u, by simp [hlt]⟩
    · exact ⟨z, by rw [Array.getElem?_setIfInBounds_ne (by omega)]; exact hz⟩
  · obtain ⟨g, e, hb, ht, hT⟩ := h.bod j hj hl
    exact ⟨g, e, hb, ht, hT.other hr (by decide)⟩
/-- What is fresh and one's own can be scribbled over. -/
theorem Scr.of {w : World} {base : Nat} {ok : Nat → Prop} {A : Option Addr} {c : Nat} {l : List S74} (h : Kd.R k74 74 w base ok (.slice A l.length c) l) (hl : 0 < l.length) (hf : ∀ m ∈ l, Fits m) (top : Nat) (htop : ∀ q, ok q → q < top) :
    ∃ gr As Ls cs, A = some ⟨gr, 0, none⟩ ∧ Scr w base top gr l.length As Ls cs := by
  obtain ⟨gr, c', e, hgb, hgl, cells, hgc⟩ := Kd.R_form h (by omega)
  injection e with e1 _ e2
  subst e1
  subst e2
  have each : ∀ j, j < l.length → ∃ x : Option Addr × Nat × Nat, cells[j * 7 + 5]? = some (.slice x.1 x.2.1 x.2.2) ∧ (∃ u, cells[j * 7 + 1]? = some u) ∧ x.2.1 < 140737488355328 ∧ (0 < x.2.1 → ∃ g, x.1 = some ⟨g, 0, none⟩ ∧ base ≤ g ∧ g < top ∧ T5 w g x.2.1) := by
    intro j hj
    obtain ⟨c7, hcl, hM, hcell, hfr⟩ := Kd.R_elem h z74 (j : Int) (by omega) (by omega)
    obtain ⟨m, hm⟩ : ∃ m, m = l.getD (j : Int).toNat z74 := ⟨_, rfl⟩
    rw [← hm] at hM
    have hml : m ∈ l := by rw [hm]; simp [List.getD_eq_getElem?_getD, hj]
    obtain ⟨v5, v6, rfl, r5, r6⟩ := k74_openM hM
    obtain ⟨A5, c5, e5⟩ := Kd.R_slice r5
    subst e5
    rw [Int.toNat_natCast] at hcell
    have h5 := hcell 5 _ rfl
    have h1 := hcell 1 _ rfl
    rw [show j * k74.sz = j * 7 from rfl] at h5 h1
    rw [blk_cell hgc] at h5 h1
    refine ⟨(A5, m.f1.f2.length, c5), h5, ⟨_, h1⟩, (hf m hml).1, fun hpos => ?_⟩
    obtain ⟨g5, c5', e5, hgb5, hgl5, cells5, hgc5⟩ := Kd.R_form r5 (by exact hpos)
    injection e5 with e1 _ e2
    subst e1
    subst e2
    refine ⟨g5, rfl, hgb5, htop _ (r5.1 g5 rfl).1, cells5, hgc5, fun b hb => ?_⟩
    have hb : b < m.f1.f2.length := hb
    obtain ⟨_, _, hC5⟩ := Kd.R_reads' r5
    obtain ⟨ad, cs, e, _, hK, hx⟩ := Kd.C_get hC5 (0 : Int) (b : Int) (by omega) (by omega)
    injection e with e
    subst e
    obtain rfl : cs = [.int .u8 _] := hK
    have h0 := hx 0 _ rfl
    rw [Int.toNat_natCast, Addr.add_lit, blk_cell hgc5] at h0
    exact ⟨_, by simpa [Kd.int, Kd.scalar] using h0⟩
  obtain ⟨y, hy⟩ := Go.Deep.choose_lt each
  exact ⟨gr, fun j => (y j).1, fun j => (y j).2.1, fun j => (y j).2.2, rfl, ⟨⟨cells, hgc, fun j hj => (hy j hj).1, fun j hj => (hy j hj).2.1⟩, hgb, htop _ (h.1 gr rfl), fun j hj hp => (hy j hj).2.2.2 hp, fun j hj => (hy j hj).2.2.1⟩⟩
end Go.Proofs.Ytijccobeljoikaa.Nt
