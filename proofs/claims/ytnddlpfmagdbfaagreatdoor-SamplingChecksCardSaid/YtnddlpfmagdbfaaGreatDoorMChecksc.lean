/- Part 3 of the proof: contracts. Contract: a trace copied, with another weight; The model's operations on words of 32 and 64 bits, said of Lean's words. No conditions; Contracts: the mixed word, the hash of a trace, what is kept, the weights; Contract: the number of zeros at the end of a power of two; A weight that is in order is a power of two; Rows of traces; A region that draws its order, by one relation over what has come up; blocks that are known whole; append, of a slice that may be nil or empty; Contract: sampling.Sample; Contract: is a predicate small; Contracts: the law's own checks of a policy and of a trace; The wa. -/
import Derived.Test.YtnddlpfmagdbfaaGreatDoorMChecksb
import Derived.Test.YtnddlpfmagdbfaaGreatDoorMChecksa
import Derived.Deep.RegionHeld3
import Derived.Deep.DeepCutAuto
import Derived.WalkKit
import Derived.WideLaws
import Derived.Laws.BitsLemmas
import Derived.RowKit
import Derived.KernelRfl
import Derived.Below
import Derived.Lib.Hide
import Derived.Deep.QuietTactic
import Derived.BigQuiet
import Derived.Maps.AppendAt
import Derived.Deep.Slices
/- Contract: a trace copied, with another weight. -/
namespace Go.Proofs.YtnddlpfmagdbfaaGreatDoor
open Go Go.Proofs Go.RowKit
set_option linter.unusedVariables false
set_option linter.unusedSimpArgs false
theorem SpansIn.flat {W : World} {b o : Nat} {L : List SpanD} (h : SpansIn W (some ⟨b, o, none⟩) L) : ∀ m u, (cellsX L)[m]? = some u → W.cell? ⟨b, o + m, none⟩ = some u := fun m u hu => by
  obtain ⟨h1, h2, h3⟩ := flat_at (k := 14) (f := SpanD.cells) cells_length hu
  obtain ⟨b', o', e, hr⟩ := h _ h1
  cases e
  have := hr (m % 14) u h3
  rwa [Nat.add_assoc, Nat.mul_comm (m / 14) 14, Nat.div_add_mod] at this
/-- A trace is being copied: j spans have been done. -/
structure CopyS (lo : Nat) (w W : World) (id wt : Int) (p g cap : Nat) (L M : List SpanD) (j : Nat) : Prop where
  len : M.length = L.length
  bp : W.heap[p]? = some (.cells #[.int .i64 id, .int .i64 wt, .slice (some ⟨g, 0, none⟩) L.length cap] 27 (0, 0))
  bg : ∃ cur, W.heap[g]? = some (.cells cur 73 (0, 0)) ∧ cur.size = cap * 14 ∧ L.length ≤ cap ∧ cur.toList.take (L.length * 14) = cellsX M
  own : ∀ m (hm : m < M.length), m < j → M[m].Owned lo W ∧ (∀ q, M[m].aA = some q → q.block ≠ g ∧ q.block ≠ p) ∧ (∀ q, M[m].lA = some q → q.block ≠ g ∧ q.block ≠ p)
  bare : M.map SpanD.bare = L.map SpanD.bare
  rest : ∀ m (hm : m < M.length), j ≤ m → M[m]? = L[m]?
  lp : lo ≤ p
  lg : lo ≤ g
  ne : g ≠ p
  b : Below lo w W
/-- The trace has been made, its spans are those of a new row. -/
structure CopyB (w W : World) (id wt : Int) (p : Nat) (A : Option Addr) (c : Nat) (L : List SpanD) : Prop where
  bp : W.heap[p]? = some (.cells #[.int .i64 id, .int .i64 wt, .slice A L.length c] 27 (0, 0))
  row : W.ownsRow w.heap.size 73 14 (.slice A L.length c) L.length (cellsX L)
  lp : w.heap.size ≤ p
  at_ : ∀ q, A = some q → q.spot = none ∧ w.heap.size ≤ q.block ∧ q.block < W.heap.size ∧ q.block ≠ p
  b : Below w.heap.size w W
theorem cellsX_set (A : Option Addr) (c : Nat) (B : Option Addr) (d : Nat) : ∀ (M : List SpanD) (j : Nat) (hj : j < M.length), ((cellsX M).set (j * 14 + 12) (.slice A M[j].attrs.length c)).set (j * 14 + 13) (.slice B M[j].links.length d) = cellsX (M.set j (M[j].moved A c B d))
  | y :: l, 0, _ => by
    show ((y.cells ++ cellsX l).set _ _).set _ _ = (y.moved A c B d).cells ++ cellsX l
    rw [List.set_append_left _ _ (by rw [cells_length]; omega), List.set_append_left _ _ (by rw [List.length_set, cells_length]; omega)]
    rfl
  | y :: l, j + 1, hj => by
    have hj' : j < l.length := by simpa using hj
    show ((y.cells ++ cellsX l).set _ _).set _ _ = y.cells ++ cellsX (l.set j (l[j].moved A c B d))
    rw [List.set_append_right _ _ (by rw [cells_length]; omega), List.set_append_right _ _ (by rw [cells_length]; omega), ← cellsX_set A c B d l j hj', cells_length]
    rw [show (j + 1) * 14 + 12 - 14 = j * 14 + 12 by omega, show (j + 1) * 14 + 13 - 14 = j * 14 + 13 by omega]
    rfl
theorem CopyS.cell {lo : Nat} {w W : World} {id wt : Int} {p g cap : Nat} {L M : List SpanD} {j : Nat} (h : CopyS lo w W id wt p g cap L M j) (hj : j < M.length) {k : Nat} {v : Value} (hv : M[j].cells[k]? = some v) : W.cell? ⟨g, j * 14 + k, none⟩ = some v := by
  obtain ⟨cur, h1, h2, h3, h4⟩ := h.bg
  have hk : k < 14 := by
    have := (List.getElem?_eq_some_iff.1 hv).1
    rwa [cells_length] at this
  have h5 : (cellsX M)[j * 14 + k]? = some v := (cellsX_get hj hk).trans hv
  have := h.len
  rw [← h4, List.getElem?_take_of_lt (by omega)] at h5
  exact cell_blk h1 _ (by rw [← Array.getElem?_toList]; exact h5)
theorem CopyS.step {lo : Nat} {w W w1 w2 : World} {id wt : Int} {p g cap : Nat} {L M : List SpanD} {j : Nat} {A B : Option Addr} {c d : Nat} (h : CopyS lo w W id wt p g cap L M j) (hj : j < M.length) (hg : g < W.heap.size) (hp : p < W.heap.size) (hlo : lo ≤ W.heap.size) (hso : M[j].attrs.length ≤ 1000 ∧ M[j].links.length ≤ 1000)
    (b1 : Below W.heap.size W w1) (hA : AttrsAt w1 A M[j].attrs ∧ (A = none → M[j].attrs = []) ∧ ∀ q, A = some q → q.spot = none ∧ W.heap.size ≤ q.block ∧ q.block < w1.heap.size)
    (b2 : Below w1.heap.size (w1.setCell ⟨g, j * 14 + 12, none⟩ (.slice A M[j].attrs.length c)) w2) (hB : RefsAt w2 B M[j].links ∧ (B = none → M[j].links = []) ∧ ∀ q, B = some q → q.spot = none ∧ w1.heap.size ≤ q.block ∧ q.block < w2.heap.size) :
    CopyS lo w (w2.setCell ⟨g, j * 14 + 13, none⟩ (.slice B M[j].links.length d)) id wt p g cap L (M.set j (M[j].moved A c B d)) (j + 1) := by
  have hs1 := b1.size
  have hs2 : w1.heap.size ≤ w2.heap.size := by have := b2.size; simpa using this
  have blk : ∀ k o, k ≠ g → W.heap[k]? = some o → (w2.setCell ⟨g, j * 14 + 13, none⟩ (.slice B M[j].links.length d)).heap[k]? = some o := fun k o hk ho => by
    have h1 := blk_lt ho
    rw [heap_setCell_other _ _ _ _ hk, b2.block k (by omega), heap_setCell_other _ _ _ _ hk, b1.block k h1]
    exact ho
  have bl : Below lo w (w2.setCell ⟨g, j * 14 + 13, none⟩ (.slice B M[j].links.length d)) := by
    have h1 : Below lo w w1 := h.b.trans (b1.mono hlo)
    exact ((h1.setCell (p := ⟨g, j * 14 + 12, none⟩) h.lg _).trans (b2.mono (by omega))).setCell (p := ⟨g, j * 14 + 13, none⟩) h.lg _
  refine ⟨by rw [List.length_set]; exact h.len, blk p _ (Ne.symm h.ne) h.bp, ?_, fun m hm hmj => ?_, ?_, fun m hm hmj => ?_, h.lp, h.lg, h.ne, bl⟩
  · obtain ⟨cur, h1, h2, h3, h4⟩ := h.bg
    have e1 := heap_setCell_same _ g (j * 14 + 12) _ 73 (.slice A M[j].attrs.length c) (blk_keep b1 h1)
    have e2 := heap_setCell_same _ g (j * 14 + 13) _ 73 (.slice B M[j].links.length d) ((b2.block g (by omega)).trans e1)
    refine ⟨_, e2, by simpa using h2, h3, ?_⟩
    rw [← cellsX_set A c B d M j hj, ← h4]
    simp only [Array.toList_setIfInBounds, List.take_set]
  · have key : ∀ (x : SpanD), x.Owned lo W → (∀ q, x.aA = some q → q.block ≠ g ∧ q.block ≠ p) → (∀ q, x.lA = some q → q.block ≠ g ∧ q.block ≠ p) → x.Owned lo (w2.setCell ⟨g, j * 14 + 13, none⟩ (.slice B M[j].links.length d)) := fun x ho ha hl => by
      refine ⟨⟨ho.held.attrs.same fun q hq => ?_, ho.held.links.same fun q hq => ?_, ho.held.na, ho.held.nl⟩, ho.sound, fun q hq => ⟨(ho.a q hq).1, ?_⟩, fun q hq => ⟨(ho.l q hq).1, ?_⟩⟩
      · have h1 := (ho.a q hq).2
        rw [heap_setCell_other _ _ _ _ (ha q hq).1, b2.block _ (by omega), heap_setCell_other _ _ _ _ (ha q hq).1, b1.block _ h1]
      · have h1 := (ho.l q hq).2
        rw [heap_setCell_other _ _ _ _ (hl q hq).1, b2.block _ (by omega), heap_setCell_other _ _ _ _ (hl q hq).1, b1.block _ h1]
      · have h1 := (ho.a q hq).2
        simp; omega
      · have h1 := (ho.l q hq).2
        simp; omega
    have hm' : m < M.length := by simpa using hm
    by_cases e : m = j
    · subst e
      simp only [List.getElem_set_self]
      refine ⟨⟨⟨(attrs_below (hA.1.same (W' := w1.setCell ⟨g, m * 14 + 12, none⟩ (.slice A M[m].attrs.length c)) fun q hq => ?_) (b2.mono (by simp))).same fun q hq => ?_, hB.1.same fun q hq => ?_, by have := hso.1; show M[m].attrs.length ≤ _; omega, by have := hso.2; show M[m].links.length ≤ _; omega⟩, ⟨hA.2.1, fun q hq _ => (hA.2.2 q hq).1, hB.2.1, fun q hq _ => (hB.2.2 q hq).1⟩, fun q hq => ?_, fun q hq => ?_⟩, fun q hq => ?_, fun q hq => ?_⟩
      · have := (hA.2.2 q hq).2; exact heap_setCell_other _ _ _ _ (by simp; omega)
      · have := (hA.2.2 q hq).2; exact heap_setCell_other _ _ _ _ (by simp; omega)
      · have := (hB.2.2 q hq).2; exact heap_setCell_other _ _ _ _ (by simp; omega)
      · have := (hA.2.2 q hq).2; refine ⟨by omega, ?_⟩; simp; omega
      · have := (hB.2.2 q hq).2; refine ⟨by omega, ?_⟩; simp; omega
      · have := (hA.2.2 q hq).2; omega
      · have := (hB.2.2 q hq).2; omega
    · have e' : (M.set j (M[j].moved A c B d))[m] = M[m] := List.getElem_set_ne (Ne.symm e) _
      rw [e']
      obtain ⟨o1, o2, o3⟩ := h.own m hm' (by omega)
      exact ⟨key _ o1 o2 o3, o2, o3⟩
  · rw [List.map_set, ← h.bare]
    show (M.map SpanD.bare).set j (M[j].bare) = _
    have e2 : M[j].bare = (M.map SpanD.bare)[j]'(by simpa using hj) := by simp
    rw [e2, List.set_getElem_self]
  · have hm' : m < M.length := by simpa using hm
    rw [List.getElem?_set_ne (by omega)]
    exact h.rest m hm' (by omega)
theorem CopyS.fin {lo : Nat} {w W W9 : World} {id wt : Int} {p g cap : Nat} {L M : List SpanD} (h : CopyS lo w W id wt p g cap L M L.length) (hk : ∀ k, lo ≤ k → W9.heap[k]? = W.heap[k]?) (hs : W.heap.size ≤ W9.heap.size) :
    SpansIn W9 (some ⟨g, 0, none⟩) M ∧ (∀ x ∈ M, x.Owned lo W9) ∧ g < W9.heap.size := by
  obtain ⟨cur, h1, h2, h3, h4⟩ := h.bg
  have h1' := (hk g h.lg).trans h1
  refine ⟨fun j hj => ⟨g, 0, rfl, fun k v hv => ?_⟩, fun x hx => ?_, blk_lt h1'⟩
  · have hk' : k < 14 := by
      have := (List.getElem?_eq_some_iff.1 hv).1
      rwa [cells_length] at this
    have h5 : (cellsX M)[j * 14 + k]? = some v := (cellsX_get hj hk').trans hv
    have := h.len
    rw [← h4, List.getElem?_take_of_lt (by omega)] at h5
    rw [Nat.zero_add]
    exact cell_blk h1' _ (by rw [← Array.getElem?_toList]; exact h5)
  · obtain ⟨m, hm, rfl⟩ := List.mem_iff_getElem.1 hx
    obtain ⟨o1, o2, o3⟩ := h.own m hm (by rw [← h.len]; exact hm)
    exact ⟨⟨o1.held.attrs.same fun q hq => hk _ (o1.a q hq).1, o1.held.links.same fun q hq => hk _ (o1.l q hq).1, o1.held.na, o1.held.nl⟩, o1.sound, fun q hq => ⟨(o1.a q hq).1, Nat.lt_of_lt_of_le (o1.a q hq).2 hs⟩, fun q hq => ⟨(o1.l q hq).1, Nat.lt_of_lt_of_le (o1.l q hq).2 hs⟩⟩
theorem row_same {W W' : World} {base : Nat} {e : TypeId} {size : Nat} {v : Value} {k : Nat} {xs : List Value} (h : W.ownsRow base e size v k xs) (hk : ∀ g, v.ownBlock = some g → W'.heap[g]? = W.heap[g]?) : W'.ownsRow base e size v k xs := by
  refine ⟨h.1, ?_⟩
  rcases h.2 with h0 | ⟨g, cap, cur, h1, h2, h3, h4⟩
  · exact .inl h0
  · subst h1
    exact .inr ⟨g, cap, cur, rfl, h2, (hk g rfl).trans h3, h4⟩
theorem copyB_1 {w w1 : World} {id wt : Int} {p base : Nat} {A : Option Addr} {c : Nat} {L : List SpanD} {a1 a2 a3 : Value} (hp : w1.heap[p]? = some (.cells #[a1, a2, a3] 27 (0, 0))) (hr : w1.ownsRow base 73 14 (.slice A L.length c) L.length (cellsX L)) (hat : ∀ q, A = some q → q.spot = none ∧ base ≤ q.block ∧ q.block < w1.heap.size) (hpb : p < base) (hlp : w.heap.size ≤ p) (hB : Below w.heap.size w w1) :
    CopyB w (((w1.setCell ⟨p, 0, none⟩ (.int .i64 id)).setCell ⟨p, 1, none⟩ (.int .i64 wt)).setCell ⟨p, 2, none⟩ (.slice A L.length c)) id wt p A c L := by
  refine ⟨heap_setCell_same _ _ 2 _ _ _ (heap_setCell_same _ _ 1 _ _ _ (heap_setCell_same _ _ 0 _ _ _ hp)), row_same (row_mono hr (by omega)) (fun g hg => ?_), hlp, fun q hq => ?_, ((hB.setCell (p := ⟨p, 0, none⟩) hlp _).setCell (p := ⟨p, 1, none⟩) hlp _).setCell (p := ⟨p, 2, none⟩) hlp _⟩
  · have h1 := (hr.lt g hg).1
    rw [heap_setCell_other _ _ _ _ (by simp; omega), heap_setCell_other _ _ _ _ (by simp; omega), heap_setCell_other _ _ _ _ (by simp; omega)]
  · have h1 := hat q hq
    exact ⟨h1.1, by omega, by simpa using h1.2.2, by omega⟩
theorem copyB_2 {w w1 : World} {id wt : Int} {base : Nat} {A : Option Addr} {c : Nat} {L : List SpanD} (hr : w1.ownsRow base 73 14 (.slice A L.length c) L.length (cellsX L)) (hat : ∀ q, A = some q → q.spot = none ∧ base ≤ q.block ∧ q.block < w1.heap.size) (hlp : w.heap.size ≤ base) (hB : Below w.heap.size w w1) :
    CopyB w (w1.alloc (.cells #[.int .i64 id, .int .i64 wt, .slice A L.length c] 27)) id wt w1.heap.size A c L := by
  refine ⟨blk_new _ _ _, row_keep (row_mono hr hlp) (Grew.alloc _ _).b, hB.size, fun q hq => ?_, hB.alloc hB.size _⟩
  have h1 := hat q hq
  exact ⟨h1.1, by omega, by have := h1.2.2; simp; omega, by omega⟩
set_option maxHeartbeats 8000000 in
set_option maxRecDepth 20000 in
theorem copyT_any (t : TraceD) (wt : Int) (w : World) (hI : SpansIn w t.A t.spans) (hA : t.A = none → t.spans = []) (hH : ∀ x ∈ t.spans, x.Held w) (hS : ∀ x ∈ t.spans, x.Sound ∧ x.attrs.length ≤ 1000 ∧ x.links.length ≤ 1000) (hn : t.spans.length ≤ 1000) :
    Calls Tryz.prog 30 #[.agg t.cells.toArray, .int .i64 wt] w fun e w' => ∃ A c M, e = .returned (.agg #[.int .i64 t.id, .int .i64 wt, .slice A t.spans.length c]) ∧ M.map SpanD.bare = t.spans.map SpanD.bare ∧ SpansIn w' A M ∧ (∀ x ∈ M, x.Owned w.heap.size w') ∧ (∀ q, A = some q → q.spot = none ∧ w.heap.size ≤ q.block ∧ q.block < w'.heap.size) ∧ Below w.heap.size w w' := by
  obtain ⟨W0, hW0⟩ : ∃ W0, W0 = (w.alloc (.cells t.cells.toArray 27)).alloc (.cells #[.int .i64 0, .int .i64 0, .slice none 0 0] 27) := ⟨_, rfl⟩
  have hB0 : Hid (Below w.heap.size w W0) := Lib.hid (by rw [hW0]; exact ((Below.refl _ w).alloc (Nat.le_refl _) _).alloc (by simp) _)
  have hbox : Hid (W0.heap[w.heap.size]? = some (.cells t.cells.toArray 27 (0, 0))) := Lib.hid (by rw [hW0]; exact (Grew.alloc _ _).blk (blk_new _ _ _))
  have hsz : w.heap.size + 1 < W0.heap.size := by rw [hW0]; simp
  have hrB : Hid (W0.heap[w.heap.size + 1]? = some (.cells #[.int .i64 0, .int .i64 0, .slice none 0 0] 27 (0, 0))) := Lib.hid (by rw [hW0]; exact blk_new' _ _ _ _ (by simp))
  have hc : Hid (∀ W, Below W0.heap.size W0 W → Calls Tryz.prog 52 #[.slice t.A t.spans.length t.c] W fun e w' => ∃ A' c', e = .returned (.slice A' t.spans.length c') ∧ w'.ownsRow W.heap.size 73 14 (.slice A' t.spans.length c') t.spans.length (cellsX t.spans) ∧ (∀ p, A' = some p → p.spot = none ∧ W.heap.size ≤ p.block ∧ p.block < w'.heap.size) ∧ (A' = none → t.spans.length = 0 ∧ c' = 0) ∧ Below W.heap.size W w') :=
    Lib.hid fun W hW => cloneX_any t.A t.spans.length t.c (cellsX t.spans) W (cellsX_length _) (fun h => by rw [hA h]; rfl) (fun q hq k u hu => by
      have h0 : 0 < t.spans.length := by
        have := (List.getElem?_eq_some_iff.1 hu).1
        rw [cellsX_length] at this
        omega
      obtain ⟨b, o, e, _⟩ := hI 0 h0
      obtain rfl := Option.some.inj (hq.symm.trans e)
      rw [Addr.add_mid]
      have h1 : SpansIn W (some ⟨b, o, none⟩) t.spans := by rw [← hq]; exact (hI.below hB0.out).below hW
      exact h1.flat k u hu) (cellsX_one _) hn
  have HH := Lib.hid hH
  have HS := Lib.hid hS
  clear hI hA hH hS
  unfold TraceD.cells at hW0 hbox ⊢
  go_enter Tryz.func30, Tryz.ntmps30
  go_upto_region 1 with fail
  rw [← hW0]
  go_cut [5] (fun s5 wx => ∃ p A1 c1, s5 = .pointer (some ⟨p, 0, none⟩) ∧ Hid (CopyB W0 wx t.id wt p A1 c1 t.spans))
  case first =>
    clear hW0
    have z0 : W0.cell? ⟨w.heap.size, 0, none⟩ = some (.int .i64 t.id) := cell_blk hbox.out 0 rfl
    have z2 : W0.cell? ⟨w.heap.size, 2, none⟩ = some (.slice t.A t.spans.length t.c) := cell_blk hbox.out 2 rfl
    have hne0 : w.heap.size ≠ W0.heap.size := by omega
    have hne1 : W0.heap.size ≠ w.heap.size := by omega
    have hlt0 : w.heap.size < W0.heap.size := by omega
    have bA : Hid (Below W0.heap.size W0 (W0.alloc (.cells #[.int .i64 0, .int .i64 0, .slice none 0 0] 27)).drew) := Lib.hid (((Below.refl _ W0).alloc (Nat.le_refl _) _).trans ((below_drew _).mono (by simp)))
    have xA := Lib.hid (blk_new W0 #[.int .i64 0, .int .i64 0, .slice none 0 0] 27)
    go_region_with (first
      | (go_at_call 52; (with_reducible refine (hc.out _ (below_drew _)).mono ?_); rintro e w1 ⟨A1, c1, rfl, hr1, hs1, hz1, hb1⟩; have HR1 := Lib.hid (And.intro hr1 hs1); have HB1 : Hid (Below W0.heap.size W0 w1) := Lib.hid ((below_drew W0).trans hb1); clear hr1 hs1 hz1 hb1; have hbox1 := Lib.hid (blk_keep HB1.out hbox.out); have y0 : w1.cell? ⟨w.heap.size, 0, none⟩ = some (.int .i64 t.id) := cell_blk hbox1.out 0 rfl; have hlt1 : w.heap.size < w1.heap.size := (by have := HB1.out.size; omega); have hne : w1.heap.size ≠ w.heap.size := (by omega); have hne' : w.heap.size ≠ w1.heap.size := (by omega); have hend := Lib.hid (copyB_2 (w := W0) (id := t.id) (wt := wt) HR1.out.1 HR1.out.2 (by simp) HB1.out); clear z0 z2)
      | (go_at_call 52; (with_reducible refine (hc.out _ bA.out).mono ?_); rintro e w1 ⟨A1, c1, rfl, hr1, hs1, hz1, hb1⟩; have HR1 := Lib.hid (And.intro hr1 hs1); have HB1 : Hid (Below W0.heap.size W0 w1) := Lib.hid (bA.out.trans (hb1.mono (by simp))); have hxA := blk_keep hb1 xA.out; have x0 := fun i => frozen_blk hxA i; have x1 : w1.cell? ⟨W0.heap.size, 0, none⟩ = some (.int .i64 0) := cell_blk hxA 0 rfl; have x2 : w1.cell? ⟨W0.heap.size, 1, none⟩ = some (.int .i64 0) := cell_blk hxA 1 rfl; have x3 : w1.cell? ⟨W0.heap.size, 2, none⟩ = some (.slice none 0 0) := cell_blk hxA 2 rfl; have hend := Lib.hid (copyB_1 (w := W0) (id := t.id) (wt := wt) hxA HR1.out.1 HR1.out.2 (by simp) (by omega) HB1.out); clear hxA hr1 hs1 hz1 hb1; have hbox1 := Lib.hid (blk_keep HB1.out hbox.out); have y0 : w1.cell? ⟨w.heap.size, 0, none⟩ = some (.int .i64 t.id) := cell_blk hbox1.out 0 rfl; clear z0 z2))
    all_goals (go_wp2_with fail; go_meet; exact ⟨_, A1, c1, rfl, hend⟩)
  case rest =>
    obtain ⟨p, A1, c1, rfl, hP⟩ := hcut
    have p2 : wc.cell? ⟨p, 2, none⟩ = some (.slice A1 t.spans.length c1) := cell_blk hP.out.bp 2 rfl
    rcases hP.out.row.2 with ⟨h0, h1⟩ | ⟨g, cap, cur, hv, hb, hg, h1, h2, h3, h4⟩
    · have hL0 : t.spans = [] := List.length_eq_zero_iff.1 h1
      have hA0 : A1 = none := by cases A1 <;> simp_all
      have d0 : wc.cell? ⟨p, 0, none⟩ = some (.int .i64 t.id) := cell_blk hP.out.bp 0 rfl
      have d1 : wc.cell? ⟨p, 1, none⟩ = some (.int .i64 wt) := cell_blk hP.out.bp 1 rfl
      have hr9 := blk_keep hP.out.b hrB.out
      have r0 : wc.cell? ⟨w.heap.size + 1, 0, none⟩ = some (.int .i64 0) := cell_blk hr9 0 rfl
      have r1 : wc.cell? ⟨w.heap.size + 1, 1, none⟩ = some (.int .i64 0) := cell_blk hr9 1 rfl
      have r2 : wc.cell? ⟨w.heap.size + 1, 2, none⟩ = some (.slice none 0 0) := cell_blk hr9 2 rfl
      have rf := fun i => frozen_blk hr9 i
      have hr9 := Lib.hid hr9
      have hL0 := Lib.hid hL0
      subst hA0
      clear h0
      have h1 := Lib.hid h1
      go_wp2_with fail
      go_loopw [6, 17] (fun a i wr => i = .int .i64 0 ∧ wr = wc) (fun _ _ _ => 0)
      case atStart => exact ⟨rfl, rfl⟩
      case round =>
        obtain ⟨rfl, rfl⟩ := hrel
        have hlt2 : decide ((0 : Int) < (t.spans.length : Int)) = false := decide_eq_false (by rw [h1.out]; decide)
        go_wp2_with fail
        have hres := heap_setCell_same _ _ 2 _ _ (.slice none 0 c1) (heap_setCell_same _ _ 1 _ _ (.int .i64 wt) (heap_setCell_same _ _ 0 _ _ (.int .i64 t.id) hr9.out))
        refine bodyPost_ret (results_cell_row rfl _ _ (w.heap.size + 1) _ _ (0, 0) _ rfl hres Tryz.underlying27 rfl (by kernel_rfl)) rfl ?_
        refine ⟨none, c1, [], by rw [h1.out]; rfl, by rw [hL0.out], fun j hj => absurd hj (Nat.not_lt_zero _), fun x hx => absurd hx List.not_mem_nil, (fun q hq => by cases hq), ?_⟩
        exact (((hB0.out.trans (hP.out.b.mono hB0.out.size)).setCell (p := ⟨w.heap.size + 1, 0, none⟩) (by simp) _).setCell (p := ⟨w.heap.size + 1, 1, none⟩) (by simp) _).setCell (p := ⟨w.heap.size + 1, 2, none⟩) (by simp) _
    · obtain ⟨rfl, rfl⟩ : A1 = some ⟨g, 0, none⟩ ∧ c1 = cap := by cases hv; exact ⟨rfl, rfl⟩
      have hgp : g ≠ p := (hP.out.at_ _ rfl).2.2.2
      have hb0 := Lib.hid hb
      have hS0 : Hid (CopyS W0.heap.size W0 wc t.id wt p g c1 t.spans t.spans 0) := Lib.hid ⟨rfl, hP.out.bp, ⟨cur, hg, h3, h1, h4⟩, fun m _ h => absurd h (Nat.not_lt_zero m), rfl, fun m _ _ => rfl, hP.out.lp, hb, hgp, hP.out.b⟩
      clear hv hb hg h1 h2 h3 h4 cur
      go_wp2_with fail
      go_loopw [6, 17] (fun a i wr => ∃ (j : Nat) (M : List SpanD), j ≤ t.spans.length ∧ i = .int .i64 j ∧ Hid (CopyS W0.heap.size W0 wr t.id wt p g c1 t.spans M j)) (fun _ i _ => t.spans.length - (intOf i).toNat)
      case atStart => exact ⟨0, _, by omega, rfl, hS0⟩
      case round =>
        obtain ⟨j, M, hj, rfl, hC⟩ := hrel
        by_cases hlt : j < t.spans.length
        · have hlt2 : decide (j < t.spans.length) = true := decide_eq_true hlt
          have hjm : j < M.length := by rw [hC.out.len]; exact hlt
          have hx : M[j] ∈ t.spans := by
            have h1 := hC.out.rest j hjm (Nat.le_refl _)
            rw [List.getElem?_eq_getElem hjm, List.getElem?_eq_getElem hlt] at h1
            rw [Option.some.inj h1]
            exact List.getElem_mem hlt
          have hSx := HS.out _ hx
          have hcA : Hid (∀ W, Below W0.heap.size W0 W → Calls Tryz.prog 53 #[.slice M[j].aA M[j].attrs.length M[j].aC] W fun e w' => ∃ A' c', e = .returned (.slice A' M[j].attrs.length c') ∧ AttrsAt w' A' M[j].attrs ∧ (A' = none → M[j].attrs = []) ∧ (∀ p, A' = some p → p.spot = none ∧ W.heap.size ≤ p.block ∧ p.block < w'.heap.size) ∧ Below W.heap.size W w') :=
            Lib.hid fun W hW => copyA_any _ _ _ W ((HH.out _ hx).keeps W (hB0.out.trans (hW.mono hB0.out.size))).attrs hSx.1.a hSx.1.b hSx.2.1
          have hcR : Hid (∀ W, Below W0.heap.size W0 W → Calls Tryz.prog 54 #[.slice M[j].lA M[j].links.length M[j].lC] W fun e w' => ∃ A' c', e = .returned (.slice A' M[j].links.length c') ∧ RefsAt w' A' M[j].links ∧ (A' = none → M[j].links = []) ∧ (∀ p, A' = some p → p.spot = none ∧ W.heap.size ≤ p.block ∧ p.block < w'.heap.size) ∧ Below W.heap.size W w') :=
            Lib.hid fun W hW => copyR_any _ _ _ W ((HH.out _ hx).keeps W (hB0.out.trans (hW.mono hB0.out.size))).links hSx.1.c hSx.1.d hSx.2.2
          have c2 : wr.cell? ⟨p, 2, none⟩ = some (.slice (some ⟨g, 0, none⟩) t.spans.length c1) := cell_blk hC.out.bp 2 rfl
          have c12 : wr.cell? ⟨g, j * 14 + 12, none⟩ = some (.slice M[j].aA M[j].attrs.length M[j].aC) := hC.out.cell hjm rfl
          have c13 : wr.cell? ⟨g, j * 14 + 13, none⟩ = some (.slice M[j].lA M[j].links.length M[j].lC) := hC.out.cell hjm rfl
          have hstep := Lib.hid (fun (A B : Option Addr) (c d : Nat) (w1 w2 : World) h1 h2 h3 h4 h5 h6 h7 => hC.out.step (A := A) (B := B) (c := c) (d := d) (w1 := w1) (w2 := w2) hjm h1 h2 h3 hSx.2 h4 h5 h6 h7)
          obtain ⟨cur, hcur, hcs, _, _⟩ := hC.out.bg
          have hgB := Lib.hid hcur
          have hpB := Lib.hid hC.out.bp
          have hgs := blk_lt hcur
          have hps := blk_lt hC.out.bp
          clear hcur
          have hBw : Hid (Below W0.heap.size W0 wr) := Lib.hid hC.out.b
          generalize M[j] = x at *
          go_wp2_with fail
          go_region_with (first
            | (go_at_call 53; (with_reducible refine (hcA.out _ (hBw.out.trans ((below_drew wr).mono hBw.out.size))).mono ?_); rintro e w1 ⟨A1, c1', rfl, hr1, hz1, hs1, hb1⟩; have HA1 := Lib.hid (And.intro hr1 (And.intro hz1 hs1)); have HB1 : Hid (Below wr.heap.size wr w1) := Lib.hid ((below_drew wr).trans hb1); clear hr1 hz1 hs1 hb1; have y12 : w1.cell? ⟨g, j * 14 + 12, none⟩ = some (.slice x.aA x.attrs.length x.aC) := (HB1.out.cell (p := ⟨g, j * 14 + 12, none⟩) hgs).trans c12; have y2 : w1.cell? ⟨p, 2, none⟩ = some (.slice (some ⟨g, 0, none⟩) t.spans.length c1) := (HB1.out.cell (p := ⟨p, 2, none⟩) hps).trans c2; have yf : w1.frozen? ⟨g, j * 14 + 12, none⟩ = false := frozen_blk (blk_keep HB1.out hgB.out) _))
          all_goals
            have hne : p ≠ g := Ne.symm hgp
            have e1 := heap_setCell_same w1 g (j * 14 + 12) _ 73 (.slice A1 x.attrs.length c1') (blk_keep HB1.out hgB.out)
            have e2 := (heap_setCell_other w1 ⟨g, j * 14 + 12, none⟩ p (.slice A1 x.attrs.length c1') hne).trans (blk_keep HB1.out hpB.out)
            have k2 : (w1.setCell ⟨g, j * 14 + 12, none⟩ (.slice A1 x.attrs.length c1')).cell? ⟨p, 2, none⟩ = some (.slice (some ⟨g, 0, none⟩) t.spans.length c1) := cell_blk e2 2 rfl
            have k13 : (w1.setCell ⟨g, j * 14 + 12, none⟩ (.slice A1 x.attrs.length c1')).cell? ⟨g, j * 14 + 13, none⟩ = some (.slice x.lA x.links.length x.lC) := by
              exact (World.cell?_setCell_other w1 _ _ _ (by simp)).trans ((HB1.out.cell (p := ⟨g, j * 14 + 13, none⟩) hgs).trans c13)
            have hb5 : Hid (Below W0.heap.size W0 (w1.setCell ⟨g, j * 14 + 12, none⟩ (.slice A1 x.attrs.length c1'))) := Lib.hid ((hBw.out.trans (HB1.out.mono hBw.out.size)).setCell (p := ⟨g, j * 14 + 12, none⟩) hb0.out _)
            have hs5 : (w1.setCell ⟨g, j * 14 + 12, none⟩ (.slice A1 x.attrs.length c1')).heap.size = w1.heap.size := by simp
            have hst := Lib.hid (fun B d w2 h6 h7 => hstep.out A1 B c1' d w1 w2 hgs hps hBw.out.size HB1.out HA1.out h6 h7)
            have hg5 := Lib.hid e1
            have hp5 := Lib.hid e2
            have hgs5 : g < w1.heap.size := Nat.lt_of_lt_of_le hgs HB1.out.size
            have hps5 : p < w1.heap.size := Nat.lt_of_lt_of_le hps HB1.out.size
            clear e1 e2 y12 y2 yf c2 c12 c13
            generalize w1.setCell ⟨g, j * 14 + 12, none⟩ (.slice A1 x.attrs.length c1') = w5 at *
            have hs5 := Lib.hid hs5
            go_wp2_with fail
            go_region_with (first
              | (go_at_call 54; (with_reducible refine (hcR.out _ (hb5.out.trans ((below_drew w5).mono hb5.out.size))).mono ?_); rintro e w2 ⟨A2, c2', rfl, hr1, hz1, hs1, hb1⟩; have HA2 := Lib.hid (And.intro hr1 (And.intro hz1 hs1)); have HB2 : Hid (Below w5.heap.size w5 w2) := Lib.hid ((below_drew w5).trans hb1); clear hr1 hz1 hs1 hb1; have x2 : w2.cell? ⟨p, 2, none⟩ = some (.slice (some ⟨g, 0, none⟩) t.spans.length c1) := (HB2.out.cell (p := ⟨p, 2, none⟩) (by rw [hs5.out]; exact hps5)).trans k2; have x13 : w2.cell? ⟨g, j * 14 + 13, none⟩ = some (.slice x.lA x.links.length x.lC) := (HB2.out.cell (p := ⟨g, j * 14 + 13, none⟩) (by rw [hs5.out]; exact hgs5)).trans k13; have xf : w2.frozen? ⟨g, j * 14 + 13, none⟩ = false := frozen_blk (blk_keep HB2.out hg5.out) _))
            all_goals
              have hend := Lib.hid (hst.out A2 c2' w2 (by rw [← hs5.out]; exact HB2.out) (by have h1 := HA2.out; simp only [World.size_drew, hs5.out] at h1; exact h1))
              clear x2 x13 xf
              go_wp2_with fail
              exact ⟨⟨j + 1, _, by omega, by go_num, hend⟩, by simp [intOf]; omega⟩
        · have hj2 : j = t.spans.length := by omega
          subst hj2
          have hlt2 : decide (t.spans.length < t.spans.length) = false := decide_eq_false hlt
          have d0 : wr.cell? ⟨p, 0, none⟩ = some (.int .i64 t.id) := cell_blk hC.out.bp 0 rfl
          have d1 : wr.cell? ⟨p, 1, none⟩ = some (.int .i64 wt) := cell_blk hC.out.bp 1 rfl
          have d2 : wr.cell? ⟨p, 2, none⟩ = some (.slice (some ⟨g, 0, none⟩) t.spans.length c1) := cell_blk hC.out.bp 2 rfl
          have hr9 := blk_keep hC.out.b hrB.out
          have r0 : wr.cell? ⟨w.heap.size + 1, 0, none⟩ = some (.int .i64 0) := cell_blk hr9 0 rfl
          have r1 : wr.cell? ⟨w.heap.size + 1, 1, none⟩ = some (.int .i64 0) := cell_blk hr9 1 rfl
          have r2 : wr.cell? ⟨w.heap.size + 1, 2, none⟩ = some (.slice none 0 0) := cell_blk hr9 2 rfl
          have rf := fun i => frozen_blk hr9 i
          have hr9 := Lib.hid hr9
          go_wp2_with fail
          have hres := heap_setCell_same _ _ 2 _ _ (.slice (some ⟨g, 0, none⟩) t.spans.length c1) (heap_setCell_same _ _ 1 _ _ (.int .i64 wt) (heap_setCell_same _ _ 0 _ _ (.int .i64 t.id) hr9.out))
          have hfin := hC.out.fin (W9 := ((wr.setCell ⟨w.heap.size + 1, 0, none⟩ (.int .i64 t.id)).setCell ⟨w.heap.size + 1, 1, none⟩ (.int .i64 wt)).setCell ⟨w.heap.size + 1, 2, none⟩ (.slice (some ⟨g, 0, none⟩) t.spans.length c1)) (fun k hk => by rw [heap_setCell_other _ _ _ _ (by simp; omega), heap_setCell_other _ _ _ _ (by simp; omega), heap_setCell_other _ _ _ _ (by simp; omega)]) (by simp)
          refine bodyPost_ret (results_cell_row rfl _ _ (w.heap.size + 1) _ _ (0, 0) _ rfl hres Tryz.underlying27 rfl (by kernel_rfl)) rfl ?_
          refine ⟨_, c1, M, rfl, hC.out.bare, hfin.1, fun x hx => (hfin.2.1 x hx).mono (by omega), fun q hq => by cases hq; exact ⟨rfl, by have := hb0.out; show _ ≤ g; omega, hfin.2.2⟩, ?_⟩
          exact (((hB0.out.trans (hC.out.b.mono hB0.out.size)).setCell (p := ⟨w.heap.size + 1, 0, none⟩) (by simp) _).setCell (p := ⟨w.heap.size + 1, 1, none⟩) (by simp) _).setCell (p := ⟨w.heap.size + 1, 2, none⟩) (by simp) _
end Go.Proofs.YtnddlpfmagdbfaaGreatDoor
/- The model's operations on words of 32 and 64 bits, said of Lean's words. No conditions. -/
namespace Go.Proofs.YtnddlpfmagdbfaaGreatDoor
open Go.RowKit

theorem wrap_u64 (n : Int) : IntKind.u64.wrap n = n % 18446744073709551616 := by simp [IntKind.wrap, IntKind.bits, IntKind.signed]

/-- A word as the number that the model holds. -/
def n32 (x : BitVec 32) : Int := (x.toNat : Int)
def n64 (x : BitVec 64) : Int := (x.toNat : Int)

theorem n32_lt (x : BitVec 32) : 0 ≤ n32 x ∧ n32 x < 4294967296 := by unfold n32; have := x.isLt; omega
theorem n64_lt (x : BitVec 64) : 0 ≤ n64 x ∧ n64 x < 18446744073709551616 := by unfold n64; have := x.isLt; omega
theorem n32_inj {x y : BitVec 32} (h : n32 x = n32 y) : x = y := by unfold n32 at h; exact BitVec.eq_of_toNat_eq (by omega)
theorem n64_inj {x y : BitVec 64} (h : n64 x = n64 y) : x = y := by unfold n64 at h; exact BitVec.eq_of_toNat_eq (by omega)
theorem n32_beq (x y : BitVec 32) : (n32 x == n32 y) = (x == y) := by
  rw [Bool.eq_iff_iff]; simp; exact ⟨n32_inj, fun h => by rw [h]⟩
theorem n64_beq (x y : BitVec 64) : (n64 x == n64 y) = (x == y) := by
  rw [Bool.eq_iff_iff]; simp; exact ⟨n64_inj, fun h => by rw [h]⟩
theorem n32_of {n : Int} (h0 : 0 ≤ n) (h1 : n < 4294967296) : n = n32 (BitVec.ofNat 32 n.toNat) := by
  unfold n32; rw [BitVec.toNat_ofNat]; omega
theorem n64_of {n : Int} (h0 : 0 ≤ n) (h1 : n < 18446744073709551616) : n = n64 (BitVec.ofNat 64 n.toNat) := by
  unfold n64; rw [BitVec.toNat_ofNat]; omega

theorem wrap32_n (x : BitVec 32) : IntKind.u32.wrap (n32 x) = n32 x := by
  rw [IntKind.wrap_u32]; have := n32_lt x; omega
theorem wrap64_n (x : BitVec 64) : IntKind.u64.wrap (n64 x) = n64 x := by
  rw [wrap_u64]; have := n64_lt x; omega

theorem ofInt32 (x : BitVec 32) : BitVec.ofInt IntKind.u32.bits (n32 x) = x := by
  apply BitVec.eq_of_toNat_eq
  simp [n32, IntKind.bits]
theorem ofInt64 (x : BitVec 64) : BitVec.ofInt IntKind.u64.bits (n64 x) = x := by
  apply BitVec.eq_of_toNat_eq
  simp [n64, IntKind.bits]

theorem xor32 (x y : BitVec 32) : Go.bits .xor .u32 (n32 x) (n32 y) = n32 (x ^^^ y) := by
  unfold Go.bits
  simp only [ofInt32]
  exact wrap32_n _
theorem and32 (x y : BitVec 32) : Go.bits .and .u32 (n32 x) (n32 y) = n32 (x &&& y) := by
  unfold Go.bits
  simp only [ofInt32]
  exact wrap32_n _
theorem xor64 (x y : BitVec 64) : Go.bits .xor .u64 (n64 x) (n64 y) = n64 (x ^^^ y) := by
  unfold Go.bits
  simp only [ofInt64]
  exact wrap64_n _
theorem not32 (x : BitVec 32) : Go.bits .xor .u32 4294967295 (n32 x) = n32 (~~~ x) := by
  have h : (4294967295 : Int) = n32 (BitVec.allOnes 32) := by decide
  rw [h, xor32, ← BitVec.not_def]
theorem shr32 (x : BitVec 32) (k : Nat) : n32 x / 2 ^ k = n32 (x >>> k) := by
  unfold n32
  rw [BitVec.toNat_ushiftRight, Nat.shiftRight_eq_div_pow]; simp
theorem shr64 (x : BitVec 64) (k : Nat) : n64 x / 2 ^ k = n64 (x >>> k) := by
  unfold n64
  rw [BitVec.toNat_ushiftRight, Nat.shiftRight_eq_div_pow]; simp
theorem mul64 (x y : BitVec 64) : IntKind.u64.wrap (n64 x * n64 y) = n64 (x * y) := by
  unfold n64
  rw [wrap_u64, BitVec.toNat_mul]; simp
theorem add64 (x y : BitVec 64) : IntKind.u64.wrap (n64 x + n64 y) = n64 (x + y) := by
  unfold n64
  rw [wrap_u64, BitVec.toNat_add]; simp
theorem sub64 (x y : BitVec 64) : IntKind.u64.wrap (n64 x - n64 y) = n64 (x - y) := by
  unfold n64
  rw [wrap_u64, BitVec.toNat_sub]; have := x.isLt; have := y.isLt; omega
theorem bit32 (x : BitVec 32) : Go.bits .and .u32 (n32 x) 1 = if x.getLsbD 0 then 1 else 0 := by
  have h : (1 : Int) = n32 1#32 := by decide
  rw [h, and32]
  have e : x &&& 1#32 = if x.getLsbD 0 then 1#32 else 0#32 := by
    apply BitVec.eq_of_getLsbD_eq
    intro i hi
    rw [BitVec.getLsbD_and]
    cases i with
    | zero => cases x.getLsbD 0 <;> simp
    | succ i =>
      have : (1#32).getLsbD (i + 1) = false := by simp [BitVec.getLsbD_one]
      rw [this]
      cases x.getLsbD 0 <;> simp
  rw [e]
  cases x.getLsbD 0 <;> decide

end Go.Proofs.YtnddlpfmagdbfaaGreatDoor
/- Contracts: the mixed word, the hash of a trace, what is kept, the weights. -/
namespace Go.Proofs.YtnddlpfmagdbfaaGreatDoor
open Go.RowKit
set_option linter.unusedVariables false
set_option linter.unusedSimpArgs false

namespace Crc
def c1 : BitVec 64 := 0x9e3779b97f4a7c15#64
def c2 : BitVec 64 := 0xbf58476d1ce4e5b9#64
def c3 : BitVec 64 := 0x94d049bb133111eb#64
def mixa (k : Nat) (z : BitVec 64) : BitVec 64 := z ^^^ (z >>> k)
def word (s n : BitVec 64) : BitVec 64 := mixa 31 (mixa 27 (mixa 30 (s * c1 + n) * c2) * c3)
end Crc
theorem k1 (x : BitVec 64) : IntKind.u64.wrap (n64 x * 11400714819323198485) = n64 (x * Crc.c1) := by rw [← mul64]; rfl
theorem k2 (x : BitVec 64) : IntKind.u64.wrap (n64 x * 13787848793156543929) = n64 (x * Crc.c2) := by rw [← mul64]; rfl
theorem k3 (x : BitVec 64) : IntKind.u64.wrap (n64 x * 10723151780598845931) = n64 (x * Crc.c3) := by rw [← mul64]; rfl
theorem s30 (x : BitVec 64) : n64 x / (1073741824 : Int) = n64 (x >>> 30) := by rw [← shr64]; rfl
theorem s27 (x : BitVec 64) : n64 x / (134217728 : Int) = n64 (x >>> 27) := by rw [← shr64]; rfl
theorem s31 (x : BitVec 64) : n64 x / (2147483648 : Int) = n64 (x >>> 31) := by rw [← shr64]; rfl

theorem ret64 {a b : Int} (h : a = b) : Ending.returned (.int .u64 a) = .returned (.int .u64 b) := by rw [h]
theorem word_any (a b : Int) (x y : BitVec 64) (ha : a = n64 x) (hb : b = n64 y) (w : World) :
    Calls Tryz.prog 78 #[.int .u64 a, .int .u64 b] w fun e w' => e = .returned (.int .u64 (n64 (Crc.word x y))) ∧ w = w' := by
  subst ha hb
  go_enter Tryz.func78, Tryz.ntmps78
  go_wp2
  go_ret
  exact ⟨ret64 (by simp only [k1, k2, k3, add64, s30, s27, s31, xor64]; rfl), rfl⟩

/-- An int, taken modulo 2^64. -/
def u (a : Int) : BitVec 64 := BitVec.ofInt 64 a
theorem u_wrap (a : Int) : IntKind.u64.wrap a = n64 (u a) := by
  rw [wrap_u64]; unfold n64 u; rw [BitVec.toNat_ofInt]; simp; omega
theorem q4_lt (x : BitVec 64) : 0 ≤ n64 x / (4 : Int) ∧ n64 x / (4 : Int) < 4611686018427387904 := by have := n64_lt x; omega
theorem mix_word (a b : Int) (w : World) :
    Calls Tryz.prog 60 #[.int .i64 a, .int .i64 b] w fun e w' => e = .returned (.int .i64 (n64 (Crc.word (u a) (u b)) / (4 : Int))) ∧ w = w' := by
  go_enter Tryz.func60, Tryz.ntmps60
  go_wp2_with fail
  (with_reducible refine (word_any _ _ (u a) (u b) (u_wrap a) (u_wrap b) _).mono ?_)
  rintro e w' ⟨rfl, rfl⟩
  have h := q4_lt (Crc.word (u a) (u b))
  obtain ⟨h0, h1⟩ := h
  go_wp2
  go_ret
  exact ⟨rfl, rfl⟩

/-- The number by which a trace is chosen. -/
def hs (t : Int) : Int := n64 (Crc.word (u 0) (u t)) / (4 : Int)
theorem hs_lt (t : Int) : 0 ≤ hs t ∧ hs t < 4611686018427387904 := q4_lt _
theorem mix_any (t : Int) (w : World) : Calls Tryz.prog 60 #[.int .i64 0, .int .i64 t] w fun e w' => e = .returned (.int .i64 (hs t)) ∧ w = w' := mix_word 0 t w
theorem hash_any (t : Int) (w : World) : Calls Tryz.prog 51 #[.int .i64 t] w fun e w' => e = .returned (.int .i64 (hs t)) ∧ w = w' := by
  go_enter Tryz.func51, Tryz.ntmps51
  go_wp2_with fail
  (with_reducible refine (mix_any _ _).mono ?_)
  rintro e w' ⟨rfl, rfl⟩
  go_wp2
  go_ret
  exact ⟨rfl, rfl⟩

/-- Is the trace kept. -/
def kp (t s : Int) (e : Nat) : Bool := decide ((hs t + s) % 1024 < 2 ^ (10 - e))
theorem pow_wrap (k : Nat) (h : k ≤ 10) : wrap64 (2 ^ k) = 2 ^ k := by
  have hk : k = 0 ∨ k = 1 ∨ k = 2 ∨ k = 3 ∨ k = 4 ∨ k = 5 ∨ k = 6 ∨ k = 7 ∨ k = 8 ∨ k = 9 ∨ k = 10 := by omega
  rcases hk with rfl | rfl | rfl | rfl | rfl | rfl | rfl | rfl | rfl | rfl | rfl <;> simp [wrap64]
theorem ret_bool' {a b : Bool} (h : a = b) : Ending.returned (.bool a) = .returned (.bool b) := by rw [h]

theorem hash_q (t : Int) (w : World) : Calls Tryz.prog 51 #[.int .i64 t] w fun e w' => e = .returned (.int .i64 (hs t)) ∧ ∃ n, w' = w.drewN n :=
  (hash_any t w).mono fun e w' ⟨h1, h2⟩ => ⟨h1, 0, by subst h2; rfl⟩
theorem mix_q (t : Int) (w : World) : Calls Tryz.prog 60 #[.int .i64 0, .int .i64 t] w fun e w' => e = .returned (.int .i64 (hs t)) ∧ ∃ n, w' = w.drewN n :=
  (mix_any t w).mono fun e w' ⟨h1, h2⟩ => ⟨h1, 0, by subst h2; rfl⟩
theorem keep_any (t s : Int) (e : Nat) (h0 : 0 ≤ s) (h1 : s < 1024) (he : e ≤ 10) (w : World) :
    Calls Tryz.prog 29 #[.int .i64 t, .int .i64 s, .int .i64 e] w fun x w' => x = .returned (.bool (kp t s e)) ∧ ∃ n, w' = w.drewN n := by
  obtain ⟨g0, g1⟩ := hs_lt t
  go_enter Tryz.func29, Tryz.ntmps29
  go_wp2_with fail
  go_quiet (first | (go_at_call 51; refine Calls.quiet_of (hash_q _ _)))
  go_wp2_with fail
  go_ret
  exact ⟨ret_bool' (by rw [pow_wrap _ (by omega)]; rfl), nq, rfl⟩
theorem kept_any (t s : Int) (e : Nat) (h0 : 0 ≤ s) (h1 : s < 1024) (he : e ≤ 10) (w : World) :
    Calls Tryz.prog 34 #[.int .i64 t, .int .i64 s, .int .i64 e] w fun x w' => x = .returned (.bool (kp t s e)) ∧ ∃ n, w' = w.drewN n := by
  obtain ⟨g0, g1⟩ := hs_lt t
  have hmod : (hs t % 1024 + s) % 1024 = (hs t + s) % 1024 := by omega
  go_enter Tryz.func34, Tryz.ntmps34
  go_wp2_with fail
  go_quiet (first | (go_at_call 60; refine Calls.quiet_of (mix_q _ _)))
  go_wp2_with fail
  go_ret
  exact ⟨ret_bool' (by rw [pow_wrap _ (by omega)]; unfold kp; rw [← hmod]), nq, rfl⟩

end Go.Proofs.YtnddlpfmagdbfaaGreatDoor
/- Contract: the number of zeros at the end of a power of two. -/
namespace Go.Proofs.YtnddlpfmagdbfaaGreatDoor
open Go Go.Proofs Go.RowKit
set_option linter.unusedVariables false
set_option linter.unusedSimpArgs false
/-- The table of the numbers of zeros lies there. -/
def tabV : Array Value := #[.int .u8 0, .int .u8 1, .int .u8 56, .int .u8 2, .int .u8 57, .int .u8 49, .int .u8 28, .int .u8 3, .int .u8 61, .int .u8 58, .int .u8 42, .int .u8 50, .int .u8 38, .int .u8 29, .int .u8 17, .int .u8 4, .int .u8 62, .int .u8 47, .int .u8 59, .int .u8 36, .int .u8 45, .int .u8 43, .int .u8 51, .int .u8 22, .int .u8 53, .int .u8 39, .int .u8 33, .int .u8 30, .int .u8 24, .int .u8 18, .int .u8 12, .int .u8 5, .int .u8 63, .int .u8 55, .int .u8 48, .int .u8 27, .int .u8 60, .int .u8 41, .int .u8 37, .int .u8 16, .int .u8 46, .int .u8 35, .int .u8 44, .int .u8 21, .int .u8 52, .int .u8 32, .int .u8 23, .int .u8 11, .int .u8 54, .int .u8 26, .int .u8 40, .int .u8 15, .int .u8 34, .int .u8 20, .int .u8 31, .int .u8 10, .int .u8 25, .int .u8 14, .int .u8 19, .int .u8 9, .int .u8 13, .int .u8 8, .int .u8 7, .int .u8 6]
def TabAt (W : World) : Prop := ∃ ty, W.heap[1]? = some (.cells tabV ty (0, 0))
theorem TabAt.below {W W' : World} (h : TabAt W) (k : Below W.heap.size W W') : TabAt W' := let ⟨ty, h⟩ := h; ⟨ty, blk_keep k h⟩
theorem tz_at (n e i : Nat) (v : Nat) (w : World) (hn : 0 < n) (hn2 : n < 18446744073709551616) (hc : w.cell? ⟨1, i, none⟩ = some (.int .u8 v)) (hv : v < 64)
    (h1 : Go.bits .and .u64 (n : Int) (IntKind.u64.wrap (-(n : Int))) = n) (h2 : IntKind.u64.wrap ((n : Int) * 285870213051353865) / 288230376151711744 = (i : Int)) (hi : i < 64) :
    Calls Tryz.prog 50 #[.int .u64 n] w fun x w' => x = .returned (.int .i64 v) ∧ w' = w := by
  have h0 : ((n : Int) == 0) = false := by rw [beq_eq_false_iff_ne]; omega
  go_enter Tryz.func50, Tryz.ntmps50
  go_wp2
  go_ret
  exact ⟨rfl, rfl⟩
theorem tz64_any (e : Nat) (he : e ≤ 10) (w : World) (hT : TabAt w) : Calls Tryz.prog 50 #[.int .u64 ((2 ^ e : Nat) : Int)] w fun x w' => x = .returned (.int .i64 e) ∧ w' = w := by
  obtain ⟨ty, h⟩ := hT
  have hk : e = 0 ∨ e = 1 ∨ e = 2 ∨ e = 3 ∨ e = 4 ∨ e = 5 ∨ e = 6 ∨ e = 7 ∨ e = 8 ∨ e = 9 ∨ e = 10 := by omega
  rcases hk with rfl | rfl | rfl | rfl | rfl | rfl | rfl | rfl | rfl | rfl | rfl
  · exact tz_at 1 0 0 0 w (by decide) (by decide) (cell_blk h 0 rfl) (by decide) (by decide +kernel) (by decide +kernel) (by decide)
  · exact tz_at 2 1 1 1 w (by decide) (by decide) (cell_blk h 1 rfl) (by decide) (by decide +kernel) (by decide +kernel) (by decide)
  · exact tz_at 4 2 3 2 w (by decide) (by decide) (cell_blk h 3 rfl) (by decide) (by decide +kernel) (by decide +kernel) (by decide)
  · exact tz_at 8 3 7 3 w (by decide) (by decide) (cell_blk h 7 rfl) (by decide) (by decide +kernel) (by decide +kernel) (by decide)
  · exact tz_at 16 4 15 4 w (by decide) (by decide) (cell_blk h 15 rfl) (by decide) (by decide +kernel) (by decide +kernel) (by decide)
  · exact tz_at 32 5 31 5 w (by decide) (by decide) (cell_blk h 31 rfl) (by decide) (by decide +kernel) (by decide +kernel) (by decide)
  · exact tz_at 64 6 63 6 w (by decide) (by decide) (cell_blk h 63 rfl) (by decide) (by decide +kernel) (by decide +kernel) (by decide)
  · exact tz_at 128 7 62 7 w (by decide) (by decide) (cell_blk h 62 rfl) (by decide) (by decide +kernel) (by decide +kernel) (by decide)
  · exact tz_at 256 8 61 8 w (by decide) (by decide) (cell_blk h 61 rfl) (by decide) (by decide +kernel) (by decide +kernel) (by decide)
  · exact tz_at 512 9 59 9 w (by decide) (by decide) (cell_blk h 59 rfl) (by decide) (by decide +kernel) (by decide +kernel) (by decide)
  · exact tz_at 1024 10 55 10 w (by decide) (by decide) (cell_blk h 55 rfl) (by decide) (by decide +kernel) (by decide +kernel) (by decide)
theorem tz_any (e : Nat) (he : e ≤ 10) (w : World) (hT : TabAt w) : Calls Tryz.prog 28 #[.int .u64 ((2 ^ e : Nat) : Int)] w fun x w' => x = .returned (.int .i64 e) ∧ w' = w := by
  have hc := Lib.hid (tz64_any e he w hT)
  clear hT
  generalize ((2 ^ e : Nat) : Int) = n at *
  go_enter Tryz.func28, Tryz.ntmps28
  go_wp2_with (first
    | (go_at_call 50; (with_reducible refine hc.out.mono ?_); rintro e w' ⟨rfl, rfl⟩))
  go_ret
  exact ⟨rfl, rfl⟩
end Go.Proofs.YtnddlpfmagdbfaaGreatDoor
/- A weight that is in order is a power of two. -/
namespace Go.Proofs.YtnddlpfmagdbfaaGreatDoor
open Go Go.Proofs Go.RowKit
theorem pow_key : ∀ n : Nat, n < 1025 → 1 ≤ n → Go.bits .and .i64 (n : Int) ((n : Int) - 1) = 0 → n ∈ [1, 2, 4, 8, 16, 32, 64, 128, 256, 512, 1024] := by decide +kernel
theorem pow_of_ok (w : Int) (h1 : 1 ≤ w) (h2 : w ≤ 1024) (h : Go.bits .and .i64 w (w - 1) = 0) : ∃ e : Nat, e ≤ 10 ∧ w = ((2 ^ e : Nat) : Int) := by
  obtain ⟨n, rfl⟩ : ∃ n : Nat, w = n := ⟨w.toNat, by omega⟩
  have hm := pow_key n (by omega) (by omega) h
  simp only [List.mem_cons, List.not_mem_nil, or_false] at hm
  rcases hm with rfl | rfl | rfl | rfl | rfl | rfl | rfl | rfl | rfl | rfl | rfl
  · exact ⟨0, by decide, by decide⟩
  · exact ⟨1, by decide, by decide⟩
  · exact ⟨2, by decide, by decide⟩
  · exact ⟨3, by decide, by decide⟩
  · exact ⟨4, by decide, by decide⟩
  · exact ⟨5, by decide, by decide⟩
  · exact ⟨6, by decide, by decide⟩
  · exact ⟨7, by decide, by decide⟩
  · exact ⟨8, by decide, by decide⟩
  · exact ⟨9, by decide, by decide⟩
  · exact ⟨10, by decide, by decide⟩
theorem ok_of_pow (e : Nat) (he : e ≤ 10) : 1 ≤ ((2 ^ e : Nat) : Int) ∧ ((2 ^ e : Nat) : Int) ≤ 1024 ∧ Go.bits .and .i64 ((2 ^ e : Nat) : Int) (((2 ^ e : Nat) : Int) - 1) = 0 := by
  have hk : e = 0 ∨ e = 1 ∨ e = 2 ∨ e = 3 ∨ e = 4 ∨ e = 5 ∨ e = 6 ∨ e = 7 ∨ e = 8 ∨ e = 9 ∨ e = 10 := by omega
  rcases hk with rfl | rfl | rfl | rfl | rfl | rfl | rfl | rfl | rfl | rfl | rfl <;> decide +kernel
end Go.Proofs.YtnddlpfmagdbfaaGreatDoor
/- Rows of traces. -/
namespace Go.Proofs.YtnddlpfmagdbfaaGreatDoor
open Go Go.Proofs Go.RowKit
set_option linter.unusedVariables false
set_option linter.unusedSimpArgs false
/-- A block that a trace's spans lie in. -/
def TraceD.Uses (t : TraceD) (b : Nat) : Prop := (∃ q, t.A = some q ∧ q.block = b) ∨ ∃ x ∈ t.spans, (∃ q, x.aA = some q ∧ q.block = b) ∨ ∃ q, x.lA = some q ∧ q.block = b
theorem SpansIn.same {W W' : World} {A : Option Addr} {L : List SpanD} (h : SpansIn W A L) (k : ∀ q, A = some q → W'.heap[q.block]? = W.heap[q.block]?) : SpansIn W' A L := fun j hj => by
  obtain ⟨b, o, h1, h2⟩ := h j hj
  have hk : W'.heap[b]? = W.heap[b]? := k _ h1
  exact ⟨b, o, h1, fun i v hv => (World.cell?_of_block (a := ⟨b, o + j * 14 + i, none⟩) hk).trans (h2 i v hv)⟩
theorem TraceD.Lies.same {W W' : World} {t : TraceD} (h : t.Lies W) (k : ∀ b, t.Uses b → W'.heap[b]? = W.heap[b]?) : t.Lies W' :=
  ⟨h.len, h.at_.same fun q hq => k _ (.inl ⟨q, hq, rfl⟩), fun x hx => ⟨(h.held x hx).attrs.same fun q hq => k _ (.inr ⟨x, hx, .inl ⟨q, hq, rfl⟩⟩), (h.held x hx).links.same fun q hq => k _ (.inr ⟨x, hx, .inr ⟨q, hq, rfl⟩⟩), (h.held x hx).na, (h.held x hx).nl⟩, h.sound, h.txt⟩
/-- A trace's cells and what they point to lie from an address on. -/
def TracesIn (W : World) (A : Option Addr) (L : List TraceD) : Prop := ∀ j (h : j < L.length), ∃ b o, A = some ⟨b, o, none⟩ ∧ W.rangeAt b (o + j * 3) L[j].cells
theorem cellsT_len (t : TraceD) : t.cells.length = 3 := rfl
theorem TracesIn.below {W W' : World} {A : Option Addr} {L : List TraceD} (h : TracesIn W A L) (k : Below W.heap.size W W') : TracesIn W' A L := fun j hj =>
  let ⟨b, o, h1, h2⟩ := h j hj
  ⟨b, o, h1, rangeAt_below h2 (rangeAt_lt h2 (by rw [cellsT_len]; omega)) k⟩
def cellsT (L : List TraceD) : List Value := L.flatMap TraceD.cells
theorem cellsT_length (L : List TraceD) : (cellsT L).length = L.length * 3 := by
  induction L with
  | nil => rfl
  | cons x L ih => simp only [cellsT, List.flatMap_cons, List.length_append, cellsT_len, List.length_cons] at ih ⊢; omega
theorem cellsT_get {L : List TraceD} {j i : Nat} (hj : j < L.length) (hi : i < 3) : (cellsT L)[j * 3 + i]? = L[j].cells[i]? := by
  induction L generalizing j with
  | nil => simp at hj
  | cons x L ih =>
    cases j with
    | zero =>
      simp only [cellsT, List.flatMap_cons, Nat.zero_mul, Nat.zero_add, List.getElem_cons_zero]
      rw [List.getElem?_append_left (by rw [cellsT_len]; exact hi)]
    | succ j =>
      simp only [List.getElem_cons_succ]
      rw [← ih (by simpa using hj)]
      simp only [cellsT, List.flatMap_cons]
      rw [List.getElem?_append_right (by rw [cellsT_len]; omega), cellsT_len]
      congr 1
      omega
theorem cellsT_one (t : TraceD) : ∀ v ∈ t.cells, v.oneCell' = true := by
  intro v hv
  unfold TraceD.cells at hv
  simp only [List.mem_cons, List.not_mem_nil, or_false] at hv
  rcases hv with h | h | h <;> subst h <;> rfl
/-- A trace that has been made since a block, apart from another one. -/
structure TraceD.Own (lo : Nat) (W : World) (t : TraceD) : Prop where
  lies : t.Lies W
  uses : ∀ b, t.Uses b → lo ≤ b ∧ b < W.heap.size
theorem TraceD.Own.below {lo : Nat} {W W' : World} {t : TraceD} (h : t.Own lo W) (k : Below W.heap.size W W') : t.Own lo W' := ⟨h.lies.below k, fun b hb => ⟨(h.uses b hb).1, Nat.lt_of_lt_of_le (h.uses b hb).2 k.size⟩⟩
theorem TraceD.Own.mono {lo lo' : Nat} {W : World} {t : TraceD} (h : t.Own lo W) (k : lo' ≤ lo) : t.Own lo' W := ⟨h.lies, fun b hb => ⟨Nat.le_trans k (h.uses b hb).1, (h.uses b hb).2⟩⟩
theorem TraceD.Own.grown {lo : Nat} {W W' : World} {t : TraceD} {row : Option Nat} (h : t.Own lo W) (k : W.grownBy W' row) (hr : ∀ b, t.Uses b → some b ≠ row) : t.Own lo W' :=
  ⟨h.lies.same fun b hb => k.block _ (h.uses b hb).2 (hr b hb), fun b hb => ⟨(h.uses b hb).1, Nat.lt_of_lt_of_le (h.uses b hb).2 k.size⟩⟩
/-- A trace without addresses. -/
def TraceD.bare (t : TraceD) : Int × Int × List SpanD := (t.id, t.weight, t.spans.map SpanD.bare)
/-- Two rows of traces that have been made since a block. -/
structure Two (lo : Nat) (W : World) (v u : Value) (M N : List TraceD) : Prop where
  r : W.ownsRow lo 27 3 v M.length (cellsT M)
  s : W.ownsRow lo 27 3 u N.length (cellsT N)
  ne : v.ownBlock = none ∨ v.ownBlock ≠ u.ownBlock
  m : ∀ t ∈ M, t.Own lo W ∧ ∀ b, t.Uses b → some b ≠ v.ownBlock ∧ some b ≠ u.ownBlock
  n : ∀ t ∈ N, t.Own lo W ∧ ∀ b, t.Uses b → some b ≠ v.ownBlock ∧ some b ≠ u.ownBlock
theorem own_ne_comm {v u : Value} (h : v.ownBlock = none ∨ v.ownBlock ≠ u.ownBlock) : u.ownBlock = none ∨ u.ownBlock ≠ v.ownBlock := by
  cases hu : u.ownBlock with
  | none => exact .inl rfl
  | some g => exact .inr fun e => h.elim (fun h => by rw [h] at e; cases e) fun h => h (by rw [hu]; exact e.symm)
theorem Two.swap {lo : Nat} {W : World} {v u : Value} {M N : List TraceD} (h : Two lo W v u M N) : Two lo W u v N M :=
  ⟨h.s, h.r, own_ne_comm h.ne, fun t ht => ⟨(h.n t ht).1, fun b hb => ⟨((h.n t ht).2 b hb).2, ((h.n t ht).2 b hb).1⟩⟩, fun t ht => ⟨(h.m t ht).1, fun b hb => ⟨((h.m t ht).2 b hb).2, ((h.m t ht).2 b hb).1⟩⟩⟩
theorem Two.mono {lo lo' : Nat} {W : World} {v u : Value} {M N : List TraceD} (h : Two lo W v u M N) (k : lo' ≤ lo) : Two lo' W v u M N :=
  ⟨row_mono h.r k, row_mono h.s k, h.ne, fun t ht => ⟨(h.m t ht).1.mono k, (h.m t ht).2⟩, fun t ht => ⟨(h.n t ht).1.mono k, (h.n t ht).2⟩⟩
theorem Two.nil (lo : Nat) (W : World) : Two lo W (.slice none 0 0) (.slice none 0 0) [] [] := ⟨World.ownsRow_nil _ _ _ _, World.ownsRow_nil _ _ _ _, .inl rfl, by simp, by simp⟩
theorem Two.below {lo : Nat} {W W' : World} {v u : Value} {M N : List TraceD} (h : Two lo W v u M N) (k : Below W.heap.size W W') : Two lo W' v u M N :=
  ⟨row_keep h.r k, row_keep h.s k, h.ne, fun t ht => ⟨(h.m t ht).1.below k, (h.m t ht).2⟩, fun t ht => ⟨(h.n t ht).1.below k, (h.n t ht).2⟩⟩
/-- The first row with one more. -/
theorem Two.snoc {lo : Nat} {W W1 W2 : World} {v u v' : Value} {M N : List TraceD} {y : TraceD} (h : Two lo W v u M N) (hlo : lo ≤ W.heap.size) (hb : Below W.heap.size W W1) (hy : y.Own W.heap.size W1) (hr : W2.ownsRow lo 27 3 v' (M.length + 1) (cellsT M ++ y.cells)) (hg : W1.grownBy W2 v.ownBlock) (hat : v'.ownBlock = v.ownBlock ∨ v'.ownBlock = some W1.heap.size) :
    Two lo W2 v' u (M ++ [y]) N := by
  have hv : ∀ b, v.ownBlock = some b → b < W.heap.size := fun b hb' => (h.r.lt b hb').2
  have hu : ∀ b, u.ownBlock = some b → b < W.heap.size := fun b hb' => (h.s.lt b hb').2
  have hsz := hb.size
  have hyv : ∀ b, y.Uses b → some b ≠ v.ownBlock ∧ some b ≠ u.ownBlock := fun b hb' => by
    have h1 := (hy.uses b hb').1
    exact ⟨fun e => by have := hv _ e.symm; omega, fun e => by have := hu _ e.symm; omega⟩
  have hnew : ∀ t : TraceD, t.Own lo W1 → (∀ b, t.Uses b → some b ≠ v.ownBlock ∧ some b ≠ u.ownBlock) → t.Own lo W2 ∧ ∀ b, t.Uses b → some b ≠ v'.ownBlock ∧ some b ≠ u.ownBlock := fun t h1 h2 => by
    refine ⟨h1.grown hg fun b hb' => (h2 b hb').1, fun b hb' => ⟨?_, (h2 b hb').2⟩⟩
    rcases hat with e | e
    · rw [e]; exact (h2 b hb').1
    · rw [e]
      intro e
      have := Option.some.inj e
      have := (h1.uses b hb').2
      omega
  refine ⟨by rw [List.length_append, List.length_singleton, show cellsT (M ++ [y]) = cellsT M ++ y.cells by simp [cellsT]]; exact hr, ?_, ?_, fun t ht => ?_, fun t ht => ?_⟩
  · exact row_same (row_keep h.s hb) (fun g hg' => hg.block g (by have := hu g hg'; omega) (fun e => by rcases h.ne with h0 | h0
                                                                                                        · rw [h0] at e; cases e
                                                                                                        · exact h0 (e.symm.trans hg'.symm)))
  · rcases hat with e | e
    · rw [e]; exact h.ne
    · right
      rw [e]
      intro e
      have := hu _ e.symm
      omega
  · rcases List.mem_append.1 ht with ht | ht
    · exact hnew t ((h.m t ht).1.below hb) (h.m t ht).2
    · obtain rfl := List.mem_singleton.1 ht
      exact hnew t (hy.mono hlo) hyv
  · exact hnew t ((h.n t ht).1.below hb) (h.n t ht).2
theorem Two.slice {lo : Nat} {W : World} {v u : Value} {M N : List TraceD} (h : Two lo W v u M N) : ∃ A c, v = .slice A M.length c ∧ TracesIn W A M ∧ (∀ t ∈ M, t.Lies W) ∧ (∀ p, A = some p → p.spot = none) := by
  rcases h.r.2 with ⟨h0, h1⟩ | ⟨g, cap, cur, hv, hb, hg, h1, h2, h3, h4⟩
  · have : M = [] := List.length_eq_zero_iff.1 h1
    subst this
    exact ⟨none, 0, h0, fun j hj => absurd hj (Nat.not_lt_zero _), fun t ht => absurd ht List.not_mem_nil, by simp⟩
  · refine ⟨_, cap, hv, fun j hj => ⟨g, 0, rfl, fun i u hu => ?_⟩, fun t ht => (h.m t ht).1.lies, fun p hp => by cases hp; rfl⟩
    have hi : i < 3 := by
      have := (List.getElem?_eq_some_iff.1 hu).1
      rwa [cellsT_len] at this
    have h5 : (cellsT M)[j * 3 + i]? = some u := (cellsT_get hj hi).trans hu
    rw [← h4, List.getElem?_take_of_lt (by omega)] at h5
    refine cell_blk hg (0 + j * 3 + i) ?_
    rw [Nat.zero_add, ← Array.getElem?_toList]
    exact h5
/-- What copied gives is a trace of its own. -/
theorem copied_own {lo : Nat} {W : World} {id wt : Int} {A : Option Addr} {c : Nat} {M L : List SpanD} (hM : M.map SpanD.bare = L.map SpanD.bare) (hI : SpansIn W A M) (hO : ∀ x ∈ M, x.Owned lo W) (hA : ∀ q, A = some q → q.spot = none ∧ lo ≤ q.block ∧ q.block < W.heap.size) (hl : M.length ≤ 100000) (hT : ∀ x ∈ L, x.Txt) :
    (TraceD.mk id wt A c M).Own lo W := by
  refine ⟨⟨hl, hI, fun x hx => (hO x hx).held, fun x hx => (hO x hx).sound, fun x hx => ?_⟩, fun b hb => ?_⟩
  · have h1 : x.bare ∈ L.map SpanD.bare := hM ▸ List.mem_map_of_mem hx
    obtain ⟨y, hy, e⟩ := List.mem_map.1 h1
    have h2 := hT y hy
    have e' : ∀ z : SpanD, z.bare.Txt ↔ z.Txt := fun z => ⟨fun h => ⟨h.svc, h.ver, h.op, h.attrs⟩, fun h => ⟨h.svc, h.ver, h.op, h.attrs⟩⟩
    exact (e' x).1 (e ▸ (e' y).2 h2)
  · rcases hb with ⟨q, hq, rfl⟩ | ⟨x, hx, ⟨q, hq, rfl⟩ | ⟨q, hq, rfl⟩⟩
    · exact (hA q hq).2
    · exact (hO x hx).a q hq
    · exact (hO x hx).l q hq
end Go.Proofs.YtnddlpfmagdbfaaGreatDoor
/- A region that draws its order, by one relation over what has come up; blocks that are known whole. -/
namespace Go.Proofs.YtnddlpfmagdbfaaGreatDoor
open Go Go.Proofs Go.RowKit
set_option linter.unusedVariables false
set_option linter.unusedSimpArgs false
/-- Has the operation come up? -/
def Listed (l : Array Bool) (k : Nat) : Prop := l.getD k false = true

theorem Listed.set {l : Array Bool} {i : Nat} (hi : i < l.size) : Listed (l.setIfInBounds i true) = fun k => Listed l k ∨ k = i := by
  funext k
  unfold Listed
  apply propext
  by_cases hk : i = k
  · subst hk
    simp [hi]
  · rw [getD_set_ne false hk]
    constructor
    · exact .inl
    · rintro (h | h)
      · exact h
      · exact absurd h.symm hk

theorem getD_tf {l : Array Bool} {i : Nat} (hi : i < l.size) : l.getD i true = l.getD i false := by
  simp [hi]

theorem count_set {l : Array Bool} {i : Nat} (hi : i < l.size) (hf : l.getD i false = false) : (l.setIfInBounds i true).toList.count false + 1 = l.toList.count false := by
  have hl : i < l.toList.length := by simpa using hi
  have hv : l.toList[i] = false := by
    rw [Array.getElem_toList]
    simpa [hi] using hf
  rw [Array.toList_setIfInBounds, List.count_set hl, hv]
  have : 0 < l.toList.count false := List.count_pos_iff.2 (by rw [← hv]; exact List.getElem_mem hl)
  have e1 : (if (false == false) = true then 1 else 0) = 1 := rfl
  have e2 : (if (true == false) = true then 1 else 0) = 0 := rfl
  rw [e1, e2]
  omega
/-- A region of which some operations have come up: whatever comes up next, the relation stays; at the end it gives what follows. -/
theorem wpAnyH_inv {P : Program} {md : Region.Mode} {ops : Array Oper} {Q : Exit → Act → World → Prop} {S : World → Prop} (I : (Nat → Prop) → Act → World → Prop)
    (hlex : ∀ i o, ops[i]? = some o → ∀ e ∈ o.after, Region.binds md e = true → e.on < i) (hS : ∀ L a w, I L a w → S w)
    (hstep : ∀ L a w i o, I L a w → ops[i]? = some o → ¬ L i → (∀ e ∈ o.after, Region.binds md e = true → L e.on) → wpOp P ops Q i (fun a' w' => I (fun j => L j ∨ j = i) a' w') a w)
    (hend : ∀ L a w, I L a w → (∀ i, i < ops.size → L i) → Q .normal a w) :
    ∀ (fuel : Nat) (l : Array Bool) (a : Act) (w : World), l.size = ops.size → l.toList.count false ≤ fuel → I (Listed l) a w → wpAnyH P md ops Q S fuel l a w := by
  have hall : ∀ (l : Array Bool), l.size = ops.size → Region.ready md ops l = [] → ∀ i, i < ops.size → Listed l i := by
    intro l hl hr i
    induction i using Nat.strongRecOn with
    | _ i ih =>
      intro hi
      by_cases h : Listed l i
      · exact h
      · exfalso
        have hm : i ∈ Region.ready md ops l := mem_ready.2 ⟨by rw [getD_tf (by omega)]; unfold Listed at h; simpa using h, ops[i], by simp [hi], fun e he hb => ih e.on (hlex i ops[i] (by simp [hi]) e he hb) (by have := hlex i ops[i] (by simp [hi]) e he hb; omega)⟩
        rw [hr] at hm
        cases hm
  intro fuel
  induction fuel with
  | zero =>
    intro l a w hl hc hI
    have hr : Region.ready md ops l = [] := by
      apply List.eq_nil_iff_forall_not_mem.2
      intro i hi
      obtain ⟨h1, o, ho, _⟩ := mem_ready.1 hi
      have hil : i < l.size := by
        have := (Array.getElem?_eq_some_iff.1 ho).1
        omega
      have := count_set hil (by rw [← getD_tf hil]; exact h1)
      omega
    exact ⟨hr, hend _ _ _ hI (hall l hl hr)⟩
  | succ fuel ih =>
    intro l a w hl hc hI
    refine ⟨fun hr => hend _ _ _ hI (hall l hl hr), fun i hi => ?_⟩
    obtain ⟨h1, o, ho, h2⟩ := mem_ready.1 hi
    have hil : i < l.size := by
      have := (Array.getElem?_eq_some_iff.1 ho).1
      omega
    have h3 : l.getD i false = false := by rw [← getD_tf hil]; exact h1
    have hcs := count_set hil h3
    refine wpOp_mono (fun a' w' hI' => ?_) (hstep (Listed l) a w i o hI ho (by unfold Listed; rw [h3]; simp) h2)
    rw [← Listed.set hil] at hI'
    exact ⟨hS _ _ _ hI', ih _ a' w' (by simpa using hl) (by omega) hI'⟩
/-- Each operation waits for elder ones alone. -/
def lexAfter (md : Region.Mode) (ops : Array Oper) : Bool := (List.range ops.size).all fun i => ((ops[i]?).map fun o : Oper => o.after.all fun e => !Region.binds md e || Nat.blt e.on i).getD true
theorem lexAfter_spec {md : Region.Mode} {ops : Array Oper} (h : lexAfter md ops = true) : ∀ i o, ops[i]? = some o → ∀ e ∈ o.after, Region.binds md e = true → e.on < i := by
  intro i o ho e he hb
  have hi : i < ops.size := (Array.getElem?_eq_some_iff.1 ho).1
  have h1 := List.all_eq_true.1 h i (List.mem_range.2 hi)
  rw [ho, Option.map_some, Option.getD_some, Array.all_eq_true_iff_forall_mem] at h1
  have h2 := h1 e he
  rw [hb] at h2
  simpa using h2
/-- The same, where R is what has not come up yet; the relation is told the state at the beginning. -/
theorem wpAnyH_rest {P : Program} {md : Region.Mode} {ops : Array Oper} {Q : Exit → Act → World → Prop} {S : World → Prop} {l0 : Array Bool} {a0 : Act} {w0 : World} {fuel : Nat} (R : List Nat) (I : Act → (Nat → Prop) → Act → World → Prop)
    (hlex : lexAfter md ops = true) (hsz : l0.size = ops.size) (hf : Nat.ble (l0.toList.count false) fuel = true) (hR : ((List.range ops.size).all fun i => l0.getD i false || R.contains i) = true) (hR2 : (R.all fun i => Nat.blt i ops.size && !l0.getD i false) = true)
    (h0 : ∀ L : Nat → Prop, (∀ i ∈ R, ¬ L i) → I a0 L a0 w0) (hS : ∀ L a w, I a0 L a w → S w)
    (hstep : ∀ i ∈ R, ∀ L a w o, I a0 L a w → ops[i]? = some o → ¬ L i → (∀ e ∈ o.after, Region.binds md e = true → e.on ∈ R → L e.on) → wpOp P ops Q i (fun a' w' => I a0 (fun j => L j ∨ j = i) a' w') a w)
    (hend : ∀ L a w, I a0 L a w → (∀ i ∈ R, L i) → Q .normal a w) : wpAnyH P md ops Q S fuel l0 a0 w0 := by
  have hin : ∀ i, i < ops.size → l0.getD i false = true ∨ i ∈ R := fun i hi => by
    have := List.all_eq_true.1 hR i (List.mem_range.2 hi)
    simpa using this
  refine wpAnyH_inv (fun L a w => (∀ i, i < ops.size → l0.getD i false = true → L i) ∧ I a0 L a w) (lexAfter_spec hlex) (fun L a w h => hS L a w h.2)
    (fun L a w i o h ho hn hd => ?_) (fun L a w h ha => hend L a w h.2 fun i hi => ha i ?_) fuel l0 a0 w0 hsz (by simpa using hf) ⟨fun i _ hi => hi, h0 _ fun i hi hl => ?_⟩
  · have hi : i < ops.size := (Array.getElem?_eq_some_iff.1 ho).1
    have hiR : i ∈ R := (hin i hi).resolve_left fun h1 => hn (h.1 i hi h1)
    exact wpOp_mono (fun a' w' h' => ⟨fun j hj h1 => .inl (h.1 j hj h1), h'⟩) (hstep i hiR L a w o h.2 ho hn fun e he hb _ => hd e he hb)
  · have := List.all_eq_true.1 hR2 i hi
    rw [Bool.and_eq_true] at this
    exact Nat.blt_eq.mp this.1
  · have := List.all_eq_true.1 hR2 i hi
    rw [Bool.and_eq_true] at this
    unfold Listed at hl
    rw [hl] at this
    simp at this
theorem heap_alloc_old {W : World} {g : Nat} {o o' : Obj} (h : W.heap[g]? = some o) : (W.alloc o').heap[g]? = some o := by
  have hl : g < W.heap.size := by
    rcases Nat.lt_or_ge g W.heap.size with hl | hl
    · exact hl
    · rw [Array.getElem?_eq_none hl] at h; cases h
  exact ((below_alloc W o').block g hl).trans h
/-- The operation of a number, so that it comes out as it is written. -/
def nthOp : Nat → List Oper → Option Oper
  | _, [] => none
  | 0, o :: _ => some o
  | n + 1, _ :: l => nthOp n l
theorem nthOp_eq : ∀ (i : Nat) (l : List Oper), nthOp i l = l[i]?
  | _, [] => by simp [nthOp]
  | 0, o :: l => by simp [nthOp]
  | n + 1, o :: l => by simp [nthOp, nthOp_eq n l]
theorem nth_at {i : Nat} {ops : Array Oper} {o : Oper} (h : nthOp i ops.toList = some o) : ops[i]? = some o := by rw [nthOp_eq] at h; simpa using h
theorem nth_of {i : Nat} {ops : Array Oper} {o : Oper} (h : ops[i]? = some o) : nthOp i ops.toList = some o := by rw [nthOp_eq]; simpa using h
theorem take_at {P : Program} {ops : Array Oper} {Q : Exit → Act → World → Prop} {md : Region.Mode} {S : World → Prop} {i : Nat} {oi : Oper} {v : Value} {fuel : Nat} {listed : Array Bool} {a : Act} {w : World} (hi : nthOp i ops.toList = some oi)
    (hs : Region.noSelect ops = true) (hf : Region.free md ops listed i = true) (hr : (Region.ready md ops listed).contains i = true)
    (hQ : ∀ c a w, Q (.panic c) (a.put oi.dst v) w → Q (.panic c) a w) (hy : YieldsIf P ops S oi v a) (hS : S w)
    (h : wpAnyH P md ops Q S fuel (listed.setIfInBounds i true) (a.put oi.dst v) w) : wpAnyH P md ops Q S (fuel + 1) listed a w := wpAnyH_take (nth_at hi) hs hf hr hQ hy hS h
/-- One operation alone may come up. -/
theorem wpAnyH_one {P : Program} {ops : Array Oper} {Q : Exit → Act → World → Prop} {md : Region.Mode} {S : World → Prop} (i : Nat) {o : Oper} {fuel : Nat} {listed : Array Bool} {a : Act} {w : World} (hr : Region.ready md ops listed = [i]) (ho : nthOp i ops.toList = some o) (hw : Region.wanted o (yielded ops a.tmps) = true)
    (h : ∀ K : Act → World → Prop, (∀ a' w', S w' → wpAnyH P md ops Q S fuel (listed.setIfInBounds i true) a' w' → K a' w') → Oper.wp P o a w K Q) : wpAnyH P md ops Q S (fuel + 1) listed a w := by
  refine wpAnyH_all hr (by simp) fun j hj => ?_
  obtain rfl := List.mem_singleton.1 hj
  refine wpOp_step (nth_at ho) fun K hK => ?_
  rw [if_pos hw]
  exact h K fun a' w' h1 h2 => hK a' w' ⟨h1, h2⟩
def infoSz (sz : Nat) (r : Option TypeInfo) : Bool :=
  match r with
  | some i => (match i.zero with
    | some z => Nat.beq i.size sz && Nat.ble i.bytes 1000 && Nat.beq z.cells.size sz
    | none => false)
  | none => false
theorem infoSz_spec {sz : Nat} {r : Option TypeInfo} (h : infoSz sz r = true) : ∃ i z, r = some i ∧ i.zero = some z ∧ i.size = sz ∧ i.bytes ≤ 1000 ∧ z.cells.size = sz := by
  unfold infoSz at h
  split at h
  · rename_i i
    split at h
    · rename_i z hz
      rw [Bool.and_eq_true, Bool.and_eq_true] at h
      exact ⟨i, z, rfl, hz, Nat.eq_of_beq_eq_true h.1.1, Nat.le_of_ble_eq_true h.1.2, Nat.eq_of_beq_eq_true h.2⟩
    · cases h
  · cases h
end Go.Proofs.YtnddlpfmagdbfaaGreatDoor
/- append, of a slice that may be nil or empty. -/
namespace Go.Proofs.YtnddlpfmagdbfaaGreatDoor
open Go Go.Proofs Go.RowKit
set_option linter.unusedVariables false
set_option linter.unusedSimpArgs false
theorem run_append_nothing {P : Program} (w : World) (t ty base : Nat) (e : TypeId) (i : TypeInfo) (size : Nat) (ht : P.underlying t = some (.slice e)) (hi : P.info? e = some i)
    (v : Value) (n : Nat) (xs : List Value) (hown : w.ownsRow base e size v n xs) : (Builtin.append_ #[t, t] ty #[v, .slice none 0 0]).run P w = .ok v w := by
  rcases hown.2 with ⟨rfl, rfl⟩ | ⟨g, cap, cur, rfl, hbg, hg, hnc, hcm, hcs, htake⟩
  · simp [Builtin.append_, run_underlying ht, sizeOf, typeInfo, hi, Builtin.lenOf, Builtin.firstCells]
  · simp [Builtin.append_, run_underlying ht, sizeOf, typeInfo, hi, Builtin.lenOf, Builtin.firstCells, hnc, storeCells]
/-- At the operation: whatever is appended. -/
theorem wp_append_any {P : Program} {w : World} {o : Oper} {a : Act} {K : Act → World → Prop} {Q : Exit → Act → World → Prop} (s x : Operand) (t : TypeId)
    (ho : o.op = .call { callee := .builtin .append, args := #[s, x], argTypes := #[t, t] })
    (base : Nat) (e : TypeId) (i : TypeInfo) (z : Value) (size : Nat) (ht : P.underlying t = some (.slice e)) (hi : P.info? e = some i) (hz : i.zero = some z)
    (hsize : i.size = size) (hby : i.bytes ≤ 1000) (hzs : z.cells.size = size) (hsz : 0 < size)
    (v : Value) (n : Nat) (xs : List Value) (hs : a.eval s = v) (hown : w.ownsRow base e size v n xs)
    (ad : Option Addr) (m c : Nat) (news : List Value) (hx : a.eval x = .slice ad m c) (hl : news.length = m * size) (hnil : ad = none → m = 0 ∧ c = 0) (hnews : ∀ p, ad = some p → ∀ j u, news[j]? = some u → w.cell? (p.add j) = some u) (h1 : ∀ u ∈ news, u.oneCell' = true)
    (h63 : n + m ≤ 1000) (hbase : base ≤ w.heap.size)
    (h : ∀ v' w', w'.ownsRow base e size v' (n + m) (xs ++ news) → w.grownBy w' v.ownBlock → (v'.ownBlock = v.ownBlock ∨ v'.ownBlock = some w.heap.size) → K (a.put o.dst v') w') : o.wp P a w K Q := by
  cases ad with
  | none =>
    obtain ⟨rfl, rfl⟩ := hnil rfl
    have hn : news = [] := List.eq_nil_of_length_eq_zero (by simpa using hl)
    subst hn
    have hr := run_append_nothing (P := P) w t o.type base e i size ht hi v n xs hown
    have hk := h v w (by simpa using hown) (World.grownBy.refl _ _) (.inl rfl)
    unfold Oper.wp execOp
    simp only [ho, resolve, invoke, builtin, Sem.run_bind, Sem.run_pure, Result.andThen_ok, List.map_toArray, List.map_cons, List.map_nil, hs, hx, hr]
    exact hk
  | some p =>
    obtain ⟨v', w', hr, h2, h3, _, h5⟩ := run_append_own_at (P := P) w base t o.type e i z size i.bytes ht hi hz hsize rfl hzs hsz v n xs hown p m c news hl (hnews p rfl) h1 (by unfold maxLen; omega) (Nat.le_trans (Nat.mul_le_mul h63 hby) (by decide)) hbase
    unfold Oper.wp execOp
    simp only [ho, resolve, invoke, builtin, Sem.run_bind, Sem.run_pure, Result.andThen_ok, List.map_toArray, List.map_cons, List.map_nil, hs, hx, hr]
    exact h v' w' h2 h3 h5
end Go.Proofs.YtnddlpfmagdbfaaGreatDoor
/- Contract: sampling.Sample. -/
namespace Go.Proofs.YtnddlpfmagdbfaaGreatDoor
open Go Go.Proofs Go.RowKit
set_option linter.unusedVariables false
set_option linter.unusedSimpArgs false
theorem infoT : infoSz 3 (Tryz.prog.info? 27) = true := by kernel_rfl
theorem pow_wrapI (k : Nat) (h : k ≤ 10) : IntKind.i64.wrap (2 ^ k) = 2 ^ k := by
  have hk : k = 0 ∨ k = 1 ∨ k = 2 ∨ k = 3 ∨ k = 4 ∨ k = 5 ∨ k = 6 ∨ k = 7 ∨ k = 8 ∨ k = 9 ∨ k = 10 := by omega
  rcases hk with rfl | rfl | rfl | rfl | rfl | rfl | rfl | rfl | rfl | rfl | rfl <;> decide
theorem below_drewN0 (w : World) (n : Nat) : Below w.heap.size w (w.drewN n) := ⟨rfl, rfl, rfl, Nat.le_refl _, fun _ _ => rfl⟩
def tzX (w : Int) : Nat := w.toNat.log2
theorem tzX_pow (e : Nat) : tzX ((2 ^ e : Nat) : Int) = e := by unfold tzX; rw [Int.toNat_natCast, Nat.log2_two_pow]
/-- The exponent with which a trace is kept. -/
def expX (n : Nat) (p : PolD) (t : TraceD) : Nat := max (tzX t.weight) (givenX n p t).toNat
def keepB (n : Nat) (p : PolD) (s : Int) (t : TraceD) : Bool := kp t.id s (expX n p t)
def keptT (n : Nat) (p : PolD) (t : TraceD) : Int × Int × List SpanD := (t.id, 2 ^ expX n p t, t.spans.map SpanD.bare)
/-- The traces that are kept, and the others. -/
def keptX (n : Nat) (p : PolD) (s : Int) (L : List TraceD) : List (Int × Int × List SpanD) := (L.filter (keepB n p s)).map (keptT n p)
def goneX (n : Nat) (p : PolD) (s : Int) (L : List TraceD) : List (Int × Int × List SpanD) := (L.filter fun t => !keepB n p s t).map TraceD.bare
theorem keptX_take {n : Nat} {p : PolD} {s : Int} {L : List TraceD} {j : Nat} (h : j < L.length) : keptX n p s (L.take (j + 1)) = keptX n p s (L.take j) ++ (if keepB n p s L[j] = true then [keptT n p L[j]] else []) := by
  unfold keptX
  rw [take_succ_get h, List.filter_append, List.map_append]
  congr 1
  by_cases hk : keepB n p s L[j] = true
  · rw [List.filter_cons_of_pos hk, if_pos hk]; rfl
  · rw [List.filter_cons_of_neg hk, if_neg hk]; rfl
theorem goneX_take {n : Nat} {p : PolD} {s : Int} {L : List TraceD} {j : Nat} (h : j < L.length) : goneX n p s (L.take (j + 1)) = goneX n p s (L.take j) ++ (if keepB n p s L[j] = true then [] else [L[j].bare]) := by
  unfold goneX
  rw [take_succ_get h, List.filter_append, List.map_append]
  congr 1
  by_cases hk : keepB n p s L[j] = true
  · rw [List.filter_cons_of_neg (by simp [hk]), if_pos hk]; rfl
  · rw [List.filter_cons_of_pos (by simp [hk]), if_neg hk]; rfl
theorem firstX_mem (f : PredD → Bool) (d : Int) : ∀ L : List RuleD, firstX f d L = d ∨ ∃ q ∈ L, firstX f d L = q.e
  | [] => .inl rfl
  | q :: l => by
    unfold firstX
    split
    · exact .inr ⟨q, List.mem_cons_self, rfl⟩
    · rcases firstX_mem f d l with h | ⟨r, hr, h⟩
      · exact .inl h
      · exact .inr ⟨r, List.mem_cons_of_mem _ hr, h⟩
/-- A policy in order gives exponents from 0 to 10. -/
theorem givenX_range {n : Nat} {p : PolD} (h : polErr n p = 0) (t : TraceD) : 0 ≤ givenX n p t ∧ givenX n p t ≤ 10 := by
  unfold polErr at h
  split at h
  · cases h
  · split at h
    · contradiction
    · rename_i h1
      split at h
      · cases h
      · rename_i h2
        simp only [ne_eq, Decidable.not_not] at h1
        rcases firstX_mem (fun q => (winX t.spans).any (holdsX n q)) p.d p.rules with e | ⟨q, hq, e⟩
        · unfold givenX; rw [e]; omega
        · unfold givenX; rw [e]
          have h3 := firstErr_zero h1 q hq
          unfold ruleErr at h3
          split at h3
          · contradiction
          · split at h3
            · cases h3
            · omega
theorem expX_range {n : Nat} {p : PolD} (h : polErr n p = 0) {t : TraceD} (k : traceErr t = 0) : ∃ e g : Nat, e ≤ 10 ∧ g ≤ 10 ∧ t.weight = ((2 ^ e : Nat) : Int) ∧ givenX n p t = (g : Int) ∧ expX n p t = max e g ∧ (2 ^ e : Nat) < 18446744073709551616 := by
  obtain ⟨⟨_, _, h3, h4, h5⟩, _⟩ := traceErr_zero k
  obtain ⟨e, he, hw⟩ := pow_of_ok _ h3 h4 h5
  obtain ⟨g0, g1⟩ := givenX_range h t
  refine ⟨e, (givenX n p t).toNat, he, by omega, hw, by omega, by unfold expX; rw [hw, tzX_pow], ?_⟩
  calc 2 ^ e ≤ 2 ^ 10 := Nat.pow_le_pow_right (by decide) he
    _ < _ := by decide
theorem rangeAt_blk {W : World} {g : Nat} {cs : List Value} {t : TypeId} {f : Nat × Nat} (h : W.heap[g]? = some (.cells cs.toArray t f)) : W.rangeAt g 0 cs := fun j v hv => by
  rw [Nat.zero_add]
  exact cell_blk h j (by simpa using hv)
/-- The error of Sample. -/
def sampleErr (n : Nat) (p : PolD) (s : Int) (L : List TraceD) : Int := if polErr n p ≠ 0 then polErr n p else if s < 0 ∨ 1024 ≤ s then 2 else firstErr traceErr L
theorem traces_cells {W : World} {A : Option Addr} {L : List TraceD} (h : TracesIn W A L) {j : Nat} (hj : j < L.length) : ∃ b o, A = some ⟨b, o, none⟩ ∧ W.cell? ⟨b, o + j * 3, none⟩ = some (.int .i64 L[j].id) ∧ W.cell? ⟨b, o + j * 3 + 1, none⟩ = some (.int .i64 L[j].weight) ∧ W.cell? ⟨b, o + j * 3 + 2, none⟩ = some (.slice L[j].A L[j].spans.length L[j].c) := by
  obtain ⟨b, o, h1, h2⟩ := h j hj
  exact ⟨b, o, h1, h2 0 _ rfl, h2 1 _ rfl, h2 2 _ rfl⟩
def SampleP (n : Nat) (p : PolD) (s : Int) (L : List TraceD) (w : World) (e : Ending) (w' : World) : Prop :=
  (sampleErr n p s L ≠ 0 → e = .returned (.tuple #[.slice none 0 0, .slice none 0 0, .int .i64 (sampleErr n p s L)])) ∧
  (sampleErr n p s L = 0 → ∃ v u M N, e = .returned (.tuple #[v, u, .int .i64 0]) ∧ Two w.heap.size w' v u M N ∧ M.map TraceD.bare = keptX n p s L ∧ N.map TraceD.bare = goneX n p s L) ∧ Below w.heap.size w w'
theorem SampleP.bad {n : Nat} {p : PolD} {s : Int} {L : List TraceD} {w w' : World} {x : Int} (hx : sampleErr n p s L = x) (h0 : x ≠ 0) (hb : Below w.heap.size w w') : SampleP n p s L w (.returned (.tuple #[.slice none 0 0, .slice none 0 0, .int .i64 x])) w' :=
  ⟨fun _ => by rw [hx], fun h => absurd (hx.symm.trans h) h0, hb⟩
set_option maxHeartbeats 8000000 in
set_option maxRecDepth 20000 in
theorem sample_any (n : Nat) (p : PolD) (s : Int) (A : Option Addr) (c : Nat) (L : List TraceD) (w : World) (hp : p.Lies n w) (hstr : ∀ q ∈ p.rules, PredStr n q.p) (hL : TracesIn w A L) (hT : ∀ t ∈ L, t.Lies w ∧ t.spans.length ≤ 1000) (hlen : L.length ≤ 1000) (hTab : TabAt w) :
    Calls Tryz.prog 13 #[.agg p.cells.toArray, .int .i64 s, .slice A L.length c] w (SampleP n p s L w) := by
  have hB := Lib.hid ((Below.refl _ w).alloc (Nat.le_refl _) (.cells p.cells.toArray 24))
  have hPB := Lib.hid (blk_new w p.cells.toArray 24)
  have hc1 := Lib.hid (fun W (h : Below w.heap.size w W) => polCheck_any n p W (hp.below h) hstr)
  have hc2 := Lib.hid (fun t (ht : t ∈ L) W (h : Below w.heap.size w W) => traceCheck_any t W ((hT t ht).1.below h))
  have hc3 := Lib.hid (fun (hp0 : polErr n p = 0) t (ht : t ∈ L) (h0 : traceErr t = 0) W (h : Below w.heap.size w W) => given_any n p t W ((hp.held_ok hp0).below h) (((hT t ht).1.held_ok h0).below h))
  have HL := Lib.hid hL
  have HT := Lib.hid hT
  have HTab := Lib.hid hTab
  clear hp hstr hL hT hTab
  unfold PolD.cells at hB hPB hc1 hc3 ⊢
  by_cases h1 : polErr n p = 0
  · have h1' : (polErr n p != 0) = false := by rw [h1]; rfl
    have H1 := Lib.hid h1
    clear h1
    by_cases hs : s < 0 ∨ 1024 ≤ s
    · have hx : Hid (sampleErr n p s L = 2) := Lib.hid (by unfold sampleErr; rw [if_neg (by rw [H1.out]; simp), if_pos hs])
      by_cases hs0 : s < 0
      · have d1 : decide (s < 0) = true := decide_eq_true hs0
        clear hs
        go_enter Tryz.func13, Tryz.ntmps13
        go_wp2_with (first
          | (go_at_call 14; (with_reducible refine (hc1.out _ hB.out).mono ?_); rintro e w1 ⟨rfl, k1⟩; have b1 := Lib.hid (hB.out.trans (k1.mono hB.out.size)); clear k1))
        go_ret3
        exact SampleP.bad hx.out (by decide) b1.out
      · have d1 : decide (s < 0) = false := decide_eq_false hs0
        have d2 : decide (1024 ≤ s) = true := decide_eq_true (by omega)
        clear hs
        go_enter Tryz.func13, Tryz.ntmps13
        go_wp2_with (first
          | (go_at_call 14; (with_reducible refine (hc1.out _ hB.out).mono ?_); rintro e w1 ⟨rfl, k1⟩; have b1 := Lib.hid (hB.out.trans (k1.mono hB.out.size)); clear k1))
        go_ret3
        exact SampleP.bad hx.out (by decide) b1.out
    · have hx : Hid (sampleErr n p s L = firstErr traceErr L) := Lib.hid (by unfold sampleErr; rw [if_neg (by rw [H1.out]; simp), if_neg hs])
      have d1 : decide (s < 0) = false := decide_eq_false (by omega)
      have d2 : decide (1024 ≤ s) = false := decide_eq_false (by omega)
      have hs1 : 0 ≤ s := by omega
      have hs2 : s < 1024 := by omega
      clear hs
      go_enter Tryz.func13, Tryz.ntmps13
      go_wp2_with (first
        | (go_at_call 14; (with_reducible refine (hc1.out _ hB.out).mono ?_); rintro e w1 ⟨rfl, k1⟩; have b1 := Lib.hid (hB.out.trans (k1.mono hB.out.size)); have hP1 := Lib.hid (blk_keep k1 hPB.out); clear k1))
      go_loopw [6, 7, 11, 12, 29] (fun v u a b i wr => ∃ j : Nat, v = .slice none 0 0 ∧ u = .slice none 0 0 ∧ j ≤ L.length ∧ i = .int .i64 j ∧ Hid (∀ m (hm : m < j) (h : m < L.length), traceErr L[m] = 0) ∧ Hid (Below w.heap.size w wr) ∧ Hid (wr.heap[w.heap.size]? = some (.cells #[.slice p.A p.rules.length p.c, .int .i64 p.d] 24 (0, 0)))) (fun _ _ _ _ i _ => L.length - (intOf i).toNat)
      case atStart => exact ⟨0, rfl, rfl, by omega, rfl, Lib.hid (fun m hm => by omega), b1, hP1⟩
      case round =>
        clear hP1 b1
        obtain ⟨j, rfl, rfl, hj, rfl, hG, hW, hP⟩ := hrel
        by_cases hlt : j < L.length
        · have hlt2 : decide (j < L.length) = true := decide_eq_true hlt
          obtain ⟨b, o, rfl, f0, f1, f2⟩ := traces_cells (HL.out.below hW.out) hlt
          have hck := Lib.hid (hc2.out _ (List.getElem_mem hlt))
          have hstep := Lib.hid (fun (h : traceErr L[j] = 0) m (hm : m < j + 1) (h' : m < L.length) => (by
            by_cases e : m = j
            · subst e; exact h
            · exact hG.out m (by omega) h' : traceErr L[m] = 0))
          have hfin : Hid (traceErr L[j] ≠ 0 → firstErr traceErr L = traceErr L[j]) := Lib.hid (fun h => firstErr_at traceErr L j hlt h (fun m hm => hG.out m hm (by omega)))
          generalize L[j] = t at *
          have hB1 := Lib.hid (hW.out.alloc hW.out.size (.cells t.cells.toArray 27))
          have hg1 := Lib.hid (Grew.alloc wr (.cells t.cells.toArray 27)).b
          unfold TraceD.cells at hck hB1 hg1
          by_cases he : traceErr t = 0
          · have he2 : (traceErr t != 0) = false := by rw [he]; rfl
            have hst := Lib.hid (hstep.out he)
            clear hstep hfin he
            go_wp2_with (first
              | (go_at_call 15; (with_reducible refine (hck.out _ hB1.out).mono ?_); rintro e' w3 ⟨rfl, k3⟩; have b3 := Lib.hid (hB1.out.trans (k3.mono hB1.out.size)); have P3 := Lib.hid (blk_keep k3 (blk_keep hg1.out hP.out)); clear k3))
            exact ⟨⟨j + 1, rfl, rfl, by omega, by go_num, hst, b3, P3⟩, by simp [intOf]; omega⟩
          · have he2 : (traceErr t != 0) = true := by rw [bne_iff_ne]; exact he
            have hst := Lib.hid (hfin.out he)
            have he := Lib.hid he
            clear hstep hfin
            go_wp2_with (first
              | (go_at_call 15; (with_reducible refine (hck.out _ hB1.out).mono ?_); rintro e' w3 ⟨rfl, k3⟩; have b3 := Lib.hid (hB1.out.trans (k3.mono hB1.out.size)); clear k3))
            go_ret3
            exact SampleP.bad (hx.out.trans hst.out) he.out b3.out
        · obtain rfl : j = L.length := by omega
          have hlt2 : decide (L.length < L.length) = false := decide_eq_false hlt
          have hx0 : Hid (sampleErr n p s L = 0) := Lib.hid (hx.out.trans (firstErr_none _ _ (fun m hm => hG.out m hm hm)))
          clear hx
          go_wp2_with fail
          go_loopw [6, 7, 14, 15, 41] (fun v u x y i wr => ∃ (j : Nat) (M N : List TraceD), j ≤ L.length ∧ i = .int .i64 j ∧ M.length ≤ j ∧ N.length ≤ j ∧ Hid (Two (w.heap.size + 1) wr v u M N) ∧ Hid (M.map TraceD.bare = keptX n p s (L.take j)) ∧ Hid (N.map TraceD.bare = goneX n p s (L.take j)) ∧ Hid (Below w.heap.size w wr) ∧ Hid (wr.heap[w.heap.size]? = some (.cells #[.slice p.A p.rules.length p.c, .int .i64 p.d] 24 (0, 0)))) (fun _ _ _ _ i _ => L.length - (intOf i).toNat)
          case atStart => exact ⟨0, [], [], by omega, rfl, by simp, by simp, Lib.hid (Two.nil _ _), Lib.hid rfl, Lib.hid rfl, hW, hP⟩
          case round =>
            clear hW hP
            obtain ⟨j, M, N, hj, rfl, hM, hN, hR, hKM, hKN, hW, hP⟩ := hrel
            by_cases hlt : j < L.length
            · have hlt2 : decide (j < L.length) = true := decide_eq_true hlt
              obtain ⟨b, o, rfl, f0, f1, f2⟩ := traces_cells (HL.out.below hW.out) hlt
              have ht0 := hG.out j hlt hlt
              have hgv := Lib.hid (hc3.out H1.out _ (List.getElem_mem hlt) ht0)
              have hTL := Lib.hid (HT.out _ (List.getElem_mem hlt))
              have hOK := Lib.hid (traceErr_zero ht0)
              obtain ⟨e, g, he, hg, hwt, hgg, hex, hpw⟩ := expX_range (n := n) (p := p) H1.out ht0
              have hkT := Lib.hid (keptX_take (n := n) (p := p) (s := s) hlt)
              have hnT := Lib.hid (goneX_take (n := n) (p := p) (s := s) hlt)
              generalize L[j] = t at *
              clear ht0
              rw [hgg] at hgv
              have hcpy := Lib.hid (fun wt W (h : Below w.heap.size w W) => copyT_any t wt W (hTL.out.1.below h).at_ (fun e => hTL.out.1.nil e) (hTL.out.1.below h).held (fun x hx => ⟨hTL.out.1.sound x hx, by have := spanErr_small (hOK.out.2 x hx).1; omega, by have := spanErr_small (hOK.out.2 x hx).1; omega⟩) hTL.out.2)
              unfold TraceD.cells at hgv hcpy
              obtain ⟨PW, hPW⟩ : ∃ PW : Int, PW = ((2 ^ e : Nat) : Int) := ⟨_, rfl⟩
              have hcv : IntKind.u64.wrap t.weight = PW := by
                rw [hPW, hwt]
                simp only [IntKind.wrap, IntKind.bits, IntKind.signed]
                exact Int.emod_eq_of_lt (Int.natCast_nonneg _) (by exact_mod_cast hpw)
              have htz := Lib.hid (fun W (h : TabAt W) => hPW ▸ tz_any e he W h)
              have HEX := Lib.hid (And.intro hex (hPW.trans hwt.symm))
              clear hwt hPW hex hgg hpw
              obtain ⟨W1, hW1⟩ : ∃ W1, W1 = wr.alloc (.cells #[.int .i64 t.id, .int .i64 t.weight, .slice t.A t.spans.length t.c] 27) := ⟨_, rfl⟩
              have hg1 : Hid (Below wr.heap.size wr W1) := Lib.hid (by rw [hW1]; exact (Grew.alloc _ _).b)
              have hbx : Hid (W1.heap[wr.heap.size]? = some (.cells #[.int .i64 t.id, .int .i64 t.weight, .slice t.A t.spans.length t.c] 27 (0, 0))) := Lib.hid (by rw [hW1]; exact blk_new _ _ _)
              have hbW : Hid (Below w.heap.size w W1) := Lib.hid (hW.out.trans (hg1.out.mono hW.out.size))
              go_upto_region 16 with (fail)
              rw [← hW1]
              clear hW1
              have htb : Hid (∀ W, Below W1.heap.size W1 W → TabAt W) := Lib.hid fun W h => (HTab.out.below hbW.out).below h
              have hcl : Hid (∀ W, Below W1.heap.size W1 W → W.cell? ⟨wr.heap.size, 1, none⟩ = some (.int .i64 t.weight) ∧ W.heap[wr.heap.size]? = some (.cells #[.int .i64 t.id, .int .i64 t.weight, .slice t.A t.spans.length t.c] 27 (0, 0)) ∧ W.heap[w.heap.size]? = some (.cells #[.slice p.A p.rules.length p.c, .int .i64 p.d] 24 (0, 0))) := Lib.hid fun W h => ⟨cell_blk (blk_keep h hbx.out) 1 rfl, blk_keep h hbx.out, blk_keep h (blk_keep hg1.out hP.out)⟩
              have hmax : Hid (∀ W : World, True) := Lib.hid (fun _ => trivial)
              refine wp_region_quiet (C := Below W1.heap.size W1) (by kernel_rfl) (by kernel_rfl) (below_drew _) ?_
              refine wpQuiet_step (fun K hK => ?_)
              go_simp
              (refine ⟨_, fun _ _ => rfl, hK _ ?_⟩; clear hK K)
              refine wpQuiet_step (fun K hK => ?_)
              go_simp
              (refine ⟨_, fun W' hW' => (by rw [(hcl.out W' hW').1]; exact ⟨rfl, rfl⟩), hK _ ?_⟩; clear hK K)
              refine wpQuiet_step (fun K hK => ?_)
              go_simp
              (refine ⟨_, fun _ _ => rfl, hK _ ?_⟩; clear hK K)
              refine wpQuiet_step (fun K hK => ?_)
              go_simp
              (refine ⟨_, fun W' hW' => (htz.out W' (htb.out W' hW')).mono (fun e w' h => ⟨h.1, by rw [h.2]; exact hW'⟩), hK _ ?_⟩; clear hK K)
              refine wpQuiet_step (fun K hK => ?_)
              refine quiet_load rfl 24 (.tmp 3) rfl w.heap.size 0 rfl [.slice p.A p.rules.length p.c, .int .i64 p.d] _ (fun W hW' => rangeAt_blk (hcl.out W hW').2.2) Tryz.underlying24 rfl (by kernel_rfl) (hK _ ?_)
              clear hK K
              refine wpQuiet_step (fun K hK => ?_)
              refine quiet_load rfl 27 (.tmp 14) rfl wr.heap.size 0 rfl [.int .i64 t.id, .int .i64 t.weight, .slice t.A t.spans.length t.c] _ (fun W hW' => rangeAt_blk (hcl.out W hW').2.1) Tryz.underlying27 rfl (by kernel_rfl) (hK _ ?_)
              clear hK K
              refine wpQuiet_step (fun K hK => ?_)
              go_simp
              (refine ⟨_, fun W' hW' => (hgv.out W' (hbW.out.trans (hW'.mono hbW.out.size))).mono (fun e w' h => ⟨h.1, hW'.trans (h.2.mono hW'.size)⟩), hK _ ?_⟩; clear hK K)
              refine wpQuiet_step (fun K hK => ?_)
              go_simp
              obtain ⟨E, hE⟩ : ∃ E : Nat, E = max e g := ⟨_, rfl⟩
              have hE10 : E ≤ 10 := by omega
              (refine ⟨.int .i64 (E : Int), fun _ _ => (by rw [hE, show (max (e : Int) (g : Int)) = ((max e g : Nat) : Int) by omega]), hK _ ?_⟩; clear hK K)
              have hEX : Hid (expX n p t = E) := Lib.hid (HEX.out.1.trans hE.symm)
              have HW := Lib.hid HEX.out.2
              clear hE HEX hg he
              refine wpQuiet_step (fun K hK => ?_)
              go_simp
              (refine ⟨_, fun _ _ => rfl, hK _ ?_⟩; clear hK K)
              refine wpQuiet_nil ?_
              intro W2 hW2
              have hg2 : Hid (Below wr.heap.size wr W2) := Lib.hid (hg1.out.trans (hW2.mono hg1.out.size))
              have hb2 : Hid (Below w.heap.size w W2) := Lib.hid (hW.out.trans (hg2.out.mono hW.out.size))
              have hbx2 : Hid (W2.heap[wr.heap.size]? = some (.cells #[.int .i64 t.id, .int .i64 t.weight, .slice t.A t.spans.length t.c] 27 (0, 0))) := Lib.hid (hcl.out W2 hW2).2.1
              have hP2 : Hid (W2.heap[w.heap.size]? = some (.cells #[.slice p.A p.rules.length p.c, .int .i64 p.d] 24 (0, 0))) := Lib.hid (hcl.out W2 hW2).2.2
              have hpw2 : IntKind.i64.wrap (2 ^ E) = 2 ^ E := pow_wrapI E hE10
              have hkp : keepB n p s t = kp t.id s E := by unfold keepB; rw [hEX.out]
              have hR2 := Lib.hid (hR.out.below hg2.out)
              have hlt6 := Lib.hid (fun b (hb : Value.ownBlock u6 = some b) => hR.out.r.lt b hb)
              have hlt7 := Lib.hid (fun b (hb : Value.ownBlock u7 = some b) => hR.out.s.lt b hb)
              clear hcl htb hmax htz hgv hbx hbW hg1 hW2 hR hP hcv
              have y0 : W2.cell? ⟨wr.heap.size, 0, none⟩ = some (.int .i64 t.id) := cell_blk hbx2.out 0 rfl
              go_wp2_with fail
              (with_reducible refine (keep_any _ _ _ hs1 hs2 hE10 _).mono ?_)
              rintro _ W3 ⟨rfl, nq, rfl⟩
              have hg3 : Hid (Below wr.heap.size wr (W2.drewN nq)) := Lib.hid (hg2.out.trans ((below_drewN0 W2 nq).mono hg2.out.size))
              have hb3 : Hid (Below w.heap.size w (W2.drewN nq)) := Lib.hid (hW.out.trans (hg3.out.mono hW.out.size))
              have hbx3 := Lib.hid (blk_keep (below_drewN0 W2 nq) hbx2.out)
              have hP3 := Lib.hid (blk_keep (below_drewN0 W2 nq) hP2.out)
              have hR3 := Lib.hid (hR2.out.below (below_drewN0 W2 nq))
              have hgw := hb3.out.size
              have hgw1 := blk_lt hP3.out
              clear hg2 hb2 hbx2 hP2 hR2 y0
              generalize W2.drewN nq = W3 at *
              clear W2
              cases hk : kp t.id s E with
              | true =>
                have hkk := hkp.trans hk
                clear hkp hk
                go_wp2_with fail
                have hs6 := Lib.hid hR3.out.r
                refine wp_region_held_drew (S := fun W => W.heap[wr.heap.size]? = some (.cells #[.int .i64 t.id, .int .i64 t.weight, .slice t.A t.spans.length t.c] 27 (0, 0))) (by kernel_rfl) (blk_keep (below_drew _) hbx3.out) (fun hHeld => ?_)
                refine take_at (i := 0) (v := ?_) rfl (by kernel_rfl) (by kernel_rfl) (by kernel_rfl) (fun _ _ _ h => h) (Or.inl ⟨by rfl, ?_⟩) hHeld ?_
                rotate_left
                · intro W hSw; go_simp; try with_reducible rfl
                try simp only [Act.put, List.setIfInBounds_toArray, List.set_cons_zero, List.set_cons_succ]
                refine take_at (i := 1) rfl (by kernel_rfl) (by kernel_rfl) (by kernel_rfl) (fun _ _ _ h => h) (yieldsIf_load_mid (by rfl) 27 (.tmp 14) rfl wr.heap.size 0 rfl [.int .i64 t.id, .int .i64 t.weight, .slice t.A t.spans.length t.c] _ (fun W hW' => rangeAt_blk hW') Tryz.underlying27 rfl (by kernel_rfl)) hHeld ?_
                try simp only [Act.put, List.setIfInBounds_toArray, List.set_cons_zero, List.set_cons_succ]
                refine take_at (i := 2) (v := ?_) rfl (by kernel_rfl) (by kernel_rfl) (by kernel_rfl) (fun _ _ _ h => h) (Or.inl ⟨by rfl, ?_⟩) hHeld ?_
                rotate_left
                · intro W hSw; go_simp; try with_reducible rfl
                try simp only [Act.put, List.setIfInBounds_toArray, List.set_cons_zero, List.set_cons_succ]
                refine take_at (i := 3) (v := ?_) rfl (by kernel_rfl) (by kernel_rfl) (by kernel_rfl) (fun _ _ _ h => h) (Or.inl ⟨by rfl, ?_⟩) hHeld ?_
                rotate_left
                · intro W hSw; go_simp; try with_reducible rfl
                try simp only [Act.put, List.setIfInBounds_toArray, List.set_cons_zero, List.set_cons_succ]
                refine wpAnyH_one 4 (by kernel_rfl) rfl (by rfl) (fun K hK => ?_)
                go_simp
                (with_reducible refine (hcpy.out _ _ (hb3.out.trans ((below_drew W3).mono hgw))).mono ?_)
                rintro e5 W5 ⟨A5, c5, M5, rfl, hM5, hI5, hO5, hA5, hB5⟩
                have hB5' : Hid (Below W3.heap.size W3 W5) := Lib.hid ((below_drew W3).trans hB5)
                have hl5 : M5.length = t.spans.length := by have := congrArg List.length hM5; simpa using this
                have hY := Lib.hid (copied_own (id := t.id) (wt := 2 ^ E) (c := c5) hM5 hI5 hO5 hA5 (by rw [hl5]; have := hTL.out.1.len; exact this) hTL.out.1.txt)
                have hM5' := Lib.hid hM5
                clear hM5 hI5 hO5 hA5 hB5
                refine hK _ _ (blk_keep hB5'.out hbx3.out) ?_
                clear hK K
                refine wpAnyH_one 5 (by kernel_rfl) rfl (by rfl) (fun K hK => ?_)
                go_simp
                refine hK _ _ (blk_keep (below_alloc _ _) (blk_keep hB5'.out hbx3.out)) ?_
                clear hK K
                try simp only [Act.put, List.setIfInBounds_toArray, List.set_cons_zero, List.set_cons_succ]
                refine wpAnyH_one 6 (by kernel_rfl) rfl (by rfl) (fun K hK => ?_)
                obtain ⟨i0, z0, hi, hz, hsz, hby, hzs⟩ := infoSz_spec infoT
                have hR5 := Lib.hid (hR3.out.below hB5'.out)
                have hsz5 := hB5'.out.size
                refine wp_append_any (.tmp 58) (.tmp 63) 42 rfl (w.heap.size + 1) 27 i0 z0 3 Tryz.underlying42 hi hz hsz hby hzs (by decide) u6 M.length (cellsT M) rfl (hR5.out.r.alloc _) (some ⟨W5.heap.size, 0, none⟩) 1 1 [.int .i64 t.id, .int .i64 (2 ^ E), .slice A5 t.spans.length c5] rfl rfl (fun h => by cases h) (fun q hq => by cases hq; exact cells_new _ _ _) (by intro v hv; simp only [List.mem_cons, List.not_mem_nil, or_false] at hv; rcases hv with rfl | rfl | rfl <;> rfl) (by omega) (by simp; omega) ?_
                intro v' W6 hown hgr hat
                have hS6 : Hid (Two (w.heap.size + 1) W6 v' u7 (M ++ [TraceD.mk t.id (2 ^ E) A5 c5 M5]) N) := Lib.hid (hR3.out.snoc hgw1 (hB5'.out.alloc hsz5 _) (hY.out.below (below_alloc _ _)) (by simpa [TraceD.cells, hl5] using hown) hgr (by simpa using hat))
                have hbl := Lib.hid ((hb3.out.trans ((hB5'.out.alloc hsz5 _).mono hgw)).grown hgr (by simp; omega) (fun b hb => by have := (hlt6.out b hb).1; omega))
                have hP6 : Hid (W6.heap[w.heap.size]? = some (.cells #[.slice p.A p.rules.length p.c, .int .i64 p.d] 24 (0, 0))) := Lib.hid ((hgr.block _ (by simp; omega) (fun e => by have := (hlt6.out _ e.symm).1; omega)).trans (blk_keep (below_alloc _ _) (blk_keep hB5'.out hP3.out)))
                have hx6 : W6.heap[wr.heap.size]? = some (.cells #[.int .i64 t.id, .int .i64 t.weight, .slice t.A t.spans.length t.c] 27 (0, 0)) := (hgr.block _ (by have := blk_lt hbx3.out; simp; omega) (fun e => by have := (hlt6.out _ e.symm).2; omega)).trans (blk_keep (below_alloc _ _) (blk_keep hB5'.out hbx3.out))
                refine hK _ _ hx6 ?_
                clear hK K
                try simp only [Act.put, List.setIfInBounds_toArray, List.set_cons_zero, List.set_cons_succ]
                refine wpAnyH_one 7 (by kernel_rfl) rfl (by rfl) (fun K hK => ?_)
                go_simp
                refine hK _ _ hx6 ?_
                clear hK K
                refine wpAnyH_done (by kernel_rfl) ?_ _
                have hm6 : Hid ((M ++ [TraceD.mk t.id (2 ^ E) A5 c5 M5]).map TraceD.bare = keptX n p s (L.take (j + 1))) := Lib.hid (by
                  rw [hkT.out, if_pos hkk, List.map_append, hKM.out]
                  unfold keptT
                  rw [hEX.out, ← hM5'.out]
                  rfl)
                have hn6 : Hid (N.map TraceD.bare = goneX n p s (L.take (j + 1))) := Lib.hid (by
                  rw [hnT.out, if_pos hkk, hKN.out, List.append_nil])
                clear hown hgr hat hx6
                try simp only [Act.put, List.setIfInBounds_toArray, List.set_cons_zero, List.set_cons_succ]
                go_wp2_with fail
                exact ⟨⟨j + 1, _, N, by omega, by go_num, by simp; omega, by omega, hS6, hm6, hn6, hbl, hP6⟩, by simp [intOf]; omega⟩
              | false =>
                have hkk := hkp.trans hk
                clear hkp hk
                have y0 : W3.cell? ⟨wr.heap.size, 0, none⟩ = some (.int .i64 t.id) := cell_blk hbx3.out 0 rfl
                have y1 : W3.cell? ⟨wr.heap.size, 1, none⟩ = some (.int .i64 t.weight) := cell_blk hbx3.out 1 rfl
                have y2 : W3.cell? ⟨wr.heap.size, 2, none⟩ = some (.slice t.A t.spans.length t.c) := cell_blk hbx3.out 2 rfl
                obtain ⟨i0, z0, hi, hz, hsz, hby, hzs⟩ := infoSz_spec infoT
                have hi := Lib.hid hi
                have hz := Lib.hid hz
                go_wp2_with (first
                  | (go_at_call 30; (with_reducible refine (hcpy.out _ _ hb3.out).mono ?_); rintro e5 W5 ⟨A5, c5, M5, rfl, hM5, hI5, hO5, hA5, hB5⟩; have hB5' := Lib.hid hB5; have hl5 : M5.length = t.spans.length := (by have := congrArg List.length hM5; simpa using this); have hY := Lib.hid (copied_own (id := t.id) (wt := t.weight) (c := c5) hM5 hI5 hO5 hA5 (by rw [hl5]; have := hTL.out.1.len; exact this) hTL.out.1.txt); have hM5' := Lib.hid hM5; have hsz5 := hB5.size; have hR5 := Lib.hid (hR3.out.below hB5); clear hM5 hI5 hO5 hA5 hB5 y0 y1 y2)
                  | (at_builtin; refine wpList_append_own_at _ rfl (.tmp 65) (.tmp 70) 42 rfl (w.heap.size + 1) 27 i0 z0 3 i0.bytes Tryz.underlying42 hi.out hz.out hsz rfl hzs (by decide) u7 N.length (cellsT N) rfl (hR5.out.s.alloc _) ⟨W5.heap.size, 0, none⟩ 1 1 [.int .i64 t.id, .int .i64 t.weight, .slice A5 t.spans.length c5] rfl rfl (cells_new _ _ _) (by intro v hv; simp only [List.mem_cons, List.not_mem_nil, or_false] at hv; rcases hv with rfl | rfl | rfl <;> rfl) (by unfold maxLen; omega) (Nat.le_trans (Nat.mul_le_mul (show N.length + 1 ≤ 1001 by omega) hby) (by decide)) (by simp; omega) ?_; intro v' W6 hown hgr hnil hat; have HW := Lib.hid hown; have HG := Lib.hid hgr; have HA := Lib.hid hat; clear hown hgr hnil hat))
                have hS6 : Hid (Two (w.heap.size + 1) W6 u6 v' M (N ++ [TraceD.mk t.id t.weight A5 c5 M5])) := Lib.hid (Two.swap (hR3.out.swap.snoc hgw1 (hB5'.out.alloc hsz5 _) (hY.out.below (below_alloc _ _)) (by simpa [TraceD.cells, hl5] using HW.out) HG.out (by simpa using HA.out)))
                have hbl := Lib.hid ((hb3.out.trans ((hB5'.out.alloc hsz5 _).mono hgw)).grown HG.out (by simp; omega) (fun b hb => by have := (hlt7.out b hb).1; omega))
                have hP6 : Hid (W6.heap[w.heap.size]? = some (.cells #[.slice p.A p.rules.length p.c, .int .i64 p.d] 24 (0, 0))) := Lib.hid ((HG.out.block _ (by simp; omega) (fun e => by have := (hlt7.out _ e.symm).1; omega)).trans (blk_keep (below_alloc _ _) (blk_keep hB5'.out hP3.out)))
                have hm6 : Hid (M.map TraceD.bare = keptX n p s (L.take (j + 1))) := Lib.hid (by
                  rw [hkT.out, if_neg (by rw [hkk]; decide), hKM.out, List.append_nil])
                have hn6 : Hid ((N ++ [TraceD.mk t.id t.weight A5 c5 M5]).map TraceD.bare = goneX n p s (L.take (j + 1))) := Lib.hid (by
                  rw [hnT.out, if_neg (by rw [hkk]; decide), List.map_append, hKN.out]
                  unfold TraceD.bare
                  rw [← hM5'.out]
                  rfl)
                exact ⟨⟨j + 1, M, _, by omega, by go_num, by omega, by simp; omega, hS6, hm6, hn6, hbl, hP6⟩, by simp [intOf]; omega⟩
            · obtain rfl : j = L.length := by omega
              have hlt2 : decide (L.length < L.length) = false := decide_eq_false hlt
              go_wp2_with fail
              go_ret3
              refine ⟨fun h => absurd hx0.out h, fun _ => ⟨_, _, M, N, rfl, hR.out.mono (Nat.le_succ _), by rw [hKM.out, List.take_length], by rw [hKN.out, List.take_length]⟩, hW.out⟩
  · have h1' : (polErr n p != 0) = true := by rw [bne_iff_ne]; exact h1
    have hx : Hid (sampleErr n p s L = polErr n p) := Lib.hid (if_pos h1)
    have h1 := Lib.hid h1
    go_enter Tryz.func13, Tryz.ntmps13
    go_wp2_with (first
      | (go_at_call 14; (with_reducible refine (hc1.out _ hB.out).mono ?_); rintro e w1 ⟨rfl, k1⟩; have b1 := Lib.hid (hB.out.trans (k1.mono hB.out.size)); clear k1))
    go_ret3
    exact SampleP.bad hx.out h1.out b1.out
end Go.Proofs.YtnddlpfmagdbfaaGreatDoor
/- Contract: is a predicate small. -/
namespace Go.Proofs.YtnddlpfmagdbfaaGreatDoor
open Go Go.Proofs Go.RowKit
set_option linter.unusedVariables false
set_option linter.unusedSimpArgs false
/-- A predicate of whatever form lies there, as far as so many levels. -/
def PredTo : Nat → World → PredD → Prop
  | 0, _, _ => True
  | n + 1, W, p => (PredsAt W p.A p.args ∧ p.args.length ≤ maxLen ∧ p.t.text.size ≤ 9223372036854775807 ∧ p.t.field.size ≤ 9223372036854775807 ∧ p.t.key.size ≤ 9223372036854775807) ∧ ∀ q, q ∈ p.args → PredTo n W q
theorem PredTo.below : ∀ {n : Nat} {W W' : World} {p : PredD}, PredTo n W p → Below W.heap.size W W' → PredTo n W' p
  | 0, _, _, _, _, _ => trivial
  | n + 1, _, _, _, h, k => ⟨⟨h.1.1.below k, h.1.2⟩, fun q hq => (h.2 q hq).below k⟩
def smallX : Nat → PredD → Bool
  | 0, _ => false
  | k + 1, p => decide (p.args.length ≤ 4) && p.args.all (smallX k)
theorem small_lie : ∀ {k : Nat} {W : World} {p : PredD}, PredTo k W p → smallX k p = true → PredLie k W p ∧ PredStr k p
  | 0, _, _, _, h => by cases h
  | k + 1, W, p, h, hs => by
    unfold smallX at hs
    rw [Bool.and_eq_true, decide_eq_true_eq, List.all_eq_true] at hs
    exact ⟨⟨⟨h.1.1, by omega, h.1.2.2.1⟩, fun q hq => (small_lie (h.2 q hq) (hs.2 q hq)).1⟩, ⟨h.1.2.2.2, fun q hq => (small_lie (h.2 q hq) (hs.2 q hq)).2⟩⟩
theorem small_any : ∀ (k : Nat) (p : PredD) (w : World), PredTo k w p → k ≤ 100 →
    Calls Tryz.prog 9 #[.agg p.cells.toArray, .int .i64 k] w fun e w' => e = .returned (.bool (smallX k p)) ∧ Below w.heap.size w w' := by
  intro k
  induction k with
  | zero =>
    intro p w h _
    have hB := Lib.hid ((Below.refl _ w).alloc (Nat.le_refl _) (.cells p.cells.toArray 34))
    unfold PredD.cells at hB ⊢
    go_enter Tryz.func9, Tryz.ntmps9
    go_wp2_with fail
    go_ret
    exact ⟨rfl, hB.out⟩
  | succ k ih =>
    intro p w h hk
    have hB := Lib.hid ((Below.refl _ w).alloc (Nat.le_refl _) (.cells p.cells.toArray 34))
    have hP := Lib.hid (blk_new w p.cells.toArray 34)
    have HT := Lib.hid h
    have IH := Lib.hid ih
    have hml := h.1.2.1
    unfold maxLen at hml
    clear h ih
    unfold PredD.cells at hB hP ⊢
    have hk0 : (((k + 1 : Nat) : Int) == 0) = false := by simp; omega
    have hw1 : IntKind.i64.wrap (((k + 1 : Nat) : Int) - 1) = (k : Int) := by simp [IntKind.wrap, IntKind.bits, IntKind.signed]; omega
    obtain ⟨kk, hkk⟩ : ∃ kk : Int, kk = ((k + 1 : Nat) : Int) := ⟨_, rfl⟩
    rw [← hkk] at hk0 hw1 ⊢
    have hs : Hid (smallX (k + 1) p = (decide (p.args.length ≤ 4) && p.args.all (smallX k))) := Lib.hid rfl
    generalize smallX (k + 1) p = r at *
    clear hkk
    have HAt : Hid (∀ W, Below w.heap.size w W → PredsAt W p.A p.args) := Lib.hid fun W h => (HT.out.below h).1.1
    have HCh : Hid (∀ W, Below w.heap.size w W → ∀ q ∈ p.args, PredTo k W q) := Lib.hid fun W h => (HT.out.below h).2
    clear HT
    generalize p.A = A at *
    by_cases h4 : 4 < p.args.length
    · have hd : decide ((4 : Int) < (p.args.length : Int)) = true := decide_eq_true (by omega)
      have hr : r = false := by rw [hs.out, decide_eq_false (by omega)]; rfl
      subst hr
      go_enter Tryz.func9, Tryz.ntmps9
      go_wp2_with fail
      go_ret
      exact ⟨rfl, hB.out⟩
    · have hd : decide ((4 : Int) < (p.args.length : Int)) = false := decide_eq_false (by omega)
      have hr : Hid (r = p.args.all (smallX k)) := Lib.hid (by rw [hs.out, decide_eq_true (show p.args.length ≤ 4 by omega)]; rfl)
      clear hs
      go_enter Tryz.func9, Tryz.ntmps9
      go_wp2_with fail
      go_loopw [5] (fun i wr => ∃ j : Nat, j ≤ p.args.length ∧ i = .int .i64 (j : Int) ∧ Hid (∀ m (hm : m < j) (h : m < p.args.length), smallX k p.args[m] = true) ∧ Hid (Below w.heap.size w wr) ∧ Hid (wr.heap[w.heap.size]? = some (.cells #[.int .i64 p.t.op, .string p.t.field, .string p.t.key, .int .i64 p.t.kind, .string p.t.text, .int .i64 p.t.num, .slice A p.args.length p.c] 34 (0, 0)))) (fun i _ => p.args.length - (intOf i).toNat)
      case atStart => exact ⟨0, by omega, rfl, Lib.hid (fun m hm => by omega), hB, hP⟩
      case round =>
        clear hB hP
        obtain ⟨j, hj, rfl, hG, hB, hP⟩ := hrel
        have y6 : wr.cell? ⟨w.heap.size, 6, none⟩ = some (.slice A p.args.length p.c) := cell_blk hP.out 6 rfl
        by_cases hlt : j < p.args.length
        · have hlt2 : decide (j < p.args.length) = true := decide_eq_true hlt
          obtain ⟨ad, rfl, ⟨g0, g1, g2, g3, g4, g5, g6⟩⟩ := (HAt.out _ hB.out) j hlt
          have hc := Lib.hid (IH.out p.args[j] wr (HCh.out _ hB.out _ (List.getElem_mem hlt)) (by omega))
          have hstep := Lib.hid (fun (h : smallX k p.args[j] = true) m (hm : m < j + 1) (h' : m < p.args.length) => (by
            by_cases e : m = j
            · subst e; exact h
            · exact hG.out m (by omega) h' : smallX k p.args[m] = true))
          have hbad : Hid (smallX k p.args[j] = false → r = false) := Lib.hid (fun h => by
            rw [hr.out, List.all_eq_false]
            exact ⟨_, List.getElem_mem hlt, by rw [h]; simp⟩)
          generalize p.args[j] = q at *
          unfold PredD.cells at hc
          cases hq : smallX k q with
          | true =>
            rw [hq] at hc
            have hst := Lib.hid (hstep.out hq)
            clear hstep hbad hq
            go_wp2_with (first
              | (go_at_call 9; (with_reducible refine hc.out.mono ?_); rintro e w3 ⟨rfl, k3⟩; have b3 := Lib.hid (hB.out.trans (k3.mono hB.out.size)); have P3 := Lib.hid (blk_keep k3 hP.out); clear k3))
            exact ⟨⟨j + 1, by omega, by go_num, hst, b3, P3⟩, by simp [intOf]; omega⟩
          | false =>
            rw [hq] at hc
            have hst := Lib.hid (hbad.out hq)
            clear hstep hbad hq
            go_wp2_with (first
              | (go_at_call 9; (with_reducible refine hc.out.mono ?_); rintro e w3 ⟨rfl, k3⟩; have b3 := Lib.hid (hB.out.trans (k3.mono hB.out.size)); clear k3))
            go_ret
            exact ⟨by rw [hst.out]; rfl, b3.out⟩
        · obtain rfl : j = p.args.length := by omega
          have hlt2 : decide (p.args.length < p.args.length) = false := decide_eq_false hlt
          have hst : Hid (r = true) := Lib.hid (by
            rw [hr.out, List.all_eq_true]
            intro q hq
            obtain ⟨m, hm, rfl⟩ := List.mem_iff_getElem.1 hq
            exact hG.out m hm hm)
          go_wp2_with fail
          go_ret
          exact ⟨by rw [hst.out]; rfl, hB.out⟩
end Go.Proofs.YtnddlpfmagdbfaaGreatDoor
/- Contracts: the law's own checks of a policy and of a trace. -/
namespace Go.Proofs.YtnddlpfmagdbfaaGreatDoor
open Go Go.Proofs Go.RowKit
set_option linter.unusedVariables false
set_option linter.unusedSimpArgs false
set_option maxHeartbeats 8000000 in
set_option maxRecDepth 20000 in
theorem lawCheck_any (n : Nat) (p : PolD) (w : World) (hp : p.Lies n w) (hstr : ∀ q ∈ p.rules, PredStr n q.p) :
    Calls Tryz.prog 10 #[.agg p.cells.toArray] w fun e w' => e = .returned (.int .i64 (polErr n p)) ∧ Below w.heap.size w w' := by
  have hBx := Lib.hid ((Below.refl _ w).alloc (Nat.le_refl _) (.cells p.cells.toArray 24))
  have hPB := Lib.hid (blk_new w p.cells.toArray 24)
  have HP := Lib.hid hp
  have HS := Lib.hid hstr
  have hlen := hp.len
  clear hp hstr
  obtain ⟨A, c, rules, d⟩ := p
  unfold PolD.cells at hBx hPB ⊢
  simp only at hlen hBx hPB ⊢
  by_cases h16 : 16 < rules.length
  · have hd : decide ((16 : Int) < (rules.length : Int)) = true := decide_eq_true (by omega)
    have hv : Hid (polErr n ⟨A, c, rules, d⟩ = 6) := Lib.hid (by unfold polErr; exact if_pos h16)
    go_enter Tryz.func10, Tryz.ntmps10
    go_wp2_with fail
    go_ret
    exact ⟨by rw [hv.out]; rfl, hBx.out⟩
  · have hd : decide ((16 : Int) < (rules.length : Int)) = false := decide_eq_false (by omega)
    have hv : Hid (polErr n ⟨A, c, rules, d⟩ = if firstErr (ruleErr n) rules ≠ 0 then firstErr (ruleErr n) rules else if d < 0 ∨ 10 < d then 2 else 0) := Lib.hid (by unfold polErr; exact if_neg h16)
    go_enter Tryz.func10, Tryz.ntmps10
    go_wp2_with fail
    go_loopw [3, 4] (fun i a wr => ∃ j : Nat, j ≤ rules.length ∧ i = .int .i64 j ∧ Hid (∀ m (hm : m < j) (h : m < rules.length), ruleErr n rules[m] = 0) ∧ Hid (Below (w.alloc (.cells #[.slice A rules.length c, .int .i64 d] 24)).heap.size (w.alloc (.cells #[.slice A rules.length c, .int .i64 d] 24)) wr)) (fun i _ _ => rules.length - (intOf i).toNat)
    case atStart => exact ⟨0, by omega, rfl, Lib.hid (fun m hm => by omega), Lib.hid (Below.refl _ _)⟩
    case round =>
      obtain ⟨j, hj, rfl, hG, hK⟩ := hrel
      have hK2 := Lib.hid (hBx.out.trans (hK.out.mono hBx.out.size))
      by_cases hlt : j < rules.length
      · have hlt2 : decide (j < rules.length) = true := decide_eq_true hlt
        obtain ⟨b, o, hA, hcs⟩ := rule_cells (HP.out.below hK2.out).at_ hlt
        have hmem := List.getElem_mem hlt
        have hck := Lib.hid (fun W h => predCheck_any n rules[j].p W ((HP.out.ok _ hmem).below h) (HS.out _ hmem))
        have hstep := Lib.hid (fun (h : ruleErr n rules[j] = 0) m (hm : m < j + 1) (h' : m < rules.length) => (by
          by_cases e : m = j
          · subst e; exact h
          · exact hG.out m (by omega) h' : ruleErr n rules[m] = 0))
        have hfin : Hid (ruleErr n rules[j] ≠ 0 → polErr n ⟨A, c, rules, d⟩ = ruleErr n rules[j]) := Lib.hid (fun h => by
          have h1 := firstErr_at (ruleErr n) rules j hlt h (fun m hm => hG.out m hm (by omega))
          rw [hv.out, h1, if_pos h])
        subst hA
        generalize rules[j] = q at *
        have f0 : wr.cell? ⟨b, o + j * 8, none⟩ = some (.int .i64 q.p.t.op) := hcs 0 _ rfl
        have f1 : wr.cell? ⟨b, o + j * 8 + 1, none⟩ = some (.string q.p.t.field) := hcs 1 _ rfl
        have f2 : wr.cell? ⟨b, o + j * 8 + 2, none⟩ = some (.string q.p.t.key) := hcs 2 _ rfl
        have f3 : wr.cell? ⟨b, o + j * 8 + 3, none⟩ = some (.int .i64 q.p.t.kind) := hcs 3 _ rfl
        have f4 : wr.cell? ⟨b, o + j * 8 + 4, none⟩ = some (.string q.p.t.text) := hcs 4 _ rfl
        have f5 : wr.cell? ⟨b, o + j * 8 + 5, none⟩ = some (.int .i64 q.p.t.num) := hcs 5 _ rfl
        have f6 : wr.cell? ⟨b, o + j * 8 + 6, none⟩ = some (.slice q.p.A q.p.args.length q.p.c) := hcs 6 _ rfl
        have f7 : wr.cell? ⟨b, o + j * 8 + 7, none⟩ = some (.int .i64 q.e) := hcs 7 _ rfl
        clear hcs hmem
        have hck := Lib.hid (hck.out wr hK2.out)
        unfold PredD.cells at hck
        have hPw := Lib.hid (blk_keep hK.out hPB.out)
        have y0 : wr.cell? ⟨w.heap.size, 0, none⟩ = some (.slice (some ⟨b, o, none⟩) rules.length c) := cell_blk hPw.out 0 rfl
        have hbl : b < wr.heap.size := World.block_lt_of_cell? wr _ f0
        have hre : Hid (ruleErr n q = if predErr n q.p ≠ 0 then predErr n q.p else if q.e < 0 ∨ 10 < q.e then 2 else 0) := Lib.hid rfl
        generalize predErr n q.p = e at *
        by_cases he : e = 0
        · have he2 : (e != 0) = false := by rw [he]; rfl
          rw [if_neg (by simpa using he)] at hre
          clear he
          by_cases h0 : q.e < 0
          · have h0' : decide (q.e < 0) = true := decide_eq_true h0
            have hz : Hid (polErr n ⟨some ⟨b, o, none⟩, c, rules, d⟩ = 2) := Lib.hid (by rw [hfin.out (by rw [hre.out, if_pos (.inl h0)]; decide), hre.out, if_pos (.inl h0)])
            go_wp2_with (first
            | (go_at_call 25; (with_reducible refine hck.out.mono ?_); rintro e' w3 ⟨rfl, hk⟩; have y1 : w3.cell? ⟨w.heap.size, 0, none⟩ = some (.slice (some ⟨b, o, none⟩) rules.length c) := cell_blk (blk_keep hk hPw.out) 0 rfl; have y7 : w3.cell? ⟨b, o + j * 8 + 7, none⟩ = some (.int .i64 q.e) := (hk.cell (p := ⟨b, o + j * 8 + 7, none⟩) hbl).trans f7; have hk3 := Lib.hid (hK.out.trans (hk.mono hK.out.size)); clear hk))
            go_ret
            exact ⟨by rw [hz.out]; rfl, hBx.out.trans (hk3.out.mono hBx.out.size)⟩
          · have h0' : decide (q.e < 0) = false := decide_eq_false h0
            by_cases h10 : 10 < q.e
            · have h10' : decide (10 < q.e) = true := decide_eq_true h10
              have hz : Hid (polErr n ⟨some ⟨b, o, none⟩, c, rules, d⟩ = 2) := Lib.hid (by rw [hfin.out (by rw [hre.out, if_pos (.inr h10)]; decide), hre.out, if_pos (.inr h10)])
              go_wp2_with (first
            | (go_at_call 25; (with_reducible refine hck.out.mono ?_); rintro e' w3 ⟨rfl, hk⟩; have y1 : w3.cell? ⟨w.heap.size, 0, none⟩ = some (.slice (some ⟨b, o, none⟩) rules.length c) := cell_blk (blk_keep hk hPw.out) 0 rfl; have y7 : w3.cell? ⟨b, o + j * 8 + 7, none⟩ = some (.int .i64 q.e) := (hk.cell (p := ⟨b, o + j * 8 + 7, none⟩) hbl).trans f7; have hk3 := Lib.hid (hK.out.trans (hk.mono hK.out.size)); clear hk))
              go_ret
              exact ⟨by rw [hz.out]; rfl, hBx.out.trans (hk3.out.mono hBx.out.size)⟩
            · have h10' : decide (10 < q.e) = false := decide_eq_false h10
              have hz := Lib.hid (hstep.out (by rw [hre.out, if_neg (by omega)]))
              go_wp2_with (first
            | (go_at_call 25; (with_reducible refine hck.out.mono ?_); rintro e' w3 ⟨rfl, hk⟩; have y1 : w3.cell? ⟨w.heap.size, 0, none⟩ = some (.slice (some ⟨b, o, none⟩) rules.length c) := cell_blk (blk_keep hk hPw.out) 0 rfl; have y7 : w3.cell? ⟨b, o + j * 8 + 7, none⟩ = some (.int .i64 q.e) := (hk.cell (p := ⟨b, o + j * 8 + 7, none⟩) hbl).trans f7; have hk3 := Lib.hid (hK.out.trans (hk.mono hK.out.size)); clear hk))
              exact ⟨⟨j + 1, by omega, by go_num, hz, hk3⟩, by simp [intOf]; omega⟩
        · have he2 : (e != 0) = true := by rw [bne_iff_ne]; exact he
          rw [if_pos (by simpa using he)] at hre
          have hz : Hid (polErr n ⟨some ⟨b, o, none⟩, c, rules, d⟩ = e) := Lib.hid (by rw [hfin.out (by rw [hre.out]; exact he), hre.out])
          clear he
          go_wp2_with (first
            | (go_at_call 25; (with_reducible refine hck.out.mono ?_); rintro e' w3 ⟨rfl, hk⟩; have y1 : w3.cell? ⟨w.heap.size, 0, none⟩ = some (.slice (some ⟨b, o, none⟩) rules.length c) := cell_blk (blk_keep hk hPw.out) 0 rfl; have y7 : w3.cell? ⟨b, o + j * 8 + 7, none⟩ = some (.int .i64 q.e) := (hk.cell (p := ⟨b, o + j * 8 + 7, none⟩) hbl).trans f7; have hk3 := Lib.hid (hK.out.trans (hk.mono hK.out.size)); clear hk))
          go_ret
          exact ⟨by rw [hz.out]; rfl, hBx.out.trans (hk3.out.mono hBx.out.size)⟩
      · have hj2 : j = rules.length := by omega
        subst hj2
        have hlt2 : decide (rules.length < rules.length) = false := decide_eq_false hlt
        have hn0 : firstErr (ruleErr n) rules = 0 := firstErr_none _ _ (fun m hm => hG.out m hm hm)
        rw [hn0] at hv
        have hP3 := blk_keep hK.out hPB.out
        have y1 : wr.cell? ⟨w.heap.size, 1, none⟩ = some (.int .i64 d) := cell_blk hP3 1 rfl
        have y0 : wr.cell? ⟨w.heap.size, 0, none⟩ = some (.slice A rules.length c) := cell_blk hP3 0 rfl
        clear hP3 hn0
        by_cases h0 : d < 0
        · have h0' : decide (d < 0) = true := decide_eq_true h0
          have hz : Hid (polErr n ⟨A, c, rules, d⟩ = 2) := Lib.hid (by rw [hv.out, if_neg (by decide), if_pos (.inl h0)])
          go_wp2_with fail
          go_ret
          exact ⟨by rw [hz.out]; rfl, hK2.out⟩
        · have h0' : decide (d < 0) = false := decide_eq_false h0
          by_cases h10 : 10 < d
          · have h10' : decide (10 < d) = true := decide_eq_true h10
            have hz : Hid (polErr n ⟨A, c, rules, d⟩ = 2) := Lib.hid (by rw [hv.out, if_neg (by decide), if_pos (.inr h10)])
            go_wp2_with fail
            go_ret
            exact ⟨by rw [hz.out]; rfl, hK2.out⟩
          · have h10' : decide (10 < d) = false := decide_eq_false h10
            have hz : Hid (polErr n ⟨A, c, rules, d⟩ = 0) := Lib.hid (by rw [hv.out, if_neg (by decide), if_neg (by omega)])
            go_wp2_with fail
            go_ret
            exact ⟨by rw [hz.out]; rfl, hK2.out⟩
/-- Is the weight one of the first powers of two? -/
def fitB (wt : Int) (j : Nat) : Bool := (List.range j).any fun m => wt == 2 ^ m
theorem fitB_succ (wt : Int) (j : Nat) : fitB wt (j + 1) = (fitB wt j || wt == 2 ^ j) := by
  unfold fitB
  rw [List.range_succ, List.any_append]
  simp
theorem fitB_ok (t : TraceD) : traceOk t ↔ 1 ≤ t.id ∧ t.id ≤ 1099511627776 ∧ fitB t.weight 11 = true := by
  constructor
  · rintro ⟨h1, h2, h3, h4, h5⟩
    obtain ⟨e, he, hw⟩ := pow_of_ok _ h3 h4 h5
    refine ⟨h1, h2, ?_⟩
    unfold fitB
    rw [List.any_eq_true]
    exact ⟨e, List.mem_range.2 (by omega), by rw [hw]; simp⟩
  · rintro ⟨h1, h2, h3⟩
    unfold fitB at h3
    rw [List.any_eq_true] at h3
    obtain ⟨e, he, hw⟩ := h3
    have he := List.mem_range.1 he
    have hw : t.weight = ((2 ^ e : Nat) : Int) := by simpa using hw
    obtain ⟨g1, g2, g3⟩ := ok_of_pow e (by omega)
    exact ⟨h1, h2, by rw [hw]; exact g1, by rw [hw]; exact g2, by rw [hw]; exact g3⟩
set_option maxHeartbeats 8000000 in
set_option maxRecDepth 20000 in
theorem lawTrace_any (t : TraceD) (w : World) (ht : t.Lies w) :
    Calls Tryz.prog 11 #[.agg t.cells.toArray] w fun e w' => e = .returned (.int .i64 (traceErr t)) ∧ Below w.heap.size w w' := by
  have hB := Lib.hid ((Below.refl _ w).alloc (Nat.le_refl _) (.cells t.cells.toArray 27))
  have hP := Lib.hid (blk_new w t.cells.toArray 27)
  have HT := Lib.hid ht
  have hlen := ht.len
  have hok := Lib.hid (fitB_ok t)
  have hv : Hid (traceErr t = if traceOk t then firstErr (memErr t.id) t.spans else 2) := Lib.hid rfl
  clear ht
  unfold TraceD.cells at hB hP ⊢
  generalize traceErr t = r at *
  go_enter Tryz.func11, Tryz.ntmps11
  go_wp2_with fail
  go_loopw [3, 4] (fun a i wr => ∃ (j : Nat) (bb : Bool), j ≤ 11 ∧ i = .int .i64 (j : Int) ∧ a = .bool bb ∧ Hid (bb = fitB t.weight j) ∧ Hid (Below w.heap.size w wr) ∧ Hid (wr.heap[w.heap.size]? = some (.cells #[.int .i64 t.id, .int .i64 t.weight, .slice t.A t.spans.length t.c] 27 (0, 0)))) (fun _ i _ => 11 - (intOf i).toNat)
  case atStart => exact ⟨0, false, by omega, rfl, rfl, Lib.hid rfl, hB, hP⟩
  case round =>
    clear hB hP
    obtain ⟨j, bb, hj, rfl, rfl, hf, hB, hP⟩ := hrel
    have y1 : wr.cell? ⟨w.heap.size, 1, none⟩ = some (.int .i64 t.weight) := cell_blk hP.out 1 rfl
    by_cases hlt : j < 11
    · have hlt2 : decide ((j : Int) ≤ 10) = true := decide_eq_true (by omega)
      have hpw : IntKind.i64.wrap (2 ^ j) = 2 ^ j := pow_wrapI j (by omega)
      have hs := Lib.hid (fitB_succ t.weight j)
      cases bb with
      | true =>
        have hf2 : Hid (true = fitB t.weight (j + 1)) := Lib.hid (by rw [hs.out, ← hf.out]; rfl)
        clear hs
        go_wp2_with fail
        go_quiet (fail)
        have hB2 := Lib.hid (hB.out.trans ((below_drewN0 wr nq).mono hB.out.size))
        have hP2 := Lib.hid (blk_keep (below_drewN0 wr nq) hP.out)
        go_wp2_with fail
        exact ⟨⟨j + 1, true, by omega, by go_num, rfl, hf2, hB2, hP2⟩, by simp [intOf]; omega⟩
      | false =>
        obtain ⟨cc, hcc⟩ : ∃ cc : Bool, (t.weight == 2 ^ j) = cc := ⟨_, rfl⟩
        have hf2 : Hid (cc = fitB t.weight (j + 1)) := Lib.hid (by rw [hs.out, ← hf.out, hcc]; rfl)
        clear hs
        go_wp2_with fail
        go_quiet (fail)
        have hB2 := Lib.hid (hB.out.trans ((below_drewN0 wr nq).mono hB.out.size))
        have hP2 := Lib.hid (blk_keep (below_drewN0 wr nq) hP.out)
        go_wp2_with fail
        exact ⟨⟨j + 1, cc, by omega, by go_num, rfl, hf2, hB2, hP2⟩, by simp [intOf]; omega⟩
    · obtain rfl : j = 11 := by omega
      have y0 : wr.cell? ⟨w.heap.size, 0, none⟩ = some (.int .i64 t.id) := cell_blk hP.out 0 rfl
      have hok2 : Hid (traceOk t ↔ 1 ≤ t.id ∧ t.id ≤ 1099511627776 ∧ bb = true) := Lib.hid (by rw [hok.out, ← hf.out])
      clear hf hok
      by_cases h1 : t.id < 1
      · have d1 : decide (t.id < 1) = true := decide_eq_true h1
        have hz : Hid (r = 2) := Lib.hid (by rw [hv.out, if_neg (by rw [hok2.out]; omega)])
        go_wp2_with fail
        go_ret
        exact ⟨by rw [hz.out]; rfl, hB.out⟩
      · have d1 : decide (t.id < 1) = false := decide_eq_false h1
        by_cases h2 : 1099511627776 < t.id
        · have d2 : decide (1099511627776 < t.id) = true := decide_eq_true h2
          have hz : Hid (r = 2) := Lib.hid (by rw [hv.out, if_neg (by rw [hok2.out]; omega)])
          go_wp2_with fail
          go_ret
          exact ⟨by rw [hz.out]; rfl, hB.out⟩
        · have d2 : decide (1099511627776 < t.id) = false := decide_eq_false h2
          cases bb with
          | false =>
            have hz : Hid (r = 2) := Lib.hid (by rw [hv.out, if_neg (by rw [hok2.out]; simp)])
            go_wp2_with fail
            go_ret
            exact ⟨by rw [hz.out]; rfl, hB.out⟩
          | true =>
            have hv2 : Hid (r = firstErr (memErr t.id) t.spans) := Lib.hid (by rw [hv.out, if_pos (by rw [hok2.out]; exact ⟨by omega, by omega, rfl⟩)])
            clear hv hok2
            have HSp : Hid (∀ W, Below w.heap.size w W → SpansIn W t.A t.spans) := Lib.hid fun W h => (HT.out.below h).at_
            have HCk : Hid (∀ W, Below w.heap.size w W → ∀ x ∈ t.spans, ∀ W', Below W.heap.size W W' → Calls Tryz.prog 26 #[.agg x.cells.toArray] W' fun e w' => e = .returned (.int .i64 (spanErr x)) ∧ Below W'.heap.size W' w') := Lib.hid fun W h x hx W' h' => spanCheck_any x W' (((HT.out.held x hx).keeps W h).keeps W' h') (HT.out.txt x hx)
            clear HT y1
            generalize t.A = A at *
            generalize t.spans = L at *
            generalize t.id = id at *
            go_wp2_with fail

            go_loopw [5, 6] (fun i a wr => ∃ j : Nat, j ≤ L.length ∧ i = .int .i64 j ∧ Hid (∀ m (hm : m < j) (h : m < L.length), memErr id L[m] = 0) ∧ Hid (Below w.heap.size w wr) ∧ Hid (wr.heap[w.heap.size]? = some (.cells #[.int .i64 id, .int .i64 t.weight, .slice A L.length t.c] 27 (0, 0)))) (fun i _ _ => L.length - (intOf i).toNat)
            case atStart => exact ⟨0, by omega, rfl, Lib.hid (fun m hm => by omega), hB, hP⟩
            case round =>
              clear hB hP
              obtain ⟨j, hj, rfl, hG, hB, hP⟩ := hrel
              have y2 : wr.cell? ⟨w.heap.size, 2, none⟩ = some (.slice A L.length t.c) := cell_blk hP.out 2 rfl
              by_cases hlt : j < L.length
              · have hlt2 : decide (j < L.length) = true := decide_eq_true hlt
                obtain ⟨b, o, rfl, hr⟩ := (HSp.out wr hB.out) j hlt
                have hck := Lib.hid (HCk.out wr hB.out _ (List.getElem_mem hlt) wr (Below.refl _ _))
                have hstep := Lib.hid (fun (h : memErr id L[j] = 0) m (hm : m < j + 1) (h' : m < L.length) => (by
                  by_cases e : m = j
                  · subst e; exact h
                  · exact hG.out m (by omega) h' : memErr id L[m] = 0))
                have hfin : Hid (memErr id L[j] ≠ 0 → r = memErr id L[j]) := Lib.hid (fun h => hv2.out.trans (firstErr_at (memErr id) L j hlt h (fun m hm => hG.out m hm (by omega))))
                have hme : Hid (memErr id L[j] = if spanErr L[j] ≠ 0 then spanErr L[j] else if L[j].trace ≠ id then 17 else 0) := Lib.hid rfl
                generalize L[j] = x at *
                have f0 : wr.cell? ⟨b, o + j * 14, none⟩ = some (.int .i64 x.trace) := hr 0 _ rfl
                have hbl : b < wr.heap.size := World.block_lt_of_cell? wr _ f0
                have f1 : wr.cell? ⟨b, o + j * 14 + 1, none⟩ = some (.int .i64 x.id) := hr 1 _ rfl
                have f2 : wr.cell? ⟨b, o + j * 14 + 2, none⟩ = some (.int .i64 x.parent) := hr 2 _ rfl
                have f3 : wr.cell? ⟨b, o + j * 14 + 3, none⟩ = some (.int .i64 x.rev) := hr 3 _ rfl
                have f4 : wr.cell? ⟨b, o + j * 14 + 4, none⟩ = some (.int .i64 x.clock) := hr 4 _ rfl
                have f5 : wr.cell? ⟨b, o + j * 14 + 5, none⟩ = some (.int .i64 x.kind) := hr 5 _ rfl
                have f6 : wr.cell? ⟨b, o + j * 14 + 6, none⟩ = some (.string x.svc) := hr 6 _ rfl
                have f7 : wr.cell? ⟨b, o + j * 14 + 7, none⟩ = some (.string x.ver) := hr 7 _ rfl
                have f8 : wr.cell? ⟨b, o + j * 14 + 8, none⟩ = some (.string x.op) := hr 8 _ rfl
                have f9 : wr.cell? ⟨b, o + j * 14 + 9, none⟩ = some (.int .i64 x.st) := hr 9 _ rfl
                have f10 : wr.cell? ⟨b, o + j * 14 + 10, none⟩ = some (.int .i64 x.en) := hr 10 _ rfl
                have f11 : wr.cell? ⟨b, o + j * 14 + 11, none⟩ = some (.bool x.err) := hr 11 _ rfl
                have f12 : wr.cell? ⟨b, o + j * 14 + 12, none⟩ = some (.slice x.aA x.attrs.length x.aC) := hr 12 _ rfl
                have f13 : wr.cell? ⟨b, o + j * 14 + 13, none⟩ = some (.slice x.lA x.links.length x.lC) := hr 13 _ rfl
                clear hr
                unfold SpanD.cells at hck
                generalize spanErr x = e at *
                by_cases he : e = 0
                · have he2 : (e != 0) = false := by rw [he]; rfl
                  rw [if_neg (by simpa using he)] at hme
                  clear he
                  by_cases hti : x.trace = id
                  · have ht2 : (x.trace != id) = false := by rw [hti]; simp
                    have hz := Lib.hid (hstep.out (by rw [hme.out, if_neg (by simpa using hti)]))
                    clear hti hfin hme hstep
                    go_wp2_with (first
                      | (go_at_call 26; (with_reducible refine hck.out.mono ?_); rintro e' w3 ⟨rfl, hk⟩; have y0 : w3.cell? ⟨w.heap.size, 0, none⟩ = some (.int .i64 id) := cell_blk (blk_keep hk hP.out) 0 rfl; have y3 : w3.cell? ⟨w.heap.size, 2, none⟩ = some (.slice (some ⟨b, o, none⟩) L.length t.c) := cell_blk (blk_keep hk hP.out) 2 rfl; have g0 : w3.cell? ⟨b, o + j * 14, none⟩ = some (.int .i64 x.trace) := (hk.cell (p := ⟨b, o + j * 14, none⟩) hbl).trans f0; have hB3 := Lib.hid (hB.out.trans (hk.mono hB.out.size)); have hP3 := Lib.hid (blk_keep hk hP.out); clear hk))
                    go_quiet (fail)
                    have hB4 := Lib.hid (hB3.out.trans ((below_drewN0 w3 nq).mono hB3.out.size))
                    have hP4 := Lib.hid (blk_keep (below_drewN0 w3 nq) hP3.out)
                    go_wp2_with fail
                    exact ⟨⟨j + 1, by omega, by go_num, hz, hB4, hP4⟩, by simp [intOf]; omega⟩
                  · have ht2 : (x.trace != id) = true := by rw [bne_iff_ne]; exact hti
                    have hz : Hid (r = 17) := Lib.hid (by rw [hfin.out (by rw [hme.out, if_pos hti]; decide), hme.out, if_pos hti])
                    clear hti hfin hme hstep
                    go_wp2_with (first
                      | (go_at_call 26; (with_reducible refine hck.out.mono ?_); rintro e' w3 ⟨rfl, hk⟩; have y0 : w3.cell? ⟨w.heap.size, 0, none⟩ = some (.int .i64 id) := cell_blk (blk_keep hk hP.out) 0 rfl; have y3 : w3.cell? ⟨w.heap.size, 2, none⟩ = some (.slice (some ⟨b, o, none⟩) L.length t.c) := cell_blk (blk_keep hk hP.out) 2 rfl; have g0 : w3.cell? ⟨b, o + j * 14, none⟩ = some (.int .i64 x.trace) := (hk.cell (p := ⟨b, o + j * 14, none⟩) hbl).trans f0; have hB3 := Lib.hid (hB.out.trans (hk.mono hB.out.size)); clear hk))
                    go_quiet (fail)
                    have hB4 := Lib.hid (hB3.out.trans ((below_drewN0 w3 nq).mono hB3.out.size))
                    go_wp2_with fail
                    go_ret
                    exact ⟨by rw [hz.out]; rfl, hB4.out⟩
                · have he2 : (e != 0) = true := by rw [bne_iff_ne]; exact he
                  rw [if_pos (by simpa using he)] at hme
                  have hz : Hid (r = e) := Lib.hid (by rw [hfin.out (by rw [hme.out]; exact he), hme.out])
                  clear he hfin hme hstep
                  go_wp2_with (first
                    | (go_at_call 26; (with_reducible refine hck.out.mono ?_); rintro e' w3 ⟨rfl, hk⟩; have hB3 := Lib.hid (hB.out.trans (hk.mono hB.out.size)); clear hk))
                  go_ret
                  exact ⟨by rw [hz.out]; rfl, hB3.out⟩
              · obtain rfl : j = L.length := by omega
                have hlt2 : decide (L.length < L.length) = false := decide_eq_false hlt
                have hz : Hid (r = 0) := Lib.hid (hv2.out.trans (firstErr_none _ _ (fun m hm => hG.out m hm hm)))
                go_wp2_with fail
                go_ret
                exact ⟨by rw [hz.out]; rfl, hB.out⟩
end Go.Proofs.YtnddlpfmagdbfaaGreatDoor
/- The walk of the law SamplingChecks. -/
namespace Go.Proofs.YtnddlpfmagdbfaaGreatDoor
open Go Go.Ev Go.Proofs Go.RowKit
set_option linter.unusedVariables false
set_option linter.unusedSimpArgs false
theorem gl_tab {w : World} {ty : Nat → TypeId} (h : laidG w ty gl) : TabAt w := ⟨_, h (1, tabV.toList) (by
  have h2 : gl = [(1, tab64.map fun z => Value.int .u8 z)] := by kernel_rfl
  rw [h2]
  exact List.mem_cons_self)⟩
theorem known_at {w : World} {ty : Nat → TypeId} (h : laidG w ty gl) (W : World) (k : Below w.heap.size w W) : Calls Tryz.prog 8 #[] W fun e w' => e = .returned (.bool true) ∧ Below W.heap.size W w' := known_calls W ty (laidG_below2 h k)
theorem small3_any (p : PredD) (w : World) (h : PredTo 3 w p) : Calls Tryz.prog 9 #[.agg p.cells.toArray, .int .i64 3] w fun e w' => e = .returned (.bool (smallX 3 p)) ∧ Below w.heap.size w w' := small_any 3 p w h (by decide)
/-- What a policy's argument holds. -/
structure PolArg (w : World) (p : PolD) : Prop where
  at_ : RulesAt w p.A p.rules
  len : p.rules.length ≤ maxLen
  tree : ∀ q ∈ p.rules, PredTo 3 w q.p
/-- What a trace's argument holds. -/
structure TraceArg (w : World) (t : TraceD) : Prop where
  len : t.spans.length ≤ maxLen
  at_ : SpansIn w t.A t.spans
  held : ∀ x ∈ t.spans, x.Held w
  sound : ∀ x ∈ t.spans, x.Sound
  txt : ∀ x ∈ t.spans, x.Txt
set_option maxHeartbeats 8000000 in
set_option maxRecDepth 20000 in
theorem checks_walk (p : PolD) (t : TraceD) (s : Int) (w : World) (ty : Nat → TypeId) (hl : laidG w ty gl) (hp : PolArg w p) (ht : TraceArg w t) :
    Calls Tryz.prog 3 #[.agg p.cells.toArray, .agg t.cells.toArray, .int .i64 s] w fun e w' => e = .returned (.bool true) ∧ Below w.heap.size w w' := by
  have HL := Lib.hid hl
  have HP := Lib.hid hp
  have HT := Lib.hid ht
  have hm1 := hp.len
  have hm2 := ht.len
  unfold maxLen at hm1 hm2
  obtain ⟨A, c, rules, d⟩ := p
  have hm1 : rules.length ≤ 9223372036854775807 := hm1
  obtain ⟨W0, hW0⟩ : ∃ W0, W0 = (w.alloc (.cells (PolD.mk A c rules d).cells.toArray 24)).alloc (.cells t.cells.toArray 27) := ⟨_, rfl⟩
  have hB0 : Hid (Below w.heap.size w W0) := Lib.hid (by rw [hW0]; exact ((Below.refl _ w).alloc (Nat.le_refl _) _).alloc (by simp) _)
  have hpb : Hid (W0.heap[w.heap.size]? = some (.cells (PolD.mk A c rules d).cells.toArray 24 (0, 0))) := Lib.hid (by rw [hW0]; exact (Grew.alloc _ _).blk (blk_new _ _ _))
  have htb : Hid (W0.heap[w.heap.size + 1]? = some (.cells t.cells.toArray 27 (0, 0))) := Lib.hid (by rw [hW0]; exact blk_new' _ _ _ _ (by simp))
  clear hl hp ht
  unfold PolD.cells at hW0 hpb ⊢
  unfold TraceD.cells at hW0 htb ⊢
  go_enter Tryz.func3, Tryz.ntmps3
  go_wp2_with fail
  rw [← hW0]
  clear hW0
  (with_reducible refine (known_at HL.out _ hB0.out).mono ?_)
  rintro e w1 ⟨rfl, hb1⟩
  have hB1 := Lib.hid (hB0.out.trans (hb1.mono hB0.out.size))
  have hp1 := Lib.hid (blk_keep hb1 hpb.out)
  have ht1 := Lib.hid (blk_keep hb1 htb.out)
  clear hb1 hpb htb hB0
  have y0 : w1.cell? ⟨w.heap.size, 0, none⟩ = some (.slice A rules.length c) := cell_blk hp1.out 0 rfl
  have y2 : w1.cell? ⟨w.heap.size + 1, 2, none⟩ = some (.slice t.A t.spans.length t.c) := cell_blk ht1.out 2 rfl
  by_cases h20 : 20 < rules.length
  · have d20 : decide ((20 : Int) < (rules.length : Int)) = true := decide_eq_true (by omega)
    go_wp2_with fail
    (with_reducible refine (known_at HL.out _ hB1.out).mono ?_)
    rintro e w2 ⟨rfl, hb2⟩
    have hB2 := Lib.hid (hB1.out.trans (hb2.mono hB1.out.size))
    go_wp2_with fail
    go_ret
    exact ⟨rfl, hB2.out⟩
  · have d20 : decide ((20 : Int) < (rules.length : Int)) = false := decide_eq_false (by omega)
    by_cases h4 : 4 < t.spans.length
    · have d4 : decide ((4 : Int) < (t.spans.length : Int)) = true := decide_eq_true (by omega)
      go_wp2_with fail
      (with_reducible refine (known_at HL.out _ hB1.out).mono ?_)
      rintro e w2 ⟨rfl, hb2⟩
      have hB2 := Lib.hid (hB1.out.trans (hb2.mono hB1.out.size))
      go_wp2_with fail
      go_ret
      exact ⟨rfl, hB2.out⟩
    · have d4 : decide ((4 : Int) < (t.spans.length : Int)) = false := decide_eq_false (by omega)
      have HLies : Hid ((∀ (m : Nat) (h : m < rules.length), smallX 3 rules[m].p = true) → (PolD.mk A c rules d).Lies 3 w ∧ ∀ q ∈ rules, PredStr 3 q.p) := Lib.hid fun hs => by
        have h1 : ∀ q ∈ rules, PredLie 3 w q.p ∧ PredStr 3 q.p := fun q hq => by
          obtain ⟨m, hm, rfl⟩ := List.mem_iff_getElem.1 hq
          exact small_lie (HP.out.tree _ hq) (hs m hm)
        exact ⟨⟨HP.out.at_, by show rules.length ≤ _; omega, fun q hq => (h1 q hq).1⟩, fun q hq => (h1 q hq).2⟩
      have HTL : Hid (t.Lies w) := Lib.hid ⟨by omega, HT.out.at_, HT.out.held, HT.out.sound, HT.out.txt⟩
      go_wp2_with fail
      go_loopw [7] (fun i wr => ∃ j : Nat, j ≤ rules.length ∧ i = .int .i64 (j : Int) ∧ Hid (∀ m (hm : m < j) (h : m < rules.length), smallX 3 rules[m].p = true) ∧ Hid (Below w.heap.size w wr) ∧ Hid (wr.heap[w.heap.size]? = some (.cells #[.slice A rules.length c, .int .i64 d] 24 (0, 0))) ∧ Hid (wr.heap[w.heap.size + 1]? = some (.cells #[.int .i64 t.id, .int .i64 t.weight, .slice t.A t.spans.length t.c] 27 (0, 0)))) (fun i _ => rules.length - (intOf i).toNat)
      case atStart => exact ⟨0, by omega, rfl, Lib.hid (fun m hm => by omega), hB1, hp1, ht1⟩
      case round =>
        clear hB1 hp1 ht1 y0 y2
        obtain ⟨j, hj, rfl, hG, hB, hpb, htb⟩ := hrel
        have y0 : wr.cell? ⟨w.heap.size, 0, none⟩ = some (.slice A rules.length c) := cell_blk hpb.out 0 rfl
        by_cases hlt : j < rules.length
        · have hlt2 : decide (j < rules.length) = true := decide_eq_true hlt
          obtain ⟨b, o, hA, hcs⟩ := rule_cells (HP.out.at_.below hB.out) hlt
          have hn := HP.out.tree _ (List.getElem_mem hlt)
          have hc := Lib.hid (small3_any rules[j].p wr (hn.below hB.out))
          have hstep := Lib.hid (fun (h : smallX 3 rules[j].p = true) m (hm : m < j + 1) (h' : m < rules.length) => (by
            by_cases e : m = j
            · subst e; exact h
            · exact hG.out m (by omega) h' : smallX 3 rules[m].p = true))
          simp only at hA
          subst hA
          generalize rules[j] = q at *
          clear hn
          have f0 : wr.cell? ⟨b, o + j * 8, none⟩ = some (.int .i64 q.p.t.op) := hcs 0 _ rfl
          have f1 : wr.cell? ⟨b, o + j * 8 + 1, none⟩ = some (.string q.p.t.field) := hcs 1 _ rfl
          have f2 : wr.cell? ⟨b, o + j * 8 + 2, none⟩ = some (.string q.p.t.key) := hcs 2 _ rfl
          have f3 : wr.cell? ⟨b, o + j * 8 + 3, none⟩ = some (.int .i64 q.p.t.kind) := hcs 3 _ rfl
          have f4 : wr.cell? ⟨b, o + j * 8 + 4, none⟩ = some (.string q.p.t.text) := hcs 4 _ rfl
          have f5 : wr.cell? ⟨b, o + j * 8 + 5, none⟩ = some (.int .i64 q.p.t.num) := hcs 5 _ rfl
          have f6 : wr.cell? ⟨b, o + j * 8 + 6, none⟩ = some (.slice q.p.A q.p.args.length q.p.c) := hcs 6 _ rfl
          clear hcs
          unfold PredD.cells at hc
          cases hs : smallX 3 q.p with
          | true =>
            rw [hs] at hc
            have hst := Lib.hid (hstep.out hs)
            clear hstep hs
            go_wp2_with (first
              | (go_at_call 9; (with_reducible refine hc.out.mono ?_); rintro e w3 ⟨rfl, k3⟩; have b3 := Lib.hid (hB.out.trans (k3.mono hB.out.size)); have P3 := Lib.hid (blk_keep k3 hpb.out); have T3 := Lib.hid (blk_keep k3 htb.out); clear k3))
            exact ⟨⟨j + 1, by omega, by go_num, hst, b3, P3, T3⟩, by simp [intOf]; omega⟩
          | false =>
            rw [hs] at hc
            clear hstep hs
            go_wp2_with (first
              | (go_at_call 9; (with_reducible refine hc.out.mono ?_); rintro e w3 ⟨rfl, k3⟩; have b3 := Lib.hid (hB.out.trans (k3.mono hB.out.size)); clear k3))
            go_ret
            exact ⟨rfl, b3.out⟩
        · obtain rfl : j = rules.length := by omega
          have hlt2 : decide (rules.length < rules.length) = false := decide_eq_false hlt
          obtain ⟨hpl, hstr⟩ := HLies.out (fun m hm => hG.out m hm hm)
          have HPL := Lib.hid hpl
          have HSTR := Lib.hid hstr
          clear hpl hstr HLies HP hG HT
          have hck := Lib.hid (fun W (h : Below w.heap.size w W) => lawCheck_any 3 ⟨A, c, rules, d⟩ W (HPL.out.below h) HSTR.out)
          have htk := Lib.hid (fun W (h : Below w.heap.size w W) => lawTrace_any t W (HTL.out.below h))
          have hex := Lib.hid (fun W (h : Below w.heap.size w W) => exponent_any 3 ⟨A, c, rules, d⟩ t W (HPL.out.below h) HSTR.out (HTL.out.below h))
          have hpc := Lib.hid (fun W (h : Below w.heap.size w W) => polCheck_any 3 ⟨A, c, rules, d⟩ W (HPL.out.below h) HSTR.out)
          have htc := Lib.hid (fun W (h : Below w.heap.size w W) => traceCheck_any t W (HTL.out.below h))
          have hgv := Lib.hid (fun (h1 : polErr 3 ⟨A, c, rules, d⟩ = 0) (h2 : traceErr t = 0) W (h : Below w.heap.size w W) => gives_any 3 ⟨A, c, rules, d⟩ t W ((HPL.out.held_ok h1).below h) ((HTL.out.held_ok h2).below h))
          have hsm := Lib.hid (fun W (h : Below w.heap.size w W) A' c' (hA' : TracesIn W A' [t]) => sample_any 3 ⟨A, c, rules, d⟩ s A' c' [t] W (HPL.out.below h) HSTR.out hA' (fun t' ht' => by obtain rfl := List.mem_singleton.1 ht'; exact ⟨HTL.out.below h, by omega⟩) (by simp) ((gl_tab HL.out).below h))
          have hsx : Hid (sampleErr 3 ⟨A, c, rules, d⟩ s [t] = if polErr 3 ⟨A, c, rules, d⟩ ≠ 0 then polErr 3 ⟨A, c, rules, d⟩ else if s < 0 ∨ 1024 ≤ s then 2 else traceErr t) := Lib.hid (by
            unfold sampleErr
            congr 1
            congr 1
            simp [firstErr]
            exact fun h => h.symm)
          unfold exponentX at hex
          generalize polErr 3 ⟨A, c, rules, d⟩ = e1 at *
          generalize traceErr t = e2 at *
          generalize givenX 3 ⟨A, c, rules, d⟩ t = g at *
          unfold PolD.cells at hck hex hpc hgv hsm
          unfold TraceD.cells at htk hex htc hgv
          go_wp2_with fail
          refine wp_region_quiet (C := fun W => Below wr.heap.size wr W) (by kernel_rfl) (by kernel_rfl) (below_drew _) ?_
          refine wpQuiet_step (fun K hK => ?_)
          refine quiet_load rfl 24 (.tmp 3) rfl w.heap.size 0 rfl [.slice A rules.length c, .int .i64 d] _ (fun W hW' => rangeAt_blk (blk_keep hW' hpb.out)) Tryz.underlying24 rfl (by kernel_rfl) (hK _ ?_)
          clear hK K
          refine wpQuiet_step (fun K hK => ?_)
          go_simp
          (refine ⟨_, fun W' hW' => (hck.out W' (hB.out.trans (hW'.mono hB.out.size))).mono (fun e w' h => ⟨h.1, hW'.trans (h.2.mono hW'.size)⟩), hK _ ?_⟩; clear hK K)
          refine wpQuiet_step (fun K hK => ?_)
          refine quiet_load rfl 27 (.tmp 4) rfl (w.heap.size + 1) 0 rfl [.int .i64 t.id, .int .i64 t.weight, .slice t.A t.spans.length t.c] _ (fun W hW' => rangeAt_blk (blk_keep hW' htb.out)) Tryz.underlying27 rfl (by kernel_rfl) (hK _ ?_)
          clear hK K
          refine wpQuiet_step (fun K hK => ?_)
          go_simp
          (refine ⟨_, fun W' hW' => (htk.out W' (hB.out.trans (hW'.mono hB.out.size))).mono (fun e w' h => ⟨h.1, hW'.trans (h.2.mono hW'.size)⟩), hK _ ?_⟩; clear hK K)
          iterate 2
            refine wpQuiet_step (fun K hK => ?_)
            go_simp
            (refine ⟨_, fun _ _ => rfl, hK _ ?_⟩; clear hK K)
          refine wpQuiet_nil ?_
          intro w2 hw2
          have hB2 := Lib.hid (hB.out.trans (hw2.mono hB.out.size))
          have hp2 := Lib.hid (blk_keep hw2 hpb.out)
          have ht2 := Lib.hid (blk_keep hw2 htb.out)
          clear hw2 hB hpb htb hck htk
          have y0 : w2.cell? ⟨w.heap.size, 0, none⟩ = some (.slice A rules.length c) := cell_blk hp2.out 0 rfl
          have y1 : w2.cell? ⟨w.heap.size, 1, none⟩ = some (.int .i64 d) := cell_blk hp2.out 1 rfl
          have z0 : w2.cell? ⟨w.heap.size + 1, 0, none⟩ = some (.int .i64 t.id) := cell_blk ht2.out 0 rfl
          have z1 : w2.cell? ⟨w.heap.size + 1, 1, none⟩ = some (.int .i64 t.weight) := cell_blk ht2.out 1 rfl
          have z2 : w2.cell? ⟨w.heap.size + 1, 2, none⟩ = some (.slice t.A t.spans.length t.c) := cell_blk ht2.out 2 rfl
          go_wp2_with fail
          by_cases h1 : e1 = 0
          · have d1 : (e1 == 0) = true := by rw [h1]; rfl
            rw [if_neg (by simpa using h1)] at hsx
            simp only [if_neg (show ¬ (e1 ≠ 0) by simpa using h1)] at hex
            subst h1
            by_cases h2 : e2 = 0
            · simp only [if_neg (show ¬ (e2 ≠ 0) by simpa using h2)] at hex
              subst h2
              have hgv2 := Lib.hid (hgv.out rfl rfl)
              clear hgv
              by_cases hsb : s < 0 ∨ 1024 ≤ s
              · rw [if_pos hsb] at hsx
                have hF := hsx
                have hF0 : Hid ((2 : Int) ≠ 0) := Lib.hid (by decide)
                clear hsx
                rcases hsb with hs0 | hs0
                · have k1 : decide (s < 0) = true := decide_eq_true hs0
                  (with_reducible refine (hex.out _ hB2.out).mono ?_)
                  rintro e w3 ⟨rfl, hb3⟩
                  have hB3 := Lib.hid (hB2.out.trans (hb3.mono hB2.out.size))
                  have hp3 := Lib.hid (blk_keep hb3 hp2.out)
                  have ht3 := Lib.hid (blk_keep hb3 ht2.out)
                  clear hb3 y0 y1 z0 z1 z2 hp2 ht2
                  have y0 : w3.cell? ⟨w.heap.size, 0, none⟩ = some (.slice A rules.length c) := cell_blk hp3.out 0 rfl
                  have y1 : w3.cell? ⟨w.heap.size, 1, none⟩ = some (.int .i64 d) := cell_blk hp3.out 1 rfl
                  have z0 : w3.cell? ⟨w.heap.size + 1, 0, none⟩ = some (.int .i64 t.id) := cell_blk ht3.out 0 rfl
                  have z1 : w3.cell? ⟨w.heap.size + 1, 1, none⟩ = some (.int .i64 t.weight) := cell_blk ht3.out 1 rfl
                  have z2 : w3.cell? ⟨w.heap.size + 1, 2, none⟩ = some (.slice t.A t.spans.length t.c) := cell_blk ht3.out 2 rfl
                  have hB4 := Lib.hid (hB3.out.alloc hB3.out.size (.cells #[.int .i64 t.id, .int .i64 t.weight, .slice t.A t.spans.length t.c] 27))
                  have htr : Hid (TracesIn (w3.alloc (.cells #[.int .i64 t.id, .int .i64 t.weight, .slice t.A t.spans.length t.c] 27)) (some ⟨w3.heap.size, 0, none⟩) [t]) := Lib.hid (fun j hj => by
                    obtain rfl : j = 0 := by simpa using hj
                    exact ⟨w3.heap.size, 0, rfl, rangeAt_blk (cs := t.cells) (blk_new _ _ _)⟩)
                  go_wp2_with fail
                  refine (hsm.out _ hB4.out _ _ htr.out).mono ?_
                  rintro e w5 ⟨hbad, hgood, hb5⟩
                  have hB5 := Lib.hid (hB4.out.trans (hb5.mono hB4.out.size))
                  have hp5 := Lib.hid (blk_keep hb5 (blk_keep (below_alloc _ _) hp3.out))
                  have ht5 := Lib.hid (blk_keep hb5 (blk_keep (below_alloc _ _) ht3.out))
                  clear y0 y1 z0 z1 z2 hp3 ht3 hb5
                  have y0 : w5.cell? ⟨w.heap.size, 0, none⟩ = some (.slice A rules.length c) := cell_blk hp5.out 0 rfl
                  have y1 : w5.cell? ⟨w.heap.size, 1, none⟩ = some (.int .i64 d) := cell_blk hp5.out 1 rfl
                  obtain rfl := hbad (by rw [hF.out]; exact hF0.out)
                  rw [hF.out]
                  clear hbad hgood
                  go_wp2_with fail
                  (with_reducible refine (hpc.out _ hB5.out).mono ?_)
                  rintro e w6 ⟨rfl, hb6⟩
                  have hB6 := Lib.hid (hB5.out.trans (hb6.mono hB5.out.size))
                  have hp6 := Lib.hid (blk_keep hb6 hp5.out)
                  have ht6 := Lib.hid (blk_keep hb6 ht5.out)
                  clear y0 y1 hp5 ht5 hb6
                  have z0 : w6.cell? ⟨w.heap.size + 1, 0, none⟩ = some (.int .i64 t.id) := cell_blk ht6.out 0 rfl
                  have z1 : w6.cell? ⟨w.heap.size + 1, 1, none⟩ = some (.int .i64 t.weight) := cell_blk ht6.out 1 rfl
                  have z2 : w6.cell? ⟨w.heap.size + 1, 2, none⟩ = some (.slice t.A t.spans.length t.c) := cell_blk ht6.out 2 rfl
                  go_wp2_with fail
                  (with_reducible refine (htc.out _ hB6.out).mono ?_)
                  rintro e w7 ⟨rfl, hb7⟩
                  have hB7 := Lib.hid (hB6.out.trans (hb7.mono hB6.out.size))
                  have hp7 := Lib.hid (blk_keep hb7 hp6.out)
                  have ht7 := Lib.hid (blk_keep hb7 ht6.out)
                  clear z0 z1 z2 hp6 ht6 hb7
                  have y0 : w7.cell? ⟨w.heap.size, 0, none⟩ = some (.slice A rules.length c) := cell_blk hp7.out 0 rfl
                  have y1 : w7.cell? ⟨w.heap.size, 1, none⟩ = some (.int .i64 d) := cell_blk hp7.out 1 rfl
                  have z0 : w7.cell? ⟨w.heap.size + 1, 0, none⟩ = some (.int .i64 t.id) := cell_blk ht7.out 0 rfl
                  have z1 : w7.cell? ⟨w.heap.size + 1, 1, none⟩ = some (.int .i64 t.weight) := cell_blk ht7.out 1 rfl
                  have z2 : w7.cell? ⟨w.heap.size + 1, 2, none⟩ = some (.slice t.A t.spans.length t.c) := cell_blk ht7.out 2 rfl
                  go_wp2_with fail
                  (with_reducible refine (hgv2.out _ hB7.out).mono ?_)
                  rintro e w8 ⟨rfl, hb8⟩
                  have hB8 := Lib.hid (hB7.out.trans (hb8.mono hB7.out.size))
                  go_wp2_with fail
                  go_ret
                  exact ⟨rfl, hB8.out⟩
                · have k1 : decide (s < 0) = false := decide_eq_false (by omega)
                  have k2 : decide (1023 < s) = true := decide_eq_true (by omega)
                  (with_reducible refine (hex.out _ hB2.out).mono ?_)
                  rintro e w3 ⟨rfl, hb3⟩
                  have hB3 := Lib.hid (hB2.out.trans (hb3.mono hB2.out.size))
                  have hp3 := Lib.hid (blk_keep hb3 hp2.out)
                  have ht3 := Lib.hid (blk_keep hb3 ht2.out)
                  clear hb3 y0 y1 z0 z1 z2 hp2 ht2
                  have y0 : w3.cell? ⟨w.heap.size, 0, none⟩ = some (.slice A rules.length c) := cell_blk hp3.out 0 rfl
                  have y1 : w3.cell? ⟨w.heap.size, 1, none⟩ = some (.int .i64 d) := cell_blk hp3.out 1 rfl
                  have z0 : w3.cell? ⟨w.heap.size + 1, 0, none⟩ = some (.int .i64 t.id) := cell_blk ht3.out 0 rfl
                  have z1 : w3.cell? ⟨w.heap.size + 1, 1, none⟩ = some (.int .i64 t.weight) := cell_blk ht3.out 1 rfl
                  have z2 : w3.cell? ⟨w.heap.size + 1, 2, none⟩ = some (.slice t.A t.spans.length t.c) := cell_blk ht3.out 2 rfl
                  have hB4 := Lib.hid (hB3.out.alloc hB3.out.size (.cells #[.int .i64 t.id, .int .i64 t.weight, .slice t.A t.spans.length t.c] 27))
                  have htr : Hid (TracesIn (w3.alloc (.cells #[.int .i64 t.id, .int .i64 t.weight, .slice t.A t.spans.length t.c] 27)) (some ⟨w3.heap.size, 0, none⟩) [t]) := Lib.hid (fun j hj => by
                    obtain rfl : j = 0 := by simpa using hj
                    exact ⟨w3.heap.size, 0, rfl, rangeAt_blk (cs := t.cells) (blk_new _ _ _)⟩)
                  go_wp2_with fail
                  refine (hsm.out _ hB4.out _ _ htr.out).mono ?_
                  rintro e w5 ⟨hbad, hgood, hb5⟩
                  have hB5 := Lib.hid (hB4.out.trans (hb5.mono hB4.out.size))
                  have hp5 := Lib.hid (blk_keep hb5 (blk_keep (below_alloc _ _) hp3.out))
                  have ht5 := Lib.hid (blk_keep hb5 (blk_keep (below_alloc _ _) ht3.out))
                  clear y0 y1 z0 z1 z2 hp3 ht3 hb5
                  have y0 : w5.cell? ⟨w.heap.size, 0, none⟩ = some (.slice A rules.length c) := cell_blk hp5.out 0 rfl
                  have y1 : w5.cell? ⟨w.heap.size, 1, none⟩ = some (.int .i64 d) := cell_blk hp5.out 1 rfl
                  obtain rfl := hbad (by rw [hF.out]; exact hF0.out)
                  rw [hF.out]
                  clear hbad hgood
                  go_wp2_with fail
                  (with_reducible refine (hpc.out _ hB5.out).mono ?_)
                  rintro e w6 ⟨rfl, hb6⟩
                  have hB6 := Lib.hid (hB5.out.trans (hb6.mono hB5.out.size))
                  have hp6 := Lib.hid (blk_keep hb6 hp5.out)
                  have ht6 := Lib.hid (blk_keep hb6 ht5.out)
                  clear y0 y1 hp5 ht5 hb6
                  have z0 : w6.cell? ⟨w.heap.size + 1, 0, none⟩ = some (.int .i64 t.id) := cell_blk ht6.out 0 rfl
                  have z1 : w6.cell? ⟨w.heap.size + 1, 1, none⟩ = some (.int .i64 t.weight) := cell_blk ht6.out 1 rfl
                  have z2 : w6.cell? ⟨w.heap.size + 1, 2, none⟩ = some (.slice t.A t.spans.length t.c) := cell_blk ht6.out 2 rfl
                  go_wp2_with fail
                  (with_reducible refine (htc.out _ hB6.out).mono ?_)
                  rintro e w7 ⟨rfl, hb7⟩
                  have hB7 := Lib.hid (hB6.out.trans (hb7.mono hB6.out.size))
                  have hp7 := Lib.hid (blk_keep hb7 hp6.out)
                  have ht7 := Lib.hid (blk_keep hb7 ht6.out)
                  clear z0 z1 z2 hp6 ht6 hb7
                  have y0 : w7.cell? ⟨w.heap.size, 0, none⟩ = some (.slice A rules.length c) := cell_blk hp7.out 0 rfl
                  have y1 : w7.cell? ⟨w.heap.size, 1, none⟩ = some (.int .i64 d) := cell_blk hp7.out 1 rfl
                  have z0 : w7.cell? ⟨w.heap.size + 1, 0, none⟩ = some (.int .i64 t.id) := cell_blk ht7.out 0 rfl
                  have z1 : w7.cell? ⟨w.heap.size + 1, 1, none⟩ = some (.int .i64 t.weight) := cell_blk ht7.out 1 rfl
                  have z2 : w7.cell? ⟨w.heap.size + 1, 2, none⟩ = some (.slice t.A t.spans.length t.c) := cell_blk ht7.out 2 rfl
                  go_wp2_with fail
                  (with_reducible refine (hgv2.out _ hB7.out).mono ?_)
                  rintro e w8 ⟨rfl, hb8⟩
                  have hB8 := Lib.hid (hB7.out.trans (hb8.mono hB7.out.size))
                  go_wp2_with fail
                  go_ret
                  exact ⟨rfl, hB8.out⟩
              · rw [if_neg hsb] at hsx
                have hF := hsx
                have k1 : decide (s < 0) = false := decide_eq_false (by omega)
                have k2 : decide (1023 < s) = false := decide_eq_false (by omega)
                clear hsx hsb
                (with_reducible refine (hex.out _ hB2.out).mono ?_)
                rintro e w3 ⟨rfl, hb3⟩
                have hB3 := Lib.hid (hB2.out.trans (hb3.mono hB2.out.size))
                have hp3 := Lib.hid (blk_keep hb3 hp2.out)
                have ht3 := Lib.hid (blk_keep hb3 ht2.out)
                clear hb3 y0 y1 z0 z1 z2 hp2 ht2
                have y0 : w3.cell? ⟨w.heap.size, 0, none⟩ = some (.slice A rules.length c) := cell_blk hp3.out 0 rfl
                have y1 : w3.cell? ⟨w.heap.size, 1, none⟩ = some (.int .i64 d) := cell_blk hp3.out 1 rfl
                have z0 : w3.cell? ⟨w.heap.size + 1, 0, none⟩ = some (.int .i64 t.id) := cell_blk ht3.out 0 rfl
                have z1 : w3.cell? ⟨w.heap.size + 1, 1, none⟩ = some (.int .i64 t.weight) := cell_blk ht3.out 1 rfl
                have z2 : w3.cell? ⟨w.heap.size + 1, 2, none⟩ = some (.slice t.A t.spans.length t.c) := cell_blk ht3.out 2 rfl
                have hB4 := Lib.hid (hB3.out.alloc hB3.out.size (.cells #[.int .i64 t.id, .int .i64 t.weight, .slice t.A t.spans.length t.c] 27))
                have htr : Hid (TracesIn (w3.alloc (.cells #[.int .i64 t.id, .int .i64 t.weight, .slice t.A t.spans.length t.c] 27)) (some ⟨w3.heap.size, 0, none⟩) [t]) := Lib.hid (fun j hj => by
                  obtain rfl : j = 0 := by simpa using hj
                  exact ⟨w3.heap.size, 0, rfl, rangeAt_blk (cs := t.cells) (blk_new _ _ _)⟩)
                go_wp2_with fail
                refine (hsm.out _ hB4.out _ _ htr.out).mono ?_
                rintro e w5 ⟨hbad, hgood, hb5⟩
                have hB5 := Lib.hid (hB4.out.trans (hb5.mono hB4.out.size))
                have hp5 := Lib.hid (blk_keep hb5 (blk_keep (below_alloc _ _) hp3.out))
                have ht5 := Lib.hid (blk_keep hb5 (blk_keep (below_alloc _ _) ht3.out))
                clear y0 y1 z0 z1 z2 hp3 ht3 hb5
                have y0 : w5.cell? ⟨w.heap.size, 0, none⟩ = some (.slice A rules.length c) := cell_blk hp5.out 0 rfl
                have y1 : w5.cell? ⟨w.heap.size, 1, none⟩ = some (.int .i64 d) := cell_blk hp5.out 1 rfl
                obtain ⟨v, u, M, N, rfl, hTwo, hM, hN⟩ := hgood hF.out
                clear hbad hgood
                obtain ⟨A1, c1, rfl, _, _, _⟩ := hTwo.slice
                obtain ⟨A2, c2, rfl, _, _, _⟩ := hTwo.swap.slice
                have hlen : M.length + N.length = 1 := by
                  have h1 := congrArg List.length hM
                  have h2 := congrArg List.length hN
                  unfold keptX at h1
                  unfold goneX at h2
                  simp only [List.length_map] at h1 h2
                  rw [h1, h2]
                  by_cases hk : keepB 3 ⟨A, c, rules, d⟩ s t = true
                  · rw [List.filter_cons_of_pos hk, List.filter_cons_of_neg (by simp [hk])]; rfl
                  · rw [List.filter_cons_of_neg hk, List.filter_cons_of_pos (by simp [hk])]; rfl
                clear hTwo hM hN
                have hsum : (IntKind.i64.wrap ((M.length : Int) + (N.length : Int))) = 1 := by rw [show (M.length : Int) + (N.length : Int) = 1 by omega]; rfl
                have hHl := Lib.hid hlen
                clear hlen
                go_wp2_with fail
                (with_reducible refine (hpc.out _ hB5.out).mono ?_)
                rintro e w6 ⟨rfl, hb6⟩
                have hB6 := Lib.hid (hB5.out.trans (hb6.mono hB5.out.size))
                have hp6 := Lib.hid (blk_keep hb6 hp5.out)
                have ht6 := Lib.hid (blk_keep hb6 ht5.out)
                clear y0 y1 hp5 ht5 hb6
                have z0 : w6.cell? ⟨w.heap.size + 1, 0, none⟩ = some (.int .i64 t.id) := cell_blk ht6.out 0 rfl
                have z1 : w6.cell? ⟨w.heap.size + 1, 1, none⟩ = some (.int .i64 t.weight) := cell_blk ht6.out 1 rfl
                have z2 : w6.cell? ⟨w.heap.size + 1, 2, none⟩ = some (.slice t.A t.spans.length t.c) := cell_blk ht6.out 2 rfl
                go_wp2_with fail
                (with_reducible refine (htc.out _ hB6.out).mono ?_)
                rintro e w7 ⟨rfl, hb7⟩
                have hB7 := Lib.hid (hB6.out.trans (hb7.mono hB6.out.size))
                have hp7 := Lib.hid (blk_keep hb7 hp6.out)
                have ht7 := Lib.hid (blk_keep hb7 ht6.out)
                clear z0 z1 z2 hp6 ht6 hb7
                have y0 : w7.cell? ⟨w.heap.size, 0, none⟩ = some (.slice A rules.length c) := cell_blk hp7.out 0 rfl
                have y1 : w7.cell? ⟨w.heap.size, 1, none⟩ = some (.int .i64 d) := cell_blk hp7.out 1 rfl
                have z0 : w7.cell? ⟨w.heap.size + 1, 0, none⟩ = some (.int .i64 t.id) := cell_blk ht7.out 0 rfl
                have z1 : w7.cell? ⟨w.heap.size + 1, 1, none⟩ = some (.int .i64 t.weight) := cell_blk ht7.out 1 rfl
                have z2 : w7.cell? ⟨w.heap.size + 1, 2, none⟩ = some (.slice t.A t.spans.length t.c) := cell_blk ht7.out 2 rfl
                go_wp2_with fail
                (with_reducible refine (hgv2.out _ hB7.out).mono ?_)
                rintro e w8 ⟨rfl, hb8⟩
                have hB8 := Lib.hid (hB7.out.trans (hb8.mono hB7.out.size))
                go_wp2_with fail
                go_ret
                exact ⟨rfl, hB8.out⟩
            · simp only [if_pos (show e2 ≠ 0 from h2)] at hex
              have d2 : (e2 == 0) = false := by rw [beq_eq_false_iff_ne]; exact h2
              have d3 : (e2 != 0) = true := by rw [bne_iff_ne]; exact h2
              by_cases hsb : s < 0 ∨ 1024 ≤ s
              · rw [if_pos hsb] at hsx
                have hF := hsx
                have hF0 : Hid ((2 : Int) ≠ 0) := Lib.hid (by decide)
                clear hsx h2
                rcases hsb with hs0 | hs0
                · have k1 : decide (s < 0) = true := decide_eq_true hs0
                  (with_reducible refine (hex.out _ hB2.out).mono ?_)
                  rintro e w3 ⟨rfl, hb3⟩
                  have hB3 := Lib.hid (hB2.out.trans (hb3.mono hB2.out.size))
                  have hp3 := Lib.hid (blk_keep hb3 hp2.out)
                  have ht3 := Lib.hid (blk_keep hb3 ht2.out)
                  clear hb3 y0 y1 z0 z1 z2 hp2 ht2
                  have y0 : w3.cell? ⟨w.heap.size, 0, none⟩ = some (.slice A rules.length c) := cell_blk hp3.out 0 rfl
                  have y1 : w3.cell? ⟨w.heap.size, 1, none⟩ = some (.int .i64 d) := cell_blk hp3.out 1 rfl
                  have z0 : w3.cell? ⟨w.heap.size + 1, 0, none⟩ = some (.int .i64 t.id) := cell_blk ht3.out 0 rfl
                  have z1 : w3.cell? ⟨w.heap.size + 1, 1, none⟩ = some (.int .i64 t.weight) := cell_blk ht3.out 1 rfl
                  have z2 : w3.cell? ⟨w.heap.size + 1, 2, none⟩ = some (.slice t.A t.spans.length t.c) := cell_blk ht3.out 2 rfl
                  have hB4 := Lib.hid (hB3.out.alloc hB3.out.size (.cells #[.int .i64 t.id, .int .i64 t.weight, .slice t.A t.spans.length t.c] 27))
                  have htr : Hid (TracesIn (w3.alloc (.cells #[.int .i64 t.id, .int .i64 t.weight, .slice t.A t.spans.length t.c] 27)) (some ⟨w3.heap.size, 0, none⟩) [t]) := Lib.hid (fun j hj => by
                    obtain rfl : j = 0 := by simpa using hj
                    exact ⟨w3.heap.size, 0, rfl, rangeAt_blk (cs := t.cells) (blk_new _ _ _)⟩)
                  go_wp2_with fail
                  refine (hsm.out _ hB4.out _ _ htr.out).mono ?_
                  rintro e w5 ⟨hbad, hgood, hb5⟩
                  have hB5 := Lib.hid (hB4.out.trans (hb5.mono hB4.out.size))
                  have hp5 := Lib.hid (blk_keep hb5 (blk_keep (below_alloc _ _) hp3.out))
                  have ht5 := Lib.hid (blk_keep hb5 (blk_keep (below_alloc _ _) ht3.out))
                  clear y0 y1 z0 z1 z2 hp3 ht3 hb5
                  have y0 : w5.cell? ⟨w.heap.size, 0, none⟩ = some (.slice A rules.length c) := cell_blk hp5.out 0 rfl
                  have y1 : w5.cell? ⟨w.heap.size, 1, none⟩ = some (.int .i64 d) := cell_blk hp5.out 1 rfl
                  obtain rfl := hbad (by rw [hF.out]; exact hF0.out)
                  rw [hF.out]
                  clear hbad hgood
                  go_wp2_with fail
                  (with_reducible refine (hpc.out _ hB5.out).mono ?_)
                  rintro e w6 ⟨rfl, hb6⟩
                  have hB6 := Lib.hid (hB5.out.trans (hb6.mono hB5.out.size))
                  have hp6 := Lib.hid (blk_keep hb6 hp5.out)
                  have ht6 := Lib.hid (blk_keep hb6 ht5.out)
                  clear y0 y1 hp5 ht5 hb6
                  have z0 : w6.cell? ⟨w.heap.size + 1, 0, none⟩ = some (.int .i64 t.id) := cell_blk ht6.out 0 rfl
                  have z1 : w6.cell? ⟨w.heap.size + 1, 1, none⟩ = some (.int .i64 t.weight) := cell_blk ht6.out 1 rfl
                  have z2 : w6.cell? ⟨w.heap.size + 1, 2, none⟩ = some (.slice t.A t.spans.length t.c) := cell_blk ht6.out 2 rfl
                  go_wp2_with fail
                  (with_reducible refine (htc.out _ hB6.out).mono ?_)
                  rintro e w7 ⟨rfl, hb7⟩
                  have hB7 := Lib.hid (hB6.out.trans (hb7.mono hB6.out.size))
                  have hp7 := Lib.hid (blk_keep hb7 hp6.out)
                  have ht7 := Lib.hid (blk_keep hb7 ht6.out)
                  clear z0 z1 z2 hp6 ht6 hb7
                  have y0 : w7.cell? ⟨w.heap.size, 0, none⟩ = some (.slice A rules.length c) := cell_blk hp7.out 0 rfl
                  have y1 : w7.cell? ⟨w.heap.size, 1, none⟩ = some (.int .i64 d) := cell_blk hp7.out 1 rfl
                  have z0 : w7.cell? ⟨w.heap.size + 1, 0, none⟩ = some (.int .i64 t.id) := cell_blk ht7.out 0 rfl
                  have z1 : w7.cell? ⟨w.heap.size + 1, 1, none⟩ = some (.int .i64 t.weight) := cell_blk ht7.out 1 rfl
                  have z2 : w7.cell? ⟨w.heap.size + 1, 2, none⟩ = some (.slice t.A t.spans.length t.c) := cell_blk ht7.out 2 rfl
                  go_wp2_with fail
                  go_ret
                  exact ⟨rfl, hB7.out⟩
                · have k1 : decide (s < 0) = false := decide_eq_false (by omega)
                  have k2 : decide (1023 < s) = true := decide_eq_true (by omega)
                  (with_reducible refine (hex.out _ hB2.out).mono ?_)
                  rintro e w3 ⟨rfl, hb3⟩
                  have hB3 := Lib.hid (hB2.out.trans (hb3.mono hB2.out.size))
                  have hp3 := Lib.hid (blk_keep hb3 hp2.out)
                  have ht3 := Lib.hid (blk_keep hb3 ht2.out)
                  clear hb3 y0 y1 z0 z1 z2 hp2 ht2
                  have y0 : w3.cell? ⟨w.heap.size, 0, none⟩ = some (.slice A rules.length c) := cell_blk hp3.out 0 rfl
                  have y1 : w3.cell? ⟨w.heap.size, 1, none⟩ = some (.int .i64 d) := cell_blk hp3.out 1 rfl
                  have z0 : w3.cell? ⟨w.heap.size + 1, 0, none⟩ = some (.int .i64 t.id) := cell_blk ht3.out 0 rfl
                  have z1 : w3.cell? ⟨w.heap.size + 1, 1, none⟩ = some (.int .i64 t.weight) := cell_blk ht3.out 1 rfl
                  have z2 : w3.cell? ⟨w.heap.size + 1, 2, none⟩ = some (.slice t.A t.spans.length t.c) := cell_blk ht3.out 2 rfl
                  have hB4 := Lib.hid (hB3.out.alloc hB3.out.size (.cells #[.int .i64 t.id, .int .i64 t.weight, .slice t.A t.spans.length t.c] 27))
                  have htr : Hid (TracesIn (w3.alloc (.cells #[.int .i64 t.id, .int .i64 t.weight, .slice t.A t.spans.length t.c] 27)) (some ⟨w3.heap.size, 0, none⟩) [t]) := Lib.hid (fun j hj => by
                    obtain rfl : j = 0 := by simpa using hj
                    exact ⟨w3.heap.size, 0, rfl, rangeAt_blk (cs := t.cells) (blk_new _ _ _)⟩)
                  go_wp2_with fail
                  refine (hsm.out _ hB4.out _ _ htr.out).mono ?_
                  rintro e w5 ⟨hbad, hgood, hb5⟩
                  have hB5 := Lib.hid (hB4.out.trans (hb5.mono hB4.out.size))
                  have hp5 := Lib.hid (blk_keep hb5 (blk_keep (below_alloc _ _) hp3.out))
                  have ht5 := Lib.hid (blk_keep hb5 (blk_keep (below_alloc _ _) ht3.out))
                  clear y0 y1 z0 z1 z2 hp3 ht3 hb5
                  have y0 : w5.cell? ⟨w.heap.size, 0, none⟩ = some (.slice A rules.length c) := cell_blk hp5.out 0 rfl
                  have y1 : w5.cell? ⟨w.heap.size, 1, none⟩ = some (.int .i64 d) := cell_blk hp5.out 1 rfl
                  obtain rfl := hbad (by rw [hF.out]; exact hF0.out)
                  rw [hF.out]
                  clear hbad hgood
                  go_wp2_with fail
                  (with_reducible refine (hpc.out _ hB5.out).mono ?_)
                  rintro e w6 ⟨rfl, hb6⟩
                  have hB6 := Lib.hid (hB5.out.trans (hb6.mono hB5.out.size))
                  have hp6 := Lib.hid (blk_keep hb6 hp5.out)
                  have ht6 := Lib.hid (blk_keep hb6 ht5.out)
                  clear y0 y1 hp5 ht5 hb6
                  have z0 : w6.cell? ⟨w.heap.size + 1, 0, none⟩ = some (.int .i64 t.id) := cell_blk ht6.out 0 rfl
                  have z1 : w6.cell? ⟨w.heap.size + 1, 1, none⟩ = some (.int .i64 t.weight) := cell_blk ht6.out 1 rfl
                  have z2 : w6.cell? ⟨w.heap.size + 1, 2, none⟩ = some (.slice t.A t.spans.length t.c) := cell_blk ht6.out 2 rfl
                  go_wp2_with fail
                  (with_reducible refine (htc.out _ hB6.out).mono ?_)
                  rintro e w7 ⟨rfl, hb7⟩
                  have hB7 := Lib.hid (hB6.out.trans (hb7.mono hB6.out.size))
                  have hp7 := Lib.hid (blk_keep hb7 hp6.out)
                  have ht7 := Lib.hid (blk_keep hb7 ht6.out)
                  clear z0 z1 z2 hp6 ht6 hb7
                  have y0 : w7.cell? ⟨w.heap.size, 0, none⟩ = some (.slice A rules.length c) := cell_blk hp7.out 0 rfl
                  have y1 : w7.cell? ⟨w.heap.size, 1, none⟩ = some (.int .i64 d) := cell_blk hp7.out 1 rfl
                  have z0 : w7.cell? ⟨w.heap.size + 1, 0, none⟩ = some (.int .i64 t.id) := cell_blk ht7.out 0 rfl
                  have z1 : w7.cell? ⟨w.heap.size + 1, 1, none⟩ = some (.int .i64 t.weight) := cell_blk ht7.out 1 rfl
                  have z2 : w7.cell? ⟨w.heap.size + 1, 2, none⟩ = some (.slice t.A t.spans.length t.c) := cell_blk ht7.out 2 rfl
                  go_wp2_with fail
                  go_ret
                  exact ⟨rfl, hB7.out⟩
              · rw [if_neg hsb] at hsx
                have hF := hsx
                have hF0 : Hid (e2 ≠ 0) := Lib.hid h2
                have k1 : decide (s < 0) = false := decide_eq_false (by omega)
                have k2 : decide (1023 < s) = false := decide_eq_false (by omega)
                clear hsx hsb h2
                (with_reducible refine (hex.out _ hB2.out).mono ?_)
                rintro e w3 ⟨rfl, hb3⟩
                have hB3 := Lib.hid (hB2.out.trans (hb3.mono hB2.out.size))
                have hp3 := Lib.hid (blk_keep hb3 hp2.out)
                have ht3 := Lib.hid (blk_keep hb3 ht2.out)
                clear hb3 y0 y1 z0 z1 z2 hp2 ht2
                have y0 : w3.cell? ⟨w.heap.size, 0, none⟩ = some (.slice A rules.length c) := cell_blk hp3.out 0 rfl
                have y1 : w3.cell? ⟨w.heap.size, 1, none⟩ = some (.int .i64 d) := cell_blk hp3.out 1 rfl
                have z0 : w3.cell? ⟨w.heap.size + 1, 0, none⟩ = some (.int .i64 t.id) := cell_blk ht3.out 0 rfl
                have z1 : w3.cell? ⟨w.heap.size + 1, 1, none⟩ = some (.int .i64 t.weight) := cell_blk ht3.out 1 rfl
                have z2 : w3.cell? ⟨w.heap.size + 1, 2, none⟩ = some (.slice t.A t.spans.length t.c) := cell_blk ht3.out 2 rfl
                have hB4 := Lib.hid (hB3.out.alloc hB3.out.size (.cells #[.int .i64 t.id, .int .i64 t.weight, .slice t.A t.spans.length t.c] 27))
                have htr : Hid (TracesIn (w3.alloc (.cells #[.int .i64 t.id, .int .i64 t.weight, .slice t.A t.spans.length t.c] 27)) (some ⟨w3.heap.size, 0, none⟩) [t]) := Lib.hid (fun j hj => by
                  obtain rfl : j = 0 := by simpa using hj
                  exact ⟨w3.heap.size, 0, rfl, rangeAt_blk (cs := t.cells) (blk_new _ _ _)⟩)
                go_wp2_with fail
                refine (hsm.out _ hB4.out _ _ htr.out).mono ?_
                rintro e w5 ⟨hbad, hgood, hb5⟩
                have hB5 := Lib.hid (hB4.out.trans (hb5.mono hB4.out.size))
                have hp5 := Lib.hid (blk_keep hb5 (blk_keep (below_alloc _ _) hp3.out))
                have ht5 := Lib.hid (blk_keep hb5 (blk_keep (below_alloc _ _) ht3.out))
                clear y0 y1 z0 z1 z2 hp3 ht3 hb5
                have y0 : w5.cell? ⟨w.heap.size, 0, none⟩ = some (.slice A rules.length c) := cell_blk hp5.out 0 rfl
                have y1 : w5.cell? ⟨w.heap.size, 1, none⟩ = some (.int .i64 d) := cell_blk hp5.out 1 rfl
                obtain rfl := hbad (by rw [hF.out]; exact hF0.out)
                rw [hF.out]
                clear hbad hgood
                go_wp2_with fail
                (with_reducible refine (hpc.out _ hB5.out).mono ?_)
                rintro e w6 ⟨rfl, hb6⟩
                have hB6 := Lib.hid (hB5.out.trans (hb6.mono hB5.out.size))
                have hp6 := Lib.hid (blk_keep hb6 hp5.out)
                have ht6 := Lib.hid (blk_keep hb6 ht5.out)
                clear y0 y1 hp5 ht5 hb6
                have z0 : w6.cell? ⟨w.heap.size + 1, 0, none⟩ = some (.int .i64 t.id) := cell_blk ht6.out 0 rfl
                have z1 : w6.cell? ⟨w.heap.size + 1, 1, none⟩ = some (.int .i64 t.weight) := cell_blk ht6.out 1 rfl
                have z2 : w6.cell? ⟨w.heap.size + 1, 2, none⟩ = some (.slice t.A t.spans.length t.c) := cell_blk ht6.out 2 rfl
                go_wp2_with fail
                (with_reducible refine (htc.out _ hB6.out).mono ?_)
                rintro e w7 ⟨rfl, hb7⟩
                have hB7 := Lib.hid (hB6.out.trans (hb7.mono hB6.out.size))
                have hp7 := Lib.hid (blk_keep hb7 hp6.out)
                have ht7 := Lib.hid (blk_keep hb7 ht6.out)
                clear z0 z1 z2 hp6 ht6 hb7
                have y0 : w7.cell? ⟨w.heap.size, 0, none⟩ = some (.slice A rules.length c) := cell_blk hp7.out 0 rfl
                have y1 : w7.cell? ⟨w.heap.size, 1, none⟩ = some (.int .i64 d) := cell_blk hp7.out 1 rfl
                have z0 : w7.cell? ⟨w.heap.size + 1, 0, none⟩ = some (.int .i64 t.id) := cell_blk ht7.out 0 rfl
                have z1 : w7.cell? ⟨w.heap.size + 1, 1, none⟩ = some (.int .i64 t.weight) := cell_blk ht7.out 1 rfl
                have z2 : w7.cell? ⟨w.heap.size + 1, 2, none⟩ = some (.slice t.A t.spans.length t.c) := cell_blk ht7.out 2 rfl
                go_wp2_with fail
                go_ret
                exact ⟨rfl, hB7.out⟩
          · have d1 : (e1 == 0) = false := by rw [beq_eq_false_iff_ne]; exact h1
            have d2 : (e1 != 0) = true := by rw [bne_iff_ne]; exact h1
            rw [if_pos (by simpa using h1)] at hsx
            simp only [if_pos (show e1 ≠ 0 from h1)] at hex
            have hF := hsx
            have hF0 : Hid (e1 ≠ 0) := Lib.hid h1
            clear hsx h1
            (with_reducible refine (hex.out _ hB2.out).mono ?_)
            rintro e w3 ⟨rfl, hb3⟩
            have hB3 := Lib.hid (hB2.out.trans (hb3.mono hB2.out.size))
            have hp3 := Lib.hid (blk_keep hb3 hp2.out)
            have ht3 := Lib.hid (blk_keep hb3 ht2.out)
            clear hb3 y0 y1 z0 z1 z2 hp2 ht2
            have y0 : w3.cell? ⟨w.heap.size, 0, none⟩ = some (.slice A rules.length c) := cell_blk hp3.out 0 rfl
            have y1 : w3.cell? ⟨w.heap.size, 1, none⟩ = some (.int .i64 d) := cell_blk hp3.out 1 rfl
            have z0 : w3.cell? ⟨w.heap.size + 1, 0, none⟩ = some (.int .i64 t.id) := cell_blk ht3.out 0 rfl
            have z1 : w3.cell? ⟨w.heap.size + 1, 1, none⟩ = some (.int .i64 t.weight) := cell_blk ht3.out 1 rfl
            have z2 : w3.cell? ⟨w.heap.size + 1, 2, none⟩ = some (.slice t.A t.spans.length t.c) := cell_blk ht3.out 2 rfl
            have hB4 := Lib.hid (hB3.out.alloc hB3.out.size (.cells #[.int .i64 t.id, .int .i64 t.weight, .slice t.A t.spans.length t.c] 27))
            have htr : Hid (TracesIn (w3.alloc (.cells #[.int .i64 t.id, .int .i64 t.weight, .slice t.A t.spans.length t.c] 27)) (some ⟨w3.heap.size, 0, none⟩) [t]) := Lib.hid (fun j hj => by
              obtain rfl : j = 0 := by simpa using hj
              exact ⟨w3.heap.size, 0, rfl, rangeAt_blk (cs := t.cells) (blk_new _ _ _)⟩)
            go_wp2_with fail
            refine (hsm.out _ hB4.out _ _ htr.out).mono ?_
            rintro e w5 ⟨hbad, hgood, hb5⟩
            have hB5 := Lib.hid (hB4.out.trans (hb5.mono hB4.out.size))
            have hp5 := Lib.hid (blk_keep hb5 (blk_keep (below_alloc _ _) hp3.out))
            have ht5 := Lib.hid (blk_keep hb5 (blk_keep (below_alloc _ _) ht3.out))
            clear y0 y1 z0 z1 z2 hp3 ht3 hb5
            have y0 : w5.cell? ⟨w.heap.size, 0, none⟩ = some (.slice A rules.length c) := cell_blk hp5.out 0 rfl
            have y1 : w5.cell? ⟨w.heap.size, 1, none⟩ = some (.int .i64 d) := cell_blk hp5.out 1 rfl
            obtain rfl := hbad (by rw [hF.out]; exact hF0.out)
            rw [hF.out]
            clear hbad hgood
            go_wp2_with fail
            (with_reducible refine (hpc.out _ hB5.out).mono ?_)
            rintro e w6 ⟨rfl, hb6⟩
            have hB6 := Lib.hid (hB5.out.trans (hb6.mono hB5.out.size))
            have hp6 := Lib.hid (blk_keep hb6 hp5.out)
            have ht6 := Lib.hid (blk_keep hb6 ht5.out)
            clear y0 y1 hp5 ht5 hb6
            have z0 : w6.cell? ⟨w.heap.size + 1, 0, none⟩ = some (.int .i64 t.id) := cell_blk ht6.out 0 rfl
            have z1 : w6.cell? ⟨w.heap.size + 1, 1, none⟩ = some (.int .i64 t.weight) := cell_blk ht6.out 1 rfl
            have z2 : w6.cell? ⟨w.heap.size + 1, 2, none⟩ = some (.slice t.A t.spans.length t.c) := cell_blk ht6.out 2 rfl
            go_wp2_with fail
            (with_reducible refine (htc.out _ hB6.out).mono ?_)
            rintro e w7 ⟨rfl, hb7⟩
            have hB7 := Lib.hid (hB6.out.trans (hb7.mono hB6.out.size))
            have hp7 := Lib.hid (blk_keep hb7 hp6.out)
            have ht7 := Lib.hid (blk_keep hb7 ht6.out)
            clear z0 z1 z2 hp6 ht6 hb7
            have y0 : w7.cell? ⟨w.heap.size, 0, none⟩ = some (.slice A rules.length c) := cell_blk hp7.out 0 rfl
            have y1 : w7.cell? ⟨w.heap.size, 1, none⟩ = some (.int .i64 d) := cell_blk hp7.out 1 rfl
            have z0 : w7.cell? ⟨w.heap.size + 1, 0, none⟩ = some (.int .i64 t.id) := cell_blk ht7.out 0 rfl
            have z1 : w7.cell? ⟨w.heap.size + 1, 1, none⟩ = some (.int .i64 t.weight) := cell_blk ht7.out 1 rfl
            have z2 : w7.cell? ⟨w.heap.size + 1, 2, none⟩ = some (.slice t.A t.spans.length t.c) := cell_blk ht7.out 2 rfl
            go_wp2_with fail
            go_ret
            exact ⟨rfl, hB7.out⟩
end Go.Proofs.YtnddlpfmagdbfaaGreatDoor
/- A policy and a trace, opened out of their readings. -/
namespace Go.Proofs.YtnddlpfmagdbfaaGreatDoor
open Go Go.Ev Go.Proofs Go.RowKit Go.ChangeShapes Go.WideShapes Go.Deep
set_option linter.unusedVariables false
set_option linter.unusedSimpArgs false
theorem list_2 {α : Type} : ∀ {l : List α}, l.length = 2 → ∃ a0 a1, l = [a0, a1]
  | [a0, a1], _ => ⟨a0, a1, rfl⟩
theorem list_3 {α : Type} : ∀ {l : List α}, l.length = 3 → ∃ a0 a1 a2, l = [a0, a1, a2]
  | [a0, a1, a2], _ => ⟨a0, a1, a2, rfl⟩
theorem list_4 {α : Type} : ∀ {l : List α}, l.length = 4 → ∃ a0 a1 a2 a3, l = [a0, a1, a2, a3]
  | [a0, a1, a2, a3], _ => ⟨a0, a1, a2, a3, rfl⟩
theorem list_5 {α : Type} : ∀ {l : List α}, l.length = 5 → ∃ a0 a1 a2 a3 a4, l = [a0, a1, a2, a3, a4]
  | [a0, a1, a2, a3, a4], _ => ⟨a0, a1, a2, a3, a4, rfl⟩
theorem list_7 {α : Type} : ∀ {l : List α}, l.length = 7 → ∃ a0 a1 a2 a3 a4 a5 a6, l = [a0, a1, a2, a3, a4, a5, a6]
  | [a0, a1, a2, a3, a4, a5, a6], _ => ⟨a0, a1, a2, a3, a4, a5, a6, rfl⟩
theorem list_8 {α : Type} : ∀ {l : List α}, l.length = 8 → ∃ a0 a1 a2 a3 a4 a5 a6 a7, l = [a0, a1, a2, a3, a4, a5, a6, a7]
  | [a0, a1, a2, a3, a4, a5, a6, a7], _ => ⟨a0, a1, a2, a3, a4, a5, a6, a7, rfl⟩
theorem list_14 {α : Type} : ∀ {l : List α}, l.length = 14 → ∃ a0 a1 a2 a3 a4 a5 a6 a7 a8 a9 a10 a11 a12 a13, l = [a0, a1, a2, a3, a4, a5, a6, a7, a8, a9, a10, a11, a12, a13]
  | [a0, a1, a2, a3, a4, a5, a6, a7, a8, a9, a10, a11, a12, a13], _ => ⟨a0, a1, a2, a3, a4, a5, a6, a7, a8, a9, a10, a11, a12, a13, rfl⟩
theorem max63 {n : Nat} (h : n ≤ maxLen) : n ≤ 9223372036854775807 := h
section
variable {H : Type} {enc : TypeId × Value → H} {w : World} {base : Nat} {spare : Nat → Bool} {held : Bool}
/-- A slice of structs, opened: each element by its cells. -/
theorem open_row {α : Type} [Inhabited α] {t e : TypeId} {k : Nat} (hk : 0 < k) (ht : Tryz.prog.underlying t = some (.slice e)) (hc : Tryz.prog.cellsOf e = k) (cells : α → List Value) (good : α → Prop) (hl : ∀ x, (cells x).length = k)
    (hopen : ∀ {fuel : Nat} {cs : List Value} {x : DataW H × List MemPlace}, DataW.trod enc Tryz.prog w base spare held fuel e cs = some x → ∃ r, cs = cells r ∧ good r)
    {fuel : Nat} {v : Value} {x : DataW H × List MemPlace} (h : DataW.trod enc Tryz.prog w base spare held fuel t [v] = some x) :
    ∃ (a : Option Addr) (xs : List α) (c : Nat), v = .slice a xs.length c ∧ xs.length ≤ maxLen ∧ (∀ x ∈ xs, good x) ∧ (a = none → xs = [] ∧ c = 0) ∧ (∀ j (hj : j < xs.length), ∃ b o, a = some ⟨b, o, none⟩ ∧ w.rangeAt b (o + j * k) (cells xs[j])) := by
  rcases open_slice ht h with ⟨e, _⟩ | ⟨a, len, cap, m, n, D, Pl, e, _, hlc, hcm, hm, _, hel⟩
  · simp at e
    exact ⟨none, [], 0, by rw [e]; rfl, Nat.zero_le _, fun x hx => absurd hx List.not_mem_nil, fun _ => ⟨rfl, rfl⟩, fun j hj => absurd hj (Nat.not_lt_zero _)⟩
  · simp at e
    have hlm : len ≤ m := by rw [hm]; split <;> omega
    rw [hc] at hel
    have each : ∀ i, i < len → ∃ r : α, w.cells? base (a.add (i * k)) k = some (cells r) ∧ good r := by
      intro i hi
      obtain ⟨cs, h1, h2⟩ := hel i (by omega)
      obtain ⟨r, rfl, hr⟩ := hopen h2
      exact ⟨r, h1, hr⟩
    obtain ⟨f, hf⟩ := choose_lt each
    have hsp : 0 < len → a.spot = none := by
      intro hj
      obtain ⟨_, _, hc⟩ := World.cells?_some (hf 0 hj).1
      have h0 := hc 0 hk
      rw [Deep.add_add] at h0
      have h0 : w.cell? a = some ((cells (f 0))[0]'(by rw [hl]; exact hk)) := by
        have e1 : a.add (0 * k + 0) = a := by obtain ⟨b, o, s⟩ := a; simp [Addr.add]
        rw [e1] at h0
        rw [h0]
        exact List.getElem?_eq_getElem _
      exact World.cell?_spot h0
    refine ⟨some a, (List.range len).map f, cap, by rw [e]; simp, by simp; omega, fun x hx => ?_, (fun h => by cases h), fun j hj => ?_⟩
    · obtain ⟨i, hi, rfl⟩ := List.mem_map.1 hx
      exact (hf i (List.mem_range.1 hi)).2
    · simp at hj
      obtain ⟨b, o, s⟩ := a
      have hs := hsp (by omega)
      simp only at hs
      subst hs
      refine ⟨b, o, rfl, fun i v hv => ?_⟩
      simp only [List.getElem_map, List.getElem_range] at hv
      obtain ⟨_, _, hc⟩ := World.cells?_some (hf j hj).1
      have hik : i < k := by have := (List.getElem?_eq_some_iff.1 hv).1; rw [hl] at this; exact this
      have h1 := hc i hik
      rw [Deep.add_add, Addr.add_mid] at h1
      rw [Nat.add_assoc]
      rw [h1]
      exact hv
theorem open_value {fuel : Nat} {cs : List Value} {x : DataW H × List MemPlace} (h : DataW.trod enc Tryz.prog w base spare held fuel 31 cs = some x) :
    ∃ n t i, cs = [.int .i64 n, .string t, .int .i64 i] ∧ t.size ≤ 9223372036854775807 := by
  obtain ⟨xs, k, _, _, hl, hxl, hf⟩ := DataW.trod_struct Tryz.underlying31 h
  have c0 : Tryz.prog.cellsOf 31 = 3 := by kernel_rfl
  have c3 : Tryz.prog.cellsOf 3 = 1 := by kernel_rfl
  have c9 : Tryz.prog.cellsOf 9 = 1 := by kernel_rfl
  rw [c0] at hl
  have hxl : xs.length = 3 := hxl
  obtain ⟨y0, y1, y2, rfl⟩ := list_3 hxl
  obtain ⟨v0, v1, v2, rfl⟩ := list_3 hl
  have g0 := hf 0 _ rfl
  have g1 := hf 1 _ rfl
  have g2 := hf 2 _ rfl
  simp [c3, c9] at g0 g1 g2
  obtain ⟨n, e0, _, _⟩ := DataW.trod_int Tryz.underlying3 g0
  obtain ⟨t, e1, _, ht⟩ := DataW.trod_string Tryz.underlying9 g1
  obtain ⟨i, e2, _, _⟩ := DataW.trod_int Tryz.underlying3 g2
  simp at e0 e1 e2
  exact ⟨n, t, i, by rw [e0, e1, e2], max63 ht⟩
instance : Inhabited TestD := ⟨⟨0, ⟨#[]⟩, ⟨#[]⟩, 0, ⟨#[]⟩, 0⟩⟩
instance : Inhabited PredD := ⟨.mk default none 0 []⟩
instance : Inhabited RuleD := ⟨⟨default, 0⟩⟩
theorem preds_of {W : World} {a : Option Addr} {L : List PredD} (h : ∀ j (hj : j < L.length), ∃ b o, a = some ⟨b, o, none⟩ ∧ W.rangeAt b (o + j * 7) L[j].cells) : PredsAt W a L := fun j hj => by
  obtain ⟨b, o, h1, h2⟩ := h j hj
  refine ⟨_, h1, ?_⟩
  rw [Addr.add_mid]
  exact ⟨h2 0 _ rfl, h2 1 _ rfl, h2 2 _ rfl, h2 3 _ rfl, h2 4 _ rfl, h2 5 _ rfl, h2 6 _ rfl⟩
theorem open_pred : ∀ (n : Nat) {fuel : Nat} {cs : List Value} {x : DataW H × List MemPlace}, DataW.trod enc Tryz.prog w base spare held fuel 34 cs = some x →
    ∃ p : PredD, cs = p.cells ∧ PredTo n w p := by
  intro n
  induction n with
  | zero =>
    intro fuel cs x h
    obtain ⟨xs, k, _, _, hl, hxl, hf⟩ := DataW.trod_struct Tryz.underlying34 h
    have c0 : Tryz.prog.cellsOf 34 = 7 := by kernel_rfl
    have c3 : Tryz.prog.cellsOf 3 = 1 := by kernel_rfl
    have c9 : Tryz.prog.cellsOf 9 = 1 := by kernel_rfl
    have c31 : Tryz.prog.cellsOf 31 = 3 := by kernel_rfl
    have c32 : Tryz.prog.cellsOf 32 = 1 := by kernel_rfl
    rw [c0] at hl
    have hxl : xs.length = 5 := hxl
    obtain ⟨y0, y1, y2, y3, y4, rfl⟩ := list_5 hxl
    obtain ⟨v0, v1, v2, v3, v4, v5, v6, rfl⟩ := list_7 hl
    have g0 := hf 0 _ rfl
    have g1 := hf 1 _ rfl
    have g2 := hf 2 _ rfl
    have g3 := hf 3 _ rfl
    have g4 := hf 4 _ rfl
    simp [c3, c9, c31, c32] at g0 g1 g2 g3 g4
    obtain ⟨op, e0, _, _⟩ := DataW.trod_int Tryz.underlying3 g0
    obtain ⟨f, e1, _, _⟩ := DataW.trod_string Tryz.underlying9 g1
    obtain ⟨ky, e2, _, _⟩ := DataW.trod_string Tryz.underlying9 g2
    obtain ⟨n, t, i, e3, _⟩ := open_value g3
    have e4 : ∃ A l c, v6 = Value.slice A l c := by
      rcases open_slice Tryz.underlying32 g4 with ⟨e, _⟩ | ⟨a, len, cap, m, n, D, Pl, e, _⟩
      · simp at e; exact ⟨_, _, _, e⟩
      · simp at e; exact ⟨_, _, _, e⟩
    obtain ⟨A, l, c, rfl⟩ := e4
    simp at e0 e1 e2 e3
    exact ⟨.mk ⟨op, f, ky, n, t, i⟩ A c (List.replicate l default), by rw [e0, e1, e2, e3.1, e3.2.1, e3.2.2]; simp [PredD.cells, PredD.t, PredD.A, PredD.c, PredD.args], trivial⟩
  | succ n ih =>
    intro fuel cs x h
    obtain ⟨xs, k, _, _, hl, hxl, hf⟩ := DataW.trod_struct Tryz.underlying34 h
    have c0 : Tryz.prog.cellsOf 34 = 7 := by kernel_rfl
    have c3 : Tryz.prog.cellsOf 3 = 1 := by kernel_rfl
    have c9 : Tryz.prog.cellsOf 9 = 1 := by kernel_rfl
    have c31 : Tryz.prog.cellsOf 31 = 3 := by kernel_rfl
    have c32 : Tryz.prog.cellsOf 32 = 1 := by kernel_rfl
    rw [c0] at hl
    have hxl : xs.length = 5 := hxl
    obtain ⟨y0, y1, y2, y3, y4, rfl⟩ := list_5 hxl
    obtain ⟨v0, v1, v2, v3, v4, v5, v6, rfl⟩ := list_7 hl
    have g0 := hf 0 _ rfl
    have g1 := hf 1 _ rfl
    have g2 := hf 2 _ rfl
    have g3 := hf 3 _ rfl
    have g4 := hf 4 _ rfl
    simp [c3, c9, c31, c32] at g0 g1 g2 g3 g4
    obtain ⟨op, e0, _, _⟩ := DataW.trod_int Tryz.underlying3 g0
    obtain ⟨f, e1, _, hfs⟩ := DataW.trod_string Tryz.underlying9 g1
    obtain ⟨ky, e2, _, hks⟩ := DataW.trod_string Tryz.underlying9 g2
    obtain ⟨nn, t, i, e3, hts⟩ := open_value g3
    obtain ⟨A, L, c, rfl, hL, hg, _, hr⟩ := open_row (k := 7) (by decide) Tryz.underlying32 c0 PredD.cells (PredTo n w) (fun _ => rfl) (fun h => ih h) g4
    simp at e0 e1 e2 e3
    exact ⟨.mk ⟨op, f, ky, nn, t, i⟩ A c L, by rw [e0, e1, e2, e3.1, e3.2.1, e3.2.2]; rfl, ⟨⟨preds_of hr, hL, hts, max63 hfs, max63 hks⟩, hg⟩⟩
theorem open_rule {fuel : Nat} {cs : List Value} {x : DataW H × List MemPlace} (h : DataW.trod enc Tryz.prog w base spare held fuel 36 cs = some x) : ∃ q : RuleD, cs = q.cells ∧ PredTo 3 w q.p := by
  obtain ⟨xs, k, _, _, hl, hxl, hf⟩ := DataW.trod_struct Tryz.underlying36 h
  have c0 : Tryz.prog.cellsOf 36 = 8 := by kernel_rfl
  have c3 : Tryz.prog.cellsOf 3 = 1 := by kernel_rfl
  have c34 : Tryz.prog.cellsOf 34 = 7 := by kernel_rfl
  rw [c0] at hl
  have hxl : xs.length = 2 := hxl
  obtain ⟨y0, y1, rfl⟩ := list_2 hxl
  obtain ⟨v0, v1, v2, v3, v4, v5, v6, v7, rfl⟩ := list_8 hl
  have g0 := hf 0 _ rfl
  have g1 := hf 1 _ rfl
  simp [c3, c34] at g0 g1
  obtain ⟨p, e0, hp⟩ := open_pred 3 g0
  obtain ⟨e, e1, _, _⟩ := DataW.trod_int Tryz.underlying3 g1
  simp [PredD.cells] at e0 e1
  obtain ⟨q0, q1, q2, q3, q4, q5, q6⟩ := e0
  exact ⟨⟨p, e⟩, by rw [q0, q1, q2, q3, q4, q5, q6, e1]; rfl, hp⟩
theorem rules_of {W : World} {a : Option Addr} {L : List RuleD} (h : ∀ j (hj : j < L.length), ∃ b o, a = some ⟨b, o, none⟩ ∧ W.rangeAt b (o + j * 8) L[j].cells) : RulesAt W a L := fun j hj => by
  obtain ⟨b, o, h1, h2⟩ := h j hj
  refine ⟨_, h1, ?_⟩
  rw [Addr.add_mid]
  exact ⟨⟨h2 0 _ rfl, h2 1 _ rfl, h2 2 _ rfl, h2 3 _ rfl, h2 4 _ rfl, h2 5 _ rfl, h2 6 _ rfl⟩, h2 7 _ rfl⟩
/-- A policy's value. -/
theorem open_policy {v : Value} {d : DataW H} {p : List MemPlace} (ha : ∃ cs, v = .agg cs) (h : DataW.Trod enc Tryz.prog w base spare held 24 v d p) : ∃ q : PolD, v = .agg q.cells.toArray ∧ PolArg w q := by
  obtain ⟨m, hm⟩ := h
  obtain ⟨⟨cs⟩, rfl⟩ := ha
  simp only [Value.cells] at hm
  obtain ⟨xs, k, _, _, hl, hxl, hf⟩ := DataW.trod_struct Tryz.underlying24 hm
  have c0 : Tryz.prog.cellsOf 24 = 2 := by kernel_rfl
  have c3 : Tryz.prog.cellsOf 3 = 1 := by kernel_rfl
  have c22 : Tryz.prog.cellsOf 22 = 1 := by kernel_rfl
  have c36 : Tryz.prog.cellsOf 36 = 8 := by kernel_rfl
  rw [c0] at hl
  have hxl : xs.length = 2 := hxl
  obtain ⟨y0, y1, rfl⟩ := list_2 hxl
  obtain ⟨v0, v1, rfl⟩ := list_2 hl
  have g0 := hf 0 _ rfl
  have g1 := hf 1 _ rfl
  simp [c3, c22] at g0 g1
  obtain ⟨A, L, c, rfl, hL, hg, _, hr⟩ := open_row (k := 8) (by decide) Tryz.underlying22 c36 RuleD.cells (fun q => PredTo 3 w q.p) (fun _ => rfl) (fun h => open_rule h) g0
  obtain ⟨e, e1, _, _⟩ := DataW.trod_int Tryz.underlying3 g1
  simp at e1
  subst e1
  exact ⟨⟨A, c, L, e⟩, rfl, ⟨rules_of hr, hL, hg⟩⟩
theorem open_attr {fuel : Nat} {cs : List Value} {x : DataW H × List MemPlace} (h : DataW.trod enc Tryz.prog w base spare held fuel 110 cs = some x) : ∃ a : AttrD, cs = a.cells ∧ a.key.size ≤ 9223372036854775807 ∧ a.text.size ≤ 9223372036854775807 := by
  obtain ⟨xs, k, _, _, hl, hxl, hf⟩ := DataW.trod_struct Tryz.underlying110 h
  have c0 : Tryz.prog.cellsOf 110 = 4 := by kernel_rfl
  have c9 : Tryz.prog.cellsOf 9 = 1 := by kernel_rfl
  have c31 : Tryz.prog.cellsOf 31 = 3 := by kernel_rfl
  rw [c0] at hl
  have hxl : xs.length = 2 := hxl
  obtain ⟨y0, y1, rfl⟩ := list_2 hxl
  obtain ⟨v0, v1, v2, v3, rfl⟩ := list_4 hl
  have g0 := hf 0 _ rfl
  have g1 := hf 1 _ rfl
  simp [c9, c31] at g0 g1
  obtain ⟨ky, e0, _, hk⟩ := DataW.trod_string Tryz.underlying9 g0
  obtain ⟨n, t, i, e1, ht⟩ := open_value g1
  simp at e0 e1
  exact ⟨⟨ky, n, t, i⟩, by rw [e0, e1.1, e1.2.1, e1.2.2]; rfl, max63 hk, ht⟩
theorem open_ref {fuel : Nat} {cs : List Value} {x : DataW H × List MemPlace} (h : DataW.trod enc Tryz.prog w base spare held fuel 113 cs = some x) : ∃ a : RefD, cs = a.cells ∧ True := by
  obtain ⟨xs, k, _, _, hl, hxl, hf⟩ := DataW.trod_struct Tryz.underlying113 h
  have c0 : Tryz.prog.cellsOf 113 = 2 := by kernel_rfl
  have c3 : Tryz.prog.cellsOf 3 = 1 := by kernel_rfl
  rw [c0] at hl
  have hxl : xs.length = 2 := hxl
  obtain ⟨y0, y1, rfl⟩ := list_2 hxl
  obtain ⟨v0, v1, rfl⟩ := list_2 hl
  have g0 := hf 0 _ rfl
  have g1 := hf 1 _ rfl
  simp [c3] at g0 g1
  obtain ⟨a, e0, _, _⟩ := DataW.trod_int Tryz.underlying3 g0
  obtain ⟨b, e1, _, _⟩ := DataW.trod_int Tryz.underlying3 g1
  simp at e0 e1
  exact ⟨⟨a, b⟩, by rw [e0, e1]; rfl, trivial⟩
theorem attrs_of {W : World} {a : Option Addr} {L : List AttrD} (h : ∀ j (hj : j < L.length), ∃ b o, a = some ⟨b, o, none⟩ ∧ W.rangeAt b (o + j * 4) L[j].cells) : AttrsAt W a L := fun j hj => by
  obtain ⟨b, o, h1, h2⟩ := h j hj
  refine ⟨_, h1, ?_⟩
  rw [Addr.add_mid]
  exact ⟨h2 0 _ rfl, h2 1 _ rfl, h2 2 _ rfl, h2 3 _ rfl⟩
theorem refs_of {W : World} {a : Option Addr} {L : List RefD} (h : ∀ j (hj : j < L.length), ∃ b o, a = some ⟨b, o, none⟩ ∧ W.rangeAt b (o + j * 2) L[j].cells) : RefsAt W a L := fun j hj => by
  obtain ⟨b, o, h1, h2⟩ := h j hj
  refine ⟨_, h1, ?_⟩
  rw [Addr.add_mid]
  exact ⟨h2 0 _ rfl, h2 1 _ rfl⟩
theorem row_spot {α : Type} {W : World} {k : Nat} {cells : α → List Value} {a : Option Addr} {L : List α} (h : ∀ j (hj : j < L.length), ∃ b o, a = some ⟨b, o, none⟩ ∧ W.rangeAt b (o + j * k) (cells L[j])) : ∀ p, a = some p → L ≠ [] → p.spot = none := fun p hp hL => by
  obtain ⟨b, o, e, _⟩ := h 0 (List.length_pos_iff.2 hL)
  rw [hp] at e
  rw [Option.some.inj e]
set_option maxHeartbeats 1000000 in
theorem open_span {fuel : Nat} {cs : List Value} {x : DataW H × List MemPlace} (h : DataW.trod enc Tryz.prog w base spare held fuel 73 cs = some x) : ∃ s : SpanD, cs = s.cells ∧ (s.Held w ∧ s.Sound ∧ s.Txt) := by
  obtain ⟨xs, k, _, _, hl, hxl, hf⟩ := DataW.trod_struct Tryz.underlying73 h
  have c0 : Tryz.prog.cellsOf 73 = 14 := by kernel_rfl
  have c3 : Tryz.prog.cellsOf 3 = 1 := by kernel_rfl
  have c4 : Tryz.prog.cellsOf 4 = 1 := by kernel_rfl
  have c9 : Tryz.prog.cellsOf 9 = 1 := by kernel_rfl
  have ca : Tryz.prog.cellsOf 70 = 1 := by kernel_rfl
  have cr : Tryz.prog.cellsOf 71 = 1 := by kernel_rfl
  have ca4 : Tryz.prog.cellsOf 110 = 4 := by kernel_rfl
  have cr2 : Tryz.prog.cellsOf 113 = 2 := by kernel_rfl
  rw [c0] at hl
  have hxl : xs.length = 14 := hxl
  obtain ⟨y0, y1, y2, y3, y4, y5, y6, y7, y8, y9, y10, y11, y12, y13, rfl⟩ := list_14 hxl
  obtain ⟨v0, v1, v2, v3, v4, v5, v6, v7, v8, v9, v10, v11, v12, v13, rfl⟩ := list_14 hl
  have g0 := hf 0 _ rfl
  have g1 := hf 1 _ rfl
  have g2 := hf 2 _ rfl
  have g3 := hf 3 _ rfl
  have g4 := hf 4 _ rfl
  have g5 := hf 5 _ rfl
  have g6 := hf 6 _ rfl
  have g7 := hf 7 _ rfl
  have g8 := hf 8 _ rfl
  have g9 := hf 9 _ rfl
  have g10 := hf 10 _ rfl
  have g11 := hf 11 _ rfl
  have g12 := hf 12 _ rfl
  have g13 := hf 13 _ rfl
  simp [c3, c4, c9, ca, cr] at g0 g1 g2 g3 g4 g5 g6 g7 g8 g9 g10 g11 g12 g13
  obtain ⟨n0, e0, _, _⟩ := DataW.trod_int Tryz.underlying3 g0
  obtain ⟨n1, e1, _, _⟩ := DataW.trod_int Tryz.underlying3 g1
  obtain ⟨n2, e2, _, _⟩ := DataW.trod_int Tryz.underlying3 g2
  obtain ⟨n3, e3, _, _⟩ := DataW.trod_int Tryz.underlying3 g3
  obtain ⟨n4, e4, _, _⟩ := DataW.trod_int Tryz.underlying3 g4
  obtain ⟨n5, e5, _, _⟩ := DataW.trod_int Tryz.underlying3 g5
  obtain ⟨s6, e6, _, k6⟩ := DataW.trod_string Tryz.underlying9 g6
  obtain ⟨s7, e7, _, k7⟩ := DataW.trod_string Tryz.underlying9 g7
  obtain ⟨s8, e8, _, k8⟩ := DataW.trod_string Tryz.underlying9 g8
  obtain ⟨n9, e9, _, _⟩ := DataW.trod_int Tryz.underlying3 g9
  obtain ⟨n10, e10, _, _⟩ := DataW.trod_int Tryz.underlying3 g10
  obtain ⟨b11, e11, _⟩ := DataW.trod_bool Tryz.underlying4 g11
  obtain ⟨A, L, c, e12, hL, hg, hn, hr⟩ := open_row (k := 4) (by decide) Tryz.underlying70 ca4 AttrD.cells (fun a => a.key.size ≤ 9223372036854775807 ∧ a.text.size ≤ 9223372036854775807) (fun _ => rfl) (fun h => open_attr h) g12
  obtain ⟨B, M, d, e13, hM, _, hn', hr'⟩ := open_row (k := 2) (by decide) Tryz.underlying71 cr2 RefD.cells (fun _ => True) (fun _ => rfl) (fun h => open_ref h) g13
  simp only [List.cons.injEq, and_true] at e0 e1 e2 e3 e4 e5 e6 e7 e8 e9 e10 e11
  refine ⟨⟨n0, n1, n2, n3, n4, n5, s6, s7, s8, n9, n10, b11, A, L, c, B, M, d⟩, by rw [e0, e1, e2, e3, e4, e5, e6, e7, e8, e9, e10, e11, e12, e13]; rfl, ⟨attrs_of hr, refs_of hr', max63 hL, max63 hM⟩, ⟨fun h => (hn h).1, row_spot hr, fun h => (hn' h).1, row_spot hr'⟩, ⟨max63 k6, max63 k7, max63 k8, hg⟩⟩
/-- A trace's value. -/
theorem open_trace {v : Value} {d : DataW H} {p : List MemPlace} (ha : ∃ cs, v = .agg cs) (h : DataW.Trod enc Tryz.prog w base spare held 27 v d p) : ∃ q : TraceD, v = .agg q.cells.toArray ∧ TraceArg w q := by
  obtain ⟨m, hm⟩ := h
  obtain ⟨⟨cs⟩, rfl⟩ := ha
  simp only [Value.cells] at hm
  obtain ⟨xs, k, _, _, hl, hxl, hf⟩ := DataW.trod_struct Tryz.underlying27 hm
  have c0 : Tryz.prog.cellsOf 27 = 3 := by kernel_rfl
  have c3 : Tryz.prog.cellsOf 3 = 1 := by kernel_rfl
  have cs1 : Tryz.prog.cellsOf 25 = 1 := by kernel_rfl
  have c14 : Tryz.prog.cellsOf 73 = 14 := by kernel_rfl
  rw [c0] at hl
  have hxl : xs.length = 3 := hxl
  obtain ⟨y0, y1, y2, rfl⟩ := list_3 hxl
  obtain ⟨v0, v1, v2, rfl⟩ := list_3 hl
  have g0 := hf 0 _ rfl
  have g1 := hf 1 _ rfl
  have g2 := hf 2 _ rfl
  simp [c3, cs1] at g0 g1 g2
  obtain ⟨a, e0, _, _⟩ := DataW.trod_int Tryz.underlying3 g0
  obtain ⟨b, e1, _, _⟩ := DataW.trod_int Tryz.underlying3 g1
  obtain ⟨A, L, c, rfl, hL, hg, _, hr⟩ := open_row (k := 14) (by decide) Tryz.underlying25 c14 SpanD.cells (fun s => s.Held w ∧ s.Sound ∧ s.Txt) (fun _ => rfl) (fun h => open_span h) g2
  simp at e0 e1
  subst e0
  subst e1
  exact ⟨⟨a, b, A, c, L⟩, rfl, ⟨hL, hr, fun x hx => (hg x hx).1, fun x hx => (hg x hx).2.1, fun x hx => (hg x hx).2.2⟩⟩
end
end Go.Proofs.YtnddlpfmagdbfaaGreatDoor
