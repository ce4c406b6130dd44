/- Part 1 of the proof: contracts. Contract: the self-test known() returns true in any world, and turns nothing that was there; The tables of math/bits as the rows lay them are the package-level variables that the evaluator knows; and arguments opened; A region that draws its order, whose first operations are quiet and whose last ones come one behind another; Contracts: comparisons of whole numbers, strings, references; Contracts: the first number that is not 0; lists of whole numbers compared; Contracts: references compared; Contracts: values and attributes compared; Contracts: lists of attributes and of references compared; C. -/
import Derived.Test.YtnddlpfmagdbfaaGreatDoorKnL
import Derived.Test.YtnddlpfmagdbfaaGreatDoorRows
import Derived.Test.YtnddlpfmagdbfaaGreatDoorProg
import Derived.WalkKit
import Derived.ProofKit
import Derived.OpenShut
import Derived.LaidMore
import Derived.Lib.LaidTab
import Derived.MakeChecks
import Derived.StillTail
import Derived.Deep.Quiet
import Derived.BigQuiet
import Derived.Sort.Grow
import Derived.Below
import Derived.WalkSmall
import Derived.KernelRfl
import Derived.Lib.Walk
import Derived.Tactics2
import Derived.WideLaws
import Derived.Lib.Hide
import Derived.IntWalk
import Derived.Deep.CutBlock
import Derived.Deep.RegionHeld
import Derived.Deep.WholeRow
import Derived.Laws.EntriesVeiled
import Derived.Laws.Cover1
import Derived.Sort.Statements
import Derived.Shelf.SlSortCmp.WholeK
import Derived.Deep.MidRow
import Derived.RangeFuncNested
import Derived.RangeFuncBound
import Derived.RangeFuncCalls
import Derived.RangeFuncLeaves
import Derived.RangeFuncBox
import Derived.Shelf.Abstract
import Derived.Shelf.RegionOpen
import Derived.OwnWalkIn
import Derived.TacticsInMore
import Derived.LoopNIn
import Derived.LoopIn
import Derived.Maps.AppendAt
import Derived.Lib.SliceRun
import Derived.Shelf.Lay
import Derived.Ground.SlsfProg
import Derived.Sort.Row
import Derived.Laws.ResultCell
/- Contract: the self-test known() returns true in any world, and turns nothing that was there. -/
set_option linter.unusedVariables false
namespace Go.Proofs.YtnddlpfmagdbfaaGreatDoor
open Go Go.Ev Go.Proofs
set_option maxRecDepth 100000

open Go.RowKit
theorem mixed : Tryz.prog.follows .mixedOrders = true := by kernel_rfl
theorem callOK : CallOK Tryz.prog (evCall Tryz.prog noExt 3000) := evCall_ok mixed noExt_ok 3000
theorem gl_plain : plainG gl = true := by kernel_rfl
theorem known_calls (w : World) (ty : Nat → TypeId) (hl : laidG w ty gl) : Calls Tryz.prog 8 #[] w fun e w' => e = .returned (.bool true) ∧ Below w.heap.size w w' :=
  Leads.calls gl_plain Tryz.func8 (c := bodyOf Tryz.f8) (by kernel_rfl) (Leads.last mixed callOK (by kernel_rfl) (knLast ty)) w hl

end Go.Proofs.YtnddlpfmagdbfaaGreatDoor
/- The tables of math/bits as the rows lay them are the package-level variables that the evaluator knows; and arguments opened. -/
namespace Go.Proofs.YtnddlpfmagdbfaaGreatDoor
open Go Go.Ev Go.ChangeShapes Go.WideShapes Go.ChangeAt Go.RowKit
set_option linter.unusedVariables false
set_option linter.unusedSimpArgs false

theorem laidVars_mem {P : Program} {W : World} {n : String} {d : DataW Unit} : ∀ {laid : List (String × DataW Unit)} {ps : List MemPlace}, DataW.LaidVars P W laid ps → (n, d) ∈ laid →
    ∃ g t cs fuel p, P.globalNamed n = some g ∧ (P.globals[g]?).map (·.type) = some t ∧ W.var? P n = some cs ∧ DataW.trod (fun _ => ()) P W 0 (fun _ => true) false fuel t cs.toList = some (d, p) ∧ ∀ x ∈ MemPlace.row ⟨g, 0, none⟩ cs.size, x ∈ ps
  | [], ps, h, hm => by cases hm
  | (n', d') :: r, ps, h, hm => by
    obtain ⟨g, t, cs, fuel, p, q, h1, h2, h3, h4, h5, rfl⟩ := h
    rcases List.mem_cons.1 hm with he | hm
    · cases he
      exact ⟨g, t, cs, fuel, p, h1, h2, h3, h4, fun x hx => List.mem_append_left _ (List.mem_append_left _ hx)⟩
    · obtain ⟨g', t', cs', fuel', p', k1, k2, k3, k4, k5⟩ := laidVars_mem h5 hm
      exact ⟨g', t', cs', fuel', p', k1, k2, k3, k4, fun x hx => List.mem_append_right _ (k5 x hx)⟩

theorem laid_block {P : Program} {W : World} {laid : List (String × DataW Unit)} (hL : laidMet P laid W) {n : String} {k : IntKind} {zs : List Int} (hm : (n, Lib.tabData k zs) ∈ laid) {g t e m : Nat} (hg : P.globalNamed n = some g)
    (hty : (P.globals[g]?).map (·.type) = some t) (ht : P.underlying t = some (.array m e)) (he : P.underlying e = some (.int k)) (hce : P.cellsOf e = 1) (hct : P.cellsOf t = m) (hz : zs ≠ []) :
    ∃ ty, W.heap[g]? = some (.cells ⟨zs.map fun z => Value.int k z⟩ ty (0, 0)) := by
  obtain ⟨ps, h1, _, h2⟩ := hL
  obtain ⟨g', t', cs, fuel, p, k1, k2, k3, k4, k5⟩ := laidVars_mem h1 hm
  obtain rfl := Option.some.inj (hg.symm.trans k1)
  obtain rfl := Option.some.inj (hty.symm.trans k2)
  have hcs := Lib.cells_of_tab ht he hce hct k4
  have hpos : 0 < cs.size := by
    have : cs.toList.length = zs.length := by rw [hcs]; simp
    rw [Array.length_toList] at this
    have := List.length_pos_iff.2 hz
    omega
  have hmem : MemPlace.cell g 0 ∈ ps := k5 _ (by
    unfold MemPlace.row
    exact List.mem_map.2 ⟨0, List.mem_range.2 hpos, by simp [Addr.add]⟩)
  obtain ⟨⟨c, ty, hc⟩, _⟩ := h2 g 0 hmem
  unfold World.var? at k3
  rw [hg] at k3
  simp only [Option.bind_some, hc, Option.some.injEq] at k3
  subst k3
  refine ⟨ty, ?_⟩
  rw [hc]
  cases c
  simp only at hcs
  rw [hcs]

/-- The tables. -/
def laid2 : List (String × DataW Unit) := [("math/bits.deBruijn32tab", Rows.laid_math_bits_deBruijn32tab), ("math/bits.deBruijn64tab", Rows.laid_math_bits_deBruijn64tab)]
/-- The numbers of the second one. -/
def tab64 : List Int := [0, 1, 56, 2, 57, 49, 28, 3, 61, 58, 42, 50, 38, 29, 17, 4, 62, 47, 59, 36, 45, 43, 51, 22, 53, 39, 33, 30, 24, 18, 12, 5, 63, 55, 48, 27, 60, 41, 37, 16, 46, 35, 44, 21, 52, 32, 23, 11, 54, 26, 40, 15, 34, 20, 31, 10, 25, 14, 19, 9, 13, 8, 7, 6]
theorem laidG_below2 {w W : World} {ty : Nat → TypeId} {g : List (Nat × List Value)} (h : laidG w ty g) (k : Below w.heap.size w W) : laidG W ty g := fun x hx => by
  have h1 := h x hx
  rw [k.block x.1 (Array.getElem?_eq_some_iff.1 h1).1]
  exact h1
theorem laid_gl {W : World} (hL : laidMetH Tryz.prog laid2 W) : ∃ ty, laidG W ty gl := by
  rw [MakeChecks.laidMetH_plain _ _ _ (by kernel_rfl)] at hL
  obtain ⟨ty, h⟩ := laid_block (n := "math/bits.deBruijn64tab") (k := .u8) (zs := tab64) hL (List.mem_cons_of_mem _ (List.mem_cons_self ..)) (g := 1) (t := 133) (e := 5) (m := 64) (by kernel_rfl) (by kernel_rfl) Tryz.underlying133 Tryz.underlying5 (by kernel_rfl) (by kernel_rfl) (by simp [tab64])
  refine ⟨fun _ => ty, fun x hx => ?_⟩
  have hx : x = (1, tab64.map fun z => Value.int .u8 z) := by
    have h2 : gl = [(1, tab64.map fun z => Value.int .u8 z)] := by kernel_rfl
    rw [h2] at hx
    simpa using hx
  subst hx
  exact h

/-- A value of a slice's type. -/
theorem ok_slice {P : Program} {w : World} {r : Reach} {base : Nat} {t e : TypeId} {v : Value} (ht : P.underlying t = some (.slice e)) (h : Value.okWide P w r base t v) :
    ∃ a n c, v = .slice a n c ∧ (∀ x, a = some x → x.spot = none) ∧ (a = none → n = 0 ∧ c = 0) := by
  unfold Value.okWide at h
  rw [ht] at h
  simp only [Cell.okWide, ht] at h
  unfold Cell.ok at h
  rw [ht] at h
  cases v with
  | slice a n c =>
    cases a with
    | none =>
      refine ⟨none, n, c, rfl, fun x hx => (by cases hx), fun _ => ?_⟩
      cases n <;> cases c <;> simp_all
    | some x =>
      refine ⟨some x, n, c, rfl, fun y hy => ?_, fun hc => (by cases hc)⟩
      cases hy
      exact h.2.2.2.1
  | _ => simp at h
/-- A cell of a whole number's type. -/
theorem ok_intCell {P : Program} {w : World} {r : Reach} {base : Nat} {t : TypeId} {k : IntKind} {v : Value} (ht : P.underlying t = some (.int k)) (h : Cell.okWide P w r base t v) : ∃ n, v = .int k n ∧ k.min ≤ n ∧ n ≤ k.max := by
  simp only [Cell.okWide, ht] at h
  unfold Cell.ok at h
  rw [ht] at h
  cases v with
  | int k' n =>
    simp only at h
    obtain ⟨rfl, h⟩ := h
    exact ⟨n, rfl, h⟩
  | _ => simp at h
/-- A struct of five whole numbers. -/
theorem ok_five {P : Program} {w : World} {r : Reach} {base : Nat} {t u : TypeId} {fs : Array Field} {k : IntKind} {v : Value} (hs : P.underlying t = some (.struct fs)) (hu : P.underlying u = some (.int k)) (hc : P.cellsOf t = 5) (hts : P.cellTypes P.depth t = some [u, u, u, u, u])
    (h : Value.okWide P w r base t v) : ∃ a0 a1 a2 a3 a4, v = .agg #[.int k a0, .int k a1, .int k a2, .int k a3, .int k a4] ∧ (k.min ≤ a0 ∧ a0 ≤ k.max) ∧ (k.min ≤ a1 ∧ a1 ≤ k.max) ∧ (k.min ≤ a2 ∧ a2 ≤ k.max) ∧ (k.min ≤ a3 ∧ a3 ≤ k.max) ∧ (k.min ≤ a4 ∧ a4 ≤ k.max) := by
  simp only [Value.okWide, hs] at h
  obtain ⟨cs, rfl, hsz, ts, h1, _, h3⟩ := h
  rw [hts] at h1
  cases h1
  rw [hc] at hsz
  obtain ⟨l⟩ := cs
  match l, hsz with
  | [c0, c1, c2, c3, c4], _ =>
    obtain ⟨u0, e0, o0⟩ := h3 0 c0 rfl
    obtain ⟨u1, e1, o1⟩ := h3 1 c1 rfl
    obtain ⟨u2, e2, o2⟩ := h3 2 c2 rfl
    obtain ⟨u3, e3, o3⟩ := h3 3 c3 rfl
    obtain ⟨u4, e4, o4⟩ := h3 4 c4 rfl
    cases e0; cases e1; cases e2; cases e3; cases e4
    obtain ⟨a0, rfl, w0⟩ := ok_intCell hu o0
    obtain ⟨a1, rfl, w1⟩ := ok_intCell hu o1
    obtain ⟨a2, rfl, w2⟩ := ok_intCell hu o2
    obtain ⟨a3, rfl, w3⟩ := ok_intCell hu o3
    obtain ⟨a4, rfl, w4⟩ := ok_intCell hu o4
    exact ⟨a0, a1, a2, a3, a4, rfl, w0, w1, w2, w3, w4⟩

theorem own : ownKnob Tryz.prog.godebug = none := by kernel_rfl
theorem laidOut : laidOutB Tryz.prog = true := by kernel_rfl
theorem door_met (os : Os) (args : Array Value) : laidMetH Tryz.prog laid2 ((World.doorLaid Tryz.prog 19 os).forCall (fun _ _ => 0) ⟨#[], args, []⟩).memory :=
  laidMetH_of_parts3 (fuel := 8) (laidMet_of_run' 8 (by kernel_rfl) (by kernel_rfl)) (by kernel_rfl) (by kernel_rfl)
end Go.Proofs.YtnddlpfmagdbfaaGreatDoor
/- A region that draws its order, whose first operations are quiet and whose last ones come one behind another. -/
namespace Go.Proofs.YtnddlpfmagdbfaaGreatDoor
open Go Go.Proofs Go.RowKit
set_option linter.unusedVariables false
set_option linter.unusedSimpArgs false
section
variable {P : Program} {ops : Array Oper} {md : Region.Mode} {C : World → Prop}
/-- Whatever order is picked, till the first n operations have come up. -/
def HeadQ (P : Program) (md : Region.Mode) (ops : Array Oper) (C : World → Prop) (n : Nat) (L : Array Bool → Act → Prop) : Nat → Array Bool → Act → Prop
  | 0, l, a => L l a
  | f + 1, l, a => Region.ready md ops l ≠ [] ∧ ∀ i ∈ Region.ready md ops l, i < n ∧ qOp P ops C i (HeadQ P md ops C n L f (l.setIfInBounds i true)) a
theorem HeadQ.any {n g : Nat} {L : Array Bool → Act → Prop} {Q : Exit → Act → World → Prop} (hL : ∀ l a w, C w → L l a → wpAny P md ops Q g l a w) :
    ∀ (f : Nat) (l : Array Bool) (a : Act) (w : World), C w → HeadQ P md ops C n L f l a → wpAny P md ops Q (f + g) l a w
  | 0, l, a, w, hw, h => by rw [Nat.zero_add]; exact hL _ _ _ hw h
  | f + 1, l, a, w, hw, h => by
    rw [Nat.add_right_comm]
    exact ⟨fun h0 => absurd h0 h.1, fun i hi => wpOp_of_qOp hw (fun a' w' hw' h' => HeadQ.any hL f _ a' w' hw' h') (h.2 i hi).2⟩
theorem HeadQ.first {n i : Nat} {oi : Oper} {v : Value} {L : Array Bool → Act → Prop} (hi : ops[i]? = some oi) (hsel : ∀ (j : Nat) (o : Oper) cs b, ops[j]? = some o → o.op ≠ .select cs b)
    (hs : Region.sinkB md ops n = true) (hc : Region.chainB md ops n = true) (hn : n < ops.size) (hin : i < n) (hdone : ∀ l a, L l a → ∀ j ∈ Region.ready md ops l, n ≤ j) :
    ∀ (f : Nat) (l : Array Bool) (a : Act), HeadInv md ops n l →
      (∀ j oj, ops[j]? = some oj → j ≠ i → l.getD j true = false → (∀ e ∈ oj.after, Region.binds md e = true → e.on ≠ i) → oi.apart ops oj = true) →
      i ∈ Region.ready md ops l → YieldsIn P ops C oi v a → HeadQ P md ops C n L f (l.setIfInBounds i true) (a.put oi.dst v) → HeadQ P md ops C n L (f + 1) l a := by
  intro f
  induction f with
  | zero =>
    intro l a inv _ hr hy H
    refine ⟨fun h => (by rw [h] at hr; cases hr), fun j hj => ?_⟩
    have hjn : j < n := Nat.lt_of_not_le fun h => tail_waits hs hc hn inv _ i rfl hin (mem_ready.1 hr).1 j h hj
    refine ⟨hjn, ?_⟩
    by_cases hji : j = i
    · subst hji; exact hy.qOp hi H
    · exact absurd hjn (Nat.not_lt.2 (hdone _ _ H j (ready_mono hj hji)))
  | succ f ih =>
    intro l a inv hfree hr hy H
    refine ⟨fun h => (by rw [h] at hr; cases hr), fun j hj => ?_⟩
    have hjn : j < n := Nat.lt_of_not_le fun h => tail_waits hs hc hn inv _ i rfl hin (mem_ready.1 hr).1 j h hj
    refine ⟨hjn, ?_⟩
    by_cases hji : j = i
    · subst hji; exact hy.qOp hi H
    · obtain ⟨hjun, oj, hoj, hall⟩ := mem_ready.1 hj
      have hnot : ∀ e ∈ oj.after, Region.binds md e = true → e.on ≠ i := fun e he hb heq => by
        have h1 := hall e he hb
        rw [heq, getD_both (mem_ready.1 hr).1] at h1
        cases h1
      refine qOp_mono (fun a' h3 => ih (l.setIfInBounds j true) a' (inv.set hj hjn) (fun k ok hk hki hun hno => hfree k ok hk hki ?_ hno) (ready_mono hr (Ne.symm hji)) h3.1 ?_)
        (qOp_put hoj (hfree j oj hoj hji hjun hnot) (fun cs b => hsel i oi cs b hi) (fun cs b => hsel j oj cs b hoj) hy (H.2 j (ready_mono hj hji)).2)
      · by_cases hjk : j = k
        · subst hjk; exact hjun
        · rw [getD_set_ne true hjk] at hun; exact hun
      · rw [Array.setIfInBounds_comm _ _ hji]
        exact h3.2
theorem HeadQ.lex {n g : Nat} {K : Act → Prop} (hsel : Region.noSelect ops = true) (hs : Region.sinkB md ops n = true) (hc : Region.chainB md ops n = true) (hn : n < ops.size) :
    ∀ (q : List Oper) (k : Nat) (l : Array Bool) (a : Act), (∀ j, j < q.length → q[j]? = ops[k + j]?) → k + q.length = n → HeadInv md ops n l →
    Region.lexHead md ops g q.length k l = true → wpQuiet P ops C K q a → HeadQ P md ops C n (fun l' a' => Region.seqB md ops g n l' = true ∧ K a') q.length l a
  | [], k, l, a, _, hk, _, hB, h => by
    obtain rfl : k = n := by simpa using hk
    exact ⟨by simpa [Region.lexHead] using hB, h⟩
  | o :: q, k, l, a, hq, hk, inv, hB, h => by
    have h0 : ops[k]? = some o := by simpa using (hq 0 (by simp)).symm
    simp only [List.length_cons, Region.lexHead, Bool.and_eq_true] at hB
    obtain ⟨⟨hr, hf⟩, hB'⟩ := hB
    have hkn : k < n := by simp only [List.length_cons] at hk; omega
    have hr' : k ∈ Region.ready md ops l := by simpa using hr
    have hst : qOp P ops C k (wpQuiet P ops C K q) a := by unfold qOp; simp only [h0]; exact h
    obtain ⟨v, hy, hK⟩ := yieldsIn_of_qOp h0 hst
    exact HeadQ.first h0 (Region.noSelect_spec hsel) hs hc hn hkn (fun l' a' hL => seqB_ready hL.1) q.length l a inv (Region.free_spec h0 hf) hr' hy
      (HeadQ.lex hsel hs hc hn q (k + 1) _ _ (fun j hj => by have := hq (j + 1) (by simp; omega); simpa [Nat.add_assoc, Nat.add_comm 1 j] using this) (by simp only [List.length_cons] at hk; omega) (inv.set hr' hkn) hB' hK)
/-- The first n operations are quiet, what follows is a list. -/
theorem wp_region_quiet_tail {id : Nat} {Q : Exit → Act → World → Prop} {a : Act} {w : World} {l : List Oper} (n : Nat) (hm : P.follows .mixedOrders = true) (hB : Region.lexTailB .any l.toArray n = true) (hC : C w.drew)
    (h : wpQuiet P l.toArray C (fun a' => ∀ w', C w' → wpList P l.toArray Q (l.drop n) a' w') (l.take n) a) : (Code.region id l.toArray true).wp P Q a w := by
  simp only [Region.lexTailB, Bool.and_eq_true, decide_eq_true_eq] at hB
  obtain ⟨⟨⟨⟨hsel, hn⟩, hs⟩, hc⟩, hlex⟩ := hB
  have hn' : n < l.length := by simpa using hn
  have htl : (l.take n).length = n := by simp; omega
  have inv0 : HeadInv .any l.toArray n (Array.replicate l.toArray.size false) :=
    ⟨by simp, fun j oj _ hl => (by rw [getD_replicate_false] at hl; cases hl), fun t _ ht => getD_in (by simpa using ht) (getD_replicate_false _ _)⟩
  have H := HeadQ.lex (C := C) (md := .any) (g := l.toArray.size - n) hsel hs hc hn (l.take n) 0 _ a (fun j hj => by
    have hj' : j < n := by rw [htl] at hj; exact hj
    simp [hj']) (by simpa using htl) inv0 (by rw [htl]; exact hlex) h
  refine wp_region_any hm ?_
  have := HeadQ.any (Q := Q) (g := l.toArray.size - n) (fun l' a' w' hw' hL => by
    have hs' := hL.1
    have e : (l.drop n).length = l.toArray.size - n := by simp
    rw [← e] at hs' ⊢
    exact wpAny_of_seq (l.drop n) n _ a' w' (fun j => by simp) hs' (hL.2 w' hw')) _ _ a w.drew hC H
  rw [htl] at this
  have e2 : n + (l.toArray.size - n) = l.toArray.size := by simp; omega
  rw [e2] at this
  exact this
end
/-- What a call that only makes memory leaves. -/
structure Grew (w w' : World) : Prop where
  b : Below w.heap.size w w'
  d : w.drawn ≤ w'.drawn
theorem Grew.refl (w : World) : Grew w w := ⟨Below.refl _ _, Nat.le_refl _⟩
theorem Grew.trans {a b c : World} (h : Grew a b) (k : Grew b c) : Grew a c := ⟨h.b.trans (k.b.mono h.b.size), Nat.le_trans h.d k.d⟩
theorem Grew.drewN (w : World) (n : Nat) : Grew w (w.drewN n) := ⟨⟨rfl, rfl, rfl, Nat.le_refl _, fun _ _ => rfl⟩, Nat.le_add_right _ _⟩
theorem Grew.drew (w : World) : Grew w w.drew := Grew.drewN w 1
theorem Grew.alloc (w : World) (o : Obj) : Grew w (w.alloc o) := ⟨(Below.refl _ w).alloc (Nat.le_refl _) o, Nat.le_refl _⟩
theorem below_alloc (w : World) (o : Obj) : Below w.heap.size w (w.alloc o) := (Grew.alloc w o).b
theorem Grew.cell {w w' : World} (h : Grew w w') {p : Addr} {v : Value} (hc : w.cell? p = some v) : w'.cell? p = some v := (h.b.cell (World.block_lt_of_cell? w _ hc)).trans hc
theorem Grew.eq {w w' : World} (h : Grew w w') : ∃ q os, w' = Sort.grow (w.drewN q) os := by
  refine ⟨w'.drawn - w.drawn, w'.heap.extract w.heap.size w'.heap.size, ?_⟩
  obtain ⟨⟨h1, h2, h3, h4, h5⟩, h6⟩ := h
  cases w' with
  | mk hp tp dr os out =>
    cases w with
    | mk hp0 tp0 dr0 os0 out0 =>
      simp only at h1 h2 h3 h4 h5 h6
      subst h1 h2 h3
      simp only [Sort.grow, World.drewN, World.mk.injEq, and_true, true_and]
      refine ⟨?_, by omega⟩
      apply Array.ext_getElem?
      intro i
      rw [Array.getElem?_append]
      split
      · rename_i hi; exact h5 i hi
      · rename_i hi
        rw [Array.getElem?_extract]
        split
        · congr 1; omega
        · rw [Array.getElem?_eq_none (by omega)]
end Go.Proofs.YtnddlpfmagdbfaaGreatDoor
/- Contracts: comparisons of whole numbers, strings, references. -/
namespace Go.Proofs.YtnddlpfmagdbfaaGreatDoor
open Go Go.Proofs Go.RowKit
set_option linter.unusedVariables false
set_option linter.unusedSimpArgs false
/-- Less, equal, greater. -/
def cmpI (x y : Int) : Int := if x < y then -1 else if y < x then 1 else 0
def cmpS (s t : ByteArray) : Int := if Op.bytesLess s.toList t.toList = true then -1 else if s.toList = t.toList then 0 else 1
theorem nanI_any (x : Int) (w : World) : Calls Tryz.prog 95 #[.int .i64 x] w fun e w' => e = .returned (.bool false) ∧ w' = w := by
  go_enter Tryz.func95, Tryz.ntmps95
  go_wp2
  go_ret
  exact ⟨by simp, rfl⟩
theorem cmpI_any (x y : Int) (w : World) : Calls Tryz.prog 82 #[.int .i64 x, .int .i64 y] w fun e w' => e = .returned (.int .i64 (cmpI x y)) ∧ w' = w := by
  go_enter Tryz.func82, Tryz.ntmps82
  by_cases h1 : x < y
  · go_wp2_with (first
      | (go_at_call 95; (with_reducible refine (nanI_any _ _).mono ?_); rintro e w' ⟨rfl, rfl⟩))
    go_ret
    exact ⟨by rw [cmpI, if_pos h1]; rfl, rfl⟩
  · by_cases h2 : y < x
    · go_wp2_with (first
        | (go_at_call 95; (with_reducible refine (nanI_any _ _).mono ?_); rintro e w' ⟨rfl, rfl⟩))
      go_ret
      exact ⟨by rw [cmpI, if_neg (by omega), if_pos h2]; rfl, rfl⟩
    · go_wp2_with (first
        | (go_at_call 95; (with_reducible refine (nanI_any _ _).mono ?_); rintro e w' ⟨rfl, rfl⟩))
      go_ret
      exact ⟨by rw [cmpI, if_neg (by omega), if_neg (by omega)]; rfl, rfl⟩
theorem nanS_any (x : ByteArray) (w : World) : Calls Tryz.prog 94 #[.string x] w fun e w' => e = .returned (.bool false) ∧ w' = w := by
  go_enter Tryz.func94, Tryz.ntmps94
  go_wp2
  go_ret
  exact ⟨by simp, rfl⟩
theorem cmpS_any (x y : ByteArray) (w : World) : Calls Tryz.prog 81 #[.string x, .string y] w fun e w' => e = .returned (.int .i64 (cmpS x y)) ∧ w' = w := by
  go_enter Tryz.func81, Tryz.ntmps81
  go_wp2_with (first
      | (go_at_call 94; (with_reducible refine (nanS_any _ _).mono ?_); rintro e w' ⟨rfl, rfl⟩))
  all_goals
    go_ret
    refine ⟨?_, rfl⟩
    simp_all [cmpS]
theorem number_any (b : Bool) (w : World) : Calls Tryz.prog 83 #[.bool b] w fun e w' => e = .returned (.int .i64 (if b then 1 else 0)) ∧ w' = w := by
  go_enter Tryz.func83, Tryz.ntmps83
  cases b
  · go_wp2
    go_ret
    exact ⟨rfl, rfl⟩
  · go_wp2
    go_ret
    exact ⟨rfl, rfl⟩
end Go.Proofs.YtnddlpfmagdbfaaGreatDoor
/- Contracts: the first number that is not 0; lists of whole numbers compared. -/
namespace Go.Proofs.YtnddlpfmagdbfaaGreatDoor
open Go Go.Proofs Go.RowKit
set_option linter.unusedVariables false
set_option linter.unusedSimpArgs false
/-- The first number that is not 0. -/
def orI : List Int → Int
  | [] => 0
  | x :: l => if x ≠ 0 then x else orI l
/-- Whole numbers lie from an address on. -/
def IntsIn (W : World) (a : Option Addr) (L : List Int) : Prop := ∀ j (h : j < L.length), ∃ ad, a = some ad ∧ W.cell? (ad.add j) = some (.int .i64 L[j])
theorem IntsIn.grew {W W' : World} {a : Option Addr} {L : List Int} (h : IntsIn W a L) (k : Grew W W') : IntsIn W' a L := fun j hj =>
  let ⟨ad, h1, h2⟩ := h j hj
  ⟨ad, h1, k.cell h2⟩
theorem orI_drop {L : List Int} {j : Nat} (h : j < L.length) : orI (L.drop j) = if L[j] ≠ 0 then L[j] else orI (L.drop (j + 1)) := by
  rw [List.drop_eq_getElem_cons h]; rfl
theorem or_any (a : Option Addr) (L : List Int) (n c : Nat) (w : World) (hn : n = L.length) (h : IntsIn w a L) (hl : L.length ≤ 1000) :
    Calls Tryz.prog 79 #[.slice a n c] w fun e w' => e = .returned (.int .i64 (orI L)) ∧ w' = w := by
  subst hn
  have HR := Lib.hid h
  clear h
  go_enter Tryz.func79, Tryz.ntmps79
  go_wp2
  go_loopw [5, 8] (fun t i wr => ∃ j : Nat, j ≤ L.length ∧ i = .int .i64 j ∧ Hid (orI (L.drop j) = orI L) ∧ wr = w) (fun _ i _ => L.length - (intOf i).toNat)
  case atStart => exact ⟨0, by omega, rfl, Lib.hid rfl, rfl⟩
  case round =>
    obtain ⟨j, hj, rfl, hG, rfl⟩ := hrel
    by_cases hlt : j < L.length
    · obtain ⟨ad, rfl, hc⟩ := HR.out j hlt
      have hd := Lib.hid (orI_drop hlt)
      generalize L[j] = x at *
      by_cases hx : x = 0
      · subst hx
        have hn : Hid (orI (L.drop (j + 1)) = orI L) := Lib.hid (by rw [← hG.out, hd.out]; rfl)
        go_wp2
        exact ⟨⟨j + 1, by omega, by go_num, hn, trivial⟩, by simp [intOf]; omega⟩
      · have hn : Hid (x = orI L) := Lib.hid (by rw [← hG.out, hd.out, if_pos hx])
        have hb : (x != 0) = true := by simpa using hx
        clear hx
        go_wp2
        go_ret
        exact ⟨by rw [← hn.out]; rfl, rfl⟩
    · obtain rfl : j = L.length := by omega
      have hn : Hid (0 = orI L) := Lib.hid (by rw [← hG.out, List.drop_length]; rfl)
      go_wp2
      go_ret
      exact ⟨by rw [← hn.out]; rfl, rfl⟩
/-- Lists of numbers compared. -/
def cmpL : List Int → List Int → Int
  | [], [] => 0
  | [], _ :: _ => -1
  | _ :: _, [] => 1
  | x :: l, y :: m => if cmpI x y ≠ 0 then cmpI x y else cmpL l m
theorem cmpL_drop {L M : List Int} {j : Nat} (h : j < L.length) (k : j < M.length) : cmpL (L.drop j) (M.drop j) = if cmpI L[j] M[j] ≠ 0 then cmpI L[j] M[j] else cmpL (L.drop (j + 1)) (M.drop (j + 1)) := by
  rw [List.drop_eq_getElem_cons h, List.drop_eq_getElem_cons k]; rfl
theorem cmpL_any (a b : Option Addr) (L M : List Int) (n c d : Nat) (w : World) (hnn : n = L.length) (h : IntsIn w a L) (k : IntsIn w b M) (hl : L.length ≤ 1000) (hm : M.length = L.length) :
    Calls Tryz.prog 80 #[.slice a n c, .slice b n d] w fun e w' => e = .returned (.int .i64 (cmpL L M)) ∧ w' = w := by
  subst hnn
  have HR := Lib.hid h
  have HS := Lib.hid k
  clear h k
  go_enter Tryz.func80, Tryz.ntmps80
  go_wp2
  go_loopw [5, 6, 7, 8, 11] (fun t5 t6 t7 t8 i wr => ∃ j : Nat, j ≤ L.length ∧ i = .int .i64 j ∧ Hid (cmpL (L.drop j) (M.drop j) = cmpL L M) ∧ wr = w) (fun _ _ _ _ i _ => L.length - (intOf i).toNat)
  case atStart => exact ⟨0, by omega, rfl, Lib.hid rfl, rfl⟩
  case round =>
    obtain ⟨j, hj, rfl, hG, rfl⟩ := hrel
    by_cases hlt : j < L.length
    · obtain ⟨ad, rfl, hc⟩ := HR.out j hlt
      obtain ⟨bd, rfl, hc2⟩ := HS.out j (by omega)
      have hd := Lib.hid (cmpL_drop hlt (by omega : j < M.length))
      have hq : decide (L.length ≤ j) = false := decide_eq_false (by omega)
      generalize L[j] = x at *
      generalize M[j] = y at *
      by_cases hx : cmpI x y = 0
      · have hn : Hid (cmpL (L.drop (j + 1)) (M.drop (j + 1)) = cmpL L M) := Lib.hid (by rw [← hG.out, hd.out, if_neg (by simpa using hx)])
        go_wp2_with (first
          | (go_at_call 82; (with_reducible refine (cmpI_any _ _ _).mono ?_); rintro e w' ⟨rfl, rfl⟩))
        exact ⟨⟨j + 1, by omega, by go_num, hn, trivial⟩, by simp [intOf]; omega⟩
      · have hn : Hid (cmpI x y = cmpL L M) := Lib.hid (by rw [← hG.out, hd.out, if_pos hx])
        have hb : (cmpI x y != 0) = true := by simpa using hx
        clear hx
        go_wp2_with (first
          | (go_at_call 82; (with_reducible refine (cmpI_any _ _ _).mono ?_); rintro e w' ⟨rfl, rfl⟩))
        go_ret
        exact ⟨by rw [← hn.out]; rfl, rfl⟩
    · obtain rfl : j = L.length := by omega
      have hn : Hid (0 = cmpL L M) := Lib.hid (by rw [← hG.out, List.drop_length, ← hm, List.drop_length]; rfl)
      go_wp2
      go_ret
      exact ⟨by rw [← hn.out]; rfl, rfl⟩
end Go.Proofs.YtnddlpfmagdbfaaGreatDoor
/- Contracts: references compared. -/
namespace Go.Proofs.YtnddlpfmagdbfaaGreatDoor
open Go Go.Proofs Go.RowKit
set_option linter.unusedVariables false
set_option linter.unusedSimpArgs false
structure RefD where
  trace : Int
  id : Int
  deriving Inhabited
def cmpR (a b : RefD) : Int := orI [cmpI a.trace b.trace, cmpI a.id b.id]
theorem cell_new (W : World) (cs : Array Value) (t : TypeId) (j : Nat) (v : Value) (n : Nat) (hn : n = W.heap.size) (hv : cs[j]? = some v) : (W.alloc (.cells cs t)).cell? ⟨n, j, none⟩ = some v := by
  subst hn
  simp only [World.cell?, heap_alloc_last]
  exact hv
theorem ints_new (W : World) (vs : List Int) (t : TypeId) : IntsIn (W.alloc (.cells (vs.map (Value.int .i64)).toArray t)) (some ⟨W.heap.size, 0, none⟩) vs := fun j hj => ⟨_, rfl, by
  rw [show (⟨W.heap.size, 0, none⟩ : Addr).add j = ⟨W.heap.size, j, none⟩ by cases j <;> simp [Addr.add]]
  refine cell_new W _ t _ _ _ rfl ?_
  simp [hj]⟩
set_option maxHeartbeats 1000000 in
theorem cmpR_any (a b : RefD) (w : World) : Calls Tryz.prog 68 #[.agg #[.int .i64 a.trace, .int .i64 a.id], .agg #[.int .i64 b.trace, .int .i64 b.id]] w
    fun e w' => e = .returned (.int .i64 (cmpR a b)) ∧ Grew w w' := by
  obtain ⟨W0, hW0⟩ : ∃ W0, W0 = (w.alloc (.cells #[.int .i64 a.trace, .int .i64 a.id] 113)).alloc (.cells #[.int .i64 b.trace, .int .i64 b.id] 113) := ⟨_, rfl⟩
  have hG : Hid (Grew w W0) := Lib.hid (by rw [hW0]; exact (Grew.alloc _ _).trans (Grew.alloc _ _))
  have hcl : ∀ W, Grew W0 W → W.cell? ⟨w.heap.size, 0, none⟩ = some (.int .i64 a.trace) ∧ W.cell? ⟨w.heap.size, 1, none⟩ = some (.int .i64 a.id) ∧ W.cell? ⟨w.heap.size + 1, 0, none⟩ = some (.int .i64 b.trace) ∧ W.cell? ⟨w.heap.size + 1, 1, none⟩ = some (.int .i64 b.id) := fun W hW => by
    refine ⟨hW.cell ?_, hW.cell ?_, hW.cell ?_, hW.cell ?_⟩ <;> rw [hW0]
    · exact (Grew.alloc _ _).cell (cell_new _ _ _ _ _ _ rfl rfl)
    · exact (Grew.alloc _ _).cell (cell_new _ _ _ _ _ _ rfl rfl)
    · exact cell_new _ _ _ _ _ _ (by simp) rfl
    · exact cell_new _ _ _ _ _ _ (by simp) rfl
  go_enter Tryz.func68, Tryz.ntmps68
  go_wp2_with fail
  rw [← hW0]
  clear hW0
  refine wp_region_quiet_tail (C := Grew W0) 10 (by kernel_rfl) (by kernel_rfl) (Grew.drew _) ?_
  simp only [List.take_succ_cons, List.take_zero, List.drop_succ_cons, List.drop_zero]
  iterate 10
    refine wpQuiet_step (fun K hK => ?_)
    go_simp
    first
      | (refine ⟨_, fun _ _ => rfl, hK _ ?_⟩; clear hK K)
      | (refine ⟨_, fun W' hW' => (by obtain ⟨g0, g1, g2, g3⟩ := hcl W' hW'; (first | rw [g0] | rw [g1] | rw [g2] | rw [g3]); exact ⟨rfl, rfl⟩), hK _ ?_⟩; clear hK K)
      | (refine ⟨_, fun W' hW' => (cmpI_any _ _ W').mono (fun e w' h => ⟨h.1, by rw [h.2]; exact hW'⟩), hK _ ?_⟩; clear hK K)
  refine wpQuiet_nil ?_
  intro W hW
  have HW := Lib.hid (hG.out.trans hW)
  clear hcl hW hG
  have hO := fun t => or_any (some ⟨W.heap.size, 0, none⟩) _ 2 2 _ rfl (ints_new W [cmpI a.trace b.trace, cmpI a.id b.id] t) (by simp)
  simp only [List.map_cons, List.map_nil] at hO
  go_wp2_with (first
    | (go_at_call 79; (with_reducible refine (hO _).mono ?_); rintro e w' ⟨rfl, rfl⟩))
  go_ret
  exact ⟨rfl, HW.out.trans (Grew.alloc _ _)⟩
end Go.Proofs.YtnddlpfmagdbfaaGreatDoor
/- Contracts: values and attributes compared. -/
namespace Go.Proofs.YtnddlpfmagdbfaaGreatDoor
open Go Go.Proofs Go.RowKit
set_option linter.unusedVariables false
set_option linter.unusedSimpArgs false
structure AttrD where
  key : ByteArray
  kind : Int
  text : ByteArray
  num : Int
  deriving Inhabited
def cmpV (a b : AttrD) : Int := orI [cmpI a.kind b.kind, cmpS a.text b.text, cmpI a.num b.num]
def cmpA (a b : AttrD) : Int := orI [cmpS a.key b.key, cmpV a b]
theorem blk_new (W : World) (cs : Array Value) (t : TypeId) : (W.alloc (.cells cs t)).heap[W.heap.size]? = some (.cells cs t (0, 0)) := heap_alloc_new W _
theorem Grew.blk {w w' : World} (h : Grew w w') {g : Nat} {o : Obj} (hc : w.heap[g]? = some o) : w'.heap[g]? = some o := by
  have hl : g < w.heap.size := by
    rcases Nat.lt_or_ge g w.heap.size with hl | hl
    · exact hl
    · rw [Array.getElem?_eq_none hl] at hc; cases hc
  exact (h.b.block g hl).trans hc
theorem cell_of {W : World} {g : Nat} {cs : Array Value} {t : TypeId} {f : Nat × Nat} (h : W.heap[g]? = some (.cells cs t f)) (i : Nat) : W.cell? ⟨g, i, none⟩ = cs[i]? := by
  simp only [World.cell?, h]; rfl
set_option maxHeartbeats 1000000 in
theorem cmpV_any (a b : AttrD) (w : World) : Calls Tryz.prog 92 #[.agg #[.int .i64 a.kind, .string a.text, .int .i64 a.num], .agg #[.int .i64 b.kind, .string b.text, .int .i64 b.num]] w
    fun e w' => e = .returned (.int .i64 (cmpV a b)) ∧ Grew w w' := by
  obtain ⟨W0, hW0⟩ : ∃ W0, W0 = (w.alloc (.cells #[.int .i64 a.kind, .string a.text, .int .i64 a.num] 31)).alloc (.cells #[.int .i64 b.kind, .string b.text, .int .i64 b.num] 31) := ⟨_, rfl⟩
  have hG : Hid (Grew w W0) := Lib.hid (by rw [hW0]; exact (Grew.alloc _ _).trans (Grew.alloc _ _))
  have hA : Hid (∀ W, Grew W0 W → ∀ i, W.cell? ⟨w.heap.size, i, none⟩ = (#[.int .i64 a.kind, .string a.text, .int .i64 a.num] : Array Value)[i]?) := Lib.hid fun W hW => cell_of (hW.blk (by rw [hW0]; exact (Grew.alloc _ _).blk (blk_new _ _ _)))
  have hB : Hid (∀ W, Grew W0 W → ∀ i, W.cell? ⟨w.heap.size + 1, i, none⟩ = (#[.int .i64 b.kind, .string b.text, .int .i64 b.num] : Array Value)[i]?) := Lib.hid fun W hW => cell_of (hW.blk (by rw [hW0, show w.heap.size + 1 = (w.alloc (.cells #[.int .i64 a.kind, .string a.text, .int .i64 a.num] 31)).heap.size by simp]; exact blk_new _ _ _))
  go_enter Tryz.func92, Tryz.ntmps92
  go_wp2_with fail
  rw [← hW0]
  clear hW0
  refine wp_region_quiet_tail (C := Grew W0) 15 (by kernel_rfl) (by kernel_rfl) (Grew.drew _) ?_
  simp only [List.take_succ_cons, List.take_zero, List.drop_succ_cons, List.drop_zero]
  iterate 15
    refine wpQuiet_step (fun K hK => ?_)
    go_simp
    first
      | (refine ⟨_, fun _ _ => rfl, hK _ ?_⟩; clear hK K)
      | (refine ⟨_, fun W' hW' => (by (first | rw [hA.out W' hW'] | rw [hB.out W' hW']); exact ⟨rfl, rfl⟩), hK _ ?_⟩; clear hK K)
      | (refine ⟨_, fun W' hW' => (cmpI_any _ _ W').mono (fun e w' h => ⟨h.1, by rw [h.2]; exact hW'⟩), hK _ ?_⟩; clear hK K)
      | (refine ⟨_, fun W' hW' => (cmpS_any _ _ W').mono (fun e w' h => ⟨h.1, by rw [h.2]; exact hW'⟩), hK _ ?_⟩; clear hK K)
  refine wpQuiet_nil ?_
  intro W hW
  have HW := Lib.hid (hG.out.trans hW)
  clear hA hB hW hG
  have hO := fun t => or_any (some ⟨W.heap.size, 0, none⟩) _ 3 3 _ rfl (ints_new W [cmpI a.kind b.kind, cmpS a.text b.text, cmpI a.num b.num] t) (by simp)
  simp only [List.map_cons, List.map_nil] at hO
  go_wp2_with (first
    | (go_at_call 79; (with_reducible refine (hO _).mono ?_); rintro e w' ⟨rfl, rfl⟩))
  go_ret
  exact ⟨rfl, HW.out.trans (Grew.alloc _ _)⟩
set_option maxHeartbeats 1000000 in
theorem cmpA_any (a b : AttrD) (w : World) : Calls Tryz.prog 97 #[.agg #[.string a.key, .int .i64 a.kind, .string a.text, .int .i64 a.num], .agg #[.string b.key, .int .i64 b.kind, .string b.text, .int .i64 b.num]] w
    fun e w' => e = .returned (.int .i64 (cmpA a b)) ∧ Grew w w' := by
  obtain ⟨W0, hW0⟩ : ∃ W0, W0 = (w.alloc (.cells #[.string a.key, .int .i64 a.kind, .string a.text, .int .i64 a.num] 110)).alloc (.cells #[.string b.key, .int .i64 b.kind, .string b.text, .int .i64 b.num] 110) := ⟨_, rfl⟩
  have hG : Hid (Grew w W0) := Lib.hid (by rw [hW0]; exact (Grew.alloc _ _).trans (Grew.alloc _ _))
  have hA : Hid (∀ W, Grew W0 W → ∀ i, W.cell? ⟨w.heap.size, i, none⟩ = (#[.string a.key, .int .i64 a.kind, .string a.text, .int .i64 a.num] : Array Value)[i]?) := Lib.hid fun W hW => cell_of (hW.blk (by rw [hW0]; exact (Grew.alloc _ _).blk (blk_new _ _ _)))
  have hB : Hid (∀ W, Grew W0 W → ∀ i, W.cell? ⟨w.heap.size + 1, i, none⟩ = (#[.string b.key, .int .i64 b.kind, .string b.text, .int .i64 b.num] : Array Value)[i]?) := Lib.hid fun W hW => cell_of (hW.blk (by rw [hW0, show w.heap.size + 1 = (w.alloc (.cells #[.string a.key, .int .i64 a.kind, .string a.text, .int .i64 a.num] 110)).heap.size by simp]; exact blk_new _ _ _))
  go_enter Tryz.func97, Tryz.ntmps97
  go_wp2_with fail
  rw [← hW0]
  clear hW0
  refine wp_region_quiet_tail (C := Grew W0) 10 (by kernel_rfl) (by kernel_rfl) (Grew.drew _) ?_
  simp only [List.take_succ_cons, List.take_zero, List.drop_succ_cons, List.drop_zero]
  iterate 10
    refine wpQuiet_step (fun K hK => ?_)
    go_simp
    first
      | (refine ⟨_, fun _ _ => rfl, hK _ ?_⟩; clear hK K)
      | (refine ⟨_, fun W' hW' => (by (first | rw [hA.out W' hW'] | rw [hB.out W' hW']); exact ⟨rfl, rfl⟩), hK _ ?_⟩; clear hK K)
      | (refine ⟨.agg #[.int .i64 a.kind, .string a.text, .int .i64 a.num], fun W' hW' => (by simp [hA.out W' hW', go_sem]), hK _ ?_⟩; clear hK K)
      | (refine ⟨.agg #[.int .i64 b.kind, .string b.text, .int .i64 b.num], fun W' hW' => (by simp [hB.out W' hW', go_sem]), hK _ ?_⟩; clear hK K)
      | (refine ⟨_, fun W' hW' => (cmpV_any a b W').mono (fun e w' h => ⟨h.1, hW'.trans h.2⟩), hK _ ?_⟩; clear hK K)
      | (refine ⟨_, fun W' hW' => (cmpS_any _ _ W').mono (fun e w' h => ⟨h.1, by rw [h.2]; exact hW'⟩), hK _ ?_⟩; clear hK K)
  refine wpQuiet_nil ?_
  intro W hW
  have HW := Lib.hid (hG.out.trans hW)
  clear hA hB hW hG
  have hO := fun t => or_any (some ⟨W.heap.size, 0, none⟩) _ 2 2 _ rfl (ints_new W [cmpS a.key b.key, cmpV a b] t) (by simp)
  simp only [List.map_cons, List.map_nil] at hO
  go_wp2_with (first
    | (go_at_call 79; (with_reducible refine (hO _).mono ?_); rintro e w' ⟨rfl, rfl⟩))
  go_ret
  exact ⟨rfl, HW.out.trans (Grew.alloc _ _)⟩
end Go.Proofs.YtnddlpfmagdbfaaGreatDoor
/- Contracts: lists of attributes and of references compared. -/
namespace Go.Proofs.YtnddlpfmagdbfaaGreatDoor
open Go Go.Proofs Go.RowKit
set_option linter.unusedVariables false
set_option linter.unusedSimpArgs false
/-- Lists compared by a function. -/
def cmpF {α : Type} (f : α → α → Int) : List α → List α → Int
  | [], [] => 0
  | [], _ :: _ => -1
  | _ :: _, [] => 1
  | x :: l, y :: m => if f x y ≠ 0 then f x y else cmpF f l m
theorem cmpF_drop {α : Type} {f : α → α → Int} {L M : List α} {j : Nat} (h : j < L.length) (k : j < M.length) : cmpF f (L.drop j) (M.drop j) = if f L[j] M[j] ≠ 0 then f L[j] M[j] else cmpF f (L.drop (j + 1)) (M.drop (j + 1)) := by
  rw [List.drop_eq_getElem_cons h, List.drop_eq_getElem_cons k]; rfl
theorem cmpF_left {α : Type} {f : α → α → Int} {L M : List α} {j : Nat} (h : j < L.length) (k : M.length ≤ j) : cmpF f (L.drop j) (M.drop j) = 1 := by
  rw [List.drop_eq_getElem_cons h, List.drop_of_length_le k]; rfl
theorem cmpF_right {α : Type} {f : α → α → Int} {L M : List α} {j : Nat} (h : L.length ≤ j) (k : j < M.length) : cmpF f (L.drop j) (M.drop j) = -1 := by
  rw [List.drop_eq_getElem_cons k, List.drop_of_length_le h]; rfl
theorem cmpF_end {α : Type} {f : α → α → Int} {L M : List α} {j : Nat} (h : L.length ≤ j) (k : M.length ≤ j) : cmpF f (L.drop j) (M.drop j) = 0 := by
  rw [List.drop_of_length_le h, List.drop_of_length_le k]; rfl
/-- An attribute lies at an address. -/
def AttrIs (W : World) (p : Addr) (x : AttrD) : Prop :=
  W.cell? p = some (.string x.key) ∧ W.cell? ⟨p.block, p.off + 1, none⟩ = some (.int .i64 x.kind) ∧ W.cell? ⟨p.block, p.off + 2, none⟩ = some (.string x.text) ∧ W.cell? ⟨p.block, p.off + 3, none⟩ = some (.int .i64 x.num)
theorem AttrIs.grew {W W' : World} {p : Addr} {x : AttrD} (h : AttrIs W p x) (k : Grew W W') : AttrIs W' p x := ⟨k.cell h.1, k.cell h.2.1, k.cell h.2.2.1, k.cell h.2.2.2⟩
def AttrsAt (W : World) (a : Option Addr) (L : List AttrD) : Prop := ∀ j (h : j < L.length), ∃ ad, a = some ad ∧ AttrIs W (ad.add (j * 4)) L[j]
theorem AttrsAt.grew {W W' : World} {a : Option Addr} {L : List AttrD} (h : AttrsAt W a L) (k : Grew W W') : AttrsAt W' a L := fun j hj =>
  let ⟨ad, h1, h2⟩ := h j hj
  ⟨ad, h1, h2.grew k⟩
def RefIs (W : World) (p : Addr) (x : RefD) : Prop := W.cell? p = some (.int .i64 x.trace) ∧ W.cell? ⟨p.block, p.off + 1, none⟩ = some (.int .i64 x.id)
theorem RefIs.grew {W W' : World} {p : Addr} {x : RefD} (h : RefIs W p x) (k : Grew W W') : RefIs W' p x := ⟨k.cell h.1, k.cell h.2⟩
def RefsAt (W : World) (a : Option Addr) (L : List RefD) : Prop := ∀ j (h : j < L.length), ∃ ad, a = some ad ∧ RefIs W (ad.add (j * 2)) L[j]
theorem RefsAt.grew {W W' : World} {a : Option Addr} {L : List RefD} (h : RefsAt W a L) (k : Grew W W') : RefsAt W' a L := fun j hj =>
  let ⟨ad, h1, h2⟩ := h j hj
  ⟨ad, h1, h2.grew k⟩
set_option maxHeartbeats 2000000 in
theorem cmpFR_any (a b : Option Addr) (L M : List RefD) (n m c d : Nat) (w : World) (hnn : n = L.length) (hmm : m = M.length) (h : RefsAt w a L) (k : RefsAt w b M) (hl : L.length ≤ 9223372036854775807) (hm : M.length ≤ 9223372036854775807) :
    Calls Tryz.prog 85 #[.slice a n c, .slice b m d, .func (.func 68) #[] #[]] w fun e w' => e = .returned (.int .i64 (cmpF cmpR L M)) ∧ Grew w w' := by
  subst hnn hmm
  have HR := Lib.hid h
  have HS := Lib.hid k
  clear h k
  go_enter Tryz.func85, Tryz.ntmps85
  go_wp2_with fail
  go_loopw [7, 8, 9, 10, 13] (fun t7 t8 t9 t10 i wr => ∃ j : Nat, j ≤ L.length ∧ i = .int .i64 j ∧ Hid (cmpF cmpR (L.drop j) (M.drop j) = cmpF cmpR L M) ∧ Hid (Grew w wr)) (fun _ _ _ _ i _ => L.length - (intOf i).toNat)
  case atStart => exact ⟨0, by omega, rfl, Lib.hid rfl, Lib.hid (Grew.refl _)⟩
  case round =>
    obtain ⟨j, hj, rfl, hG, hW⟩ := hrel
    by_cases hlt : j < L.length
    · have hlt2 : decide (j < L.length) = true := decide_eq_true hlt
      obtain ⟨ad, rfl, g0, g1⟩ := HR.out.grew hW.out j hlt
      by_cases hlm : j < M.length
      · obtain ⟨bd, rfl, e0, e1⟩ := HS.out.grew hW.out j hlm
        have hd := Lib.hid (cmpF_drop (f := cmpR) hlt hlm)
        have hq : decide (M.length ≤ j) = false := decide_eq_false (by omega)
        generalize L[j] = x at *
        generalize M[j] = y at *
        have f0 := (Grew.alloc wr (.cells #[.int .i64 x.trace, .int .i64 x.id] 113)).cell e0
        have f1 := (Grew.alloc wr (.cells #[.int .i64 x.trace, .int .i64 x.id] 113)).cell e1
        by_cases hx : cmpR x y = 0
        · have hn : Hid (cmpF cmpR (L.drop (j + 1)) (M.drop (j + 1)) = cmpF cmpR L M) := Lib.hid (by rw [← hG.out, hd.out, if_neg (by simpa using hx)])
          go_wp2_with (first
            | (go_at_call 68; (with_reducible refine (cmpR_any x y _).mono ?_); rintro e w' ⟨rfl, hg⟩; have hg := Lib.hid hg))
          exact ⟨⟨j + 1, by omega, by go_num, hn, Lib.hid (hW.out.trans (((Grew.alloc _ _).trans (Grew.alloc _ _)).trans hg.out))⟩, by simp [intOf]; omega⟩
        · have hn : Hid (cmpR x y = cmpF cmpR L M) := Lib.hid (by rw [← hG.out, hd.out, if_pos hx])
          have hb : (cmpR x y != 0) = true := by simpa using hx
          clear hx
          go_wp2_with (first
            | (go_at_call 68; (with_reducible refine (cmpR_any x y _).mono ?_); rintro e w' ⟨rfl, hg⟩; have hg := Lib.hid hg))
          go_ret
          exact ⟨by rw [← hn.out]; rfl, hW.out.trans (((Grew.alloc _ _).trans (Grew.alloc _ _)).trans hg.out)⟩
      · have hq : decide (M.length ≤ j) = true := decide_eq_true (by omega)
        have hn := Lib.hid (hG.out.symm.trans (cmpF_left (f := cmpR) hlt (by omega)))
        generalize L[j] = x at *
        clear hG
        go_wp2_with fail
        go_ret
        exact ⟨by rw [hn.out]; rfl, hW.out.trans (Grew.alloc _ _)⟩
    · obtain rfl : j = L.length := by omega
      have hlt2 : decide (L.length < L.length) = false := decide_eq_false hlt
      by_cases hlm : L.length < M.length
      · have hlm2 : decide (L.length < M.length) = true := decide_eq_true hlm
        have hn := Lib.hid (hG.out.symm.trans (cmpF_right (f := cmpR) (by omega) hlm))
        clear hG
        go_wp2_with fail
        go_ret
        exact ⟨by rw [hn.out]; rfl, hW.out⟩
      · have hlm2 : decide (L.length < M.length) = false := decide_eq_false hlm
        have hn := Lib.hid (hG.out.symm.trans (cmpF_end (f := cmpR) (by omega) (by omega)))
        clear hG
        go_wp2_with fail
        go_ret
        exact ⟨by rw [hn.out]; rfl, hW.out⟩
set_option maxHeartbeats 2000000 in
theorem cmpFA_any (a b : Option Addr) (L M : List AttrD) (n m c d : Nat) (w : World) (hnn : n = L.length) (hmm : m = M.length) (h : AttrsAt w a L) (k : AttrsAt w b M) (hl : L.length ≤ 9223372036854775807) (hm : M.length ≤ 9223372036854775807) :
    Calls Tryz.prog 96 #[.slice a n c, .slice b m d, .func (.func 97) #[] #[]] w fun e w' => e = .returned (.int .i64 (cmpF cmpA L M)) ∧ Grew w w' := by
  subst hnn hmm
  have HR := Lib.hid h
  have HS := Lib.hid k
  clear h k
  go_enter Tryz.func96, Tryz.ntmps96
  go_wp2_with fail
  go_loopw [7, 8, 9, 10, 13] (fun t7 t8 t9 t10 i wr => ∃ j : Nat, j ≤ L.length ∧ i = .int .i64 j ∧ Hid (cmpF cmpA (L.drop j) (M.drop j) = cmpF cmpA L M) ∧ Hid (Grew w wr)) (fun _ _ _ _ i _ => L.length - (intOf i).toNat)
  case atStart => exact ⟨0, by omega, rfl, Lib.hid rfl, Lib.hid (Grew.refl _)⟩
  case round =>
    obtain ⟨j, hj, rfl, hG, hW⟩ := hrel
    by_cases hlt : j < L.length
    · have hlt2 : decide (j < L.length) = true := decide_eq_true hlt
      obtain ⟨ad, rfl, g0, g1, g2, g3⟩ := HR.out.grew hW.out j hlt
      by_cases hlm : j < M.length
      · obtain ⟨bd, rfl, e0, e1, e2, e3⟩ := HS.out.grew hW.out j hlm
        have hd := Lib.hid (cmpF_drop (f := cmpA) hlt hlm)
        have hq : decide (M.length ≤ j) = false := decide_eq_false (by omega)
        generalize L[j] = x at *
        generalize M[j] = y at *
        have f0 := (Grew.alloc wr (.cells #[.string x.key, .int .i64 x.kind, .string x.text, .int .i64 x.num] 110)).cell e0
        have f1 := (Grew.alloc wr (.cells #[.string x.key, .int .i64 x.kind, .string x.text, .int .i64 x.num] 110)).cell e1
        have f2 := (Grew.alloc wr (.cells #[.string x.key, .int .i64 x.kind, .string x.text, .int .i64 x.num] 110)).cell e2
        have f3 := (Grew.alloc wr (.cells #[.string x.key, .int .i64 x.kind, .string x.text, .int .i64 x.num] 110)).cell e3
        by_cases hx : cmpA x y = 0
        · have hn : Hid (cmpF cmpA (L.drop (j + 1)) (M.drop (j + 1)) = cmpF cmpA L M) := Lib.hid (by rw [← hG.out, hd.out, if_neg (by simpa using hx)])
          go_wp2_with (first
            | (go_at_call 97; (with_reducible refine (cmpA_any x y _).mono ?_); rintro e w' ⟨rfl, hg⟩; have hg := Lib.hid hg))
          exact ⟨⟨j + 1, by omega, by go_num, hn, Lib.hid (hW.out.trans (((Grew.alloc _ _).trans (Grew.alloc _ _)).trans hg.out))⟩, by simp [intOf]; omega⟩
        · have hn : Hid (cmpA x y = cmpF cmpA L M) := Lib.hid (by rw [← hG.out, hd.out, if_pos hx])
          have hb : (cmpA x y != 0) = true := by simpa using hx
          clear hx
          go_wp2_with (first
            | (go_at_call 97; (with_reducible refine (cmpA_any x y _).mono ?_); rintro e w' ⟨rfl, hg⟩; have hg := Lib.hid hg))
          go_ret
          exact ⟨by rw [← hn.out]; rfl, hW.out.trans (((Grew.alloc _ _).trans (Grew.alloc _ _)).trans hg.out)⟩
      · have hq : decide (M.length ≤ j) = true := decide_eq_true (by omega)
        have hn := Lib.hid (hG.out.symm.trans (cmpF_left (f := cmpA) hlt (by omega)))
        generalize L[j] = x at *
        clear hG
        go_wp2_with fail
        go_ret
        exact ⟨by rw [hn.out]; rfl, hW.out.trans (Grew.alloc _ _)⟩
    · obtain rfl : j = L.length := by omega
      have hlt2 : decide (L.length < L.length) = false := decide_eq_false hlt
      by_cases hlm : L.length < M.length
      · have hlm2 : decide (L.length < M.length) = true := decide_eq_true hlm
        have hn := Lib.hid (hG.out.symm.trans (cmpF_right (f := cmpA) (by omega) hlm))
        clear hG
        go_wp2_with fail
        go_ret
        exact ⟨by rw [hn.out]; rfl, hW.out⟩
      · have hlm2 : decide (L.length < M.length) = false := decide_eq_false hlm
        have hn := Lib.hid (hG.out.symm.trans (cmpF_end (f := cmpA) (by omega) (by omega)))
        clear hG
        go_wp2_with fail
        go_ret
        exact ⟨by rw [hn.out]; rfl, hW.out⟩
theorem cmpAttrs_any (a b : Option Addr) (L M : List AttrD) (n m c d : Nat) (w : World) (hnn : n = L.length) (hmm : m = M.length) (h : AttrsAt w a L) (k : AttrsAt w b M) (hl : L.length ≤ 9223372036854775807) (hm : M.length ≤ 9223372036854775807) :
    Calls Tryz.prog 84 #[.slice a n c, .slice b m d] w fun e w' => e = .returned (.int .i64 (cmpF cmpA L M)) ∧ Grew w w' := by
  subst hnn hmm
  have hc := fun W h k => cmpFA_any a b L M _ _ c d W rfl rfl h k hl hm
  go_enter Tryz.func84, Tryz.ntmps84
  go_wp2_with (first
    | (go_at_call 96; (with_reducible refine (hc _ h k).mono ?_); rintro e w' ⟨rfl, hg⟩))
  go_ret
  exact ⟨rfl, hg⟩
end Go.Proofs.YtnddlpfmagdbfaaGreatDoor
/- Contract: spans compared. -/
namespace Go.Proofs.YtnddlpfmagdbfaaGreatDoor
open Go Go.Proofs Go.RowKit
set_option linter.unusedVariables false
set_option linter.unusedSimpArgs false
structure SpanD where
  trace : Int
  id : Int
  parent : Int
  rev : Int
  clock : Int
  kind : Int
  svc : ByteArray
  ver : ByteArray
  op : ByteArray
  st : Int
  en : Int
  err : Bool
  aA : Option Addr
  attrs : List AttrD
  aC : Nat
  lA : Option Addr
  links : List RefD
  lC : Nat
  deriving Inhabited
def SpanD.cells (x : SpanD) : List Value := [.int .i64 x.trace, .int .i64 x.id, .int .i64 x.parent, .int .i64 x.rev, .int .i64 x.clock, .int .i64 x.kind, .string x.svc, .string x.ver, .string x.op, .int .i64 x.st, .int .i64 x.en, .bool x.err, .slice x.aA x.attrs.length x.aC, .slice x.lA x.links.length x.lC]
/-- What a span's slices hold. -/
structure SpanD.Held (W : World) (x : SpanD) : Prop where
  attrs : AttrsAt W x.aA x.attrs
  links : RefsAt W x.lA x.links
  na : x.attrs.length ≤ 9223372036854775807
  nl : x.links.length ≤ 9223372036854775807
theorem SpanD.Held.grew {W W' : World} {x : SpanD} (h : x.Held W) (k : Grew W W') : x.Held W' := ⟨h.attrs.grew k, h.links.grew k, h.na, h.nl⟩
def numB (b : Bool) : Int := if b then 1 else 0
theorem numB_any (b : Bool) (w : World) : Calls Tryz.prog 83 #[.bool b] w fun e w' => e = .returned (.int .i64 (numB b)) ∧ w' = w := number_any b w
def SpanD.nums (x : SpanD) : List Int := [x.trace, x.id, x.rev, x.parent, x.clock, x.kind]
def cmpX (x y : SpanD) : Int := orI [cmpL x.nums y.nums, cmpS x.svc y.svc, cmpS x.ver y.ver, cmpS x.op y.op, cmpI x.st y.st, cmpI x.en y.en, wrap64 (numB x.err - numB y.err), cmpF cmpA x.attrs y.attrs, cmpF cmpR x.links y.links]
/-- The world in which Compare compares. -/
def cmpW (x y : SpanD) (w : World) : World :=
  (((w.alloc (.cells x.cells.toArray 73)).alloc (.cells y.cells.toArray 73)).alloc (.cells (x.nums.map (Value.int .i64)).toArray 147)).alloc (.cells (y.nums.map (Value.int .i64)).toArray 147)
theorem ints_blk {W : World} {g : Nat} {vs : List Int} {t : TypeId} {f : Nat × Nat} (h : W.heap[g]? = some (.cells (vs.map (Value.int .i64)).toArray t f)) : IntsIn W (some ⟨g, 0, none⟩) vs := fun j hj => ⟨_, rfl, by
  rw [show (⟨g, 0, none⟩ : Addr).add j = ⟨g, j, none⟩ by cases j <;> simp [Addr.add], cell_of h]
  simp [hj]⟩
theorem blk_new' (W : World) (cs : Array Value) (t : TypeId) (g : Nat) (h : g = W.heap.size) : (W.alloc (.cells cs t)).heap[g]? = some (.cells cs t (0, 0)) := by subst h; exact blk_new W cs t
structure CmpW (x y : SpanD) (w W : World) : Prop where
  g : Grew w W
  a : W.heap[w.heap.size]? = some (.cells x.cells.toArray 73 (0, 0))
  b : W.heap[w.heap.size + 1]? = some (.cells y.cells.toArray 73 (0, 0))
  i : IntsIn W (some ⟨w.heap.size + 1 + 1, 0, none⟩) x.nums
  j : IntsIn W (some ⟨w.heap.size + 1 + 1 + 1, 0, none⟩) y.nums
theorem CmpW.start (x y : SpanD) (w : World) : CmpW x y w (cmpW x y w) := by
  unfold cmpW
  refine ⟨(((Grew.alloc _ _).trans (Grew.alloc _ _)).trans (Grew.alloc _ _)).trans (Grew.alloc _ _), ?_, ?_, ?_, ?_⟩
  · exact (((Grew.alloc _ _).trans (Grew.alloc _ _)).trans (Grew.alloc _ _)).blk (blk_new' _ _ _ _ rfl)
  · exact ((Grew.alloc _ _).trans (Grew.alloc _ _)).blk (blk_new' _ _ _ _ (by simp))
  · exact ints_blk ((Grew.alloc _ _).blk (blk_new' _ _ _ _ (by simp)))
  · exact ints_blk (blk_new' _ _ _ _ (by simp))
theorem CmpW.grew {x y : SpanD} {w W W' : World} (h : CmpW x y w W) (k : Grew W W') : CmpW x y w W' := ⟨h.g.trans k, k.blk h.a, k.blk h.b, h.i.grew k, h.j.grew k⟩
theorem nums_length (x : SpanD) : x.nums.length = 6 := rfl
set_option maxHeartbeats 4000000 in
set_option maxRecDepth 10000 in
theorem cmpX_any (x y : SpanD) (w : World) (hx : x.Held w) (hy : y.Held w) : Calls Tryz.prog 61 #[.agg x.cells.toArray, .agg y.cells.toArray] w
    fun e w' => e = .returned (.int .i64 (cmpX x y)) ∧ Grew w w' := by
  have HX := Lib.hid hx
  have HY := Lib.hid hy
  have hS := Lib.hid (CmpW.start x y w)
  clear hx hy
  unfold cmpW SpanD.nums at hS
  unfold SpanD.cells at hS ⊢
  simp only [List.map_cons, List.map_nil] at hS
  go_enter Tryz.func61, Tryz.ntmps61
  go_wp2_with fail
  generalize World.alloc _ _ = W0 at *
  have hA : Hid (∀ W, CmpW x y w W → ∀ i, W.cell? ⟨w.heap.size, i, none⟩ = x.cells.toArray[i]?) := Lib.hid fun W hW => cell_of hW.a
  have hB : Hid (∀ W, CmpW x y w W → ∀ i, W.cell? ⟨w.heap.size + 1, i, none⟩ = y.cells.toArray[i]?) := Lib.hid fun W hW => cell_of hW.b
  refine wp_region_quiet_tail (C := CmpW x y w) 45 (by kernel_rfl) (by kernel_rfl) (hS.out.grew (Grew.drew _)) ?_
  simp only [List.take_succ_cons, List.take_zero, List.drop_succ_cons, List.drop_zero]
  iterate 45
    refine wpQuiet_step (fun K hK => ?_)
    go_simp
    first
      | (refine ⟨_, fun _ _ => rfl, hK _ ?_⟩; clear hK K)
      | (refine ⟨_, fun W' hW' => (by (first | rw [hA.out W' hW'] | rw [hB.out W' hW']); exact ⟨rfl, rfl⟩), hK _ ?_⟩; clear hK K)
      | (refine ⟨_, fun W' hW' => (cmpL_any _ _ x.nums y.nums _ _ _ W' (nums_length x).symm hW'.i hW'.j (by rw [nums_length]; decide) rfl).mono (fun e w' h => ⟨h.1, by rw [h.2]; exact hW'⟩), hK _ ?_⟩; clear hK K)
      | (refine ⟨_, fun W' hW' => (cmpI_any _ _ W').mono (fun e w' h => ⟨h.1, by rw [h.2]; exact hW'⟩), hK _ ?_⟩; clear hK K)
      | (refine ⟨_, fun W' hW' => (cmpS_any _ _ W').mono (fun e w' h => ⟨h.1, by rw [h.2]; exact hW'⟩), hK _ ?_⟩; clear hK K)
      | (refine ⟨_, fun W' hW' => (numB_any _ W').mono (fun e w' h => ⟨h.1, by rw [h.2]; exact hW'⟩), hK _ ?_⟩; clear hK K)
      | (refine ⟨_, fun W' hW' => (cmpAttrs_any _ _ x.attrs y.attrs _ _ _ _ W' rfl rfl (HX.out.attrs.grew hW'.g) (HY.out.attrs.grew hW'.g) HX.out.na HY.out.na).mono (fun e w' h => ⟨h.1, hW'.grew h.2⟩), hK _ ?_⟩; clear hK K)
      | (refine ⟨_, fun W' hW' => (cmpFR_any _ _ x.links y.links _ _ _ _ W' rfl rfl (HX.out.links.grew hW'.g) (HY.out.links.grew hW'.g) HX.out.nl HY.out.nl).mono (fun e w' h => ⟨h.1, hW'.grew h.2⟩), hK _ ?_⟩; clear hK K)
  refine wpQuiet_nil ?_
  intro W hW
  have HW := Lib.hid hW.g
  clear hA hB hW hS HX HY
  have hO := fun t => or_any (some ⟨W.heap.size, 0, none⟩) _ 9 9 _ rfl (ints_new W [cmpL x.nums y.nums, cmpS x.svc y.svc, cmpS x.ver y.ver, cmpS x.op y.op, cmpI x.st y.st, cmpI x.en y.en, wrap64 (numB x.err - numB y.err), cmpF cmpA x.attrs y.attrs, cmpF cmpR x.links y.links] t) (by simp)
  simp only [List.map_cons, List.map_nil] at hO
  go_wp2_with (first
    | (go_at_call 79; (with_reducible refine (hO _).mono ?_); rintro e w' ⟨rfl, rfl⟩))
  go_ret
  exact ⟨rfl, HW.out.trans (Grew.alloc _ _)⟩
end Go.Proofs.YtnddlpfmagdbfaaGreatDoor
/- Contract: spans equal. -/
namespace Go.Proofs.YtnddlpfmagdbfaaGreatDoor
open Go Go.Proofs Go.RowKit
set_option linter.unusedVariables false
set_option linter.unusedSimpArgs false
set_option maxHeartbeats 2000000 in
set_option maxRecDepth 10000 in
theorem eqX_any (x y : SpanD) (w : World) (hx : x.Held w) (hy : y.Held w) : Calls Tryz.prog 35 #[.agg x.cells.toArray, .agg y.cells.toArray] w
    fun e w' => e = .returned (.bool (cmpX x y == 0)) ∧ Grew w w' := by
  have hc := Lib.hid fun W (h : Grew w W) => cmpX_any x y W (hx.grew h) (hy.grew h)
  clear hx hy
  unfold SpanD.cells at hc ⊢
  go_enter Tryz.func35, Tryz.ntmps35
  go_wp2_with (first
    | (go_at_call 61; (with_reducible refine (hc.out _ ((Grew.alloc _ _).trans (Grew.alloc _ _))).mono ?_); rintro e w' ⟨rfl, hg⟩; have hg := Lib.hid hg))
  go_ret
  exact ⟨rfl, ((Grew.alloc _ _).trans (Grew.alloc _ _)).trans hg.out⟩
end Go.Proofs.YtnddlpfmagdbfaaGreatDoor
/- The comparisons are orders. -/
namespace Go.Proofs.YtnddlpfmagdbfaaGreatDoor
open Go Go.Proofs Go.RowKit
set_option linter.unusedVariables false
set_option linter.unusedSimpArgs false
/-- A comparison that is one. -/
structure Good {α : Type} (f : α → α → Int) : Prop where
  refl : ∀ x, f x x = 0
  anti : ∀ x y, f x y < 0 ↔ 0 < f y x
  trans : ∀ x y z, f x y ≤ 0 → f y z ≤ 0 → f x z ≤ 0
theorem Good.zero {α : Type} {f : α → α → Int} (h : Good f) {x y : α} (e : f x y = 0) : f y x = 0 := by
  have h1 := h.anti x y
  have h2 := h.anti y x
  omega
theorem Good.swo {α : Type} {f : α → α → Int} (h : Good f) : Sort.SWO (ltOf f) where
  irrefl x := by unfold ltOf; rw [h.refl]; rfl
  trans x y z h1 h2 := by
    unfold ltOf at *
    simp only [decide_eq_true_eq] at *
    have a1 := h.anti x y; have a2 := h.anti y x; have a3 := h.anti y z; have a4 := h.anti z y; have a5 := h.anti x z; have a6 := h.anti z x
    have t := h.trans z x y
    omega
  ntrans x y z h1 h2 := by
    unfold ltOf at *
    simp only [decide_eq_false_iff_not] at *
    have a1 := h.anti x y; have a2 := h.anti y x; have a3 := h.anti y z; have a4 := h.anti z y; have a5 := h.anti x z; have a6 := h.anti z x
    have t := h.trans z y x
    omega
theorem Good.pull {α β : Type} {f : α → α → Int} (h : Good f) (g : β → α) : Good (fun x y => f (g x) (g y)) := ⟨fun x => h.refl _, fun x y => h.anti _ _, fun x y z => h.trans _ _ _⟩
theorem good_none {α : Type} : Good (fun _ _ : α => (0 : Int)) := ⟨fun _ => rfl, fun _ _ => Iff.rfl, fun _ _ _ _ _ => Int.le_refl _⟩
theorem Good.or {α : Type} {f g : α → α → Int} (h : Good f) (k : Good g) : Good (fun x y => if f x y ≠ 0 then f x y else g x y) where
  refl x := by rw [if_neg (by simpa using h.refl x)]; exact k.refl x
  anti x y := by
    have a1 := h.anti x y; have a2 := h.anti y x; have a3 := k.anti x y
    by_cases e : f x y = 0
    · rw [if_neg (by simpa using e), if_neg (by have := h.zero e; omega)]
      exact a3
    · rw [if_pos e, if_pos (by omega)]
      exact a1
  trans x y z := by
    have a1 := h.anti x y; have a2 := h.anti y x; have a3 := h.anti y z; have a4 := h.anti z y; have a5 := h.anti x z; have a6 := h.anti z x
    have t1 := h.trans x y z; have t2 := h.trans z x y; have t3 := h.trans y z x; have t4 := k.trans x y z
    have t5 := h.trans z y x; have t6 := h.trans y x z; have t7 := h.trans x z y
    split <;> split <;> split <;> omega
theorem good_cmpI : Good cmpI where
  refl x := by unfold cmpI; rw [if_neg (by omega), if_neg (by omega)]
  anti x y := by unfold cmpI; split <;> split <;> (try split) <;> omega
  trans x y z := by unfold cmpI; split <;> split <;> (try split) <;> (try split) <;> (try split) <;> omega
theorem good_cmpF {α : Type} {f : α → α → Int} (h : Good f) : Good (cmpF f) where
  refl l := by
    induction l with
    | nil => rfl
    | cons x l ih => show (if f x x ≠ 0 then _ else _) = _; rw [if_neg (by simpa using h.refl x)]; exact ih
  anti l := by
    induction l with
    | nil => intro m; cases m <;> simp [cmpF]
    | cons x l ih =>
      intro m
      cases m with
      | nil => simp [cmpF]
      | cons y m =>
        have a1 := h.anti x y; have a2 := h.anti y x
        have := ih m
        show (if f x y ≠ 0 then f x y else cmpF f l m) < 0 ↔ 0 < (if f y x ≠ 0 then f y x else cmpF f m l)
        by_cases e : f x y = 0
        · rw [if_neg (by simpa using e), if_neg (by have := h.zero e; omega)]
          exact this
        · rw [if_pos e, if_pos (by omega)]
          exact a1
  trans l := by
    induction l with
    | nil => intro m n; cases m <;> cases n <;> simp [cmpF]
    | cons x l ih =>
      intro m n
      cases m with
      | nil => simp [cmpF]
      | cons y m =>
        cases n with
        | nil => simp [cmpF]
        | cons z n =>
          have a1 := h.anti x y; have a2 := h.anti y x; have a3 := h.anti y z; have a4 := h.anti z y; have a5 := h.anti x z; have a6 := h.anti z x
          have t1 := h.trans x y z; have t2 := h.trans z x y; have t3 := h.trans y z x; have t4 := ih m n
          have t5 := h.trans z y x; have t6 := h.trans y x z; have t7 := h.trans x z y
          simp only [cmpF]
          split <;> split <;> split <;> omega
theorem cmpL_eq : ∀ l m, cmpL l m = cmpF cmpI l m
  | [], [] => rfl
  | [], _ :: _ => rfl
  | _ :: _, [] => rfl
  | x :: l, y :: m => by simp only [cmpL, cmpF, cmpL_eq l m]
def cmpU (a b : UInt8) : Int := cmpI a.toNat b.toNat
theorem good_cmpU : Good cmpU := good_cmpI.pull (fun a : UInt8 => (a.toNat : Int))
theorem cmpU_zero {a b : UInt8} : cmpU a b = 0 ↔ a = b := by
  unfold cmpU cmpI
  constructor
  · intro h
    split at h
    · omega
    · split at h
      · omega
      · exact UInt8.toNat_inj.1 (by omega)
  · rintro rfl
    rw [if_neg (by omega), if_neg (by omega)]
theorem bytesLess_eq : ∀ l m : List UInt8, (if Op.bytesLess l m = true then (-1 : Int) else if l = m then 0 else 1) = cmpF cmpU l m
  | [], [] => by simp [Op.bytesLess, cmpF]
  | [], _ :: _ => by simp [Op.bytesLess, cmpF]
  | _ :: _, [] => by simp [Op.bytesLess, cmpF]
  | x :: l, y :: m => by
    have ih := bytesLess_eq l m
    simp only [Op.bytesLess, cmpF, List.cons.injEq]
    by_cases e : x = y
    · subst e
      have h0 : cmpU x x = 0 := cmpU_zero.2 rfl
      rw [← ih, if_neg (show ¬ cmpU x x ≠ 0 by rw [h0]; simp)]
      simp
    · have h0 : cmpU x y ≠ 0 := fun h => e (cmpU_zero.1 h)
      rw [if_pos h0]
      have hne : x.toNat ≠ y.toNat := fun h => e (UInt8.toNat_inj.1 h)
      unfold cmpU cmpI
      by_cases hl : x.toNat < y.toNat
      · have : x < y := UInt8.lt_iff_toNat_lt.2 hl
        simp [this, hl, e]
      · have h1 : ¬ x < y := fun h => hl (UInt8.lt_iff_toNat_lt.1 h)
        have h2 : y.toNat < x.toNat := by omega
        have h3 : y < x := UInt8.lt_iff_toNat_lt.2 h2
        simp [h1, h2, h3, hl, e]
theorem cmpS_eq (s t : ByteArray) : cmpS s t = cmpF cmpU s.toList t.toList := bytesLess_eq _ _
theorem good_cmpS : Good cmpS := by
  have : cmpS = fun s t : ByteArray => cmpF cmpU s.toList t.toList := by funext s t; exact cmpS_eq s t
  rw [this]
  exact (good_cmpF good_cmpU).pull ByteArray.toList
theorem good_cmpV : Good cmpV := ((good_cmpI.pull AttrD.kind).or ((good_cmpS.pull AttrD.text).or ((good_cmpI.pull AttrD.num).or good_none)))
theorem good_cmpA : Good cmpA := ((good_cmpS.pull AttrD.key).or (good_cmpV.or good_none))
theorem good_cmpR : Good cmpR := ((good_cmpI.pull RefD.trace).or ((good_cmpI.pull RefD.id).or good_none))
theorem err_eq (x y : Bool) : wrap64 (numB x - numB y) = cmpI (numB x) (numB y) := by
  cases x <;> cases y <;> simp [numB, cmpI, wrap64]
theorem good_err : Good (fun x y : Bool => wrap64 (numB x - numB y)) := by
  have : (fun x y : Bool => wrap64 (numB x - numB y)) = fun x y => cmpI (numB x) (numB y) := by funext x y; exact err_eq x y
  rw [this]
  exact good_cmpI.pull numB
theorem good_cmpL : Good cmpL := by
  have : cmpL = cmpF cmpI := by funext l m; exact cmpL_eq l m
  rw [this]
  exact good_cmpF good_cmpI
theorem good_cmpX : Good cmpX :=
  (good_cmpL.pull SpanD.nums).or ((good_cmpS.pull SpanD.svc).or ((good_cmpS.pull SpanD.ver).or ((good_cmpS.pull SpanD.op).or ((good_cmpI.pull SpanD.st).or ((good_cmpI.pull SpanD.en).or ((good_err.pull SpanD.err).or (((good_cmpF good_cmpA).pull SpanD.attrs).or (((good_cmpF good_cmpR).pull SpanD.links).or good_none))))))))
end Go.Proofs.YtnddlpfmagdbfaaGreatDoor
/- Rows of spans. -/
namespace Go.Proofs.YtnddlpfmagdbfaaGreatDoor
open Go Go.Proofs Go.RowKit
set_option linter.unusedVariables false
set_option linter.unusedSimpArgs false
theorem cells_length (x : SpanD) : x.cells.length = 14 := rfl
theorem cells_one (x : SpanD) : ∀ v ∈ x.cells, v.oneCell' = true := by
  intro v hv
  unfold SpanD.cells at hv
  simp only [List.mem_cons, List.not_mem_nil, or_false] at hv
  rcases hv with h | h | h | h | h | h | h | h | h | h | h | h | h | h <;> subst h <;> rfl
/-- The cells of spans. -/
def cellsX (L : List SpanD) : List Value := L.flatMap SpanD.cells
theorem cellsX_length (L : List SpanD) : (cellsX L).length = L.length * 14 := by
  induction L with
  | nil => rfl
  | cons x L ih => simp only [cellsX, List.flatMap_cons, List.length_append, cells_length, List.length_cons] at ih ⊢; omega
theorem cellsX_append (L M : List SpanD) : cellsX (L ++ M) = cellsX L ++ cellsX M := by simp [cellsX]
theorem cellsX_one (L : List SpanD) : ∀ v ∈ cellsX L, v.oneCell' = true := by
  intro v hv
  obtain ⟨x, _, h⟩ := List.mem_flatMap.1 hv
  exact cells_one x v h
theorem cellsX_get {L : List SpanD} {j i : Nat} (hj : j < L.length) (hi : i < 14) : (cellsX L)[j * 14 + i]? = L[j].cells[i]? := by
  induction L generalizing j with
  | nil => simp at hj
  | cons x L ih =>
    cases j with
    | zero =>
      simp only [cellsX, List.flatMap_cons, Nat.zero_mul, Nat.zero_add, List.getElem_cons_zero]
      rw [List.getElem?_append_left (by rw [cells_length]; exact hi)]
    | succ j =>
      simp only [List.getElem_cons_succ]
      rw [← ih (by simpa using hj)]
      simp only [cellsX, List.flatMap_cons]
      rw [List.getElem?_append_right (by rw [cells_length]; omega), cells_length]
      congr 1
      omega
/-- Spans lie from an address on. -/
def SpansIn (W : World) (A : Option Addr) (L : List SpanD) : Prop := ∀ j (h : j < L.length), ∃ b o, A = some ⟨b, o, none⟩ ∧ W.rangeAt b (o + j * 14) L[j].cells
theorem rangeAt_below {B : Nat} {W W' : World} {b o : Nat} {cs : List Value} (h : W.rangeAt b o cs) (hb : b < B) (k : Below B W W') : W'.rangeAt b o cs := fun j v hv => (k.cell (p := ⟨b, o + j, none⟩) hb).trans (h j v hv)
theorem rangeAt_lt {W : World} {b o : Nat} {cs : List Value} (h : W.rangeAt b o cs) (hn : 0 < cs.length) : b < W.heap.size :=
  World.block_lt_of_cell? W _ (h 0 cs[0] (by simp [hn]))
theorem SpansIn.grew {W W' : World} {A : Option Addr} {L : List SpanD} (h : SpansIn W A L) (k : Grew W W') : SpansIn W' A L := fun j hj =>
  let ⟨b, o, h1, h2⟩ := h j hj
  ⟨b, o, h1, rangeAt_below h2 (rangeAt_lt h2 (by rw [cells_length]; omega)) k.b⟩
theorem SpansIn.below {W W' : World} {A : Option Addr} {L : List SpanD} (h : SpansIn W A L) (k : Below W.heap.size W W') : SpansIn W' A L := fun j hj =>
  let ⟨b, o, h1, h2⟩ := h j hj
  ⟨b, o, h1, rangeAt_below h2 (rangeAt_lt h2 (by rw [cells_length]; omega)) k⟩
/-- What a span's slices hold is kept by whatever keeps what lies below B. -/
def Keeps (B : Nat) (w : World) (x : SpanD) : Prop := ∀ W, Below B w W → x.Held W
theorem Keeps.held {B : Nat} {w : World} {x : SpanD} (h : Keeps B w x) : x.Held w := h w (Below.refl _ _)
theorem Keeps.below {B B' : Nat} {w W : World} {x : SpanD} (h : Keeps B w x) (k : Below B w W) (hB : B ≤ B') : Keeps B' W x := fun W' h' => h W' (k.trans (h'.mono hB))
theorem Keeps.grew {w W : World} {x : SpanD} (h : Keeps w.heap.size w x) (k : Grew w W) : Keeps W.heap.size W x := h.below k.b k.b.size
theorem SpanD.Held.keeps {w : World} {x : SpanD} (h : x.Held w) : Keeps w.heap.size w x := fun W k => by
  refine ⟨fun j hj => ?_, fun j hj => ?_, h.na, h.nl⟩
  · obtain ⟨ad, h1, h2, h3, h4, h5⟩ := h.attrs j hj
    have c : ∀ {p : Addr} {v : Value}, w.cell? p = some v → W.cell? p = some v := fun hc => (k.cell (World.block_lt_of_cell? w _ hc)).trans hc
    exact ⟨ad, h1, c h2, c h3, c h4, c h5⟩
  · obtain ⟨ad, h1, h2, h3⟩ := h.links j hj
    have c : ∀ {p : Addr} {v : Value}, w.cell? p = some v → W.cell? p = some v := fun hc => (k.cell (World.block_lt_of_cell? w _ hc)).trans hc
    exact ⟨ad, h1, c h2, c h3⟩
/-- A quiet load of a whole struct. -/
theorem quiet_load {P : Program} {ops : Array Oper} {C : World → Prop} {o : Oper} {a : Act} {K : Act → Prop} (hw : Region.wanted o (yielded ops a.tmps) = true) (ty : TypeId) (x : Operand) (ho : o.op = .load ty x) (b off : Nat) (hx : a.eval x = .pointer (some ⟨b, off, none⟩)) (cs : List Value) (d : TypeDesc)
    (hc : ∀ W, C W → W.rangeAt b off cs) (hu : P.underlying ty = some d) (hd : d.isRow = true) (hi : (P.info? ty).map (·.size) = some cs.length) (hk : K (a.put o.dst (.agg cs.toArray))) :
    if Region.wanted o (yielded ops a.tmps) then o.quiet P a C K else K (a.put o.dst undef) := by
  rw [if_pos hw]
  refine ⟨_, fun W hW => ?_, hk⟩
  unfold Oper.quietAt execOp
  simp only [ho, hx, Instr.loadAt, Instr.sureAddr, Sem.run_bind, Sem.run_pure, Result.andThen_ok, run_loadVar_mid W b off ty cs d (hc W hW) hu hd hi]
  exact ⟨rfl, rfl⟩
theorem rowX : ∃ d, Tryz.prog.underlying 73 = some d ∧ d.isRow = true := ⟨_, Tryz.underlying73, rfl⟩
theorem rangeAt_grew {W W' : World} {b o : Nat} {cs : List Value} (h : W.rangeAt b o cs) (hn : 0 < cs.length) (k : Grew W W') : W'.rangeAt b o cs := rangeAt_below h (rangeAt_lt h hn) k.b
theorem k_run {P : Program} {ops : Array Oper} {K : Act → World → Prop} {Q R : Exit → Act → World → Prop} {c : Code} {a : Act} {w : World} (hK : ∀ a w, Code.wp P c R a w → K a w) (h : Code.wp P c R a w) : wpList P ops (Exit.then K Q) [] a w := hK _ _ h
end Go.Proofs.YtnddlpfmagdbfaaGreatDoor
/- Contracts: the spans of a slice, one by one. -/
namespace Go.Proofs.YtnddlpfmagdbfaaGreatDoor
open Go Go.Proofs Go.RowKit
set_option linter.unusedVariables false
set_option linter.unusedSimpArgs false
attribute [local go_sem] Oper.semAt_some
theorem take_succ_get {α : Type} {L : List α} {k : Nat} (h : k < L.length) : L.take (k + 1) = L.take k ++ [L[k]] := by
  rw [List.take_succ_eq_append_getElem h]
/-- Spans lie from an address on, in a block below B. -/
def SpansAtB (B : Nat) (W : World) (A : Option Addr) (L : List SpanD) : Prop := ∀ j (h : j < L.length), ∃ b o, A = some ⟨b, o, none⟩ ∧ b < B ∧ W.rangeAt b (o + j * 14) L[j].cells
theorem SpansAtB.below {B : Nat} {W W' : World} {A : Option Addr} {L : List SpanD} (h : SpansAtB B W A L) (k : Below B W W') : SpansAtB B W' A L := fun j hj =>
  let ⟨b, o, h1, h2, h3⟩ := h j hj
  ⟨b, o, h1, h2, rangeAt_below h3 h2 k⟩
theorem SpansIn.atB {W : World} {A : Option Addr} {L : List SpanD} (h : SpansIn W A L) : SpansAtB W.heap.size W A L := fun j hj =>
  let ⟨b, o, h1, h2⟩ := h j hj
  ⟨b, o, h1, rangeAt_lt h2 (by rw [cells_length]; omega), h2⟩
set_option maxRecDepth 100000 in
set_option maxHeartbeats 4000000 in
theorem values1_in (F : Fence) (n : Nat) (h7 : F.fn 90) (hro : F.round = none) (hn : 1 ≤ n) (l Bs : Nat) (A : Option Addr) (L : List SpanD) (c : Nat) (hreach : L.length ≤ 1000000) (B : Nat) (W : World) (hBW : B ≤ W.heap.size) (J Jx : List SpanD → World → Prop)
    (hJ : AbidesFrom W.heap.size J)
    (hY : ∀ pre x W1, J pre W1 → pre.length < L.length → YieldAt F (n - 1) Tryz.prog l #[.agg x.cells.toArray] W1 fun e W' =>
      (e = .returned (.bool true) ∧ J (pre ++ [x]) W' ∧ Below B W1 W') ∨ (e = .returned (.bool false) ∧ Jx (pre ++ [x]) W'))
    (hBs : W.cell? ⟨Bs, 0, none⟩ = some (.slice A L.length c)) (hc : SpansAtB B W A L) (h0 : J [] W) :
    CallsIn F n Tryz.prog 90 #[.func (.yield l) #[] #[], .pointer (some ⟨Bs, 0, none⟩)] W fun e W' => (∃ v, e = .returned v) ∧
      ((∃ ys, ys = L ∧ J ys W') ∨ (∃ pre, pre <+: L ∧ Jx pre W')) := by
  have HC := Lib.hid hc
  have HJ := Lib.hid hJ
  clear hc hJ
  refine callsIn_of_wp Tryz.func90 rfl h7 ?_ hro
  simp only [Tryz.ntmps90, List.size_toArray, List.length_cons, List.length_nil, Nat.reduceAdd, Nat.reduceSub, Array.replicate_succ, Array.replicate_zero, List.push_toArray, List.append_toArray, List.nil_append, List.cons_append]
  gi_wp2
  gi_loopw [4, 7] (fun t4 i wr => ∃ k : Nat, k ≤ L.length ∧ i = .int .i64 k ∧ J (L.take k) wr ∧ Hid (Below B W wr))
    (fun _ i _ => L.length - (intOf i).toNat)
  case atStart => exact ⟨0, Nat.zero_le _, rfl, h0, Lib.hid (Below.refl _ _)⟩
  case round =>
    obtain ⟨k, hk, rfl, hJs, hB⟩ := hrel
    by_cases hlt : k < L.length
    · obtain ⟨b, o, rfl, _, hr⟩ := HC.out.below hB.out k hlt
      have hlt2 : decide (k < L.length) = true := decide_eq_true hlt
      have ht := Lib.hid (take_succ_get hlt)
      generalize L[k] = x at *
      have f0 : wr.cell? ⟨b, o + k * 14, none⟩ = some (.int .i64 x.trace) := hr 0 _ rfl
      have f1 : wr.cell? ⟨b, o + k * 14 + 1, none⟩ = some (.int .i64 x.id) := hr 1 _ rfl
      have f2 : wr.cell? ⟨b, o + k * 14 + 2, none⟩ = some (.int .i64 x.parent) := hr 2 _ rfl
      have f3 : wr.cell? ⟨b, o + k * 14 + 3, none⟩ = some (.int .i64 x.rev) := hr 3 _ rfl
      have f4 : wr.cell? ⟨b, o + k * 14 + 4, none⟩ = some (.int .i64 x.clock) := hr 4 _ rfl
      have f5 : wr.cell? ⟨b, o + k * 14 + 5, none⟩ = some (.int .i64 x.kind) := hr 5 _ rfl
      have f6 : wr.cell? ⟨b, o + k * 14 + 6, none⟩ = some (.string x.svc) := hr 6 _ rfl
      have f7 : wr.cell? ⟨b, o + k * 14 + 7, none⟩ = some (.string x.ver) := hr 7 _ rfl
      have f8 : wr.cell? ⟨b, o + k * 14 + 8, none⟩ = some (.string x.op) := hr 8 _ rfl
      have f9 : wr.cell? ⟨b, o + k * 14 + 9, none⟩ = some (.int .i64 x.st) := hr 9 _ rfl
      have f10 : wr.cell? ⟨b, o + k * 14 + 10, none⟩ = some (.int .i64 x.en) := hr 10 _ rfl
      have f11 : wr.cell? ⟨b, o + k * 14 + 11, none⟩ = some (.bool x.err) := hr 11 _ rfl
      have f12 : wr.cell? ⟨b, o + k * 14 + 12, none⟩ = some (.slice x.aA x.attrs.length x.aC) := hr 12 _ rfl
      have f13 : wr.cell? ⟨b, o + k * 14 + 13, none⟩ = some (.slice x.lA x.links.length x.lC) := hr 13 _ rfl
      obtain ⟨fn, tmps, assign, body, hy, hR⟩ := hY (L.take k) x (wr.alloc (.cells x.cells.toArray 73)) (HJ.out _ _ _ none hJs (World.grownBy_alloc _ _ none) (fun r e => by cases e)) (by simp; omega)
      clear hr
      unfold SpanD.cells at hy hR
      gi_wp2
      refine hR.mono ?_
      rintro e W3 (⟨rfl, hJ3, hk3⟩ | ⟨rfl, hJx3⟩)
      · have hB3 := Lib.hid (hB.out.trans ((((Below.refl _ wr).alloc (Nat.le_trans hBW hB.out.size) _)).trans hk3))
        clear hk3
        gi_wp2
        go_roundw
        case rel => exact ⟨k + 1, by omega, by go_num, by rw [ht.out]; exact hJ3, hB3⟩
        case measure => simp [intOf]; omega
      · gi_wp2
        refine bodyPost_ret (results_none rfl _ _ _) rfl ?_
        exact ⟨⟨_, rfl⟩, .inr ⟨_, by rw [← ht.out]; exact List.take_prefix _ _, hJx3⟩⟩
    · obtain rfl : k = L.length := by omega
      have hlt2 : decide (L.length < L.length) = false := decide_eq_false hlt
      rw [List.take_length] at hJs
      gi_wp2
      go_end0
      exact ⟨⟨_, rfl⟩, .inl ⟨_, rfl, hJs⟩⟩
theorem values_in (F : Fence) (n : Nat) (h5 : F.fn 72) (hro : F.round = none) (a : Option Addr) (len cap : Nat) (w : World) :
    CallsIn F n Tryz.prog 72 #[.slice a len cap] w fun e w' => e = .returned (.func (.func 90) #[] #[.pointer (some ⟨w.heap.size, 0, none⟩)]) ∧ w' = w.alloc (.cells #[.slice a len cap] 25) := by
  refine callsIn_of_wp Tryz.func72 rfl h5 ?_ hro
  simp only [Tryz.ntmps72, List.size_toArray, List.length_cons, List.length_nil, Nat.reduceAdd, Nat.reduceSub, Array.replicate_succ, Array.replicate_zero, List.push_toArray, List.append_toArray, List.nil_append, List.cons_append]
  gi_wp2
  go_ret
  exact ⟨rfl, rfl⟩
/-- An iterator over a slice of spans gives them all, in order; or a prefix. -/
theorem values_stops (F : Fence) (n : Nat) (h7 : F.fn 90) (hro : F.round = none) (hn : 1 ≤ n) (Bs B : Nat) (A : Option Addr) (L : List SpanD) (c : Nat) (hreach : L.length ≤ 1000000) (w : World) (hB : B ≤ w.heap.size) (hc : w.cell? ⟨Bs, 0, none⟩ = some (.slice A L.length c)) (hI : SpansAtB B w A L) :
    SeqStopsK F n Tryz.prog 90 #[.pointer (some ⟨Bs, 0, none⟩)] (fun x : SpanD => #[Value.agg x.cells.toArray]) (Below B) (fun ys => ys = L) (fun pre => pre <+: L) L.length w := fun l J Jx W hW hJ _ hY h0 => by
  have hc' := (hW.cell (p := ⟨Bs, 0, none⟩) (World.block_lt_of_cell? w _ hc)).trans hc
  refine (values1_in F n h7 hro hn l Bs A L c hreach B W (Nat.le_trans hB hW.size) J Jx hJ hY hc' (hI.below (hW.mono hB)) h0).mono ?_
  rintro e W' ⟨he, ⟨ys, rfl, hj⟩ | ⟨pre, hp, hj⟩⟩
  · exact ⟨he, .inl ⟨_, rfl, hj⟩⟩
  · exact ⟨he, .inr ⟨_, hp, hj⟩⟩
end Go.Proofs.YtnddlpfmagdbfaaGreatDoor
/- Contracts: the spans of an iterator collected. -/
namespace Go.Proofs.YtnddlpfmagdbfaaGreatDoor
open Go Go.Proofs Go.RowKit
set_option linter.unusedVariables false
set_option linter.unusedSimpArgs false
attribute [local go_sem] Oper.semAt_some
theorem infoX : (Tryz.prog.info? 73).map (fun i => (i.zero, i.size, i.bytes)) = some (some (.agg #[.int .i64 0, .int .i64 0, .int .i64 0, .int .i64 0, .int .i64 0, .int .i64 0, .string ⟨#[]⟩, .string ⟨#[]⟩, .string ⟨#[]⟩, .int .i64 0, .int .i64 0, .bool false, .slice none 0 0, .slice none 0 0]), 14, 168) := by kernel_rfl
theorem cells_new (W : World) (t : TypeId) (cs : List Value) : ∀ j u, cs[j]? = some u → (W.alloc (.cells cs.toArray t)).cell? ((⟨W.heap.size, 0, none⟩ : Addr).add j) = some u := fun j u h => by
  rw [Addr.add_mid, Nat.zero_add, cell_of (blk_new _ _ _)]
  simpa using h
/-- A block that holds a span. -/
def BoxX (W : World) (b : Nat) (x : SpanD) : Prop := W.heap[b]? = some (.cells x.cells.toArray 73 (0, 0))
set_option maxRecDepth 100000 in
set_option maxHeartbeats 4000000 in
theorem appendSeq_in (F : Fence) (n : Nat) (h98 : F.fn 98) (h90 : F.fn 90) (hro : F.round = none) (hn : 4 ≤ n) (Bs : Nat) (A : Option Addr) (L : List SpanD) (c : Nat) (hreach : L.length ≤ 100000) (w : World)
    (hc : w.cell? ⟨Bs, 0, none⟩ = some (.slice A L.length c)) (hI : SpansIn w A L) :
    CallsIn F n Tryz.prog 98 #[.slice none 0 0, .func (.func 90) #[] #[.pointer (some ⟨Bs, 0, none⟩)]] w fun e W' => ∃ v, e = .returned v ∧ W'.ownsRow w.heap.size 73 14 v L.length (cellsX L) ∧ (v = .slice none 0 0 ↔ L = []) ∧ Below w.heap.size w W' := by
  have h1 : 1 ≤ n := by omega
  obtain ⟨i0, hi, hz0, hz1, hz2⟩ := info_parts infoX
  have hlt := World.block_lt_of_cell? w _ hc
  refine callsIn_of_wp_marks Tryz.func98 rfl h98 ?_ hro
  simp only [Tryz.ntmps98, List.size_toArray, List.length_cons, List.length_nil, Nat.reduceAdd, Nat.reduceSub, Array.replicate_succ, Array.replicate_zero, List.push_toArray, List.append_toArray, List.nil_append, List.cons_append]
  gi_wp2
  have bS := Boxed.new w 25 (.slice none 0 0)
  have hB0 : Below w.heap.size w (w.alloc (.cells #[.slice none 0 0] 25)) := (Below.refl _ w).alloc (Nat.le_refl _) _
  have hsz : (w.alloc (.cells #[.slice none 0 0] 25)).heap.size = w.heap.size + 1 := by simp
  have hc0 := (hB0.cell (p := ⟨Bs, 0, none⟩) hlt).trans hc
  have hI0 := hI.atB.below hB0
  obtain ⟨W0, hW0⟩ : ∃ W0, w.alloc (.cells #[.slice none 0 0] 25) = W0 := ⟨_, rfl⟩
  rw [hW0] at bS hB0 hsz hc0 hI0 ⊢
  clear hW0
  refine wpIn_rangeFunc_ownH hro h1 (gf := 90) (lb := #[.pointer (some ⟨Bs, 0, none⟩)]) rfl h90 (enters_of Tryz.func90 (by kernel_rfl) rfl)
    (values_stops F (n - 1) h90 hro (by omega) Bs w.heap.size A L c (by omega) W0 (by omega) hc0 hI0) belowK_t (belowK_b (by omega)) (Below.refl _ _) (fun _ => rfl)
    (fun pre W => (∃ v, Boxed W w.heap.size 25 v ∧ W.ownsRow w.heap.size 73 14 v pre.length (cellsX pre) ∧ (v = .slice none 0 0 ↔ pre = [])) ∧ Below w.heap.size w W)
    (fun _ _ _ => False) (OwnFrom.and (Own.from (holdsRow_own w.heap.size w.heap.size 25 73 14 (fun pre => pre.length) (fun pre => cellsX pre) (fun pre v => v = .slice none 0 0 ↔ pre = [])) _) (ownFrom_below (Nat.le_refl _) (by omega)))
    (fun _ => ownFrom_pure _ (fun _ => False)) ⟨⟨_, bS, World.ownsRow_nil _ _ _ _, by simp⟩, hB0⟩
    (fun x a' W => ∃ Bx, w.heap.size + 1 ≤ Bx ∧ BoxX W Bx x ∧ a' = { tmps := #[.slice none 0 0, .func (.func 90) #[] #[.pointer (some ⟨Bs, 0, none⟩)], .pointer (some ⟨w.heap.size, 0, none⟩), undef, .slice none 0 0, .pointer (some ⟨Bx, 0, none⟩), .func (.func 90) #[] #[.pointer (some ⟨Bs, 0, none⟩)], .agg x.cells.toArray, undef, undef, undef, undef, undef], defers := [] })
    ?hAx ?assign ?body ?done ?stop
  case hAx =>
    rintro x a' s X Y row ⟨Bx, h2, hx, rfl⟩ hg hrow
    refine ⟨Bx, h2, (hg.block Bx (by have := (Array.getElem?_eq_some_iff.1 hx).1; exact this) (fun e' => ?_)).trans hx, rfl⟩
    obtain ⟨_, o, ho, hcc⟩ := hrow Bx e'.symm
    rw [show X.heap[Bx]? = _ from hx] at ho; cases ho; cases hcc
  case assign =>
    rintro l pre x W K ⟨hv, hB⟩ hK
    have hK2 := Lib.hid hK
    have hB2 := Lib.hid hB
    clear hK hB
    unfold SpanD.cells
    gi_wp2
    obtain ⟨v, hv1, hv2, hv3⟩ := hv
    exact hK2.out _ _ ((KeepsOthers.alloc _ _).from _) ((Below.refl _ W).alloc hB2.out.size _) ⟨⟨v, hv1.alloc _, hv2.alloc _, hv3⟩, hB2.out.alloc hB2.out.size _⟩ ⟨W.heap.size, by have := hv1.lt; omega, heap_alloc_new _ _, rfl⟩
  case body =>
    rintro l pre x a' W hl ⟨r, hr⟩ ⟨⟨v, hv, hrow, hnil⟩, hB⟩ ⟨Bx, hBx, bX, rfl⟩ hlen
    have f0 : W.cell? ⟨Bx, 0, none⟩ = some (.int .i64 x.trace) := cell_of bX 0
    have f1 : W.cell? ⟨Bx, 1, none⟩ = some (.int .i64 x.id) := cell_of bX 1
    have f2 : W.cell? ⟨Bx, 2, none⟩ = some (.int .i64 x.parent) := cell_of bX 2
    have f3 : W.cell? ⟨Bx, 3, none⟩ = some (.int .i64 x.rev) := cell_of bX 3
    have f4 : W.cell? ⟨Bx, 4, none⟩ = some (.int .i64 x.clock) := cell_of bX 4
    have f5 : W.cell? ⟨Bx, 5, none⟩ = some (.int .i64 x.kind) := cell_of bX 5
    have f6 : W.cell? ⟨Bx, 6, none⟩ = some (.string x.svc) := cell_of bX 6
    have f7 : W.cell? ⟨Bx, 7, none⟩ = some (.string x.ver) := cell_of bX 7
    have f8 : W.cell? ⟨Bx, 8, none⟩ = some (.string x.op) := cell_of bX 8
    have f9 : W.cell? ⟨Bx, 9, none⟩ = some (.int .i64 x.st) := cell_of bX 9
    have f10 : W.cell? ⟨Bx, 10, none⟩ = some (.int .i64 x.en) := cell_of bX 10
    have f11 : W.cell? ⟨Bx, 11, none⟩ = some (.bool x.err) := cell_of bX 11
    have f12 : W.cell? ⟨Bx, 12, none⟩ = some (.slice x.aA x.attrs.length x.aC) := cell_of bX 12
    have f13 : W.cell? ⟨Bx, 13, none⟩ = some (.slice x.lA x.links.length x.lC) := cell_of bX 13
    have hvc := hv.cell
    have hvf := hv.frozen
    have hle := hB.size
    have HN := Lib.hid (cells_new W 73 x.cells)
    have HL := Lib.hid hlen
    have HV := Lib.hid hv
    have HR := Lib.hid hrow
    have HZ := Lib.hid hnil
    have HB := Lib.hid hB
    have HO := Lib.hid (cells_one x)
    clear hr hnil hB hlen hv hrow bX
    unfold SpanD.cells at HN HO ⊢
    gi_wp2_with (gi_at_builtin; refine wpListIn_append_own _ rfl _ _ 25 rfl w.heap.size 73 i0 _ 14 168 Tryz.underlying25 hi hz0 hz1 hz2 rfl (by decide) v pre.length (cellsX pre) rfl (HR.out.alloc _) ⟨W.heap.size, 0, none⟩ 1 1 x.cells rfl rfl HN.out HO.out (by have := HL.out; unfold maxLen; omega) (by have := HL.out; omega) (by simp; omega) ?_; intro v' w1 hown' hgrow _; obtain ⟨g', cap', rfl⟩ := ownsRow_succ hown'; obtain ⟨hv1, hv2, hr2, hk2, hb2⟩ := HV.out.appended (by decide) HR.out hle (Nat.le_refl _) hown' hgrow; have hc1 := hv1.cell; have hf1 := hv1.frozen; have Hv2 := Lib.hid hv2; have Hr2 := Lib.hid hr2; have Hk2 := Lib.hid hk2; have Hb2 := Lib.hid hb2; clear hown' hgrow hv1 hv2 hr2 hk2 hb2)
    have e : cellsX (pre ++ [x]) = cellsX pre ++ x.cells := by simp [cellsX]
    exact ⟨Hk2.out.from _, Hb2.out, ⟨_, Hv2.out, by rw [e, List.length_append, List.length_singleton]; exact Hr2.out, by simp⟩, HB.out.trans Hb2.out⟩
  case done =>
    rintro D xs W hD rfl ⟨⟨v, hv, hrow, hnil⟩, hB⟩ hK
    have hvc := hv.cell
    have HR := Lib.hid hrow
    have HZ := Lib.hid hnil
    have HB := Lib.hid hB
    clear hrow hnil hB hv
    gi_wp2
    refine ⟨by simp, .inl ⟨_, _, rfl, run_takeDeferred hK, ?_⟩⟩
    exact ⟨_, results_tmp rfl _ _ _, v, rfl, ownsRow_putObj HR.out _ hK rfl, HZ.out, HB.out.trans (belowK_b (w := w) (Nat.le_refl _) W D _ _ (by omega) hK rfl rfl)⟩
  case stop =>
    intro D c pre W _ _ h
    exact h.elim
theorem collect_any (Bs : Nat) (A : Option Addr) (L : List SpanD) (c : Nat) (hreach : L.length ≤ 100000) (w : World) (hc : w.cell? ⟨Bs, 0, none⟩ = some (.slice A L.length c)) (hI : SpansIn w A L) :
    Calls Tryz.prog 88 #[.func (.func 90) #[] #[.pointer (some ⟨Bs, 0, none⟩)]] w fun e W' => ∃ v, e = .returned v ∧ W'.ownsRow w.heap.size 73 14 v L.length (cellsX L) ∧ (v = .slice none 0 0 ↔ L = []) ∧ Below w.heap.size w W' := by
  have h := callsIn_wide.1 (appendSeq_in Fence.wide 5 trivial trivial rfl (by omega) Bs A L c hreach w hc hI)
  go_enter Tryz.func88, Tryz.ntmps88
  go_wp2_with (first
    | (go_at_call 98; (with_reducible refine h.mono ?_); rintro e w' ⟨v, rfl, h1, h2, h3⟩))
  go_ret
  exact ⟨v, rfl, h1, h2, h3⟩
end Go.Proofs.YtnddlpfmagdbfaaGreatDoor
/- Contracts: attributes, references, spans copied. -/
namespace Go.Proofs.YtnddlpfmagdbfaaGreatDoor
open Go Go.Proofs Go.RowKit
set_option linter.unusedVariables false
set_option linter.unusedSimpArgs false
def AttrD.cells (x : AttrD) : List Value := [.string x.key, .int .i64 x.kind, .string x.text, .int .i64 x.num]
def RefD.cells (x : RefD) : List Value := [.int .i64 x.trace, .int .i64 x.id]
theorem flat_get {α : Type} {f : α → List Value} {k : Nat} (hk : ∀ x, (f x).length = k) {L : List α} {j i : Nat} (hj : j < L.length) (hi : i < k) : (L.flatMap f)[j * k + i]? = (f L[j])[i]? := by
  induction L generalizing j with
  | nil => simp at hj
  | cons x L ih =>
    cases j with
    | zero =>
      simp only [List.flatMap_cons, Nat.zero_mul, Nat.zero_add, List.getElem_cons_zero]
      rw [List.getElem?_append_left (by rw [hk]; exact hi)]
    | succ j =>
      simp only [List.getElem_cons_succ]
      rw [← ih (by simpa using hj)]
      simp only [List.flatMap_cons]
      rw [List.getElem?_append_right (by rw [hk, Nat.succ_mul]; omega), hk]
      congr 1
      rw [Nat.succ_mul]; omega
theorem flat_length {α : Type} {f : α → List Value} {k : Nat} (hk : ∀ x, (f x).length = k) (L : List α) : (L.flatMap f).length = L.length * k := by
  induction L with
  | nil => simp
  | cons x L ih => rw [List.flatMap_cons, List.length_append, hk, ih, List.length_cons, Nat.succ_mul]; omega
theorem flat_at {α : Type} {f : α → List Value} {k : Nat} (hk : ∀ x, (f x).length = k) {L : List α} {m : Nat} {u : Value} (h : (L.flatMap f)[m]? = some u) : ∃ (h1 : m / k < L.length) (h2 : m % k < k), (f L[m / k])[m % k]? = some u := by
  have hm : m < (L.flatMap f).length := (List.getElem?_eq_some_iff.1 h).1
  rw [flat_length hk] at hm
  have hk0 : 0 < k := by
    rcases Nat.eq_zero_or_pos k with h0 | h0
    · rw [h0] at hm; omega
    · exact h0
  have h1 : m / k < L.length := (Nat.div_lt_iff_lt_mul hk0).2 hm
  have h2 := Nat.mod_lt m hk0
  refine ⟨h1, h2, ?_⟩
  rw [← flat_get hk h1 h2, Nat.mul_comm, Nat.div_add_mod]
  exact h
theorem flat_one {α : Type} {f : α → List Value} (h : ∀ x, ∀ v ∈ f x, v.oneCell' = true) (L : List α) : ∀ v ∈ L.flatMap f, v.oneCell' = true := fun v hv => by
  obtain ⟨x, _, h1⟩ := List.mem_flatMap.1 hv
  exact h x v h1
theorem AttrsAt.flat {W : World} {b o : Nat} {L : List AttrD} (h : AttrsAt W (some ⟨b, o, none⟩) L) : ∀ m u, (L.flatMap AttrD.cells)[m]? = some u → W.cell? ⟨b, o + m, none⟩ = some u := fun m u hu => by
  obtain ⟨h1, h2, h3⟩ := flat_at (k := 4) (fun _ => rfl) hu
  obtain ⟨ad, e, g0, g1, g2, g3⟩ := h _ h1
  cases e
  rw [Addr.add_mid] at g0 g1 g2 g3
  simp only at g1 g2 g3
  have e := Nat.div_add_mod m 4
  generalize m / 4 = j at *
  generalize L[j] = x at *
  match hq : m % 4, h2, h3 with
  | 0, _, h3 => cases h3; rw [show o + m = o + j * 4 by omega]; exact g0
  | 1, _, h3 => cases h3; rw [show o + m = o + j * 4 + 1 by omega]; exact g1
  | 2, _, h3 => cases h3; rw [show o + m = o + j * 4 + 2 by omega]; exact g2
  | 3, _, h3 => cases h3; rw [show o + m = o + j * 4 + 3 by omega]; exact g3
theorem RefsAt.flat {W : World} {b o : Nat} {L : List RefD} (h : RefsAt W (some ⟨b, o, none⟩) L) : ∀ m u, (L.flatMap RefD.cells)[m]? = some u → W.cell? ⟨b, o + m, none⟩ = some u := fun m u hu => by
  obtain ⟨h1, h2, h3⟩ := flat_at (k := 2) (fun _ => rfl) hu
  obtain ⟨ad, e, g0, g1⟩ := h _ h1
  cases e
  rw [Addr.add_mid] at g0 g1
  simp only at g1
  have e := Nat.div_add_mod m 2
  generalize m / 2 = j at *
  generalize L[j] = x at *
  match hq : m % 2, h2, h3 with
  | 0, _, h3 => cases h3; rw [show o + m = o + j * 2 by omega]; exact g0
  | 1, _, h3 => cases h3; rw [show o + m = o + j * 2 + 1 by omega]; exact g1
theorem row_cell {W : World} {base : Nat} {e : TypeId} {k : Nat} {A : Option Addr} {n m c : Nat} {xs : List Value} (h : W.ownsRow base e k (.slice A n c) m xs) {j : Nat} {u : Value} (hu : xs[j]? = some u) : ∃ g, A = some ⟨g, 0, none⟩ ∧ base ≤ g ∧ W.cell? ⟨g, j, none⟩ = some u := by
  rcases h.2 with ⟨h1, rfl⟩ | ⟨g, cap, cur, h1, hb, hg, _, _, _, ht⟩
  · have := h.1
    rw [Nat.zero_mul] at this
    rw [List.eq_nil_of_length_eq_zero this] at hu
    cases hu
  · cases h1
    refine ⟨g, rfl, hb, ?_⟩
    rw [cell_of hg, ← Array.getElem?_toList]
    rw [← ht, List.getElem?_take] at hu
    split at hu
    · exact hu
    · cases hu
theorem attrs_row {W : World} {base : Nat} {e : TypeId} {A : Option Addr} {n m c : Nat} {L : List AttrD} (h : W.ownsRow base e 4 (.slice A n c) m (L.flatMap AttrD.cells)) : AttrsAt W A L := fun j hj => by
  have q : ∀ i (hi : i < 4) u, L[j].cells[i]? = some u → ∃ g, A = some ⟨g, 0, none⟩ ∧ base ≤ g ∧ W.cell? ⟨g, j * 4 + i, none⟩ = some u := fun i hi u hu => row_cell h ((flat_get (k := 4) (fun _ => rfl) hj hi).trans hu)
  obtain ⟨g, e0, _, g0⟩ := q 0 (by omega) _ rfl
  subst e0
  have q' : ∀ i (hi : i < 4) u, L[j].cells[i]? = some u → W.cell? ⟨g, j * 4 + i, none⟩ = some u := fun i hi u hu => by
    obtain ⟨g', e', _, hc⟩ := q i hi u hu
    cases e'; exact hc
  refine ⟨_, rfl, ?_⟩
  rw [Addr.add_mid, Nat.zero_add]
  exact ⟨q' 0 (by omega) _ rfl, q' 1 (by omega) _ rfl, q' 2 (by omega) _ rfl, q' 3 (by omega) _ rfl⟩
theorem refs_row {W : World} {base : Nat} {e : TypeId} {A : Option Addr} {n m c : Nat} {L : List RefD} (h : W.ownsRow base e 2 (.slice A n c) m (L.flatMap RefD.cells)) : RefsAt W A L := fun j hj => by
  have q : ∀ i (hi : i < 2) u, L[j].cells[i]? = some u → ∃ g, A = some ⟨g, 0, none⟩ ∧ base ≤ g ∧ W.cell? ⟨g, j * 2 + i, none⟩ = some u := fun i hi u hu => row_cell h ((flat_get (k := 2) (fun _ => rfl) hj hi).trans hu)
  obtain ⟨g, e0, _, g0⟩ := q 0 (by omega) _ rfl
  subst e0
  refine ⟨_, rfl, ?_⟩
  rw [Addr.add_mid, Nat.zero_add]
  obtain ⟨g', e', _, g1⟩ := q 1 (by omega) _ rfl
  cases e'
  exact ⟨g0, g1⟩
theorem infoA : (Tryz.prog.info? 110).map (fun i => (i.zero, i.size, i.bytes)) = some (some (.agg #[.string ⟨#[]⟩, .int .i64 0, .string ⟨#[]⟩, .int .i64 0]), 4, 48) := by kernel_rfl
set_option maxHeartbeats 2000000 in
set_option maxRecDepth 10000 in
theorem cloneA_any (A : Option Addr) (n c : Nat) (xs : List Value) (w : World) (hl : xs.length = n * 4) (hA : A = none → n = 0) (hx : ∀ p, A = some p → ∀ j u, xs[j]? = some u → w.cell? (p.add j) = some u) (h1 : ∀ u ∈ xs, u.oneCell' = true) (hn : n ≤ 1000) :
    Calls Tryz.prog 53 #[.slice A n c] w fun e w' => ∃ A' c', e = .returned (.slice A' n c') ∧ w'.ownsRow w.heap.size 110 4 (.slice A' n c') n xs ∧ (∀ p, A' = some p → p.spot = none ∧ w.heap.size ≤ p.block ∧ p.block < w'.heap.size) ∧ (A' = none → n = 0 ∧ c' = 0) ∧ Below w.heap.size w w' := by
  obtain ⟨i0, hi, hz0, hz1, hz2⟩ := info_parts infoA
  have hq : ∀ (w : World) (a : Option Addr) (n c n' c' : Nat), (binOp .eql 70 (.slice a n c) (.slice none n' c')).run Tryz.prog w = .ok (.bool a.isNone) w := fun w a n c n' c' => Lib.run_eql_slice_nil w _ _ a n c n' c' Tryz.underlying70
  cases A with
  | none =>
    obtain rfl := hA rfl
    obtain rfl : xs = [] := List.eq_nil_of_length_eq_zero (by simpa using hl)
    clear hx h1 hl
    go_enter Tryz.func53, Tryz.ntmps53
    go_wp2_with fail
    go_ret
    exact ⟨none, 0, rfl, World.ownsRow_nil _ _ _ _, (fun p h => by cases h), (by simp), Below.refl _ _⟩
  | some p =>
    have HL := Lib.hid hl
    have HX := Lib.hid fun j u hu => (Grew.alloc w (.cells #[] 110)).cell (hx p rfl j u hu)
    have H1 := Lib.hid h1
    have hO := Lib.hid (World.ownsRow_made (e := 110) (size := 4) (base := w.heap.size) w #[] 0 (Nat.le_refl _) (Nat.zero_le _) rfl)
    clear hl hx h1 hA
    go_enter Tryz.func53, Tryz.ntmps53
    go_wp2_with (at_builtin; (refine wpList_append_own_at _ rfl (.tmp 5) (.tmp 6) 70 rfl w.heap.size 110 i0 _ 4 48 Tryz.underlying70 hi hz0 hz1 hz2 rfl (by decide) _ 0 [] rfl hO.out p n c xs rfl HL.out HX.out H1.out (by unfold maxLen; omega) (by omega) (by simp) ?_; intro v' w1 hown hgr hnil hat; have HB := Lib.hid (((Below.refl _ w).alloc (Nat.le_refl _) _).grown hgr (by simp) (fun k e => by cases e; simp)); have HW := Lib.hid hown; clear hgr hnil hat hown))
    rw [List.nil_append, Nat.zero_add] at HW
    rcases HW.out.2 with ⟨rfl, rfl⟩ | ⟨g, cap, cur, rfl, hbg, hgg, _⟩
    · go_ret
      exact ⟨none, 0, rfl, HW.out, (fun p h => by cases h), (by simp), HB.out⟩
    · go_ret
      exact ⟨_, cap, rfl, HW.out, (fun p h => by cases h; exact ⟨rfl, hbg, (Array.getElem?_eq_some_iff.1 hgg).1⟩), (fun h => by cases h), HB.out⟩
theorem infoR : (Tryz.prog.info? 113).map (fun i => (i.zero, i.size, i.bytes)) = some (some (.agg #[.int .i64 0, .int .i64 0]), 2, 16) := by kernel_rfl
set_option maxHeartbeats 2000000 in
set_option maxRecDepth 10000 in
theorem cloneR_any (A : Option Addr) (n c : Nat) (xs : List Value) (w : World) (hl : xs.length = n * 2) (hA : A = none → n = 0) (hx : ∀ p, A = some p → ∀ j u, xs[j]? = some u → w.cell? (p.add j) = some u) (h1 : ∀ u ∈ xs, u.oneCell' = true) (hn : n ≤ 1000) :
    Calls Tryz.prog 54 #[.slice A n c] w fun e w' => ∃ A' c', e = .returned (.slice A' n c') ∧ w'.ownsRow w.heap.size 113 2 (.slice A' n c') n xs ∧ (∀ p, A' = some p → p.spot = none ∧ w.heap.size ≤ p.block ∧ p.block < w'.heap.size) ∧ (A' = none → n = 0 ∧ c' = 0) ∧ Below w.heap.size w w' := by
  obtain ⟨i0, hi, hz0, hz1, hz2⟩ := info_parts infoR
  have hq : ∀ (w : World) (a : Option Addr) (n c n' c' : Nat), (binOp .eql 71 (.slice a n c) (.slice none n' c')).run Tryz.prog w = .ok (.bool a.isNone) w := fun w a n c n' c' => Lib.run_eql_slice_nil w _ _ a n c n' c' Tryz.underlying71
  cases A with
  | none =>
    obtain rfl := hA rfl
    obtain rfl : xs = [] := List.eq_nil_of_length_eq_zero (by simpa using hl)
    clear hx h1 hl
    go_enter Tryz.func54, Tryz.ntmps54
    go_wp2_with fail
    go_ret
    exact ⟨none, 0, rfl, World.ownsRow_nil _ _ _ _, (fun p h => by cases h), (by simp), Below.refl _ _⟩
  | some p =>
    have HL := Lib.hid hl
    have HX := Lib.hid fun j u hu => (Grew.alloc w (.cells #[] 113)).cell (hx p rfl j u hu)
    have H1 := Lib.hid h1
    have hO := Lib.hid (World.ownsRow_made (e := 113) (size := 2) (base := w.heap.size) w #[] 0 (Nat.le_refl _) (Nat.zero_le _) rfl)
    clear hl hx h1 hA
    go_enter Tryz.func54, Tryz.ntmps54
    go_wp2_with (at_builtin; (refine wpList_append_own_at _ rfl (.tmp 5) (.tmp 6) 71 rfl w.heap.size 113 i0 _ 2 16 Tryz.underlying71 hi hz0 hz1 hz2 rfl (by decide) _ 0 [] rfl hO.out p n c xs rfl HL.out HX.out H1.out (by unfold maxLen; omega) (by omega) (by simp) ?_; intro v' w1 hown hgr hnil hat; have HB := Lib.hid (((Below.refl _ w).alloc (Nat.le_refl _) _).grown hgr (by simp) (fun k e => by cases e; simp)); have HW := Lib.hid hown; clear hgr hnil hat hown))
    rw [List.nil_append, Nat.zero_add] at HW
    rcases HW.out.2 with ⟨rfl, rfl⟩ | ⟨g, cap, cur, rfl, hbg, hgg, _⟩
    · go_ret
      exact ⟨none, 0, rfl, HW.out, (fun p h => by cases h), (by simp), HB.out⟩
    · go_ret
      exact ⟨_, cap, rfl, HW.out, (fun p h => by cases h; exact ⟨rfl, hbg, (Array.getElem?_eq_some_iff.1 hgg).1⟩), (fun h => by cases h), HB.out⟩
set_option maxHeartbeats 2000000 in
set_option maxRecDepth 10000 in
theorem cloneX_any (A : Option Addr) (n c : Nat) (xs : List Value) (w : World) (hl : xs.length = n * 14) (hA : A = none → n = 0) (hx : ∀ p, A = some p → ∀ j u, xs[j]? = some u → w.cell? (p.add j) = some u) (h1 : ∀ u ∈ xs, u.oneCell' = true) (hn : n ≤ 1000) :
    Calls Tryz.prog 52 #[.slice A n c] w fun e w' => ∃ A' c', e = .returned (.slice A' n c') ∧ w'.ownsRow w.heap.size 73 14 (.slice A' n c') n xs ∧ (∀ p, A' = some p → p.spot = none ∧ w.heap.size ≤ p.block ∧ p.block < w'.heap.size) ∧ (A' = none → n = 0 ∧ c' = 0) ∧ Below w.heap.size w w' := by
  obtain ⟨i0, hi, hz0, hz1, hz2⟩ := info_parts infoX
  have hq : ∀ (w : World) (a : Option Addr) (n c n' c' : Nat), (binOp .eql 25 (.slice a n c) (.slice none n' c')).run Tryz.prog w = .ok (.bool a.isNone) w := fun w a n c n' c' => Lib.run_eql_slice_nil w _ _ a n c n' c' Tryz.underlying25
  cases A with
  | none =>
    obtain rfl := hA rfl
    obtain rfl : xs = [] := List.eq_nil_of_length_eq_zero (by simpa using hl)
    clear hx h1 hl
    go_enter Tryz.func52, Tryz.ntmps52
    go_wp2_with fail
    go_ret
    exact ⟨none, 0, rfl, World.ownsRow_nil _ _ _ _, (fun p h => by cases h), (by simp), Below.refl _ _⟩
  | some p =>
    have HL := Lib.hid hl
    have HX := Lib.hid fun j u hu => (Grew.alloc w (.cells #[] 73)).cell (hx p rfl j u hu)
    have H1 := Lib.hid h1
    have hO := Lib.hid (World.ownsRow_made (e := 73) (size := 14) (base := w.heap.size) w #[] 0 (Nat.le_refl _) (Nat.zero_le _) rfl)
    clear hl hx h1 hA
    go_enter Tryz.func52, Tryz.ntmps52
    go_wp2_with (at_builtin; (refine wpList_append_own_at _ rfl (.tmp 5) (.tmp 6) 25 rfl w.heap.size 73 i0 _ 14 168 Tryz.underlying25 hi hz0 hz1 hz2 rfl (by decide) _ 0 [] rfl hO.out p n c xs rfl HL.out HX.out H1.out (by unfold maxLen; omega) (by omega) (by simp) ?_; intro v' w1 hown hgr hnil hat; have HB := Lib.hid (((Below.refl _ w).alloc (Nat.le_refl _) _).grown hgr (by simp) (fun k e => by cases e; simp)); have HW := Lib.hid hown; clear hgr hnil hat hown))
    rw [List.nil_append, Nat.zero_add] at HW
    rcases HW.out.2 with ⟨rfl, rfl⟩ | ⟨g, cap, cur, rfl, hbg, hgg, _⟩
    · go_ret
      exact ⟨none, 0, rfl, HW.out, (fun p h => by cases h), (by simp), HB.out⟩
    · go_ret
      exact ⟨_, cap, rfl, HW.out, (fun p h => by cases h; exact ⟨rfl, hbg, (Array.getElem?_eq_some_iff.1 hgg).1⟩), (fun h => by cases h), HB.out⟩
end Go.Proofs.YtnddlpfmagdbfaaGreatDoor
/- Blocks that are known whole. -/
namespace Go.Proofs.YtnddlpfmagdbfaaGreatDoor
open Go Go.Proofs Go.RowKit
set_option linter.unusedVariables false
set_option linter.unusedSimpArgs false
theorem cell_blk {W : World} {g : Nat} {cs : Array Value} {t : TypeId} {f : Nat × Nat} (h : W.heap[g]? = some (.cells cs t f)) (i : Nat) {v : Value} (hv : cs[i]? = some v) : W.cell? ⟨g, i, none⟩ = some v := by
  simp only [World.cell?, h]
  exact hv
theorem frozen_blk {W : World} {g : Nat} {cs : Array Value} {t : TypeId} (h : W.heap[g]? = some (.cells cs t (0, 0))) (i : Nat) : W.frozen? ⟨g, i, none⟩ = false := by
  simp only [World.frozen?, h]
  simp
theorem blk_lt {W : World} {g : Nat} {o : Obj} (h : W.heap[g]? = some o) : g < W.heap.size := by
  rcases Nat.lt_or_ge g W.heap.size with hl | hl
  · exact hl
  · rw [Array.getElem?_eq_none hl] at h; cases h
theorem blk_keep {W W' : World} {g : Nat} {o : Obj} (k : Below W.heap.size W W') (h : W.heap[g]? = some o) : W'.heap[g]? = some o := (k.block _ (blk_lt h)).trans h
theorem below_drew (w : World) : Below w.heap.size w w.drew := ⟨rfl, rfl, rfl, Nat.le_refl _, fun _ _ => rfl⟩
/-- A block that is written whole. -/
theorem blk_setCells (g : Nat) (t : TypeId) : ∀ (vs : List Value) (o : Nat) (W : World) (cs : Array Value), W.heap[g]? = some (.cells cs t (0, 0)) → o + vs.length = cs.size → (W.setCells g o vs).heap[g]? = some (.cells ((cs.toList.take o) ++ vs).toArray t (0, 0))
  | [], o, W, cs, h, hl => by
    simp only [World.setCells]
    have e : (cs.toList.take o ++ []).toArray = cs := by
      rw [List.append_nil, List.take_of_length_le (by simp at hl ⊢; omega)]
    rw [e]; exact h
  | v :: vs, o, W, cs, h, hl => by
    simp only [World.setCells]
    simp only [List.length_cons] at hl
    have h2 := heap_setCell_same W g o cs t v h
    rw [blk_setCells g t vs (o + 1) _ _ h2 (by simp; omega)]
    have e : (cs.setIfInBounds o v).toList.take (o + 1) = cs.toList.take o ++ [v] := by
      rw [Array.toList_setIfInBounds, List.take_succ_eq_append_getElem (by simp; omega), List.getElem_set_self, List.take_set_of_le (Nat.le_refl _)]
    rw [e, List.append_assoc]; rfl
theorem heap_setCells_other (g : Nat) : ∀ (vs : List Value) (o : Nat) (W : World) (k : Nat), k ≠ g → (W.setCells g o vs).heap[k]? = W.heap[k]?
  | [], _, _, _, _ => rfl
  | v :: vs, o, W, k, h => by
    simp only [World.setCells]
    rw [heap_setCells_other g vs (o + 1) _ k h]
    exact heap_setCell_other W ⟨g, o, none⟩ k v h
theorem below_setCells {base : Nat} {w : World} (g : Nat) (hg : base ≤ g) : ∀ (vs : List Value) (o : Nat) (W : World), Below base w W → Below base w (W.setCells g o vs)
  | [], _, _, h => h
  | v :: vs, o, W, h => by
    simp only [World.setCells]
    exact below_setCells g hg vs (o + 1) _ (h.setCell hg _)
theorem there_blk {W : World} {g : Nat} {cs : Array Value} {t : TypeId} (h : W.heap[g]? = some (.cells cs t (0, 0))) {n : Nat} (hn : n = cs.size) : W.there g 0 n := fun j hj => by
  rw [Nat.zero_add]
  exact ⟨by rw [cell_blk h j (v := cs[j]'(by omega)) (by simp [show j < cs.size by omega])]; rfl, frozen_blk h j⟩
/-- A function that returns a block which has just been written whole. -/
theorem ret_row {P : Program} {fn : Func} {R : Ending → World → Prop} {a : Act} {W : World} {g : Nat} {vs : List Value} {p : Tmp} {ty : TypeId} {cs : Array Value} {t : TypeId} {d : TypeDesc} (hres : W.heap[g]? = some (.cells cs t (0, 0))) (hrs : fn.results = #[.cell p ty])
    (hp : a.tmps.getD p undef = .pointer (some ⟨g, 0, none⟩)) (hl : 0 + vs.length = cs.size) (hu : P.underlying ty = some d) (hd : (match d with | .struct _ | .array _ _ => true | _ => false) = true) (hi : (P.info? ty).map (·.size) = some vs.length) (hdef : a.defers = [])
    (hR : R (.returned (.agg vs.toArray)) (W.setCells g 0 vs)) : bodyPost P fn R .ret a (W.setCells g 0 vs) := by
  have h := blk_setCells g t vs 0 W cs hres hl
  rw [List.take_zero, List.nil_append] at h
  exact bodyPost_ret (results_cell_row hrs _ _ g t _ (0, 0) d hp h hu hd (by simpa using hi)) hdef hR
end Go.Proofs.YtnddlpfmagdbfaaGreatDoor
/- Contract: a span copied. -/
namespace Go.Proofs.YtnddlpfmagdbfaaGreatDoor
open Go Go.Proofs Go.RowKit
set_option linter.unusedVariables false
set_option linter.unusedSimpArgs false
/-- The same span, its slices elsewhere. -/
def SpanD.moved (x : SpanD) (A : Option Addr) (c : Nat) (B : Option Addr) (d : Nat) : SpanD := { x with aA := A, aC := c, lA := B, lC := d }
/-- A span's slices are as slices are. -/
structure SpanD.Sound (x : SpanD) : Prop where
  a : x.aA = none → x.attrs = []
  b : ∀ p, x.aA = some p → x.attrs ≠ [] → p.spot = none
  c : x.lA = none → x.links = []
  d : ∀ p, x.lA = some p → x.links ≠ [] → p.spot = none
/-- A span whose slices have been made from block lo on. -/
structure SpanD.Owned (lo : Nat) (W : World) (x : SpanD) : Prop where
  held : x.Held W
  sound : x.Sound
  a : ∀ p, x.aA = some p → lo ≤ p.block ∧ p.block < W.heap.size
  l : ∀ p, x.lA = some p → lo ≤ p.block ∧ p.block < W.heap.size
theorem add_block (p : Addr) (n : Nat) : (p.add n).block = p.block := by unfold Addr.add; split <;> rfl
theorem AttrsAt.same {W W' : World} {A : Option Addr} {L : List AttrD} (h : AttrsAt W A L) (hk : ∀ p, A = some p → W'.heap[p.block]? = W.heap[p.block]?) : AttrsAt W' A L := fun j hj => by
  obtain ⟨ad, e, g0, g1, g2, g3⟩ := h j hj
  have q := hk ad e
  rw [← add_block ad (j * 4)] at q
  exact ⟨ad, e, (World.cell?_of_block q).trans g0, (World.cell?_of_block (a := ⟨(ad.add (j * 4)).block, _, none⟩) q).trans g1, (World.cell?_of_block (a := ⟨(ad.add (j * 4)).block, _, none⟩) q).trans g2, (World.cell?_of_block (a := ⟨(ad.add (j * 4)).block, _, none⟩) q).trans g3⟩
theorem RefsAt.same {W W' : World} {A : Option Addr} {L : List RefD} (h : RefsAt W A L) (hk : ∀ p, A = some p → W'.heap[p.block]? = W.heap[p.block]?) : RefsAt W' A L := fun j hj => by
  obtain ⟨ad, e, g0, g1⟩ := h j hj
  have q := hk ad e
  rw [← add_block ad (j * 2)] at q
  exact ⟨ad, e, (World.cell?_of_block q).trans g0, (World.cell?_of_block (a := ⟨(ad.add (j * 2)).block, _, none⟩) q).trans g1⟩
theorem attrs_below {W W' : World} {A : Option Addr} {L : List AttrD} (h : AttrsAt W A L) (k : Below W.heap.size W W') : AttrsAt W' A L := fun j hj => by
  obtain ⟨ad, e, g0, g1, g2, g3⟩ := h j hj
  have c : ∀ {p : Addr} {v : Value}, W.cell? p = some v → W'.cell? p = some v := fun hc => (k.cell (World.block_lt_of_cell? W _ hc)).trans hc
  exact ⟨ad, e, c g0, c g1, c g2, c g3⟩
theorem refs_below {W W' : World} {A : Option Addr} {L : List RefD} (h : RefsAt W A L) (k : Below W.heap.size W W') : RefsAt W' A L := fun j hj => by
  obtain ⟨ad, e, g0, g1⟩ := h j hj
  have c : ∀ {p : Addr} {v : Value}, W.cell? p = some v → W'.cell? p = some v := fun hc => (k.cell (World.block_lt_of_cell? W _ hc)).trans hc
  exact ⟨ad, e, c g0, c g1⟩
theorem attrs_one : ∀ x : AttrD, ∀ v ∈ x.cells, v.oneCell' = true := by
  intro x v hv
  simp only [AttrD.cells, List.mem_cons, List.not_mem_nil, or_false] at hv
  rcases hv with h | h | h | h <;> subst h <;> rfl
theorem refs_one : ∀ x : RefD, ∀ v ∈ x.cells, v.oneCell' = true := by
  intro x v hv
  simp only [RefD.cells, List.mem_cons, List.not_mem_nil, or_false] at hv
  rcases hv with h | h <;> subst h <;> rfl
theorem copyA_any (A : Option Addr) (L : List AttrD) (c : Nat) (w : World) (h : AttrsAt w A L) (h0 : A = none → L = []) (hs : ∀ p, A = some p → L ≠ [] → p.spot = none) (hl : L.length ≤ 1000) :
    Calls Tryz.prog 53 #[.slice A L.length c] w fun e w' => ∃ A' c', e = .returned (.slice A' L.length c') ∧ AttrsAt w' A' L ∧ (A' = none → L = []) ∧ (∀ p, A' = some p → p.spot = none ∧ w.heap.size ≤ p.block ∧ p.block < w'.heap.size) ∧ Below w.heap.size w w' := by
  refine (cloneA_any A L.length c (L.flatMap AttrD.cells) w (flat_length (k := 4) (f := AttrD.cells) (fun _ => rfl) L) (fun h => by rw [h0 h]; rfl) (fun p hp j u hu => ?_) (flat_one attrs_one L) hl).mono ?_
  · subst hp
    obtain ⟨b, o, s⟩ := p
    have := hs _ rfl (by rintro rfl; simp at hu)
    simp only at this
    subst this
    rw [Addr.add_mid]
    exact h.flat j u hu
  · rintro e w' ⟨A', c', rfl, h1, h2, h3, h4⟩
    exact ⟨A', c', rfl, attrs_row h1, fun h => List.eq_nil_of_length_eq_zero (h3 h).1, h2, h4⟩
theorem copyR_any (A : Option Addr) (L : List RefD) (c : Nat) (w : World) (h : RefsAt w A L) (h0 : A = none → L = []) (hs : ∀ p, A = some p → L ≠ [] → p.spot = none) (hl : L.length ≤ 1000) :
    Calls Tryz.prog 54 #[.slice A L.length c] w fun e w' => ∃ A' c', e = .returned (.slice A' L.length c') ∧ RefsAt w' A' L ∧ (A' = none → L = []) ∧ (∀ p, A' = some p → p.spot = none ∧ w.heap.size ≤ p.block ∧ p.block < w'.heap.size) ∧ Below w.heap.size w w' := by
  refine (cloneR_any A L.length c (L.flatMap RefD.cells) w (flat_length (k := 2) (f := RefD.cells) (fun _ => rfl) L) (fun h => by rw [h0 h]; rfl) (fun p hp j u hu => ?_) (flat_one refs_one L) hl).mono ?_
  · subst hp
    obtain ⟨b, o, s⟩ := p
    have := hs _ rfl (by rintro rfl; simp at hu)
    simp only at this
    subst this
    rw [Addr.add_mid]
    exact h.flat j u hu
  · rintro e w' ⟨A', c', rfl, h1, h2, h3, h4⟩
    exact ⟨A', c', rfl, refs_row h1, fun h => List.eq_nil_of_length_eq_zero (h3 h).1, h2, h4⟩
set_option maxHeartbeats 4000000 in
set_option maxRecDepth 20000 in
theorem copied_any (x : SpanD) (w : World) (hx : x.Held w) (hs : x.Sound) (ha : x.attrs.length ≤ 1000) (hl : x.links.length ≤ 1000) : Calls Tryz.prog 73 #[.agg x.cells.toArray] w
    fun e w' => ∃ A c B d, e = .returned (.agg (x.moved A c B d).cells.toArray) ∧ (x.moved A c B d).Owned w.heap.size w' ∧ Below w.heap.size w w' := by
  have HX := Lib.hid hx
  have HS := Lib.hid hs
  clear hx hs
  obtain ⟨W0, hW0⟩ : ∃ W0, W0 = (w.alloc (.cells x.cells.toArray 73)).alloc (.cells #[.int .i64 0, .int .i64 0, .int .i64 0, .int .i64 0, .int .i64 0, .int .i64 0, .string ⟨#[]⟩, .string ⟨#[]⟩, .string ⟨#[]⟩, .int .i64 0, .int .i64 0, .bool false, .slice none 0 0, .slice none 0 0] 73) := ⟨_, rfl⟩
  have hG : Hid (Grew w W0) := Lib.hid (by rw [hW0]; exact (Grew.alloc _ _).trans (Grew.alloc _ _))
  have hbox : Hid (W0.heap[w.heap.size]? = some (.cells x.cells.toArray 73 (0, 0))) := Lib.hid (by rw [hW0]; exact (Grew.alloc _ _).blk (blk_new _ _ _))
  have hres : Hid (∃ cs, W0.heap[w.heap.size + 1]? = some (.cells cs 73 (0, 0)) ∧ cs.size = 14) := Lib.hid ⟨_, by rw [hW0]; exact blk_new' _ _ _ _ (by simp), rfl⟩
  unfold SpanD.cells at hW0
  have hsz : W0.heap.size = w.heap.size + 2 := by rw [hW0]; simp
  show Calls Tryz.prog 73 #[.agg #[.int .i64 x.trace, .int .i64 x.id, .int .i64 x.parent, .int .i64 x.rev, .int .i64 x.clock, .int .i64 x.kind, .string x.svc, .string x.ver, .string x.op, .int .i64 x.st, .int .i64 x.en, .bool x.err, .slice x.aA x.attrs.length x.aC, .slice x.lA x.links.length x.lC]] w _
  go_enter Tryz.func73, Tryz.ntmps73
  go_wp2_with fail
  rw [← hW0]
  clear hW0
  have hcA : Hid (∀ W, Below W0.heap.size W0 W → Calls Tryz.prog 53 #[.slice x.aA x.attrs.length x.aC] W fun e w' => ∃ A' c', e = .returned (.slice A' x.attrs.length c') ∧ AttrsAt w' A' x.attrs ∧ (A' = none → x.attrs = []) ∧ (∀ p, A' = some p → p.spot = none ∧ W.heap.size ≤ p.block ∧ p.block < w'.heap.size) ∧ Below W.heap.size W w') :=
    Lib.hid fun W hW => copyA_any _ _ _ W ((HX.out.grew hG.out).keeps W hW).attrs HS.out.a HS.out.b ha
  have hcR : Hid (∀ W, Below W0.heap.size W0 W → Calls Tryz.prog 54 #[.slice x.lA x.links.length x.lC] W fun e w' => ∃ A' c', e = .returned (.slice A' x.links.length c') ∧ RefsAt w' A' x.links ∧ (A' = none → x.links = []) ∧ (∀ p, A' = some p → p.spot = none ∧ W.heap.size ≤ p.block ∧ p.block < w'.heap.size) ∧ Below W.heap.size W w') :=
    Lib.hid fun W hW => copyR_any _ _ _ W ((HX.out.grew hG.out).keeps W hW).links HS.out.c HS.out.d hl
  have z12 : W0.cell? ⟨w.heap.size, 12, none⟩ = some (.slice x.aA x.attrs.length x.aC) := cell_blk hbox.out 12 rfl
  have z13 : W0.cell? ⟨w.heap.size, 13, none⟩ = some (.slice x.lA x.links.length x.lC) := cell_blk hbox.out 13 rfl
  go_region_with (first
    | (go_at_call 53; (with_reducible refine (hcA.out _ (below_drew _)).mono ?_); rintro e w1 ⟨A1, c1, rfl, hr1, hz1, hs1, hb1⟩; have HA1 := Lib.hid (And.intro hr1 (And.intro hz1 hs1)); have HB1 : Hid (Below W0.heap.size W0 w1) := Lib.hid ((below_drew W0).trans hb1); clear hr1 hz1 hs1 hb1; have hbox1 : Hid (w1.heap[w.heap.size]? = some (.cells x.cells.toArray 73 (0, 0))) := Lib.hid (blk_keep HB1.out hbox.out); have y12 : w1.cell? ⟨w.heap.size, 12, none⟩ = some (.slice x.aA x.attrs.length x.aC) := cell_blk hbox1.out 12 rfl; have y13 : w1.cell? ⟨w.heap.size, 13, none⟩ = some (.slice x.lA x.links.length x.lC) := cell_blk hbox1.out 13 rfl; clear z12 z13)
    | (go_at_call 54; (with_reducible refine (hcR.out _ HB1.out).mono ?_); rintro e w2 ⟨A2, c2, rfl, hr2, hz2, hs2, hb2⟩; have HA2 := Lib.hid (And.intro hr2 (And.intro hz2 hs2)); have HB2 := Lib.hid hb2; clear hr2 hz2 hs2 hb2; have hbox2 : Hid (w2.heap[w.heap.size]? = some (.cells x.cells.toArray 73 (0, 0))) := Lib.hid (blk_keep HB2.out hbox1.out); have x12 : w2.cell? ⟨w.heap.size, 12, none⟩ = some (.slice x.aA x.attrs.length x.aC) := cell_blk hbox2.out 12 rfl; have x13 : w2.cell? ⟨w.heap.size, 13, none⟩ = some (.slice x.lA x.links.length x.lC) := cell_blk hbox2.out 13 rfl; have xf := fun i => frozen_blk hbox2.out i; clear y12 y13))
  all_goals
    have hB2 : Hid (Below W0.heap.size W0 w2) := Lib.hid (HB1.out.trans (HB2.out.mono HB1.out.size))
    have hblk := heap_setCell_same _ w.heap.size 13 _ 73 (.slice A2 x.links.length c2) (heap_setCell_same w2 w.heap.size 12 _ 73 (.slice A1 x.attrs.length c1) hbox2.out)
    have hb9 : Hid (Below w.heap.size w ((w2.setCell ⟨w.heap.size, 12, none⟩ (.slice A1 x.attrs.length c1)).setCell ⟨w.heap.size, 13, none⟩ (.slice A2 x.links.length c2))) :=
      Lib.hid (((hG.out.b.trans (hB2.out.mono (by omega))).setCell (p := ⟨w.heap.size, 12, none⟩) (Nat.le_refl _) _).setCell (p := ⟨w.heap.size, 13, none⟩) (Nat.le_refl _) _)
    have hres9 : Hid (∃ cs, ((w2.setCell ⟨w.heap.size, 12, none⟩ (.slice A1 x.attrs.length c1)).setCell ⟨w.heap.size, 13, none⟩ (.slice A2 x.links.length c2)).heap[w.heap.size + 1]? = some (.cells cs 73 (0, 0)) ∧ cs.size = 14) := Lib.hid (by
      obtain ⟨cs, h1, h2⟩ := hres.out
      refine ⟨cs, ?_, h2⟩
      rw [heap_setCell_other _ _ _ _ (by simp), heap_setCell_other _ _ _ _ (by simp)]
      exact blk_keep hB2.out h1)
    have hat9 : Hid (AttrsAt ((w2.setCell ⟨w.heap.size, 12, none⟩ (.slice A1 x.attrs.length c1)).setCell ⟨w.heap.size, 13, none⟩ (.slice A2 x.links.length c2)) A1 x.attrs) := Lib.hid (((attrs_below HA1.out.1 HB2.out).same (fun p hp => by
      have h1 := (HA1.out.2.2 p hp).2.1
      rw [heap_setCell_other _ _ _ _ (by simp at h1 ⊢; omega), heap_setCell_other _ _ _ _ (by simp at h1 ⊢; omega)])))
    have hre9 : Hid (RefsAt ((w2.setCell ⟨w.heap.size, 12, none⟩ (.slice A1 x.attrs.length c1)).setCell ⟨w.heap.size, 13, none⟩ (.slice A2 x.links.length c2)) A2 x.links) := Lib.hid (HA2.out.1.same (fun p hp => by
      have h1 := (HA2.out.2.2 p hp).2.1
      have h2 := HB1.out.size
      rw [heap_setCell_other _ _ _ _ (by simp; omega), heap_setCell_other _ _ _ _ (by simp; omega)]))
    have hs9 : Hid (w2.heap.size ≤ ((w2.setCell ⟨w.heap.size, 12, none⟩ (.slice A1 x.attrs.length c1)).setCell ⟨w.heap.size, 13, none⟩ (.slice A2 x.links.length c2)).heap.size) := Lib.hid (by simp)
    clear x12 x13 xf
    generalize (w2.setCell ⟨w.heap.size, 12, none⟩ (.slice A1 x.attrs.length c1)).setCell ⟨w.heap.size, 13, none⟩ (.slice A2 x.links.length c2) = W9 at *
    unfold SpanD.cells at hblk
    simp only [List.setIfInBounds_toArray, List.set_cons_zero, List.set_cons_succ] at hblk
    obtain ⟨cs, hr9, hcs⟩ := hres9.out
    obtain ⟨d, hd, hd'⟩ := rowX
    refine k_run (P := Tryz.prog) (ops := #[]) (by assumption) ?_
    go_upto_region 2 with (fail)
    refine wp_region_lit ?_
    refine wpList_load_row rfl 73 (.tmp 1) rfl w.heap.size rfl 73 _ (0, 0) _ hblk Tryz.underlying73 rfl (by kernel_rfl) ?_
    refine wpList_store_mid rfl 73 (.tmp 2) (.tmp 11) rfl (w.heap.size + 1) 0 _ rfl rfl (there_blk hr9 (by rw [hcs]; rfl)) (by kernel_rfl) (by simp [Value.oneCell']) ?_
    refine k_run (by assumption) ?_
    apply wp_ret
    refine ret_row hr9 rfl rfl (by rw [hcs]; rfl) Tryz.underlying73 rfl (by kernel_rfl) rfl ?_
    have hsz9 : Hid (w2.heap.size ≤ (W9.setCells (w.heap.size + 1) 0 (x.moved A1 c1 A2 c2).cells).heap.size) := Lib.hid (Nat.le_trans hs9.out (below_setCells (base := w.heap.size) (w := W9) (w.heap.size + 1) (by omega) _ 0 _ (Below.refl _ _)).size)
    refine ⟨A1, c1, A2, c2, rfl, ⟨⟨hat9.out.same (fun p hp => heap_setCells_other _ _ _ _ _ ?_), hre9.out.same (fun p hp => heap_setCells_other _ _ _ _ _ ?_), by show x.attrs.length ≤ _; omega, by show x.links.length ≤ _; omega⟩, ⟨HA1.out.2.1, fun p hp _ => (HA1.out.2.2 p hp).1, HA2.out.2.1, fun p hp _ => (HA2.out.2.2 p hp).1⟩, fun p hp => ?_, fun p hp => ?_⟩, ?_⟩
    · have h1 := (HA1.out.2.2 p hp).2.1
      simp at h1
      omega
    · have h1 := (HA2.out.2.2 p hp).2.1
      have h2 := HB1.out.size
      omega
    · have h1 := (HA1.out.2.2 p hp).2
      have h2 := HB2.out.size
      have h3 := hsz9.out
      simp only [World.drew, hsz] at h1
      exact ⟨by omega, Nat.lt_of_lt_of_le h1.2 (Nat.le_trans h2 h3)⟩
    · have h1 := (HA2.out.2.2 p hp).2
      have h2 := HB1.out.size
      have h3 := hsz9.out
      exact ⟨by omega, Nat.lt_of_lt_of_le h1.2 h3⟩
    · exact below_setCells (w.heap.size + 1) (by omega) _ 0 _ hb9.out
end Go.Proofs.YtnddlpfmagdbfaaGreatDoor
/- Contract: neighbours that are equal struck out. -/
namespace Go.Proofs.YtnddlpfmagdbfaaGreatDoor
open Go Go.Proofs Go.RowKit
set_option linter.unusedVariables false
set_option linter.unusedSimpArgs false
/-- The elements whose index is chosen. -/
def pickI {α : Type} (k : Nat → Bool) : Nat → List α → List α
  | _, [] => []
  | i, x :: l => if k i = true then x :: pickI k (i + 1) l else pickI k (i + 1) l
theorem pickI_snoc {α : Type} (k : Nat → Bool) (x : α) : ∀ (l : List α) (i : Nat), pickI k i (l ++ [x]) = pickI k i l ++ (if k (i + l.length) = true then [x] else [])
  | [], i => by simp [pickI]
  | y :: l, i => by
    simp only [List.cons_append, pickI, List.length_cons]
    rw [pickI_snoc k x l (i + 1), show i + 1 + l.length = i + (l.length + 1) by omega]
    split <;> simp
theorem pickI_take {α : Type} (k : Nat → Bool) {L : List α} {j : Nat} (h : j < L.length) : pickI k 0 (L.take (j + 1)) = pickI k 0 (L.take j) ++ (if k j = true then [L[j]] else []) := by
  rw [take_succ_get h, pickI_snoc, Nat.zero_add, List.length_take, Nat.min_eq_left (Nat.le_of_lt h)]
theorem pickI_length {α : Type} (k : Nat → Bool) : ∀ (l : List α) (i : Nat), (pickI k i l).length ≤ l.length
  | [], _ => Nat.le_refl _
  | _ :: l, i => by
    have := pickI_length k l (i + 1)
    unfold pickI
    split <;> simp <;> omega
theorem pickI_sub {α : Type} (k : Nat → Bool) : ∀ (l : List α) (i : Nat), ∀ x ∈ pickI k i l, x ∈ l
  | [], i, x, hx => hx
  | y :: l, i, x, hx => by
    unfold pickI at hx
    split at hx
    · rcases List.mem_cons.1 hx with rfl | hx
      · exact List.mem_cons_self
      · exact List.mem_cons_of_mem _ (pickI_sub k l _ _ hx)
    · exact List.mem_cons_of_mem _ (pickI_sub k l _ _ hx)
theorem pickI_all {α : Type} (k : Nat → Bool) : ∀ (l : List α) (i : Nat), (∀ j, i ≤ j → j < i + l.length → k j = true) → pickI k i l = l
  | [], _, _ => rfl
  | y :: l, i, h => by
    unfold pickI
    rw [if_pos (h i (Nat.le_refl _) (by simp)), pickI_all k l (i + 1) (fun j h1 h2 => h j (by omega) (by simp; omega))]
/-- Is the element another one than the one before it? -/
def newB (L : List SpanD) (i : Nat) : Bool := match i with
  | 0 => true
  | k + 1 => match L[k + 1]?, L[k]? with
    | some y, some x => !(cmpX y x == 0)
    | _, _ => true
theorem newB_at {L : List SpanD} {k : Nat} (h : k + 1 < L.length) : newB L (k + 1) = !(cmpX L[k + 1] L[k] == 0) := by
  simp only [newB, List.getElem?_eq_getElem h, List.getElem?_eq_getElem (by omega : k < L.length)]
/-- Spans, of neighbours that are equal the first. -/
def compX (L : List SpanD) : List SpanD := pickI (newB L) 0 L
theorem compX_length (L : List SpanD) : (compX L).length ≤ L.length := pickI_length _ _ _
theorem compX_sub (L : List SpanD) : ∀ x ∈ compX L, x ∈ L := pickI_sub _ _ _
theorem below_drew0 (w : World) : Below w.heap.size w w.drew := ⟨rfl, rfl, rfl, Nat.le_refl _, fun _ _ => rfl⟩
/-- Spans lie in a block from its first cell on, and may be written. -/
def RowAt (W : World) (g : Nat) (N : List SpanD) : Prop := ∀ i (h : i < N.length), W.rangeAt g (i * 14) N[i].cells ∧ W.there g (i * 14) 14
theorem RowAt.spans {W : World} {g : Nat} {N : List SpanD} (h : RowAt W g N) : SpansIn W (some ⟨g, 0, none⟩) N := fun j hj => ⟨g, 0, rfl, by rw [Nat.zero_add]; exact (h j hj).1⟩
theorem RowAt.below {W W' : World} {g : Nat} {N : List SpanD} (h : RowAt W g N) (k : Below W.heap.size W W') : RowAt W' g N := fun i hi => by
  have h1 := rangeAt_lt (h i hi).1 (by rw [cells_length]; omega)
  refine ⟨rangeAt_below (h i hi).1 h1 k, fun j hj => ?_⟩
  obtain ⟨h2, h3⟩ := (h i hi).2 j hj
  refine ⟨by rw [k.cell (p := ⟨g, i * 14 + j, none⟩) h1]; exact h2, ?_⟩
  rw [← h3]
  simp only [World.frozen?, k.block g h1]
theorem RowAt.set {W : World} {g : Nat} {N : List SpanD} (h : RowAt W g N) (k : Nat) (hk : k < N.length) (y : SpanD) : RowAt (W.setCells g (k * 14) y.cells) g (N.set k y) := fun i hi => by
  have hi' := hi
  rw [List.length_set] at hi'
  have h := h i hi'
  refine ⟨?_, World.there_setCells h.2 _ _ _⟩
  by_cases e : i = k
  · subst e
    rw [List.getElem_set_self]
    exact World.rangeAt_setCells_same _ _ _ _ h.2
  · rw [List.getElem_set_ne (by omega)]
    exact World.rangeAt_setCells_apart h.1 _ _ _ (.inr (by rw [cells_length, cells_length]; omega))
theorem below_cells {base : Nat} {w : World} (g : Nat) (hg : base ≤ g) : ∀ (vs : List Value) (o : Nat) (W : World), Below base w W → Below base w (W.setCells g o vs)
  | [], _, _, h => h
  | v :: vs, o, W, h => by
    simp only [World.setCells]
    exact below_cells g hg vs (o + 1) _ (h.setCell hg _)
/-- 'clear' on n structs: what lies elsewhere stays. -/
theorem run_clear_row (w : World) (t e ty : TypeId) (z : Value) (ht : Tryz.prog.underlying t = some (.slice e)) (hv : ∀ w, (zeroValue e).run Tryz.prog w = .ok z w) (h1 : ∀ v ∈ z.cells, v.oneCell' = true) (b o n c : Nat) (hn : 0 < n)
    (hc : ∀ j, j < n * z.cells.size → (w.cell? ⟨b, o + j, none⟩).isSome = true) (hf : ∀ j, j < n * z.cells.size → w.frozen? ⟨b, o + j, none⟩ = false) :
    (Builtin.clear_ #[t] ty #[.slice (some ⟨b, o, none⟩) n c]).run Tryz.prog w = .ok (.tuple #[]) (w.setCells b o (Builtin.zeroCells z.cells n).toList) := by
  have hl : (Builtin.zeroCells z.cells n).toList.length = n * z.cells.size := by simp [Builtin.zeroCells]
  have hst := run_storeCells_cells (P := Tryz.prog) b o (Builtin.zeroCells z.cells n).toList 0 w (fun j hj => by rw [hl] at hj; first | exact hc j (by omega) | (have h9 := hc j hj; simp only [Nat.add_zero, Nat.zero_add] at h9 ⊢; exact h9)) (fun j hj => by rw [hl] at hj; first | exact hf j (by omega) | (have h9 := hf j hj; simp only [Nat.add_zero, Nat.zero_add] at h9 ⊢; exact h9)) (by
    intro v hv'
    by_cases hz : z.cells.size = 0
    · have : (Builtin.zeroCells z.cells n).toList.length = 0 := by rw [hl, hz]; rfl
      rw [List.eq_nil_of_length_eq_zero this] at hv'
      cases hv'
    · simp only [Builtin.zeroCells, Array.toList_map, List.mem_map] at hv'
      obtain ⟨i, _, rfl⟩ := hv'
      exact h1 _ (by
        have hlt : i % z.cells.size < z.cells.size := Nat.mod_lt _ (by omega)
        simp [hlt]))
  simp only [Nat.add_zero] at hst
  obtain ⟨m, rfl⟩ : ∃ m, n = m + 1 := ⟨n - 1, by omega⟩
  simp [Builtin.clear_, run_underlying ht, hv, hst]
/-- A span without anything. -/
def zeroCells73 : Value := .agg #[.int .i64 0, .int .i64 0, .int .i64 0, .int .i64 0, .int .i64 0, .int .i64 0, .string ⟨#[]⟩, .string ⟨#[]⟩, .string ⟨#[]⟩, .int .i64 0, .int .i64 0, .bool false, .slice none 0 0, .slice none 0 0]
theorem zero73 (w : World) : (zeroValue 73).run Tryz.prog w = .ok zeroCells73 w := Tryz.zeroValue73 w
set_option maxHeartbeats 8000000 in
set_option maxRecDepth 20000 in
theorem compact_any (g c : Nat) (L : List SpanD) (w : World) (hR : RowAt w g L) (hgw : g < w.heap.size) (hH : ∀ x ∈ L, Keeps g w x) (hl : L.length ≤ 100000) (hlc : L.length ≤ c) :
    Calls Tryz.prog 70 #[.slice (some ⟨g, 0, none⟩) L.length c, .func (.func 35) #[] #[]] w fun e w' => e = .returned (.slice (some ⟨g, 0, none⟩) (compX L).length c) ∧ SpansIn w' (some ⟨g, 0, none⟩) (compX L) ∧ Below g w w' ∧ w.heap.size ≤ w'.heap.size := by
  have HR := Lib.hid hR
  have HH := Lib.hid hH
  clear hR hH
  obtain ⟨n, hn⟩ : ∃ n, n = L.length := ⟨_, rfl⟩
  rw [← hn]
  have HLn := Lib.hid hn
  have hn1 : n ≤ L.length := by omega
  have hn2 : L.length ≤ n := by omega
  clear hn
  by_cases h2 : n < 2
  · have h2b : decide (n < 2) = true := decide_eq_true h2
    have hc : Hid (compX L = L) := Lib.hid (pickI_all _ _ _ (fun j h1 h3 => by
      obtain rfl : j = 0 := by omega
      rfl))
    go_enter Tryz.func70, Tryz.ntmps70
    go_wp2_with fail
    go_ret
    rw [hc.out, ← HLn.out]
    exact ⟨rfl, HR.out.spans, Below.refl _ _, Nat.le_refl _⟩
  · have h2b : decide (n < 2) = false := decide_eq_false h2
    go_enter Tryz.func70, Tryz.ntmps70
    go_wp2_with fail
    go_loopw [5] (fun i wr => ∃ m : Nat, 1 ≤ m ∧ m ≤ n ∧ i = .int .i64 (m : Int) ∧ Hid (Grew w wr) ∧ Hid (∀ j, j < m → newB L j = true)) (fun i _ => n - (intOf i).toNat)
    case atStart => exact ⟨1, by omega, by omega, rfl, Lib.hid (Grew.refl _), Lib.hid (fun j hj => by obtain rfl : j = 0 := by omega
                                                                                                      rfl)⟩
    case round =>
      obtain ⟨m, hm1, hm, rfl, hW, hN⟩ := hrel
      by_cases hlt : m < n
      · have hlt2 : decide (m < n) = true := decide_eq_true hlt
        obtain ⟨k, hk⟩ : ∃ k, m = k + 1 := ⟨m - 1, by omega⟩
        have hml : m < L.length := by omega
        have hkl : k < L.length := by omega
        have hkn : k < n := by omega
        have HRx := Lib.hid (HR.out m hml).1
        have HRy := Lib.hid (HR.out k hkl).1
        have HX := Lib.hid (HH.out _ (List.getElem_mem hml))
        have HY := Lib.hid (HH.out _ (List.getElem_mem hkl))
        have hnb : Hid (newB L m = !(cmpX L[m] L[k] == 0)) := by subst hk; exact Lib.hid (newB_at hml)
        generalize L[m] = x at *
        generalize L[k] = y at *
        have hw1 : IntKind.i64.wrap ((m : Int) - 1) = k := by simp [IntKind.wrap, IntKind.bits, IntKind.signed]; omega
        have HK := Lib.hid hk
        clear hk
        go_wp2_with fail
        obtain ⟨d, hd, hd'⟩ := rowX
        refine wp_region_quiet (C := Grew w) (by kernel_rfl) (by kernel_rfl) (hW.out.trans (Grew.drew _)) ?_
        iterate 4
          refine wpQuiet_step (fun K hK => ?_)
          go_simp
          (refine ⟨_, fun _ _ => rfl, hK _ ?_⟩; clear hK K)
        refine wpQuiet_step (fun K hK => ?_)
        refine quiet_load rfl 73 (.tmp 21) rfl g _ rfl x.cells d (fun W hW' => rangeAt_grew HRx.out (by rw [cells_length]; omega) hW') hd hd' (by kernel_rfl) (hK _ ?_)
        clear hK K
        iterate 4
          refine wpQuiet_step (fun K hK => ?_)
          go_simp
          (refine ⟨_, fun _ _ => rfl, hK _ ?_⟩; clear hK K)
        refine wpQuiet_step (fun K hK => ?_)
        refine quiet_load rfl 73 (.tmp 26) rfl g _ rfl y.cells d (fun W hW' => rangeAt_grew HRy.out (by rw [cells_length]; omega) hW') hd hd' (by kernel_rfl) (hK _ ?_)
        clear hK K
        refine wpQuiet_step (fun K hK => ?_)
        go_simp
        (refine ⟨_, fun W' hW' => (eqX_any x y W' (HX.out _ (hW'.b.mono (Nat.le_of_lt hgw))) (HY.out _ (hW'.b.mono (Nat.le_of_lt hgw)))).mono (fun e w' h => ⟨h.1, hW'.trans h.2⟩), hK _ ?_⟩; clear hK K)
        refine wpQuiet_nil ?_
        intro W' hW'
        have HW' := Lib.hid hW'
        clear hW' HX HY HRx HRy
        cases he : (cmpX x y == 0) with
        | false =>
          rw [he] at hnb
          have hN2 : Hid (∀ j, j < m + 1 → newB L j = true) := Lib.hid (fun j hj => by
            by_cases e : j = m
            · rw [e]; exact hnb.out
            · exact hN.out j (by omega))
          clear he hnb
          go_wp2_with fail
          exact ⟨⟨m + 1, by omega, by omega, by go_num, HW', hN2⟩, by simp [intOf]; omega⟩
        | true =>
          rw [he] at hnb
          clear he
          have hcm : ¬ c = m := by omega
          have h01 : Hid (L.take m = pickI (newB L) 0 (L.take (m + 1))) := Lib.hid (by
            rw [pickI_take _ hml, hnb.out, pickI_all _ _ _ (fun j _ h3 => hN.out j (by rw [List.length_take] at h3; omega))]
            simp)
          have h02 : Hid (RowAt W' g L) := Lib.hid (HR.out.below HW'.out.b)
          have h03 : Hid (Below g w W' ∧ w.heap.size ≤ W'.heap.size) := Lib.hid ⟨HW'.out.b.mono (Nat.le_of_lt hgw), HW'.out.b.size⟩
          clear hW HW' hN hnb hw1
          go_wp2_with fail
          go_loopw [5, 7] (fun i5 i7 wr => ∃ (kk j : Nat) (N : List SpanD), i5 = .int .i64 (kk : Int) ∧ i7 = .int .i64 (j : Int) ∧ 1 ≤ j ∧ m + j ≤ n ∧ kk + 1 ≤ m + j ∧ N.length = n ∧ Hid (N.take kk = pickI (newB L) 0 (L.take (m + j))) ∧ Hid (∀ i (h : i < N.length) (h' : i < L.length), m + j ≤ i + 1 → N[i] = L[i]) ∧ Hid (RowAt wr g N) ∧ Hid (Below g w wr ∧ w.heap.size ≤ wr.heap.size)) (fun _ i7 _ => n - m - (intOf i7).toNat)
          case atStart => exact ⟨m, 1, L, rfl, rfl, by omega, by omega, by omega, HLn.out.symm, h01, Lib.hid (fun _ _ _ _ => rfl), h02, h03⟩
          case round =>
            clear h01 h02 h03
            obtain ⟨kk, j, N, rfl, rfl, hj1, hj, hkk, hNn, hP, hS, hRo, hB⟩ := hrel
            by_cases hlj : m + j < n
            · have hlj2 : decide ((j : Int) < ((n - m : Nat) : Int)) = true := decide_eq_true (by omega)
              obtain ⟨k2, hk2⟩ : ∃ k2, j = k2 + 1 := ⟨j - 1, by omega⟩
              have i1 : m + j < N.length := by omega
              have i2 : m + k2 < N.length := by omega
              have i3 : m + j < L.length := by omega
              have i4 : m + k2 < L.length := by omega
              have HRx := Lib.hid (hRo.out _ i1).1
              have HRy := Lib.hid (hRo.out _ i2).1
              rw [hS.out _ i1 i3 (by omega), Nat.add_mul] at HRx
              rw [hS.out _ i2 i4 (by omega), Nat.add_mul] at HRy
              have HX := Lib.hid (HH.out _ (List.getElem_mem i3))
              have HY := Lib.hid (HH.out _ (List.getElem_mem i4))
              have hnb : Hid (newB L (m + j) = !(cmpX L[m + j] L[m + k2] == 0)) := by subst hk2; exact Lib.hid (newB_at (k := m + k2) (by omega))
              have hpt : Hid (pickI (newB L) 0 (L.take (m + j + 1)) = pickI (newB L) 0 (L.take (m + j)) ++ (if newB L (m + j) = true then [L[m + j]] else [])) := Lib.hid (pickI_take _ i3)
              generalize hxe : L[m + j] = x at *
              generalize L[m + k2] = y at *
              have HXE := Lib.hid hxe
              clear hxe
              have hw1 : IntKind.i64.wrap ((j : Int) - 1) = k2 := by simp [IntKind.wrap, IntKind.bits, IntKind.signed]; omega
              have hgr : g < wr.heap.size := by have := hB.out.2; omega
              have HK2 := Lib.hid hk2
              clear hk2
              have hq1 : k2 < n - m := by have := HK2.out; omega
              have hq2 : j < n - m := by omega
              have hq3 : kk < n := by omega
              have HT := Lib.hid (hRo.out _ (show kk < N.length by omega)).2
              go_wp2_with fail
              obtain ⟨d, hd, hd'⟩ := rowX
              refine wp_region_quiet (C := Below wr.heap.size wr) (by kernel_rfl) (by kernel_rfl) (below_drew0 _) ?_
              iterate 4
                refine wpQuiet_step (fun K hK => ?_)
                go_simp
                (refine ⟨_, fun _ _ => rfl, hK _ ?_⟩; clear hK K)
              refine wpQuiet_step (fun K hK => ?_)
              refine quiet_load rfl 73 (.tmp 41) rfl g _ rfl x.cells d (fun W hW' => rangeAt_below HRx.out hgr hW') hd hd' (by kernel_rfl) (hK _ ?_)
              clear hK K
              iterate 4
                refine wpQuiet_step (fun K hK => ?_)
                go_simp
                (refine ⟨_, fun _ _ => rfl, hK _ ?_⟩; clear hK K)
              refine wpQuiet_step (fun K hK => ?_)
              refine quiet_load rfl 73 (.tmp 46) rfl g _ rfl y.cells d (fun W hW' => rangeAt_below HRy.out hgr hW') hd hd' (by kernel_rfl) (hK _ ?_)
              clear hK K
              refine wpQuiet_step (fun K hK => ?_)
              go_simp
              (refine ⟨_, fun W' hW' => (eqX_any x y W' (HX.out _ (hB.out.1.trans (hW'.mono (Nat.le_of_lt hgr)))) (HY.out _ (hB.out.1.trans (hW'.mono (Nat.le_of_lt hgr))))).mono (fun e w' h => ⟨h.1, hW'.trans (h.2.b.mono hW'.size)⟩), hK _ ?_⟩; clear hK K)
              refine wpQuiet_step (fun K hK => ?_)
              go_simp
              (refine ⟨_, fun _ _ => rfl, hK _ ?_⟩; clear hK K)
              refine wpQuiet_nil ?_
              intro W' hW'
              have hB2 : Hid (Below g w W' ∧ w.heap.size ≤ W'.heap.size) := Lib.hid ⟨hB.out.1.trans (hW'.mono (Nat.le_of_lt hgr)), Nat.le_trans hB.out.2 hW'.size⟩
              have hRo2 : Hid (RowAt W' g N) := Lib.hid (hRo.out.below hW')
              have HT2 := Lib.hid (hRo2.out _ (show kk < N.length by omega)).2
              have HRx2 := Lib.hid (rangeAt_below HRx.out hgr hW')
              clear hW' HX HY HRx HRy hB hRo HT
              cases he : (cmpX x y == 0) with
              | true =>
                rw [he] at hnb
                have hP2 : Hid (N.take kk = pickI (newB L) 0 (L.take (m + (j + 1)))) := Lib.hid (by
                  rw [← Nat.add_assoc, hpt.out, hnb.out, ← hP.out]
                  simp)
                clear he hnb hpt
                go_wp2_with fail
                exact ⟨⟨kk, j + 1, N, rfl, by go_num, by omega, by omega, by omega, hNn, hP2, Lib.hid (fun i h h' hi => hS.out i h h' (by omega)), hRo2, hB2⟩, by simp [intOf]; omega⟩
              | false =>
                rw [he] at hnb
                have hP2 : Hid ((N.set kk x).take (kk + 1) = pickI (newB L) 0 (L.take (m + (j + 1)))) := Lib.hid (by
                  rw [← Nat.add_assoc, hpt.out, hnb.out, ← hP.out, List.take_succ_eq_append_getElem (by simp; omega), List.getElem_set_self, List.take_set_of_le (Nat.le_refl _)]
                  simp)
                have hR3 : Hid (RowAt (W'.setCells g (kk * 14) x.cells) g (N.set kk x)) := Lib.hid (hRo2.out.set kk (by omega) x)
                have hB3 : Hid (Below g w (W'.setCells g (kk * 14) x.cells) ∧ w.heap.size ≤ (W'.setCells g (kk * 14) x.cells).heap.size) := Lib.hid ⟨below_cells g (Nat.le_refl _) _ _ _ hB2.out.1, by have := below_cells g (Nat.zero_le g) x.cells (kk * 14) W' (Below.refl 0 W'); have := this.size; have := hB2.out.2; omega⟩
                clear he hnb hpt
                go_upto_region 12 with (fail)
                refine wp_region_lit ?_
                iterate 5
                  refine wpList_plain rfl (fun K hK => ?_)
                  go_simp
                  refine hK _ _ ?_
                  clear hK K
                refine wpList_load_mid rfl 73 (.tmp 54) rfl g _ rfl x.cells d HRx2.out hd hd' (by kernel_rfl) ?_
                refine wpList_plain rfl (fun K hK => ?_)
                go_simp
                refine hK _ _ ?_
                clear hK K
                refine wpList_store_mid rfl 73 (.tmp 56) (.tmp 55) rfl g (kk * 14) _ rfl rfl HT2.out (by kernel_rfl) (by simp [SpanD.cells, Value.oneCell']) ?_
                refine k_run (by assumption) ?_
                go_wp2_with fail
                exact ⟨⟨kk + 1, j + 1, N.set kk x, by go_num, by go_num, by omega, by omega, by omega, by rw [List.length_set]; exact hNn, hP2, Lib.hid (fun i h h' hi => by
                  rw [List.getElem_set_ne (by omega)]
                  exact hS.out i (by rw [List.length_set] at h; exact h) h' (by omega)), hR3, hB3⟩, by simp [intOf]; omega⟩
            · have hlj2 : decide ((j : Int) < ((n - m : Nat) : Int)) = false := decide_eq_false (by omega)
              have hj : m + j = n := by omega
              have hq3 : kk < n := by omega
              have hckk : ¬ c = kk := by omega
              have hlen : Hid (kk = (compX L).length ∧ N.take kk = compX L) := by
                have h1 := hP.out
                rw [hj, List.take_of_length_le hn2] at h1
                have h2 : (N.take kk).length = kk := by rw [List.length_take, hNn]; omega
                exact Lib.hid ⟨by rw [← h2, h1]; rfl, h1⟩
              obtain ⟨W9, hcl, hfin⟩ : ∃ W9, (∀ ty, (Builtin.clear_ #[25] ty #[.slice (some ⟨g, kk * 14, none⟩) (n - kk) (c - kk)]).run Tryz.prog wr = .ok (.tuple #[]) W9) ∧ (SpansIn W9 (some ⟨g, 0, none⟩) (compX L) ∧ Below g w W9 ∧ w.heap.size ≤ W9.heap.size) := by
                have hz : (zeroCells73 : Value).cells.size = 14 := rfl
                refine ⟨_, fun ty => run_clear_row wr _ _ ty zeroCells73 Tryz.underlying25 zero73 (by simp [zeroCells73, Value.cells, Value.oneCell']) g (kk * 14) (n - kk) (c - kk) (by omega) (fun i hi => ?_) (fun i hi => ?_), ?_, ?_, ?_⟩
                · rw [hz] at hi
                  have h1 := ((hRo.out (kk + i / 14) (by omega)).2 (i % 14) (by omega)).1
                  rw [show (kk + i / 14) * 14 + i % 14 = kk * 14 + i by omega] at h1
                  exact h1
                · rw [hz] at hi
                  have h1 := ((hRo.out (kk + i / 14) (by omega)).2 (i % 14) (by omega)).2
                  rw [show (kk + i / 14) * 14 + i % 14 = kk * 14 + i by omega] at h1
                  exact h1
                · intro q hq
                  have hqk : q < kk := by rw [← hlen.out.1] at hq; exact hq
                  refine ⟨g, 0, rfl, ?_⟩
                  have e : (compX L)[q] = N[q] := by
                    have := hlen.out.2
                    simp only [← this, List.getElem_take]
                  rw [e, Nat.zero_add]
                  exact World.rangeAt_setCells_apart (hRo.out q (by omega)).1 _ _ _ (.inr (.inl (by rw [cells_length]; omega)))
                · exact below_cells g (Nat.le_refl _) _ _ _ hB.out.1
                · have h1 := (below_cells g (Nat.zero_le g) (Builtin.zeroCells zeroCells73.cells (n - kk)).toList (kk * 14) wr (Below.refl 0 wr)).size
                  have h2 := hB.out.2
                  omega
              have HF := Lib.hid hfin
              have HE := Lib.hid hlen.out.1
              clear hfin hlen hP hS hRo hB HR HH hNn
              go_wp2_with fail
              go_ret
              rw [← HE.out]
              exact ⟨rfl, HF.out⟩
      · have hlt2 : decide (m < n) = false := decide_eq_false hlt
        have hN2 : Hid (compX L = L) := Lib.hid (pickI_all _ _ _ (fun j _ h3 => hN.out j (by omega)))
        go_wp2_with fail
        go_ret
        rw [hN2.out, ← HLn.out]
        exact ⟨rfl, HR.out.spans.below hW.out.b, hW.out.b.mono (Nat.le_of_lt hgw), hW.out.b.size⟩
end Go.Proofs.YtnddlpfmagdbfaaGreatDoor
/- Contract: spans sorted. -/
namespace Go.Proofs.YtnddlpfmagdbfaaGreatDoor
open Go Go.Proofs Go.RowKit Go.Shelf Go.Lib Go.Sort
set_option linter.unusedVariables false
set_option linter.unusedSimpArgs false
shelf_lay_g SlLaysF0.n6 Slsf 6 at Tryz 89 as Tryz.sortX
theorem below_sortWorld {α : Type} [Inhabited α] (enc : α → List Value) (k : Nat) (w : World) (blk off m : Nat) (dk : Array α) (os : Array Obj) (hb : blk ≤ w.heap.size) : Below blk w (sortWorldK enc k w blk off m dk os) := by
  refine ⟨rfl, rfl, rfl, ?_, fun i hi => ?_⟩
  · unfold sortWorldK grow putRowK putRow mapBlock Sort.ahead
    simp
  · unfold sortWorldK grow putRowK putRow mapBlock Sort.ahead
    simp only
    rcases Nat.lt_or_ge i w.heap.size with h | h
    · rw [Array.getElem?_append_left (by simpa using h), Array.getElem?_modify]
      have : ¬ blk = i := by omega
      simp [this]
    · omega
/-- The order in which a sort lays spans. -/
def permX (L : List SpanD) (h : 0 < L.length) : Array (Fin L.length) :=
  letI : Inhabited (Fin L.length) := ⟨⟨0, h⟩⟩
  pdq (ltOf fun i j : Fin L.length => cmpX L[i] L[j]) (Array.ofFn id) 0 L.length (Lib.bitLen L.length) true true
/-- Spans sorted. -/
def sortX (L : List SpanD) : List SpanD := if h : 0 < L.length then (permX L h).toList.map (fun i => L[i]) else []
theorem extract_all {α : Type} (a : Array α) (n : Nat) (h : n = a.size) : a.extract 0 n = a := by subst h; exact Array.extract_size
theorem permX_facts (L : List SpanD) (h : 0 < L.length) : (permX L h).size = L.length ∧ (permX L h).toList.Perm (List.finRange L.length) ∧ ∀ i j (hi : i < j) (hj : j < (permX L h).size), ¬ cmpX L[(permX L h)[j]] L[(permX L h)[i]] < 0 := by
  letI : Inhabited (Fin L.length) := ⟨⟨0, h⟩⟩
  have hs := pdq_sorts (ltOf fun i j : Fin L.length => cmpX L[i] L[j]) (good_cmpX.pull (fun i : Fin L.length => L[i])).swo (Array.ofFn id) 0 L.length (Lib.bitLen L.length) true true (Nat.zero_le _) (by simp) (Or.inl rfl)
  obtain ⟨⟨h1, _, h2⟩, h3⟩ := hs
  have e : permX L h = pdq (ltOf fun i j : Fin L.length => cmpX L[i] L[j]) (Array.ofFn id) 0 L.length (Lib.bitLen L.length) true true := rfl
  rw [← e] at h1 h2 h3
  have hsz : (permX L h).size = L.length := by rw [h1]; simp
  refine ⟨hsz, ?_, fun i j hi hj => ?_⟩
  · rw [extract_all _ _ hsz.symm, extract_all _ _ (by simp)] at h2
    refine h2.trans ?_
    simp only [Array.toList_ofFn, List.finRange]
    exact List.Perm.refl _
  · have := h3 i j (Nat.zero_le _) hi (by rw [← hsz]; exact hj)
    unfold ltOf at this
    simp only [decide_eq_false_iff_not] at this
    rw [getElem!_pos _ j hj, getElem!_pos _ i (by omega)] at this
    exact this
theorem sortX_length (L : List SpanD) : (sortX L).length = L.length := by
  unfold sortX
  split
  · rename_i h; simp [(permX_facts L h).1]
  · simp; omega
theorem sortX_perm (L : List SpanD) : (sortX L).Perm L := by
  unfold sortX
  split
  · rename_i h
    have := ((permX_facts L h).2.1.map (fun i => L[i]))
    refine this.trans ?_
    rw [show (List.finRange L.length).map (fun i => L[i]) = L from List.ext_getElem (by simp) (fun i h1 h2 => by simp)]
  · rename_i h
    rw [List.eq_nil_of_length_eq_zero (by omega : L.length = 0)]
theorem sortX_sorted (L : List SpanD) : ∀ i j (hi : i < j) (hj : j < (sortX L).length), ¬ cmpX (sortX L)[j] (sortX L)[i] < 0 := by
  intro i j hi hj
  have h : 0 < L.length := by rw [sortX_length] at hj; omega
  have e : sortX L = (permX L h).toList.map (fun i => L[i]) := by unfold sortX; rw [dif_pos h]
  have q := (permX_facts L h).2.2 i j hi (by rw [sortX_length] at hj; rw [(permX_facts L h).1]; exact hj)
  have r : ∀ k (hk : k < (sortX L).length), (sortX L)[k] = L[(permX L h)[k]'(by rw [sortX_length] at hk; rw [(permX_facts L h).1]; exact hk)] := fun k hk => by
    simp [e]
  rw [r j hj, r i (by omega)]
  exact q
theorem getElem_bang {α : Type} [Inhabited α] (l : List α) (i : Nat) (h : i < l.length) : l[i]! = l[i] := getElem!_pos l i h
set_option maxHeartbeats 1000000 in
/-- A row of spans sorted. -/
theorem sort_any (g cap : Nat) (w : World) (L : List SpanD) (n : Nat) (hn : n = L.length) (h0 : 0 < L.length) (cur : Array Value) (hg : w.heap[g]? = some (.cells cur 73 (0, 0))) (hcur : cur.toList.take (L.length * 14) = cellsX L) (hK : ∀ x ∈ L, Keeps g w x) (hsz : L.length < 1000000) :
    Calls Tryz.prog 89 #[.slice (some ⟨g, 0, none⟩) n cap, .func (.func 61) #[] #[]] w fun e w' =>
      e = .returned (.tuple #[]) ∧ RowAt w' g (sortX L) ∧ Below g w w' ∧ w.heap.size ≤ w'.heap.size := by
  subst hn
  letI : Inhabited (Fin L.length) := ⟨⟨0, h0⟩⟩
  have hgl : g < w.heap.size := blk_lt hg
  have eg : ∀ args w, (callFunc 61 args).run Tryz.prog w = .ok (.enter 61 args) w := enters_of Tryz.func61 (by kernel_rfl) rfl
  have hk : ∀ i : Fin L.length, (L[i].cells).length = 14 := fun i => rfl
  have hH : HoldsK (fun i : Fin L.length => L[i].cells) 14 w g 0 (Array.ofFn id) := by
    intro j hj
    rw [size_flatK, Array.size_ofFn] at hj
    have hd : j / 14 < L.length := by omega
    rw [get_flatK _ _ _ _ (by rw [Array.size_ofFn]; exact hj), Nat.zero_add, cell_blk hg j (v := L[j / 14].cells[j % 14]'(by rw [cells_length]; omega)) ?_]
    · refine ⟨?_, frozen_blk hg j⟩
      rw [getElem!_pos (Array.ofFn (id : Fin L.length → Fin L.length)) (j / 14) (by simpa using hd), getElem_bang _ _ (by rw [cells_length]; omega)]
      simp
    · have : (cellsX L)[j / 14 * 14 + j % 14]? = L[j / 14].cells[j % 14]? := cellsX_get hd (by omega)
      rw [show j / 14 * 14 + j % 14 = j by omega, ← hcur, List.getElem?_take_of_lt hj, Array.getElem?_toList] at this
      rw [this]
      exact List.getElem?_eq_getElem _
  have hc := AnyQ.slices_SortFunc_eq Tryz.sortX 14 Tryz.isAgg73 Tryz.sizeOf73 (fun i : Fin L.length => L[i].cells) hk (fun i v hv => cells_one L[i] v hv) (fun i j => cmpX L[i] L[j]) (good_cmpX.pull (fun i : Fin L.length => L[i])).swo 61 #[] g 0 cap (Array.ofFn id) w eg (by
    intro m os dk hs i j
    have hb := below_sortWorld (fun i : Fin L.length => L[i].cells) 14 w g 0 m dk os (Nat.le_of_lt hgl)
    refine (cmpX_any L[i] L[j] _ (hK _ (List.getElem_mem _) _ hb) (hK _ (List.getElem_mem _) _ hb)).mono ?_
    rintro e w' ⟨rfl, hgr⟩
    exact ⟨rfl, hgr.eq⟩) hH hgl (by rw [Array.size_ofFn]; omega)
  rw [Array.size_ofFn] at hc
  refine hc.mono ?_
  rintro e w' ⟨rfl, n, os, rfl⟩
  have e : permX L h0 = pdq (ltOf fun i j : Fin L.length => cmpX L[i] L[j]) (Array.ofFn id) 0 L.length (Lib.bitLen L.length) true true := rfl
  rw [← e]
  have hps : (permX L h0).size = (Array.ofFn (id : Fin L.length → Fin L.length)).size := by rw [(permX_facts L h0).1]; simp
  have hH2 := holdsK_sortWorldK_c (fun i : Fin L.length => L[i].cells) 14 w g 0 (Array.ofFn id) (permX L h0) n os hH hgl hps
  refine ⟨rfl, fun j hj => ⟨fun i v hv => ?_, fun i hi => ?_⟩, below_sortWorld _ _ _ _ _ _ _ _ (Nat.le_of_lt hgl), size_sortWorldK_c _ _ _ _ _ _ _ _⟩
  · rw [sortX_length] at hj
    have hi : i < 14 := by have := (List.getElem?_eq_some_iff.1 hv).1; rwa [cells_length] at this
    have hj2 : j < (permX L h0).size := by rw [(permX_facts L h0).1]; exact hj
    have := (HoldsK.cell hH2 hj2 hi).1
    rw [Nat.zero_add] at this
    rw [this, getElem!_pos _ j hj2, getElem_bang _ _ (by rw [hk]; exact hi)]
    have es : (sortX L)[j]'(by rw [sortX_length]; exact hj) = L[(permX L h0)[j]] := by
      have e : sortX L = (permX L h0).toList.map (fun i => L[i]) := by unfold sortX; rw [dif_pos h0]
      simp [e]
    rw [es] at hv
    rw [List.getElem?_eq_getElem (by rw [hk]; exact hi)] at hv
    exact hv
  · rw [sortX_length] at hj
    have hj2 : j < (permX L h0).size := by rw [(permX_facts L h0).1]; exact hj
    have := HoldsK.cell hH2 hj2 hi
    rw [Nat.zero_add] at this
    exact ⟨by rw [this.1]; rfl, this.2⟩
end Go.Proofs.YtnddlpfmagdbfaaGreatDoor
/- Contracts: spans in order, each once. -/
namespace Go.Proofs.YtnddlpfmagdbfaaGreatDoor
open Go Go.Proofs Go.RowKit
set_option linter.unusedVariables false
set_option linter.unusedSimpArgs false
theorem len64_0 (w : World) : Calls Tryz.prog 111 #[.int .u64 0] w fun e w' => (∃ l, e = .returned (.int .i64 l)) ∧ w' = w := by
  go_enter Tryz.func111, Tryz.ntmps111
  go_wp2
  go_ret
  exact ⟨⟨_, rfl⟩, rfl⟩
theorem len_0 (w : World) : Calls Tryz.prog 100 #[.int .u64 0] w fun e w' => (∃ l, e = .returned (.int .i64 l)) ∧ w' = w := by
  go_enter Tryz.func100, Tryz.ntmps100
  go_wp2_with (first
    | (go_at_call 111; (with_reducible refine (len64_0 _).mono ?_); rintro e w' ⟨⟨l, rfl⟩, rfl⟩))
  go_ret
  exact ⟨⟨_, rfl⟩, rfl⟩
theorem ins_0 (c : Nat) (f : Value) (w : World) : Calls Tryz.prog 102 #[.slice none 0 c, .int .i64 0, .int .i64 0, f] w fun e w' => e = .returned (.tuple #[]) ∧ w' = w := by
  go_enter Tryz.func102, Tryz.ntmps102
  go_wp2_with fail
  go_loopw [8, 9] (fun i j wr => i = .int .i64 1 ∧ wr = w) (fun _ _ _ => 0)
  case atStart => exact ⟨rfl, rfl⟩
  case round =>
    obtain ⟨rfl, rfl⟩ := hrel
    go_wp2_with fail
    go_end0
    exact ⟨rfl, rfl⟩
theorem pdq_0 (c : Nat) (l : Int) (f : Value) (w : World) : Calls Tryz.prog 99 #[.slice none 0 c, .int .i64 0, .int .i64 0, .int .i64 l, f] w fun e w' => e = .returned (.tuple #[]) ∧ w' = w := by
  go_enter Tryz.func99, Tryz.ntmps99
  go_wp2_with fail
  go_loopw [1, 2] (fun a b wr => a = .int .i64 0 ∧ b = .int .i64 0 ∧ wr = w) (fun _ _ _ => 0)
  case atStart => exact ⟨rfl, rfl, rfl⟩
  case round =>
    obtain ⟨rfl, rfl, rfl⟩ := hrel
    go_wp2_with (first
      | (go_at_call 102; (with_reducible refine (ins_0 _ _ _).mono ?_); rintro e w' ⟨rfl, rfl⟩))
    exact bodyPost_ret (results_none rfl _ _ _) rfl ⟨rfl, rfl⟩
theorem sort_0 (c : Nat) (f : Value) (w : World) : Calls Tryz.prog 89 #[.slice none 0 c, f] w fun e w' => e = .returned (.tuple #[]) ∧ w' = w := by
  go_enter Tryz.func89, Tryz.ntmps89
  go_wp2_with (first
    | (go_at_call 100; (with_reducible refine (len_0 _).mono ?_); rintro e w' ⟨⟨l, rfl⟩, rfl⟩)
    | (go_at_call 99; (with_reducible refine (pdq_0 _ _ _ _).mono ?_); rintro e w' ⟨rfl, rfl⟩))
  go_end0
  exact ⟨rfl, rfl⟩
/-- Spans collected and sorted. -/
theorem sorted_any (Bs : Nat) (A : Option Addr) (L : List SpanD) (c : Nat) (hl : L.length ≤ 100000) (w : World) (hc : w.cell? ⟨Bs, 0, none⟩ = some (.slice A L.length c)) (hI : SpansIn w A L) (hH : ∀ x ∈ L, x.Held w) :
    Calls Tryz.prog 71 #[.func (.func 90) #[] #[.pointer (some ⟨Bs, 0, none⟩)], .func (.func 61) #[] #[]] w fun e w' => ∃ A' c', e = .returned (.slice A' L.length c') ∧ ((A' = none ∧ c' = 0 ∧ L = []) ∨ ∃ g, A' = some ⟨g, 0, none⟩ ∧ w.heap.size ≤ g ∧ g < w'.heap.size ∧ L.length ≤ c' ∧ RowAt w' g (sortX L)) ∧ Below w.heap.size w w' := by
  have h := Lib.hid (collect_any Bs A L c hl w hc hI)
  have HK : Hid (∀ x ∈ L, Keeps w.heap.size w x) := Lib.hid (fun x hx => (hH x hx).keeps)
  clear hc hI hH
  go_enter Tryz.func71, Tryz.ntmps71
  go_wp2_with fail
  refine h.out.mono ?_
  rintro e w1 ⟨v, rfl, hO, hnil, hB⟩
  rcases hO.2 with ⟨rfl, h0⟩ | ⟨g, cap, cur, rfl, hg, hb, _, _, _, ht⟩
  · have e : L = [] := List.eq_nil_of_length_eq_zero h0
    subst e
    have HB := Lib.hid hB
    clear hB hO hnil h
    go_wp2_with (first
      | (go_at_call 89; (with_reducible refine (sort_0 _ _ _).mono ?_); rintro e w' ⟨rfl, rfl⟩))
    go_ret
    exact ⟨none, 0, rfl, .inl (by simp), HB.out⟩
  · have h0 : 0 < L.length := by
      rcases Nat.eq_zero_or_pos L.length with h0 | h0
      · have := hnil.2 (List.eq_nil_of_length_eq_zero h0)
        cases this
      · exact h0
    have hs := Lib.hid (sort_any g cap w1 L L.length rfl h0 cur hb ht (fun x hx => (HK.out x hx).below hB hg) (by omega))
    have HB := Lib.hid hB
    have hg2 := blk_lt hb
    have hcp : L.length ≤ cap := by omega
    clear hB hO hnil h ht hb
    go_wp2_with (first
      | (go_at_call 89; (with_reducible refine hs.out.mono ?_); rintro e w2 ⟨rfl, hS, hB2, hZ2⟩; have HZ2 := Lib.hid hZ2; have HS := Lib.hid hS; have HB2 := Lib.hid hB2; clear hS hB2 hZ2))
    go_ret
    exact ⟨_, cap, rfl, .inr ⟨g, rfl, hg, Nat.lt_of_lt_of_le hg2 HZ2.out, hcp, HS.out⟩, HB.out.trans (HB2.out.mono hg)⟩
theorem compact_0 (c : Nat) (f : Value) (w : World) : Calls Tryz.prog 70 #[.slice none 0 c, f] w fun e w' => e = .returned (.slice none 0 c) ∧ w' = w := by
  go_enter Tryz.func70, Tryz.ntmps70
  go_wp2_with fail
  go_ret
  exact ⟨rfl, rfl⟩
/-- Spans in order, each once. -/
def setX (L : List SpanD) : List SpanD := compX (sortX L)
theorem setX_length (L : List SpanD) : (setX L).length ≤ L.length := by
  have := compX_length (sortX L)
  rwa [sortX_length] at this
theorem setX_sub (L : List SpanD) : ∀ x ∈ setX L, x ∈ L := fun x hx => (sortX_perm L).mem_iff.1 (compX_sub _ x hx)
set_option maxHeartbeats 4000000 in
theorem set_any (A : Option Addr) (L : List SpanD) (c : Nat) (hl : L.length ≤ 100000) (w : World) (hI : SpansIn w A L) (hH : ∀ x ∈ L, x.Held w) :
    Calls Tryz.prog 55 #[.slice A L.length c] w fun e w' => ∃ A' c', e = .returned (.slice A' (setX L).length c') ∧ SpansIn w' A' (setX L) ∧ Below w.heap.size w w' := by
  have hv := fun W => callsIn_wide.1 (values_in Fence.wide 5 trivial rfl A L.length c W)
  have hs := Lib.hid (sorted_any w.heap.size A L c hl (w.alloc (.cells #[.slice A L.length c] 25)) (cell_new _ _ _ _ _ _ rfl rfl) (hI.grew (Grew.alloc _ _)) (fun x hx => (hH x hx).grew (Grew.alloc _ _)))
  have HK : Hid (∀ x ∈ L, Keeps w.heap.size w x) := Lib.hid (fun x hx => (hH x hx).keeps)
  clear hI hH
  go_enter Tryz.func55, Tryz.ntmps55
  go_wp2_with (first
    | (go_at_call 72; (with_reducible refine (hv _).mono ?_); rintro e w' ⟨rfl, rfl⟩)
    | (go_at_call 71; (with_reducible refine hs.out.mono ?_); rintro e w1 ⟨A1, c1, rfl, hS1, hB1⟩; have HS1 := Lib.hid hS1; have HB1 := Lib.hid (((Below.refl _ w).alloc (Nat.le_refl _) _).trans (hB1.mono (by simp))); have HZ1 : Hid (w.heap.size < w1.heap.size) := Lib.hid (by have := hB1.size; simp at this; omega); clear hS1 hB1))
  rcases HS1.out with ⟨rfl, rfl, rfl⟩ | ⟨g, rfl, hg, hg2, hc, hR⟩
  · refine (compact_0 _ _ _).mono ?_
    rintro e w2 ⟨rfl, rfl⟩
    go_wp2_with fail
    go_ret
    exact ⟨none, 0, rfl, fun j hj => absurd hj (by simp [setX, compX, pickI, sortX]), HB1.out⟩
  · have hq := compact_any g c1 (sortX L) w1 hR hg2 (fun x hx => (HK.out x ((sortX_perm L).mem_iff.1 hx)).below HB1.out (by simp at hg; omega)) (by rw [sortX_length]; exact hl) (by rw [sortX_length]; exact hc)
    rw [sortX_length] at hq
    refine hq.mono ?_
    rintro e w2 ⟨rfl, hS2, hB2, _⟩
    have HS2 := Lib.hid hS2
    have HB2 := Lib.hid hB2
    clear hS2 hB2 hq hR HS1
    go_wp2_with fail
    go_ret
    exact ⟨_, _, rfl, HS2.out, HB1.out.trans (HB2.out.mono (by simp at hg; omega))⟩
end Go.Proofs.YtnddlpfmagdbfaaGreatDoor
/- Contract: spans chosen. -/
namespace Go.Proofs.YtnddlpfmagdbfaaGreatDoor
open Go Go.Proofs Go.RowKit
set_option linter.unusedVariables false
set_option linter.unusedSimpArgs false
/-- A span without the places of its slices. -/
def SpanD.bare (x : SpanD) : SpanD := x.moved none 0 none 0
theorem row_keep {W W' : World} {base : Nat} {e : TypeId} {size : Nat} {v : Value} {k : Nat} {xs : List Value} (h : W.ownsRow base e size v k xs) (hk : Below W.heap.size W W') : W'.ownsRow base e size v k xs := by
  refine ⟨h.1, ?_⟩
  rcases h.2 with h0 | ⟨g, cap, cur, h1, h2, h3, h4⟩
  · exact .inl h0
  · exact .inr ⟨g, cap, cur, h1, h2, blk_keep hk h3, h4⟩
/-- A row of spans that have been made since a block. -/
structure RowX (lo : Nat) (W : World) (v : Value) (M : List SpanD) : Prop where
  row : W.ownsRow lo 73 14 v M.length (cellsX M)
  own : ∀ x ∈ M, x.Owned lo W
  a : ∀ x ∈ M, ∀ p, x.aA = some p → some p.block ≠ v.ownBlock
  l : ∀ x ∈ M, ∀ p, x.lA = some p → some p.block ≠ v.ownBlock
theorem SpanD.Owned.below {lo : Nat} {W W' : World} {x : SpanD} (h : x.Owned lo W) (k : Below W.heap.size W W') : x.Owned lo W' :=
  ⟨h.held.keeps W' k, h.sound, fun p hp => ⟨(h.a p hp).1, Nat.lt_of_lt_of_le (h.a p hp).2 k.size⟩, fun p hp => ⟨(h.l p hp).1, Nat.lt_of_lt_of_le (h.l p hp).2 k.size⟩⟩
theorem SpanD.Owned.grown {lo : Nat} {W W' : World} {x : SpanD} {row : Option Nat} (h : x.Owned lo W) (k : W.grownBy W' row) (ha : ∀ p, x.aA = some p → some p.block ≠ row) (hl : ∀ p, x.lA = some p → some p.block ≠ row) : x.Owned lo W' :=
  ⟨⟨h.held.attrs.same fun p hp => k.block _ (h.a p hp).2 (ha p hp), h.held.links.same fun p hp => k.block _ (h.l p hp).2 (hl p hp), h.held.na, h.held.nl⟩, h.sound, fun p hp => ⟨(h.a p hp).1, Nat.lt_of_lt_of_le (h.a p hp).2 k.size⟩, fun p hp => ⟨(h.l p hp).1, Nat.lt_of_lt_of_le (h.l p hp).2 k.size⟩⟩
theorem RowX.below {lo : Nat} {W W' : World} {v : Value} {M : List SpanD} (h : RowX lo W v M) (k : Below W.heap.size W W') : RowX lo W' v M :=
  ⟨row_keep h.row k, fun x hx => (h.own x hx).below k, h.a, h.l⟩
theorem SpanD.Owned.mono {lo lo' : Nat} {W : World} {x : SpanD} (h : x.Owned lo W) (k : lo' ≤ lo) : x.Owned lo' W := ⟨h.held, h.sound, fun p hp => ⟨Nat.le_trans k (h.a p hp).1, (h.a p hp).2⟩, fun p hp => ⟨Nat.le_trans k (h.l p hp).1, (h.l p hp).2⟩⟩
theorem RowX.nil (lo : Nat) (W : World) : RowX lo W (.slice none 0 0) [] := ⟨World.ownsRow_nil _ _ _ _, by simp, by simp, by simp⟩
/-- A row with one more. -/
theorem RowX.snoc {lo : Nat} {W W1 W2 : World} {v v' : Value} {M : List SpanD} {y : SpanD} (h : RowX lo W v M) (hlo : lo ≤ W.heap.size) (hb : Below W.heap.size W W1) (hy : y.Owned W.heap.size W1) (hr : W2.ownsRow lo 73 14 v' (M.length + 1) (cellsX M ++ y.cells)) (hg : W1.grownBy W2 v.ownBlock) (hat : v'.ownBlock = v.ownBlock ∨ v'.ownBlock = some W1.heap.size) :
    RowX lo W2 v' (M ++ [y]) := by
  have hv : ∀ b, v.ownBlock = some b → b < W.heap.size := fun b hb' => (h.row.lt b hb').2
  have hya : ∀ p, y.aA = some p → some p.block ≠ v.ownBlock := fun p hp e => by
    have h1 := hv _ e.symm
    have h2 := (hy.a p hp).1
    omega
  have hyl : ∀ p, y.lA = some p → some p.block ≠ v.ownBlock := fun p hp e => by
    have h1 := hv _ e.symm
    have h2 := (hy.l p hp).1
    omega
  have hy2 : y.Owned lo W1 := ⟨hy.held, hy.sound, fun p hp => ⟨Nat.le_trans hlo (hy.a p hp).1, (hy.a p hp).2⟩, fun p hp => ⟨Nat.le_trans hlo (hy.l p hp).1, (hy.l p hp).2⟩⟩
  have hall : ∀ x ∈ M ++ [y], x.Owned lo W1 ∧ (∀ p, x.aA = some p → some p.block ≠ v.ownBlock) ∧ (∀ p, x.lA = some p → some p.block ≠ v.ownBlock) := fun x hx => by
    rcases List.mem_append.1 hx with hx | hx
    · exact ⟨(h.own x hx).below hb, h.a x hx, h.l x hx⟩
    · obtain rfl := List.mem_singleton.1 hx
      exact ⟨hy2, hya, hyl⟩
  refine ⟨by rw [List.length_append, List.length_singleton, show cellsX (M ++ [y]) = cellsX M ++ y.cells by simp [cellsX]]; exact hr, fun x hx => ?_, fun x hx p hp e => ?_, fun x hx p hp e => ?_⟩
  · obtain ⟨h1, h2, h3⟩ := hall x hx
    exact h1.grown hg h2 h3
  · obtain ⟨h1, h2, h3⟩ := hall x hx
    rcases hat with hat | hat
    · exact h2 p hp (e.trans hat)
    · have := (h1.a p hp).2
      rw [hat] at e
      have := Option.some.inj e
      omega
  · obtain ⟨h1, h2, h3⟩ := hall x hx
    rcases hat with hat | hat
    · exact h3 p hp (e.trans hat)
    · have := (h1.l p hp).2
      rw [hat] at e
      have := Option.some.inj e
      omega
set_option maxHeartbeats 8000000 in
set_option maxRecDepth 20000 in
theorem chosenW_any (A : Option Addr) (L : List SpanD) (c : Nat) (w : World) (k : Nat → Bool) (P : Option Addr) (hI : SpansIn w A L) (hH : ∀ x ∈ L, x.Held w) (hS : ∀ x ∈ L, x.Sound ∧ x.attrs.length ≤ 1000 ∧ x.links.length ≤ 1000) (hl : L.length ≤ 100000)
    (hk : ∀ i, i < L.length → ∀ W, Below w.heap.size w W → Calls Tryz.prog 57 #[.int .i64 i, .pointer P] W fun e w' => e = .returned (.bool (k i)) ∧ Below W.heap.size W w') :
    Calls Tryz.prog 56 #[.slice A L.length c, .func (.func 57) #[] #[.pointer P]] w fun e w' => ∃ v M, e = .returned v ∧ RowX w.heap.size w' v M ∧ M.map SpanD.bare = (pickI k 0 L).map SpanD.bare ∧ Below w.heap.size w w' := by
  obtain ⟨i0, hi, hz0, hz1, hz2⟩ := info_parts infoX
  have HI := Lib.hid hI.atB
  have HK : Hid (∀ x ∈ L, Keeps w.heap.size w x) := Lib.hid (fun x hx => (hH x hx).keeps)
  have HS := Lib.hid hS
  have HF := Lib.hid hk
  clear hI hH hS hk
  go_enter Tryz.func56, Tryz.ntmps56
  go_wp2_with fail
  go_loopw [5, 6, 7, 10] (fun v t6 t7 i wr => ∃ (j : Nat) (M : List SpanD), j ≤ L.length ∧ i = .int .i64 j ∧ M.length ≤ j ∧ Hid (RowX w.heap.size wr v M) ∧ Hid (M.map SpanD.bare = (pickI k 0 (L.take j)).map SpanD.bare) ∧ Hid (Below w.heap.size w wr)) (fun _ _ _ i _ => L.length - (intOf i).toNat)
  case atStart => exact ⟨0, [], by omega, rfl, by simp, Lib.hid (RowX.nil _ _), Lib.hid rfl, Lib.hid (Below.refl _ _)⟩
  case round =>
    obtain ⟨j, M, hj, rfl, hM, hR, hP, hB⟩ := hrel
    by_cases hlt : j < L.length
    · have hlt2 : decide (j < L.length) = true := decide_eq_true hlt
      obtain ⟨b, o, rfl, hbB, hr⟩ := HI.out.below hB.out j hlt
      have hxK := Lib.hid (HK.out _ (List.getElem_mem hlt))
      have hxS := Lib.hid (HS.out _ (List.getElem_mem hlt))
      have hT := Lib.hid (pickI_take k hlt)
      have hF := Lib.hid (HF.out j hlt)
      generalize L[j] = x at *
      have HR := Lib.hid hr
      have f0 : wr.cell? ⟨b, o + j * 14, none⟩ = some (.int .i64 x.trace) := hr 0 _ rfl
      have f1 : wr.cell? ⟨b, o + j * 14 + 1, none⟩ = some (.int .i64 x.id) := hr 1 _ rfl
      have f2 : wr.cell? ⟨b, o + j * 14 + 2, none⟩ = some (.int .i64 x.parent) := hr 2 _ rfl
      have f3 : wr.cell? ⟨b, o + j * 14 + 3, none⟩ = some (.int .i64 x.rev) := hr 3 _ rfl
      have f4 : wr.cell? ⟨b, o + j * 14 + 4, none⟩ = some (.int .i64 x.clock) := hr 4 _ rfl
      have f5 : wr.cell? ⟨b, o + j * 14 + 5, none⟩ = some (.int .i64 x.kind) := hr 5 _ rfl
      have f6 : wr.cell? ⟨b, o + j * 14 + 6, none⟩ = some (.string x.svc) := hr 6 _ rfl
      have f7 : wr.cell? ⟨b, o + j * 14 + 7, none⟩ = some (.string x.ver) := hr 7 _ rfl
      have f8 : wr.cell? ⟨b, o + j * 14 + 8, none⟩ = some (.string x.op) := hr 8 _ rfl
      have f9 : wr.cell? ⟨b, o + j * 14 + 9, none⟩ = some (.int .i64 x.st) := hr 9 _ rfl
      have f10 : wr.cell? ⟨b, o + j * 14 + 10, none⟩ = some (.int .i64 x.en) := hr 10 _ rfl
      have f11 : wr.cell? ⟨b, o + j * 14 + 11, none⟩ = some (.bool x.err) := hr 11 _ rfl
      have f12 : wr.cell? ⟨b, o + j * 14 + 12, none⟩ = some (.slice x.aA x.attrs.length x.aC) := hr 12 _ rfl
      have f13 : wr.cell? ⟨b, o + j * 14 + 13, none⟩ = some (.slice x.lA x.links.length x.lC) := hr 13 _ rfl
      clear hr
      have hsz := hB.out.size
      have hB1 : Hid (Below w.heap.size w (wr.alloc (.cells #[.int .i64 x.trace, .int .i64 x.id, .int .i64 x.parent, .int .i64 x.rev, .int .i64 x.clock, .int .i64 x.kind, .string x.svc, .string x.ver, .string x.op, .int .i64 x.st, .int .i64 x.en, .bool x.err, .slice x.aA x.attrs.length x.aC, .slice x.lA x.links.length x.lC] 73))) := Lib.hid (hB.out.alloc hsz _)
      go_wp2_with (first
        | (go_at_call 57; (with_reducible refine (hF.out _ hB1.out).mono ?_); rintro e w2 ⟨rfl, hb2⟩; have HB2 : Hid (Below wr.heap.size wr w2) := Lib.hid (((Below.refl _ wr).alloc (Nat.le_refl _) _).trans (hb2.mono (by simp))); have hbx : w2.heap[wr.heap.size]? = some (.cells x.cells.toArray 73 (0, 0)) := blk_keep hb2 (blk_new _ _ _); have y0 : w2.cell? ⟨wr.heap.size, 0, none⟩ = some (.int .i64 x.trace) := cell_blk hbx 0 rfl; have y1 : w2.cell? ⟨wr.heap.size, 1, none⟩ = some (.int .i64 x.id) := cell_blk hbx 1 rfl; have y2 : w2.cell? ⟨wr.heap.size, 2, none⟩ = some (.int .i64 x.parent) := cell_blk hbx 2 rfl; have y3 : w2.cell? ⟨wr.heap.size, 3, none⟩ = some (.int .i64 x.rev) := cell_blk hbx 3 rfl; have y4 : w2.cell? ⟨wr.heap.size, 4, none⟩ = some (.int .i64 x.clock) := cell_blk hbx 4 rfl; have y5 : w2.cell? ⟨wr.heap.size, 5, none⟩ = some (.int .i64 x.kind) := cell_blk hbx 5 rfl; have y6 : w2.cell? ⟨wr.heap.size, 6, none⟩ = some (.string x.svc) := cell_blk hbx 6 rfl; have y7 : w2.cell? ⟨wr.heap.size, 7, none⟩ = some (.string x.ver) := cell_blk hbx 7 rfl; have y8 : w2.cell? ⟨wr.heap.size, 8, none⟩ = some (.string x.op) := cell_blk hbx 8 rfl; have y9 : w2.cell? ⟨wr.heap.size, 9, none⟩ = some (.int .i64 x.st) := cell_blk hbx 9 rfl; have y10 : w2.cell? ⟨wr.heap.size, 10, none⟩ = some (.int .i64 x.en) := cell_blk hbx 10 rfl; have y11 : w2.cell? ⟨wr.heap.size, 11, none⟩ = some (.bool x.err) := cell_blk hbx 11 rfl; have y12 : w2.cell? ⟨wr.heap.size, 12, none⟩ = some (.slice x.aA x.attrs.length x.aC) := cell_blk hbx 12 rfl; have y13 : w2.cell? ⟨wr.heap.size, 13, none⟩ = some (.slice x.lA x.links.length x.lC) := cell_blk hbx 13 rfl; have hsz2 := HB2.out.size; have hw2 : Hid (Below w.heap.size w w2) := Lib.hid (hB.out.trans (HB2.out.mono hsz)); have hcp := Lib.hid (copied_any x w2 (hxK.out w2 hw2.out) hxS.out.1 hxS.out.2.1 hxS.out.2.2); unfold SpanD.cells at hcp; clear hb2 hbx; cases hkj : k j)
        | (go_at_call 73; (with_reducible refine hcp.out.mono ?_); rintro e w3 ⟨A3, c3, B3, d3, rfl, ho3, hb3⟩; have HO3 := Lib.hid ho3; have HB3 := Lib.hid hb3; have HN := Lib.hid (cells_new w3 73 (x.moved A3 c3 B3 d3).cells); have HO1 := Lib.hid (cells_one (x.moved A3 c3 B3 d3)); have hR3 := Lib.hid ((hR.out.below HB2.out).below hb3); have hsz3 := hb3.size; clear ho3 hb3; unfold SpanD.cells SpanD.moved at HN HO1)
        | (at_builtin; refine wpList_append_own_at _ rfl (.tmp 18) (.tmp 21) 25 rfl w.heap.size 73 i0 _ 14 168 Tryz.underlying25 hi hz0 hz1 hz2 rfl (by decide) _ M.length (cellsX M) rfl (hR3.out.row.alloc _) ⟨w3.heap.size, 0, none⟩ 1 1 _ rfl rfl HN.out HO1.out (by unfold maxLen; omega) (by omega) (by simp; omega) ?_; intro v' w4 hown hgr hnil hat; have HW := Lib.hid hown; have HG := Lib.hid hgr; have HA := Lib.hid hat; clear hown hgr hnil hat))
      · exact ⟨⟨j + 1, M, by omega, by go_num, by omega, Lib.hid (hR.out.below HB2.out), Lib.hid (by rw [hP.out, hT.out, if_neg (by rw [hkj]; simp), List.append_nil]), hw2⟩, by simp [intOf]; omega⟩
      · have hb13 : Below wr.heap.size wr w3 := HB2.out.trans (HB3.out.mono hsz2)
        have hs := hR.out.snoc hsz (hb13.alloc (Nat.le_trans hsz2 hsz3) _) ((HO3.out.mono hsz2).below ((Below.refl _ _).alloc (Nat.le_refl _) _)) HW.out HG.out HA.out
        have hbl := ((hb13.alloc (Nat.le_trans hsz2 hsz3) _).mono hsz).grown HG.out (by simp; omega) (fun b hb => (hR.out.row.lt b hb).1)
        exact ⟨⟨j + 1, _, by omega, by go_num, by simp; omega, Lib.hid hs, Lib.hid (by rw [List.map_append, hP.out, hT.out, if_pos hkj, List.map_append]; rfl), Lib.hid (hB.out.trans hbl)⟩, by simp [intOf]; omega⟩
    · obtain rfl : j = L.length := by omega
      have hlt2 : decide (L.length < L.length) = false := decide_eq_false hlt
      go_wp2_with fail
      go_ret
      exact ⟨_, M, rfl, hR.out, by rw [hP.out, List.take_length], hB.out⟩
end Go.Proofs.YtnddlpfmagdbfaaGreatDoor
/- Contract: winners. -/
namespace Go.Proofs.YtnddlpfmagdbfaaGreatDoor
open Go Go.Proofs Go.RowKit
set_option linter.unusedVariables false
set_option linter.unusedSimpArgs false
set_option maxHeartbeats 2000000 in
theorem refOf_any (x : SpanD) (w : World) : Calls Tryz.prog 58 #[.agg x.cells.toArray] w fun e w' => e = .returned (.agg #[.int .i64 x.trace, .int .i64 x.id]) ∧ Grew w w' := by
  unfold SpanD.cells
  go_enter Tryz.func58, Tryz.ntmps58
  go_wp2_with fail
  refine bodyPost_ret (results_cell_row rfl _ _ (w.heap.size + 1) 113 _ (0, 0) _ rfl (blk_new' _ _ _ _ (by simp)) Tryz.underlying113 rfl (by kernel_rfl)) rfl ?_
  exact ⟨rfl, (Grew.alloc _ _).trans (Grew.alloc _ _)⟩
/-- Is it the last one of its reference? -/
def lastB (L : List SpanD) (i : Nat) : Bool :=
  match L[i]?, L[i + 1]? with
  | some x, some y => !(y.trace == x.trace && y.id == x.id)
  | _, _ => true
set_option maxHeartbeats 4000000 in
set_option maxRecDepth 20000 in
theorem last_any (B : Nat) (A : Option Addr) (L : List SpanD) (c i : Nat) (hi : i < L.length) (hl : L.length ≤ 100000) (w : World) (hB : w.cell? ⟨B, 0, none⟩ = some (.slice A L.length c)) (hI : SpansIn w A L) :
    Calls Tryz.prog 57 #[.int .i64 i, .pointer (some ⟨B, 0, none⟩)] w fun e w' => e = .returned (.bool (lastB L i)) ∧ Grew w w' := by
  have HI := Lib.hid hI
  have HB : Hid (∀ W, Grew w W → W.cell? ⟨B, 0, none⟩ = some (.slice A L.length c)) := Lib.hid fun W h => h.cell hB
  clear hI hB
  by_cases he : i + 1 = L.length
  · have hv : Hid (lastB L i = true) := Lib.hid (by unfold lastB; rw [List.getElem?_eq_none (by omega : L.length ≤ i + 1)]; split <;> first | rfl | (rename_i h; cases h))
    obtain ⟨m, hm⟩ : ∃ m, i + 1 = m := ⟨_, rfl⟩
    have hw : IntKind.i64.wrap ((i : Int) + 1) = (m : Int) := by simp [IntKind.wrap, IntKind.bits, IntKind.signed]; omega
    have hE : ((m : Int) == (L.length : Int)) = true := by rw [beq_iff_eq]; omega
    clear he hm
    generalize L.length = n at *
    go_enter Tryz.func57, Tryz.ntmps57
    go_wp2_with fail
    have hb := HB.out w (Grew.refl w)
    clear HB
    go_quiet (fail)
    go_wp2_with fail
    go_ret
    exact ⟨by rw [hv.out]; rfl, Grew.drewN _ _⟩
  · have hlt : i + 1 < L.length := by omega
    obtain ⟨b, o, rfl, hr⟩ := HI.out (i + 1) hlt
    obtain ⟨b', o', e', hr'⟩ := HI.out i hi
    cases e'
    have HV : Hid (lastB L i = !(L[i + 1].trace == L[i].trace && L[i + 1].id == L[i].id)) := Lib.hid (by unfold lastB; rw [List.getElem?_eq_getElem hi, List.getElem?_eq_getElem hlt])
    obtain ⟨m, hm⟩ : ∃ m, i + 1 = m := ⟨_, rfl⟩
    have hw : IntKind.i64.wrap ((i : Int) + 1) = (m : Int) := by simp [IntKind.wrap, IntKind.bits, IntKind.signed]; omega
    have hE : ((m : Int) == (L.length : Int)) = false := by rw [beq_eq_false_iff_ne]; omega
    generalize L[i] = y at *
    generalize L[i + 1] = x at *
    rw [hm] at hr hlt
    clear hm he
    have HR := Lib.hid hr
    have HR' := Lib.hid hr'
    clear hr hr'
    obtain ⟨d, hd, hd'⟩ := rowX
    generalize L.length = n at *
    go_enter Tryz.func57, Tryz.ntmps57
    go_wp2_with fail
    refine wp_region_quiet (C := Grew w) (by kernel_rfl) (by kernel_rfl) (Grew.drew _) ?_
    iterate 10
      refine wpQuiet_step (fun K hK => ?_)
      go_simp
      first
        | (refine hK _ ?_; clear hK K)
        | (refine ⟨_, fun _ _ => rfl, hK _ ?_⟩; clear hK K)
        | (refine ⟨_, fun W' hW' => (by rw [HB.out W' hW']; exact ⟨rfl, rfl⟩), hK _ ?_⟩; clear hK K)
    refine wpQuiet_step (fun K hK => ?_)
    refine quiet_load (by rfl) 73 (.tmp 13) rfl b _ rfl x.cells d (fun W hW' => rangeAt_grew HR.out (by rw [cells_length]; omega) hW') hd hd' (by kernel_rfl) (hK _ ?_)
    clear hK K
    iterate 4
      refine wpQuiet_step (fun K hK => ?_)
      go_simp
      first
        | (refine hK _ ?_; clear hK K)
        | (refine ⟨_, fun _ _ => rfl, hK _ ?_⟩; clear hK K)
        | (refine ⟨_, fun W' hW' => (by rw [HB.out W' hW']; exact ⟨rfl, rfl⟩), hK _ ?_⟩; clear hK K)
        | (refine ⟨_, fun W' hW' => (refOf_any x W').mono (fun e w' h => ⟨h.1, hW'.trans h.2⟩), hK _ ?_⟩; clear hK K)
    refine wpQuiet_step (fun K hK => ?_)
    refine quiet_load (by rfl) 73 (.tmp 18) rfl b _ rfl y.cells d (fun W hW' => rangeAt_grew HR'.out (by rw [cells_length]; omega) hW') hd hd' (by kernel_rfl) (hK _ ?_)
    clear hK K
    iterate 4
      refine wpQuiet_step (fun K hK => ?_)
      go_simp
      first
        | (refine hK _ ?_; clear hK K)
        | (refine ⟨_, fun _ _ => rfl, hK _ ?_⟩; clear hK K)
        | (refine ⟨_, fun W' hW' => (refOf_any y W').mono (fun e w' h => ⟨h.1, hW'.trans h.2⟩), hK _ ?_⟩; clear hK K)
        | (refine ⟨.bool (!(x.trace == y.trace && x.id == y.id)), fun W' hW' => (by by_cases h1 : x.trace = y.trace <;> by_cases h2 : x.id = y.id <;> simp [h1, h2]), hK _ ?_⟩; clear hK K)
    refine wpQuiet_nil ?_
    intro W hW
    have HW := Lib.hid hW
    clear hW HB
    go_wp2_with fail
    go_ret
    refine ⟨?_, HW.out⟩
    rw [HV.out]
    simp
theorem row_mono {W : World} {base base' : Nat} {e : TypeId} {size : Nat} {v : Value} {k : Nat} {xs : List Value} (h : W.ownsRow base e size v k xs) (hb : base' ≤ base) : W.ownsRow base' e size v k xs := by
  refine ⟨h.1, ?_⟩
  rcases h.2 with h0 | ⟨g, cap, cur, h1, h2, h3⟩
  · exact .inl h0
  · exact .inr ⟨g, cap, cur, h1, Nat.le_trans hb h2, h3⟩
/-- The winners of spans. -/
def winX (L : List SpanD) : List SpanD := pickI (lastB (setX L)) 0 (setX L)
set_option maxHeartbeats 4000000 in
theorem winners_any (A : Option Addr) (L : List SpanD) (c : Nat) (hl : L.length ≤ 100000) (w : World) (hI : SpansIn w A L) (hH : ∀ x ∈ L, x.Held w) (hS : ∀ x ∈ L, x.Sound ∧ x.attrs.length ≤ 1000 ∧ x.links.length ≤ 1000) :
    Calls Tryz.prog 31 #[.slice A L.length c] w fun e w' => ∃ v M, e = .returned v ∧ RowX w.heap.size w' v M ∧ M.map SpanD.bare = (winX L).map SpanD.bare ∧ Below w.heap.size w w' := by
  have hs := Lib.hid (set_any A L c hl w hI hH)
  have HK : Hid (∀ x ∈ L, Keeps w.heap.size w x) := Lib.hid (fun x hx => (hH x hx).keeps)
  have HS := Lib.hid hS
  have HL := Lib.hid (setX_length L)
  clear hI hH hS
  go_enter Tryz.func31, Tryz.ntmps31
  go_wp2_with (first
    | (go_at_call 55; (with_reducible refine hs.out.mono ?_); rintro e w1 ⟨A1, c1, rfl, hI1, hB1⟩; have HI1 := Lib.hid hI1; have HB1 := Lib.hid hB1; clear hI1 hB1;
        have hch := Lib.hid (chosenW_any A1 (setX L) c1 (w1.alloc (.cells #[.slice A1 (setX L).length c1] 25)) (lastB (setX L)) (some ⟨w1.heap.size, 0, none⟩) (HI1.out.grew (Grew.alloc _ _)) (fun x hx => ((HK.out x (setX_sub L x hx)) _ HB1.out).grew (Grew.alloc _ _)) (fun x hx => HS.out x (setX_sub L x hx)) (Nat.le_trans HL.out hl)
          (fun i hi W hW => by
            have h1 : W.cell? ⟨w1.heap.size, 0, none⟩ = some (.slice A1 (setX L).length c1) := (hW.cell (p := ⟨w1.heap.size, 0, none⟩) (by simp)).trans (cell_new _ _ _ _ _ _ rfl rfl)
            have h2 : SpansIn W A1 (setX L) := (HI1.out.grew (Grew.alloc _ _)).below hW
            exact (last_any w1.heap.size A1 (setX L) c1 i hi (Nat.le_trans HL.out hl) W h1 h2).mono (fun e w' h => ⟨h.1, h.2.b⟩)));
        skip)
    | (go_at_call 56; (with_reducible refine hch.out.mono ?_); rintro e w2 ⟨v, M, rfl, hR, hM, hB2⟩; have HR := Lib.hid hR; have HM := Lib.hid hM; have HB2 := Lib.hid hB2; clear hR hM hB2))
  go_ret
  have hb : Below w.heap.size w w2 := (HB1.out.alloc HB1.out.size _).trans (HB2.out.mono (by have := HB1.out.size; simp; omega))
  exact ⟨v, M, rfl, ⟨row_mono HR.out.row (by have := HB1.out.size; simp; omega), fun x hx => (HR.out.own x hx).mono (by have := HB1.out.size; simp; omega), HR.out.a, HR.out.l⟩, HM.out, hb⟩
end Go.Proofs.YtnddlpfmagdbfaaGreatDoor
/- Contracts: the fields of a span. -/
namespace Go.Proofs.YtnddlpfmagdbfaaGreatDoor
open Go Go.Proofs Go.RowKit
set_option linter.unusedVariables false
set_option linter.unusedSimpArgs false
/-- Does a string begin with another one? -/
def preS (s p : ByteArray) : Bool := decide (p.size ≤ s.size) && ((s.extract 0 p.size).toList == p.toList)
theorem prefix_any (s p : ByteArray) (w : World) (hs : s.size ≤ 9223372036854775807) (hp : p.size ≤ 9223372036854775807) : Calls Tryz.prog 101 #[.string s, .string p] w fun e w' => e = .returned (.bool (preS s p)) ∧ w' = w := by
  by_cases h : p.size ≤ s.size
  · have h2 : decide (p.size ≤ s.size) = true := decide_eq_true h
    go_enter Tryz.func101, Tryz.ntmps101
    go_wp2
    go_ret
    exact ⟨by simp [preS, h2], rfl⟩
  · have h2 : decide (p.size ≤ s.size) = false := decide_eq_false h
    go_enter Tryz.func101, Tryz.ntmps101
    go_wp2
    go_ret
    exact ⟨by simp [preS, h2], rfl⟩
theorem prefixS_any (s p : ByteArray) (w : World) (hs : s.size ≤ 9223372036854775807) (hp : p.size ≤ 9223372036854775807) : Calls Tryz.prog 93 #[.string s, .string p] w fun e w' => e = .returned (.bool (preS s p)) ∧ w' = w := by
  go_enter Tryz.func93, Tryz.ntmps93
  go_wp2_with (first
    | (go_at_call 101; (with_reducible refine (prefix_any s p _ hs hp).mono ?_); rintro e w' ⟨rfl, rfl⟩))
  go_ret
  exact ⟨rfl, rfl⟩
theorem slot_any (n : Int) (w : World) : Calls Tryz.prog 139 #[.int .i64 n] w fun e w' => e = .returned (.int .i64 (n / 1048576)) ∧ w' = w := by
  go_enter Tryz.func139, Tryz.ntmps139
  go_wp2
  go_ret
  exact ⟨rfl, rfl⟩
theorem duration_any (x : SpanD) (w : World) : Calls Tryz.prog 138 #[.agg x.cells.toArray] w fun e w' => e = .returned (.int .i64 (wrap64 (x.en - x.st))) ∧ Below w.heap.size w w' := by
  unfold SpanD.cells
  go_enter Tryz.func138, Tryz.ntmps138
  go_wp2
  go_ret
  exact ⟨rfl, (Below.refl _ w).alloc (Nat.le_refl _) _⟩
/-- A field of whole numbers. -/
def numX (x : SpanD) (f : ByteArray) : Int :=
  if f.toList = [99, 108, 111, 99, 107] then x.clock
  else if f.toList = [100, 117, 114, 97, 116, 105, 111, 110] then wrap64 (x.en - x.st)
  else if f.toList = [101, 110, 100] then x.en
  else if f.toList = [105, 100] then x.id
  else if f.toList = [112, 97, 114, 101, 110, 116] then x.parent
  else if f.toList = [114, 101, 118, 105, 115, 105, 111, 110] then x.rev
  else if f.toList = [115, 108, 111, 116] then x.trace / 1048576
  else if f.toList = [115, 116, 97, 114, 116] then x.st
  else x.trace
set_option maxHeartbeats 4000000 in
set_option maxRecDepth 20000 in
theorem numX_any (x : SpanD) (f : ByteArray) (w : World) : Calls Tryz.prog 134 #[.agg x.cells.toArray, .string f] w fun e w' => e = .returned (.int .i64 (numX x f)) ∧ Below w.heap.size w w' := by
  have hd := Lib.hid (duration_any x)
  have hB1 := fun c t c' t' => Lib.hid ((((Below.refl _ w).alloc (Nat.le_refl _) (.cells c t)).alloc (by simp) (.cells c' t')))
  unfold SpanD.cells at hd ⊢
  go_enter Tryz.func134, Tryz.ntmps134
  go_wp2_with (first
    | (go_at_call 138; (with_reducible refine (hd.out _).mono ?_); rintro e w' ⟨rfl, hb⟩; have hb := Lib.hid hb)
    | (go_at_call 139; (with_reducible refine (slot_any _ _).mono ?_); rintro e w' ⟨rfl, rfl⟩))
  all_goals
    go_ret
    refine ⟨?_, ?_⟩
    · simp_all [numX]
    · first
        | exact (hB1 _ _ _ _).out
        | exact (hB1 _ _ _ _).out.trans (hb.out.mono (by simp; omega))
theorem kinds_any (w : World) : Calls Tryz.prog 147 #[] w fun e w' => e = .returned (.slice (some ⟨w.heap.size, 0, none⟩) 6 6) ∧ Grew w w' ∧ (w'.heap[w.heap.size]? = some (.cells #[.string ⟨#[]⟩, .string ⟨#[105, 110, 116, 101, 114, 110, 97, 108]⟩, .string ⟨#[99, 108, 105, 101, 110, 116]⟩, .string ⟨#[115, 101, 114, 118, 101, 114]⟩, .string ⟨#[112, 114, 111, 100, 117, 99, 101, 114]⟩, .string ⟨#[99, 111, 110, 115, 117, 109, 101, 114]⟩] 9 (0, 0))) := by
  go_enter Tryz.func147, Tryz.ntmps147
  go_wp2
  go_ret
  exact ⟨rfl, Grew.alloc _ _, blk_new _ _ _⟩
/-- The name of a kind. -/
def kindX (k : Int) : ByteArray :=
  if k = 1 then ⟨#[105, 110, 116, 101, 114, 110, 97, 108]⟩ else if k = 2 then ⟨#[99, 108, 105, 101, 110, 116]⟩ else if k = 3 then ⟨#[115, 101, 114, 118, 101, 114]⟩ else if k = 4 then ⟨#[112, 114, 111, 100, 117, 99, 101, 114]⟩ else if k = 5 then ⟨#[99, 111, 110, 115, 117, 109, 101, 114]⟩ else ⟨#[]⟩
end Go.Proofs.YtnddlpfmagdbfaaGreatDoor
/- Contracts: the fields of a span, by their names. -/
namespace Go.Proofs.YtnddlpfmagdbfaaGreatDoor
open Go Go.Proofs Go.RowKit
set_option linter.unusedVariables false
set_option linter.unusedSimpArgs false
set_option maxHeartbeats 4000000 in
theorem kindName_any (k : Int) (w : World) : Calls Tryz.prog 143 #[.int .i64 k] w fun e w' => (∃ c, e = .returned (.tuple #[.string (kindX k), .int .i64 c])) ∧ Below w.heap.size w w' := by
  by_cases h1 : k < 1
  · go_enter Tryz.func143, Tryz.ntmps143
    go_wp2
    go_ret2
    exact ⟨⟨_, by simp [kindX, show ¬ k = 1 by omega, show ¬ k = 2 by omega, show ¬ k = 3 by omega, show ¬ k = 4 by omega, show ¬ k = 5 by omega]; rfl⟩, Below.refl _ _⟩
  · by_cases h5 : 5 < k
    · go_enter Tryz.func143, Tryz.ntmps143
      go_wp2
      go_ret2
      exact ⟨⟨_, by simp [kindX, show ¬ k = 1 by omega, show ¬ k = 2 by omega, show ¬ k = 3 by omega, show ¬ k = 4 by omega, show ¬ k = 5 by omega]; rfl⟩, Below.refl _ _⟩
    · have hk : ∃ v, v = kindX k ∧ (#[.string ⟨#[]⟩, .string ⟨#[105, 110, 116, 101, 114, 110, 97, 108]⟩, .string ⟨#[99, 108, 105, 101, 110, 116]⟩, .string ⟨#[115, 101, 114, 118, 101, 114]⟩, .string ⟨#[112, 114, 111, 100, 117, 99, 101, 114]⟩, .string ⟨#[99, 111, 110, 115, 117, 109, 101, 114]⟩] : Array Value)[k.toNat]? = some (.string v) := by
        have : k = 1 ∨ k = 2 ∨ k = 3 ∨ k = 4 ∨ k = 5 := by omega
        rcases this with h | h | h | h | h <;> subst h <;> exact ⟨_, rfl, rfl⟩
      obtain ⟨v, hv, hc⟩ := hk
      rw [← hv]
      obtain ⟨m, hm⟩ : ∃ m : Nat, k = m := ⟨k.toNat, by omega⟩
      subst hm
      have hm6 : m < 6 := by omega
      have hm1 : 1 ≤ m := by omega
      simp only [Int.toNat_natCast] at hc
      clear hv
      have HC := Lib.hid hc
      clear hc
      go_enter Tryz.func143, Tryz.ntmps143
      go_wp2_with (first
        | (go_at_call 147; (with_reducible refine (kinds_any _).mono ?_); rintro e w' ⟨rfl, hg, hb⟩; have hc := (cell_of hb m).trans HC.out; have hg := Lib.hid hg; clear hb))
      all_goals
        go_ret2
        exact ⟨⟨_, rfl⟩, hg.out.b⟩
/-- A field of strings. -/
def textX (x : SpanD) (f : ByteArray) : ByteArray :=
  if f.toList = [107, 105, 110, 100] then kindX x.kind else if f.toList = [111, 112, 101, 114, 97, 116, 105, 111, 110] then x.op else if f.toList = [115, 101, 114, 118, 105, 99, 101] then x.svc else x.ver
set_option maxHeartbeats 4000000 in
set_option maxRecDepth 20000 in
theorem textX_any (x : SpanD) (f : ByteArray) (w : World) : Calls Tryz.prog 137 #[.agg x.cells.toArray, .string f] w fun e w' => e = .returned (.string (textX x f)) ∧ Below w.heap.size w w' := by
  have hB1 := fun c t => Lib.hid ((Below.refl _ w).alloc (Nat.le_refl _) (.cells c t))
  unfold SpanD.cells
  go_enter Tryz.func137, Tryz.ntmps137
  go_wp2_with (first
    | (go_at_call 143; (with_reducible refine (kindName_any _ _).mono ?_); rintro e w' ⟨⟨c, rfl⟩, hb⟩; have hb := Lib.hid hb))
  all_goals
    go_ret
    refine ⟨?_, ?_⟩
    · simp_all [textX]
    · first
        | exact (hB1 _ _).out
        | exact (hB1 _ _).out.trans (hb.out.mono (by simp))
/-- Strings lie from an address on. -/
def StrsIn (W : World) (a : Option Addr) (L : List ByteArray) : Prop := ∀ j (h : j < L.length), ∃ ad, a = some ad ∧ W.cell? (ad.add j) = some (.string L[j])
def hasS (L : List ByteArray) (f : ByteArray) : Bool := L.any fun s => f.toList == s.toList
theorem hasS_drop {L : List ByteArray} {f : ByteArray} {j : Nat} (h : j < L.length) : hasS (L.drop j) f = ((f.toList == L[j].toList) || hasS (L.drop (j + 1)) f) := by
  rw [List.drop_eq_getElem_cons h]; rfl
set_option maxHeartbeats 2000000 in
theorem index_any (a : Option Addr) (L : List ByteArray) (c n : Nat) (hn : n = L.length) (f : ByteArray) (w : World) (h : StrsIn w a L) (hl : L.length ≤ 1000) : Calls Tryz.prog 146 #[.slice a n c, .string f] w fun e w' => (∃ r : Int, e = .returned (.int .i64 r) ∧ decide (0 ≤ r) = hasS L f) ∧ w' = w := by
  subst hn
  have HR := Lib.hid h
  clear h
  go_enter Tryz.func146, Tryz.ntmps146
  go_wp2_with fail
  go_loopw [5, 8] (fun t i wr => ∃ j : Nat, j ≤ L.length ∧ i = .int .i64 j ∧ Hid (hasS (L.drop j) f = hasS L f) ∧ wr = w) (fun _ i _ => L.length - (intOf i).toNat)
  case atStart => exact ⟨0, by omega, rfl, Lib.hid rfl, rfl⟩
  case round =>
    obtain ⟨j, hj, rfl, hG, rfl⟩ := hrel
    by_cases hlt : j < L.length
    · have hlt2 : decide (j < L.length) = true := decide_eq_true hlt
      obtain ⟨ad, rfl, hc⟩ := HR.out j hlt
      have hd := Lib.hid (hasS_drop (f := f) hlt)
      generalize L[j] = s at *
      cases hx : f.toList == s.toList
      · have hn : Hid (hasS (L.drop (j + 1)) f = hasS L f) := Lib.hid (by rw [← hG.out, hd.out, hx]; rfl)
        go_wp2_with fail
        exact ⟨⟨j + 1, by omega, by go_num, hn, trivial⟩, by simp [intOf]; omega⟩
      · have hn : Hid (true = hasS L f) := Lib.hid (by rw [← hG.out, hd.out, hx]; rfl)
        go_wp2_with fail
        go_ret
        exact ⟨⟨_, rfl, by rw [← hn.out]; simp⟩, rfl⟩
    · obtain rfl : j = L.length := by omega
      have hlt2 : decide (L.length < L.length) = false := decide_eq_false hlt
      have hn : Hid (false = hasS L f) := Lib.hid (by rw [← hG.out, List.drop_length]; rfl)
      go_wp2_with fail
      go_ret
      exact ⟨⟨_, rfl, by rw [← hn.out]; simp⟩, rfl⟩
theorem contains_any (a : Option Addr) (L : List ByteArray) (c n : Nat) (hn : n = L.length) (f : ByteArray) (w : World) (h : StrsIn w a L) (hl : L.length ≤ 1000) : Calls Tryz.prog 141 #[.slice a n c, .string f] w fun e w' => e = .returned (.bool (hasS L f)) ∧ w' = w := by
  have hi := Lib.hid (index_any a L c n hn f w h hl)
  clear hn
  go_enter Tryz.func141, Tryz.ntmps141
  go_wp2_with (first
    | (go_at_call 146; (with_reducible refine hi.out.mono ?_); rintro e w' ⟨⟨r, rfl, hr⟩, rfl⟩; have hr := Lib.hid hr))
  go_ret
  exact ⟨by rw [← hr.out]; rfl, rfl⟩
def fieldsL : List ByteArray := [⟨#[99, 108, 111, 99, 107]⟩, ⟨#[100, 117, 114, 97, 116, 105, 111, 110]⟩, ⟨#[101, 110, 100]⟩, ⟨#[101, 114, 114, 111, 114]⟩, ⟨#[105, 100]⟩, ⟨#[107, 105, 110, 100]⟩, ⟨#[111, 112, 101, 114, 97, 116, 105, 111, 110]⟩, ⟨#[112, 97, 114, 101, 110, 116]⟩, ⟨#[114, 101, 118, 105, 115, 105, 111, 110]⟩, ⟨#[114, 111, 111, 116]⟩, ⟨#[115, 101, 114, 118, 105, 99, 101]⟩, ⟨#[115, 108, 111, 116]⟩, ⟨#[115, 116, 97, 114, 116]⟩, ⟨#[116, 114, 97, 99, 101]⟩, ⟨#[118, 101, 114, 115, 105, 111, 110]⟩]
theorem strs_blk {W : World} {g : Nat} {vs : List ByteArray} {t : TypeId} {f : Nat × Nat} (h : W.heap[g]? = some (.cells (vs.map Value.string).toArray t f)) : StrsIn W (some ⟨g, 0, none⟩) vs := fun j hj => ⟨_, rfl, by
  rw [show (⟨g, 0, none⟩ : Addr).add j = ⟨g, j, none⟩ by cases j <;> simp [Addr.add], cell_of h]
  simp [hj]⟩
theorem fields_any (w : World) : Calls Tryz.prog 142 #[] w fun e w' => e = .returned (.slice (some ⟨w.heap.size, 0, none⟩) 15 15) ∧ Grew w w' ∧ StrsIn w' (some ⟨w.heap.size, 0, none⟩) fieldsL := by
  go_enter Tryz.func142, Tryz.ntmps142
  go_wp2
  go_ret
  exact ⟨rfl, Grew.alloc _ _, strs_blk (blk_new _ _ _)⟩
/-- The kind of a field. -/
def fkX (f : ByteArray) : Int :=
  if f.toList = [107, 105, 110, 100] ∨ f.toList = [111, 112, 101, 114, 97, 116, 105, 111, 110] ∨ f.toList = [115, 101, 114, 118, 105, 99, 101] ∨ f.toList = [118, 101, 114, 115, 105, 111, 110] then 1
  else if f.toList = [101, 114, 114, 111, 114] ∨ f.toList = [114, 111, 111, 116] then 3 else 2
set_option maxHeartbeats 4000000 in
set_option maxRecDepth 20000 in
theorem fieldKind_any (f : ByteArray) (w : World) : Calls Tryz.prog 136 #[.string f] w fun e w' => e = .returned (.tuple #[.int .i64 (if hasS fieldsL f = true then fkX f else 0), .bool (hasS fieldsL f)]) ∧ Below w.heap.size w w' := by
  cases hf : hasS fieldsL f
  · go_enter Tryz.func136, Tryz.ntmps136
    go_wp2_with (first
      | (go_at_call 142; (with_reducible refine (fields_any _).mono ?_); rintro e w' ⟨rfl, hg, hb⟩; have hg := Lib.hid hg; have hc := Lib.hid (contains_any _ fieldsL 15 15 rfl f w' hb (by decide)); rw [hf] at hc; clear hb)
      | (go_at_call 141; (with_reducible refine hc.out.mono ?_); rintro e w' ⟨rfl, rfl⟩))
    go_ret2
    exact ⟨rfl, hg.out.b⟩
  · go_enter Tryz.func136, Tryz.ntmps136
    go_wp2_with (first
      | (go_at_call 142; (with_reducible refine (fields_any _).mono ?_); rintro e w' ⟨rfl, hg, hb⟩; have hg := Lib.hid hg; have hc := Lib.hid (contains_any _ fieldsL 15 15 rfl f w' hb (by decide)); rw [hf] at hc; clear hb hf)
      | (go_at_call 141; (with_reducible refine hc.out.mono ?_); rintro e w' ⟨rfl, rfl⟩))
    all_goals
      go_ret2
      refine ⟨?_, hg.out.b⟩
      simp_all [fkX]
end Go.Proofs.YtnddlpfmagdbfaaGreatDoor
/- Contracts: an attribute found. -/
namespace Go.Proofs.YtnddlpfmagdbfaaGreatDoor
open Go Go.Proofs Go.RowKit
set_option linter.unusedVariables false
set_option linter.unusedSimpArgs false
theorem placeC_any (x : AttrD) (k : ByteArray) (w : World) : Calls Tryz.prog 145 #[.agg #[.string x.key, .int .i64 x.kind, .string x.text, .int .i64 x.num], .string k] w fun e w' => e = .returned (.int .i64 (cmpS x.key k)) ∧ Grew w w' := by
  go_enter Tryz.func145, Tryz.ntmps145
  go_wp2_with (first
    | (go_at_call 81; (with_reducible refine (cmpS_any _ _ _).mono ?_); rintro e w' ⟨rfl, rfl⟩))
  go_ret
  exact ⟨rfl, Grew.alloc _ _⟩
/-- Where a search by halves ends. -/
def bs (c : Nat → Int) (i j : Nat) : Nat :=
  if h : i < j then if c ((i + j) / 2) < 0 then bs c ((i + j) / 2 + 1) j else bs c i ((i + j) / 2) else i
termination_by j - i
decreasing_by all_goals omega
theorem bs_up {c : Nat → Int} {i j : Nat} (h : i < j) (k : c ((i + j) / 2) < 0) : bs c i j = bs c ((i + j) / 2 + 1) j := by
  rw [bs, dif_pos h, if_pos k]
theorem bs_down {c : Nat → Int} {i j : Nat} (h : i < j) (k : ¬ c ((i + j) / 2) < 0) : bs c i j = bs c i ((i + j) / 2) := by
  rw [bs, dif_pos h, if_neg k]
theorem bs_end {c : Nat → Int} {i j : Nat} (h : ¬ i < j) : bs c i j = i := by
  rw [bs, dif_neg h]
/-- An attribute of a list. -/
def ga (L : List AttrD) (i : Nat) : AttrD := L.getD i default
theorem ga_eq {L : List AttrD} {i : Nat} (h : i < L.length) : ga L i = L[i] := by unfold ga; rw [List.getD_eq_getElem?_getD, List.getElem?_eq_getElem h]; rfl
def placeX (L : List AttrD) (k : ByteArray) : Nat := bs (fun i => cmpS (ga L i).key k) 0 L.length
def hasX (L : List AttrD) (k : ByteArray) : Bool := decide (placeX L k < L.length) && (cmpS (ga L (placeX L k)).key k == 0)
set_option maxHeartbeats 4000000 in
set_option maxRecDepth 20000 in
theorem bs_any (a : Option Addr) (L : List AttrD) (c n : Nat) (hn : n = L.length) (k : ByteArray) (w : World) (h : AttrsAt w a L) (hl : L.length ≤ 1000000) :
    Calls Tryz.prog 144 #[.slice a n c, .string k, .func (.func 145) #[] #[]] w fun e w' => e = .returned (.tuple #[.int .i64 (placeX L k), .bool (hasX L k)]) ∧ Grew w w' := by
  subst hn
  have HR := Lib.hid h
  clear h
  go_enter Tryz.func144, Tryz.ntmps144
  go_wp2_with fail
  go_loopw [9, 10, 11] (fun i j m wr => ∃ p q : Nat, p ≤ q ∧ q ≤ L.length ∧ i = .int .i64 p ∧ j = .int .i64 q ∧ Hid (bs (fun i => cmpS (ga L i).key k) p q = placeX L k) ∧ Hid (Grew w wr)) (fun i j _ _ => (intOf j).toNat - (intOf i).toNat)
  case atStart => exact ⟨0, L.length, by omega, by omega, rfl, rfl, Lib.hid rfl, Lib.hid (Grew.refl _)⟩
  case round =>
    obtain ⟨p, q, hpq, hq, rfl, rfl, hG, hW⟩ := hrel
    by_cases hlt : p < q
    · have hlt2 : decide (p < q) = true := decide_eq_true hlt
      obtain ⟨m, hm⟩ : ∃ m, m = (p + q) / 2 := ⟨_, rfl⟩
      have hml : m < L.length := by omega
      obtain ⟨ad, rfl, g0, g1, g2, g3⟩ := HR.out.grew hW.out m hml
      have hU := Lib.hid (fun h => hG.out.symm.trans (bs_up (c := fun i => cmpS (ga L i).key k) hlt h))
      have hD := Lib.hid (fun h => hG.out.symm.trans (bs_down (c := fun i => cmpS (ga L i).key k) hlt h))
      rw [← hm] at hU hD
      have hgm := ga_eq hml
      simp only [hgm] at hU hD
      have hs1 : (((p : Int) + q) / 2) = (m : Int) := by omega
      generalize L[m] = x at *
      clear hgm
      have hm1 : p ≤ m := by omega
      have hm2 : m < q := by omega
      clear hm
      by_cases hc : cmpS x.key k < 0
      · have hU' := Lib.hid (hU.out hc)
        have hc2 : decide (cmpS x.key k < 0) = true := decide_eq_true hc
        clear hU hD
        go_wp2_with (first
          | (go_at_call 145; (with_reducible refine (placeC_any x k _).mono ?_); rintro e w' ⟨rfl, hg⟩; have hg := Lib.hid hg))
        exact ⟨⟨m + 1, q, by omega, by omega, by go_num, rfl, Lib.hid hU'.out.symm, Lib.hid (hW.out.trans hg.out)⟩, by simp [intOf]; omega⟩
      · have hD' := Lib.hid (hD.out hc)
        have hc2 : decide (cmpS x.key k < 0) = false := decide_eq_false hc
        clear hU hD
        go_wp2_with (first
          | (go_at_call 145; (with_reducible refine (placeC_any x k _).mono ?_); rintro e w' ⟨rfl, hg⟩; have hg := Lib.hid hg))
        exact ⟨⟨p, m, by omega, by omega, rfl, rfl, Lib.hid hD'.out.symm, Lib.hid (hW.out.trans hg.out)⟩, by simp [intOf]; omega⟩
    · have hlt2 : decide (p < q) = false := decide_eq_false hlt
      have hP : Hid (placeX L k = p) := Lib.hid (by rw [← hG.out, bs_end hlt])
      by_cases hl2 : p < L.length
      · have hl3 : decide (p < L.length) = true := decide_eq_true hl2
        obtain ⟨ad, rfl, g0, g1, g2, g3⟩ := HR.out.grew hW.out p hl2
        have hX : Hid (hasX L k = (cmpS L[p].key k == 0)) := Lib.hid (by unfold hasX; rw [hP.out, ga_eq hl2, decide_eq_true hl2, Bool.true_and])
        generalize L[p] = x at *
        clear hG
        go_wp2_with (first
          | (go_at_call 145; (with_reducible refine (placeC_any x k _).mono ?_); rintro e w' ⟨rfl, hg⟩; have hg := Lib.hid hg))
        go_ret2
        exact ⟨by rw [hP.out, hX.out]; rfl, hW.out.trans hg.out⟩
      · have hl3 : decide (p < L.length) = false := decide_eq_false hl2
        have hX : Hid (hasX L k = false) := Lib.hid (by unfold hasX; rw [hP.out, decide_eq_false hl2, Bool.false_and])
        clear hG
        go_wp2_with fail
        go_ret2
        exact ⟨by rw [hP.out, hX.out]; rfl, hW.out⟩
theorem place_any (a : Option Addr) (L : List AttrD) (c n : Nat) (hn : n = L.length) (k : ByteArray) (w : World) (h : AttrsAt w a L) (hl : L.length ≤ 1000000) :
    Calls Tryz.prog 140 #[.slice a n c, .string k] w fun e w' => e = .returned (.tuple #[.int .i64 (placeX L k), .bool (hasX L k)]) ∧ Grew w w' := by
  have hb := Lib.hid (bs_any a L c n hn k w h hl)
  clear hn
  go_enter Tryz.func140, Tryz.ntmps140
  go_wp2_with (first
    | (go_at_call 144; (with_reducible refine hb.out.mono ?_); rintro e w' ⟨rfl, hg⟩))
  go_ret2
  exact ⟨rfl, hg⟩
/-- A function that returns a block and a number. -/
theorem ret_row_tmp {P : Program} {fn : Func} {R : Ending → World → Prop} {a : Act} {W : World} {g : Nat} {p u : Tmp} {ty : TypeId} {cs : Array Value} {t : TypeId} {fr : Nat × Nat} {d : TypeDesc} (hb : W.heap[g]? = some (.cells cs t fr)) (hrs : fn.results = #[.cell p ty, .tmp u])
    (hp : a.tmps.getD p undef = .pointer (some ⟨g, 0, none⟩)) (hu : P.underlying ty = some d) (hd : (match d with | .struct _ | .array _ _ => true | _ => false) = true) (hi : (P.info? ty).map (·.size) = some cs.size) (hdef : a.defers = [])
    (hR : R (.returned (.tuple #[.agg cs, a.tmps.getD u undef])) W) : bodyPost P fn R .ret a W := by
  refine bodyPost_ret ?_ hdef hR
  rw [results_cell_tmp hrs, hp]
  have := run_loadVar_row (P := P) W g t ty cs fr d hb hu hd hi
  simp only [asAddr, Sem.run_pure, Result.andThen_ok, this]
/-- The value of an attribute. -/
def getX (L : List AttrD) (k : ByteArray) : Int × ByteArray × Int := if hasX L k = true then ((ga L (placeX L k)).kind, (ga L (placeX L k)).text, (ga L (placeX L k)).num) else (0, ⟨#[]⟩, 0)
set_option maxHeartbeats 4000000 in
theorem get_any (a : Option Addr) (L : List AttrD) (c n : Nat) (hn : n = L.length) (k : ByteArray) (w : World) (h : AttrsAt w a L) (hl : L.length ≤ 1000000) :
    Calls Tryz.prog 135 #[.slice a n c, .string k] w fun e w' => e = .returned (.tuple #[.agg #[.int .i64 (getX L k).1, .string (getX L k).2.1, .int .i64 (getX L k).2.2], .bool (hasX L k)]) ∧ Below w.heap.size w w' := by
  subst hn
  have hb := Lib.hid (fun W (hW : Grew w W) => place_any a L c L.length rfl k W (h.grew hW) hl)
  have HR := Lib.hid h
  clear h
  cases hx : hasX L k
  · have hX : Hid (getX L k = (0, ⟨#[]⟩, 0)) := Lib.hid (by unfold getX; rw [hx]; rfl)
    rw [hx] at hb
    go_enter Tryz.func135, Tryz.ntmps135
    go_wp2_with (first
      | (go_at_call 140; (with_reducible refine (hb.out _ (Grew.alloc _ _)).mono ?_); rintro e w' ⟨rfl, hg⟩; have hk := hg.blk (blk_new _ _ _); have y0 := cell_blk hk 0 rfl; have y1 := cell_blk hk 1 rfl; have y2 := cell_blk hk 2 rfl; have hf := fun i => frozen_blk hk i; have hg := Lib.hid hg; have hk := Lib.hid hk))
    refine ret_row_tmp (heap_setCell_same _ _ 2 _ _ _ (heap_setCell_same _ _ 1 _ _ _ (heap_setCell_same _ _ 0 _ _ _ hk.out))) rfl rfl Tryz.underlying31 rfl (by kernel_rfl) rfl ?_
    refine ⟨by rw [hX.out]; rfl, ?_⟩
    exact ((((Below.refl w.heap.size w).alloc (Nat.le_refl _) _).trans (hg.out.b.mono (by simp))).setCell (p := ⟨w.heap.size, 0, none⟩) (Nat.le_refl _) _ |>.setCell (p := ⟨w.heap.size, 1, none⟩) (Nat.le_refl _) _).setCell (p := ⟨w.heap.size, 2, none⟩) (Nat.le_refl _) _
  · have hx2 := hx
    unfold hasX at hx2
    simp only [Bool.and_eq_true, decide_eq_true_eq] at hx2
    have hl2 := hx2.1
    have hX : Hid (getX L k = (L[placeX L k].kind, L[placeX L k].text, L[placeX L k].num)) := Lib.hid (by unfold getX; rw [hx, ga_eq hl2]; rfl)
    obtain ⟨ad, rfl, hq⟩ := HR.out (placeX L k) hl2
    have HQ := Lib.hid hq
    rw [hx] at hb
    clear hx2 hq hx
    generalize L[placeX L k] = x at *
    generalize placeX L k = p at *
    go_enter Tryz.func135, Tryz.ntmps135
    go_wp2_with (first
      | (go_at_call 140; (with_reducible refine (hb.out _ (Grew.alloc _ _)).mono ?_); rintro e w' ⟨rfl, hg⟩; obtain ⟨g0, g1, g2, g3⟩ := HQ.out.grew ((Grew.alloc _ _).trans hg); have hk := hg.blk (blk_new _ _ _); have y0 := cell_blk hk 0 rfl; have y1 := cell_blk hk 1 rfl; have y2 := cell_blk hk 2 rfl; have hf := fun i => frozen_blk hk i; have hg := Lib.hid hg; have hk := Lib.hid hk))
    refine ret_row_tmp (heap_setCell_same _ _ 2 _ _ _ (heap_setCell_same _ _ 1 _ _ _ (heap_setCell_same _ _ 0 _ _ _ hk.out))) rfl rfl Tryz.underlying31 rfl (by kernel_rfl) rfl ?_
    refine ⟨by rw [hX.out]; rfl, ?_⟩
    exact ((((Below.refl w.heap.size w).alloc (Nat.le_refl _) _).trans (hg.out.b.mono (by simp))).setCell (p := ⟨w.heap.size, 0, none⟩) (Nat.le_refl _) _ |>.setCell (p := ⟨w.heap.size, 1, none⟩) (Nat.le_refl _) _).setCell (p := ⟨w.heap.size, 2, none⟩) (Nat.le_refl _) _
end Go.Proofs.YtnddlpfmagdbfaaGreatDoor
/- Contract: the value of a field. -/
namespace Go.Proofs.YtnddlpfmagdbfaaGreatDoor
open Go Go.Proofs Go.RowKit
set_option linter.unusedVariables false
set_option linter.unusedSimpArgs false
/-- A field that is true or not. -/
def boolX (x : SpanD) (f : ByteArray) : Bool := (f.toList == [101, 114, 114, 111, 114] && x.err) || (f.toList == [114, 111, 111, 116] && x.parent == 0)
/-- The value of a field. -/
def valX (x : SpanD) (f k : ByteArray) : (Int × ByteArray × Int) × Bool :=
  if f.toList = [97, 116, 116, 114] then (getX x.attrs k, hasX x.attrs k)
  else if hasS fieldsL f = false ∨ k.toList ≠ [] then ((0, ⟨#[]⟩, 0), false)
  else if fkX f = 1 then ((1, textX x f, 0), true) else if fkX f = 2 then ((2, ⟨#[]⟩, numX x f), true) else ((3, ⟨#[]⟩, numB (boolX x f)), true)
/-- The world in which a value is looked for. -/
def valW (x : SpanD) (w : World) : World := (w.alloc (.cells x.cells.toArray 118)).alloc (.cells #[.int .i64 0, .string ⟨#[]⟩, .int .i64 0] 31)
theorem below_valW (x : SpanD) (w : World) : Below w.heap.size w (valW x w) := ((Below.refl _ w).alloc (Nat.le_refl _) _).alloc (by simp) _
theorem size_valW (x : SpanD) (w : World) : (valW x w).heap.size = w.heap.size + 2 := by simp [valW]
theorem blkV (x : SpanD) (w : World) : (valW x w).heap[w.heap.size]? = some (.cells x.cells.toArray 118 (0, 0)) := (Grew.alloc _ _).blk (blk_new _ _ _)
theorem blkR (x : SpanD) (w : World) : (valW x w).heap[w.heap.size + 1]? = some (.cells #[.int .i64 0, .string ⟨#[]⟩, .int .i64 0] 31 (0, 0)) := blk_new' _ _ _ _ (by simp)
set_option maxHeartbeats 4000000 in
set_option maxRecDepth 20000 in
theorem val_attr (x : SpanD) (f k : ByteArray) (w : World) (hx : x.Held w) (hl : x.attrs.length ≤ 1000000) (hf : f.toList = [97, 116, 116, 114]) :
    Calls Tryz.prog 133 #[.agg x.cells.toArray, .string f, .string k] w fun e w' => e = .returned (.tuple #[.agg #[.int .i64 (getX x.attrs k).1, .string (getX x.attrs k).2.1, .int .i64 (getX x.attrs k).2.2], .bool (hasX x.attrs k)]) ∧ Below w.heap.size w w' := by
  have HG := Lib.hid (get_any x.aA x.attrs x.aC x.attrs.length rfl k (valW x w) (attrs_below hx.attrs (below_valW x w)) hl)
  have hR := Lib.hid (blkR x w)
  have hsz := Lib.hid (size_valW x w)
  have hB := Lib.hid (below_valW x w)
  clear hx
  unfold valW at HG hR hsz hB
  unfold SpanD.cells at HG hR hsz hB ⊢
  go_enter Tryz.func133, Tryz.ntmps133
  go_wp2_with (first
    | (go_at_call 135; (with_reducible refine HG.out.mono ?_); rintro e w1 ⟨rfl, hg⟩; have hk := blk_keep hg hR.out; have y0 := cell_blk hk 0 rfl; have y1 := cell_blk hk 1 rfl; have y2 := cell_blk hk 2 rfl; have hff := fun i => frozen_blk hk i; have hg := Lib.hid (hB.out.trans (hg.mono hB.out.size)); have hk := Lib.hid hk))
  refine ret_row_tmp (heap_setCell_same _ _ 2 _ _ _ (heap_setCell_same _ _ 1 _ _ _ (heap_setCell_same _ _ 0 _ _ _ hk.out))) rfl rfl Tryz.underlying31 rfl (by kernel_rfl) rfl ?_
  exact ⟨rfl, ((hg.out.setCell (p := ⟨w.heap.size + 1, 0, none⟩) (by simp) _).setCell (p := ⟨w.heap.size + 1, 1, none⟩) (by simp) _).setCell (p := ⟨w.heap.size + 1, 2, none⟩) (by simp) _⟩
set_option maxHeartbeats 4000000 in
set_option maxRecDepth 20000 in
theorem val_none (x : SpanD) (f k : ByteArray) (w : World) (hf : ¬ f.toList = [97, 116, 116, 114]) (hk : hasS fieldsL f = false ∨ k.toList ≠ []) :
    Calls Tryz.prog 133 #[.agg x.cells.toArray, .string f, .string k] w fun e w' => e = .returned (.tuple #[.agg #[.int .i64 0, .string ⟨#[]⟩, .int .i64 0], .bool false]) ∧ Below w.heap.size w w' := by
  have HG := Lib.hid (fieldKind_any f (valW x w))
  have hR := Lib.hid (blkR x w)
  have hsz := Lib.hid (size_valW x w)
  have hB := Lib.hid (below_valW x w)
  have hfb : (f.toList == [97, 116, 116, 114]) = false := by rw [beq_eq_false_iff_ne]; exact hf
  clear hf
  unfold valW at HG hR hsz hB
  unfold SpanD.cells at HG hR hsz hB ⊢
  cases hs : hasS fieldsL f
  · rw [hs] at HG
    clear hk hs
    go_enter Tryz.func133, Tryz.ntmps133
    go_wp2_with (first
      | (go_at_call 136; (with_reducible refine HG.out.mono ?_); rintro e w1 ⟨rfl, hg⟩; have hk := blk_keep hg hR.out; have y0 := cell_blk hk 0 rfl; have y1 := cell_blk hk 1 rfl; have y2 := cell_blk hk 2 rfl; have hff := fun i => frozen_blk hk i; have hg := Lib.hid (hB.out.trans (hg.mono hB.out.size)); have hk := Lib.hid hk))
    refine ret_row_tmp (heap_setCell_same _ _ 2 _ _ _ (heap_setCell_same _ _ 1 _ _ _ (heap_setCell_same _ _ 0 _ _ _ hk.out))) rfl rfl Tryz.underlying31 rfl (by kernel_rfl) rfl ?_
    exact ⟨rfl, ((hg.out.setCell (p := ⟨w.heap.size + 1, 0, none⟩) (by simp) _).setCell (p := ⟨w.heap.size + 1, 1, none⟩) (by simp) _).setCell (p := ⟨w.heap.size + 1, 2, none⟩) (by simp) _⟩
  · rw [hs] at HG
    have hk2 : (k.toList == []) = false := by rw [beq_eq_false_iff_ne]; rcases hk with h | h; (rw [hs] at h; cases h); exact h
    have hk3 : (k.toList != []) = true := by rw [bne_iff_ne]; rcases hk with h | h; (rw [hs] at h; cases h); exact h
    clear hk hs
    go_enter Tryz.func133, Tryz.ntmps133
    go_wp2_with (first
      | (go_at_call 136; (with_reducible refine HG.out.mono ?_); rintro e w1 ⟨rfl, hg⟩; have hk := blk_keep hg hR.out; have y0 := cell_blk hk 0 rfl; have y1 := cell_blk hk 1 rfl; have y2 := cell_blk hk 2 rfl; have hff := fun i => frozen_blk hk i; have hg := Lib.hid (hB.out.trans (hg.mono hB.out.size)); have hk := Lib.hid hk))
    refine ret_row_tmp (heap_setCell_same _ _ 2 _ _ _ (heap_setCell_same _ _ 1 _ _ _ (heap_setCell_same _ _ 0 _ _ _ hk.out))) rfl rfl Tryz.underlying31 rfl (by kernel_rfl) rfl ?_
    exact ⟨rfl, ((hg.out.setCell (p := ⟨w.heap.size + 1, 0, none⟩) (by simp) _).setCell (p := ⟨w.heap.size + 1, 1, none⟩) (by simp) _).setCell (p := ⟨w.heap.size + 1, 2, none⟩) (by simp) _⟩
end Go.Proofs.YtnddlpfmagdbfaaGreatDoor
/- Contract: the value of a field of strings, of whole numbers, of truth. -/
namespace Go.Proofs.YtnddlpfmagdbfaaGreatDoor
open Go Go.Proofs Go.RowKit
set_option linter.unusedVariables false
set_option linter.unusedSimpArgs false
set_option maxHeartbeats 8000000 in
set_option maxRecDepth 20000 in
theorem val_text (x : SpanD) (f k : ByteArray) (w : World) (hf : ¬ f.toList = [97, 116, 116, 114]) (hs : hasS fieldsL f = true) (hk : k.toList = []) (hK : fkX f = 1) :
    Calls Tryz.prog 133 #[.agg x.cells.toArray, .string f, .string k] w fun e w' => e = .returned (.tuple #[.agg #[.int .i64 1, .string (textX x f), .int .i64 0], .bool true]) ∧ Below w.heap.size w w' := by
  have HG := Lib.hid (fieldKind_any f (valW x w))
  have HT := Lib.hid (textX_any x f)
  have hR := Lib.hid (blkR x w)
  have hVV := Lib.hid (blkV x w)
  have hsz := Lib.hid (size_valW x w)
  have hB := Lib.hid (below_valW x w)
  have hfb : (f.toList == [97, 116, 116, 114]) = false := by rw [beq_eq_false_iff_ne]; exact hf
  rw [hs, hK] at HG
  simp only [if_true] at HG
  clear hf hs hK
  unfold valW at HG hR hsz hB hVV
  unfold SpanD.cells at HG hR hsz hB HT ⊢
  go_enter Tryz.func133, Tryz.ntmps133
  go_wp2_with (first
    | (go_at_call 136; (with_reducible refine HG.out.mono ?_); rintro e w1 ⟨rfl, hg⟩; have hV := (Grew.alloc w1 (.cells #[.int .i64 1, .string ⟨#[]⟩, .int .i64 0] 31)).blk (blk_keep hg hVV.out); have v0 : (w1.alloc (.cells #[.int .i64 1, .string ⟨#[]⟩, .int .i64 0] 31)).cell? ⟨w.heap.size, 0, none⟩ = some (.int .i64 x.trace) := cell_blk hV 0 rfl; have v1 : (w1.alloc (.cells #[.int .i64 1, .string ⟨#[]⟩, .int .i64 0] 31)).cell? ⟨w.heap.size, 1, none⟩ = some (.int .i64 x.id) := cell_blk hV 1 rfl; have v2 : (w1.alloc (.cells #[.int .i64 1, .string ⟨#[]⟩, .int .i64 0] 31)).cell? ⟨w.heap.size, 2, none⟩ = some (.int .i64 x.parent) := cell_blk hV 2 rfl; have v3 : (w1.alloc (.cells #[.int .i64 1, .string ⟨#[]⟩, .int .i64 0] 31)).cell? ⟨w.heap.size, 3, none⟩ = some (.int .i64 x.rev) := cell_blk hV 3 rfl; have v4 : (w1.alloc (.cells #[.int .i64 1, .string ⟨#[]⟩, .int .i64 0] 31)).cell? ⟨w.heap.size, 4, none⟩ = some (.int .i64 x.clock) := cell_blk hV 4 rfl; have v5 : (w1.alloc (.cells #[.int .i64 1, .string ⟨#[]⟩, .int .i64 0] 31)).cell? ⟨w.heap.size, 5, none⟩ = some (.int .i64 x.kind) := cell_blk hV 5 rfl; have v6 : (w1.alloc (.cells #[.int .i64 1, .string ⟨#[]⟩, .int .i64 0] 31)).cell? ⟨w.heap.size, 6, none⟩ = some (.string x.svc) := cell_blk hV 6 rfl; have v7 : (w1.alloc (.cells #[.int .i64 1, .string ⟨#[]⟩, .int .i64 0] 31)).cell? ⟨w.heap.size, 7, none⟩ = some (.string x.ver) := cell_blk hV 7 rfl; have v8 : (w1.alloc (.cells #[.int .i64 1, .string ⟨#[]⟩, .int .i64 0] 31)).cell? ⟨w.heap.size, 8, none⟩ = some (.string x.op) := cell_blk hV 8 rfl; have v9 : (w1.alloc (.cells #[.int .i64 1, .string ⟨#[]⟩, .int .i64 0] 31)).cell? ⟨w.heap.size, 9, none⟩ = some (.int .i64 x.st) := cell_blk hV 9 rfl; have v10 : (w1.alloc (.cells #[.int .i64 1, .string ⟨#[]⟩, .int .i64 0] 31)).cell? ⟨w.heap.size, 10, none⟩ = some (.int .i64 x.en) := cell_blk hV 10 rfl; have v11 : (w1.alloc (.cells #[.int .i64 1, .string ⟨#[]⟩, .int .i64 0] 31)).cell? ⟨w.heap.size, 11, none⟩ = some (.bool x.err) := cell_blk hV 11 rfl; have v12 : (w1.alloc (.cells #[.int .i64 1, .string ⟨#[]⟩, .int .i64 0] 31)).cell? ⟨w.heap.size, 12, none⟩ = some (.slice x.aA x.attrs.length x.aC) := cell_blk hV 12 rfl; have v13 : (w1.alloc (.cells #[.int .i64 1, .string ⟨#[]⟩, .int .i64 0] 31)).cell? ⟨w.heap.size, 13, none⟩ = some (.slice x.lA x.links.length x.lC) := cell_blk hV 13 rfl; have hk1 := Lib.hid ((Grew.alloc w1 (.cells #[.int .i64 1, .string ⟨#[]⟩, .int .i64 0] 31)).blk (blk_keep hg hR.out)); have hT1 := Lib.hid (blk_new w1 #[.int .i64 1, .string ⟨#[]⟩, .int .i64 0] 31); have hs1 : Hid (w.heap.size + 2 ≤ w1.heap.size) := Lib.hid (by have h1 := hg.size; have h2 := hsz.out; unfold SpanD.cells at h2; omega); have hg1 := Lib.hid ((hB.out.trans (hg.mono hB.out.size)).alloc (by have := hs1.out; omega) (.cells #[.int .i64 1, .string ⟨#[]⟩, .int .i64 0] 31)); clear hV hg)
    | (go_at_call 137; (with_reducible refine (HT.out _).mono ?_); rintro e w2 ⟨rfl, hg2⟩; have hT2 := blk_keep hg2 hT1.out; have hk2 := blk_keep hg2 hk1.out; have z0 := cell_blk hT2 0 rfl; have z1 := cell_blk hT2 1 rfl; have z2 := cell_blk hT2 2 rfl; have zf := fun i => frozen_blk hT2 i; have y0 := cell_blk hk2 0 rfl; have y1 := cell_blk hk2 1 rfl; have y2 := cell_blk hk2 2 rfl; have hff := fun i => frozen_blk hk2 i; have hne : w.heap.size + 1 ≠ w1.heap.size := (by have := hs1.out; omega); have hg3 := Lib.hid (hg1.out.trans (hg2.mono (by have := hs1.out; simp; omega))); have hT2 := Lib.hid hT2; have hk2 := Lib.hid hk2; clear hg2))
  have hs2 := hs1.out
  refine ret_row_tmp (heap_setCell_same _ _ 2 _ _ _ (heap_setCell_same _ _ 1 _ _ _ (heap_setCell_same _ _ 0 _ _ _ ((heap_setCell_other _ ⟨w1.heap.size, 1, none⟩ _ _ hne).trans hk2.out)))) rfl rfl Tryz.underlying31 rfl (by kernel_rfl) rfl ?_
  exact ⟨rfl, (((hg3.out.setCell (p := ⟨w1.heap.size, 1, none⟩) (by simp; omega) _).setCell (p := ⟨w.heap.size + 1, 0, none⟩) (by simp) _).setCell (p := ⟨w.heap.size + 1, 1, none⟩) (by simp) _).setCell (p := ⟨w.heap.size + 1, 2, none⟩) (by simp) _⟩
set_option maxHeartbeats 8000000 in
set_option maxRecDepth 20000 in
theorem val_num (x : SpanD) (f k : ByteArray) (w : World) (hf : ¬ f.toList = [97, 116, 116, 114]) (hs : hasS fieldsL f = true) (hk : k.toList = []) (hK : fkX f = 2) :
    Calls Tryz.prog 133 #[.agg x.cells.toArray, .string f, .string k] w fun e w' => e = .returned (.tuple #[.agg #[.int .i64 2, .string ⟨#[]⟩, .int .i64 (numX x f)], .bool true]) ∧ Below w.heap.size w w' := by
  have HG := Lib.hid (fieldKind_any f (valW x w))
  have HT := Lib.hid (numX_any x f)
  have hR := Lib.hid (blkR x w)
  have hVV := Lib.hid (blkV x w)
  have hsz := Lib.hid (size_valW x w)
  have hB := Lib.hid (below_valW x w)
  have hfb : (f.toList == [97, 116, 116, 114]) = false := by rw [beq_eq_false_iff_ne]; exact hf
  rw [hs, hK] at HG
  simp only [if_true] at HG
  clear hf hs hK
  unfold valW at HG hR hsz hB hVV
  unfold SpanD.cells at HG hR hsz hB HT ⊢
  go_enter Tryz.func133, Tryz.ntmps133
  go_wp2_with (first
    | (go_at_call 136; (with_reducible refine HG.out.mono ?_); rintro e w1 ⟨rfl, hg⟩; have hV := (Grew.alloc w1 (.cells #[.int .i64 2, .string ⟨#[]⟩, .int .i64 0] 31)).blk (blk_keep hg hVV.out); have v0 : (w1.alloc (.cells #[.int .i64 2, .string ⟨#[]⟩, .int .i64 0] 31)).cell? ⟨w.heap.size, 0, none⟩ = some (.int .i64 x.trace) := cell_blk hV 0 rfl; have v1 : (w1.alloc (.cells #[.int .i64 2, .string ⟨#[]⟩, .int .i64 0] 31)).cell? ⟨w.heap.size, 1, none⟩ = some (.int .i64 x.id) := cell_blk hV 1 rfl; have v2 : (w1.alloc (.cells #[.int .i64 2, .string ⟨#[]⟩, .int .i64 0] 31)).cell? ⟨w.heap.size, 2, none⟩ = some (.int .i64 x.parent) := cell_blk hV 2 rfl; have v3 : (w1.alloc (.cells #[.int .i64 2, .string ⟨#[]⟩, .int .i64 0] 31)).cell? ⟨w.heap.size, 3, none⟩ = some (.int .i64 x.rev) := cell_blk hV 3 rfl; have v4 : (w1.alloc (.cells #[.int .i64 2, .string ⟨#[]⟩, .int .i64 0] 31)).cell? ⟨w.heap.size, 4, none⟩ = some (.int .i64 x.clock) := cell_blk hV 4 rfl; have v5 : (w1.alloc (.cells #[.int .i64 2, .string ⟨#[]⟩, .int .i64 0] 31)).cell? ⟨w.heap.size, 5, none⟩ = some (.int .i64 x.kind) := cell_blk hV 5 rfl; have v6 : (w1.alloc (.cells #[.int .i64 2, .string ⟨#[]⟩, .int .i64 0] 31)).cell? ⟨w.heap.size, 6, none⟩ = some (.string x.svc) := cell_blk hV 6 rfl; have v7 : (w1.alloc (.cells #[.int .i64 2, .string ⟨#[]⟩, .int .i64 0] 31)).cell? ⟨w.heap.size, 7, none⟩ = some (.string x.ver) := cell_blk hV 7 rfl; have v8 : (w1.alloc (.cells #[.int .i64 2, .string ⟨#[]⟩, .int .i64 0] 31)).cell? ⟨w.heap.size, 8, none⟩ = some (.string x.op) := cell_blk hV 8 rfl; have v9 : (w1.alloc (.cells #[.int .i64 2, .string ⟨#[]⟩, .int .i64 0] 31)).cell? ⟨w.heap.size, 9, none⟩ = some (.int .i64 x.st) := cell_blk hV 9 rfl; have v10 : (w1.alloc (.cells #[.int .i64 2, .string ⟨#[]⟩, .int .i64 0] 31)).cell? ⟨w.heap.size, 10, none⟩ = some (.int .i64 x.en) := cell_blk hV 10 rfl; have v11 : (w1.alloc (.cells #[.int .i64 2, .string ⟨#[]⟩, .int .i64 0] 31)).cell? ⟨w.heap.size, 11, none⟩ = some (.bool x.err) := cell_blk hV 11 rfl; have v12 : (w1.alloc (.cells #[.int .i64 2, .string ⟨#[]⟩, .int .i64 0] 31)).cell? ⟨w.heap.size, 12, none⟩ = some (.slice x.aA x.attrs.length x.aC) := cell_blk hV 12 rfl; have v13 : (w1.alloc (.cells #[.int .i64 2, .string ⟨#[]⟩, .int .i64 0] 31)).cell? ⟨w.heap.size, 13, none⟩ = some (.slice x.lA x.links.length x.lC) := cell_blk hV 13 rfl; have hk1 := Lib.hid ((Grew.alloc w1 (.cells #[.int .i64 2, .string ⟨#[]⟩, .int .i64 0] 31)).blk (blk_keep hg hR.out)); have hT1 := Lib.hid (blk_new w1 #[.int .i64 2, .string ⟨#[]⟩, .int .i64 0] 31); have hs1 : Hid (w.heap.size + 2 ≤ w1.heap.size) := Lib.hid (by have h1 := hg.size; have h2 := hsz.out; unfold SpanD.cells at h2; omega); have hg1 := Lib.hid ((hB.out.trans (hg.mono hB.out.size)).alloc (by have := hs1.out; omega) (.cells #[.int .i64 2, .string ⟨#[]⟩, .int .i64 0] 31)); clear hV hg)
    | (go_at_call 134; (with_reducible refine (HT.out _).mono ?_); rintro e w2 ⟨rfl, hg2⟩; have hT2 := blk_keep hg2 hT1.out; have hk2 := blk_keep hg2 hk1.out; have z0 := cell_blk hT2 0 rfl; have z1 := cell_blk hT2 1 rfl; have z2 := cell_blk hT2 2 rfl; have zf := fun i => frozen_blk hT2 i; have y0 := cell_blk hk2 0 rfl; have y1 := cell_blk hk2 1 rfl; have y2 := cell_blk hk2 2 rfl; have hff := fun i => frozen_blk hk2 i; have hne : w.heap.size + 1 ≠ w1.heap.size := (by have := hs1.out; omega); have hg3 := Lib.hid (hg1.out.trans (hg2.mono (by have := hs1.out; simp; omega))); have hT2 := Lib.hid hT2; have hk2 := Lib.hid hk2; clear hg2))
  have hs2 := hs1.out
  refine ret_row_tmp (heap_setCell_same _ _ 2 _ _ _ (heap_setCell_same _ _ 1 _ _ _ (heap_setCell_same _ _ 0 _ _ _ ((heap_setCell_other _ ⟨w1.heap.size, 2, none⟩ _ _ hne).trans hk2.out)))) rfl rfl Tryz.underlying31 rfl (by kernel_rfl) rfl ?_
  exact ⟨rfl, (((hg3.out.setCell (p := ⟨w1.heap.size, 2, none⟩) (by simp; omega) _).setCell (p := ⟨w.heap.size + 1, 0, none⟩) (by simp) _).setCell (p := ⟨w.heap.size + 1, 1, none⟩) (by simp) _).setCell (p := ⟨w.heap.size + 1, 2, none⟩) (by simp) _⟩
end Go.Proofs.YtnddlpfmagdbfaaGreatDoor
