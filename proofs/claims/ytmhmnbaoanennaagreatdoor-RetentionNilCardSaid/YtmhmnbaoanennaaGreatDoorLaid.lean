/- The tables of math/bits as the rows lay them are the package-level variables that the evaluator knows; and arguments opened. -/
import Derived.Test.YtmhmnbaoanennaaGreatDoorRows
import Derived.Test.YtmhmnbaoanennaaGreatDoorKn
import Derived.WalkKit
import Derived.ProofKit
import Derived.OpenShut
import Derived.LaidMore
import Derived.Lib.LaidTab
import Derived.MakeChecks
namespace Go.Proofs.YtmhmnbaoanennaaGreatDoor
open Go Go.Ev Go.ChangeShapes Go.WideShapes Go.ChangeAt Go.RowKit
set_option linter.unusedVariables false
set_option linter.unusedSimpArgs false

theorem laidVars_mem {P : Program} {W : World} {n : String} {d : DataW Unit} : ∀ {laid : List (String × DataW Unit)} {ps : List MemPlace}, DataW.LaidVars P W laid ps → (n, d) ∈ laid →
    ∃ g t cs fuel p, P.globalNamed n = some g ∧ (P.globals[g]?).map (·.type) = some t ∧ W.var? P n = some cs ∧ DataW.trod (fun _ => ()) P W 0 (fun _ => true) false fuel t cs.toList = some (d, p) ∧ ∀ x ∈ MemPlace.row ⟨g, 0, none⟩ cs.size, x ∈ ps
  | [], ps, h, hm => by cases hm
  | (n', d') :: r, ps, h, hm => by
    obtain ⟨g, t, cs, fuel, p, q, h1, h2, h3, h4, h5, rfl⟩ := h
    rcases List.mem_cons.1 hm with he | hm
    · cases he
      exact ⟨g, t, cs, fuel, p, h1, h2, h3, h4, fun x hx => List.mem_append_left _ (List.mem_append_left _ hx)⟩
    · obtain ⟨g', t', cs', fuel', p', k1, k2, k3, k4, k5⟩ := laidVars_mem h5 hm
      exact ⟨g', t', cs', fuel', p', k1, k2, k3, k4, fun x hx => List.mem_append_right _ (k5 x hx)⟩

theorem laid_block {P : Program} {W : World} {laid : List (String × DataW Unit)} (hL : laidMet P laid W) {n : String} {k : IntKind} {zs : List Int} (hm : (n, Lib.tabData k zs) ∈ laid) {g t e m : Nat} (hg : P.globalNamed n = some g)
    (hty : (P.globals[g]?).map (·.type) = some t) (ht : P.underlying t = some (.array m e)) (he : P.underlying e = some (.int k)) (hce : P.cellsOf e = 1) (hct : P.cellsOf t = m) (hz : zs ≠ []) :
    ∃ ty, W.heap[g]? = some (.cells ⟨zs.map fun z => Value.int k z⟩ ty (0, 0)) := by
  obtain ⟨ps, h1, _, h2⟩ := hL
  obtain ⟨g', t', cs, fuel, p, k1, k2, k3, k4, k5⟩ := laidVars_mem h1 hm
  obtain rfl := Option.some.inj (hg.symm.trans k1)
  obtain rfl := Option.some.inj (hty.symm.trans k2)
  have hcs := Lib.cells_of_tab ht he hce hct k4
  have hpos : 0 < cs.size := by
    have : cs.toList.length = zs.length := by rw [hcs]; simp
    rw [Array.length_toList] at this
    have := List.length_pos_iff.2 hz
    omega
  have hmem : MemPlace.cell g 0 ∈ ps := k5 _ (by
    unfold MemPlace.row
    exact List.mem_map.2 ⟨0, List.mem_range.2 hpos, by simp [Addr.add]⟩)
  obtain ⟨⟨c, ty, hc⟩, _⟩ := h2 g 0 hmem
  unfold World.var? at k3
  rw [hg] at k3
  simp only [Option.bind_some, hc, Option.some.injEq] at k3
  subst k3
  refine ⟨ty, ?_⟩
  rw [hc]
  cases c
  simp only at hcs
  rw [hcs]

/-- The tables. -/
def laid2 : List (String × DataW Unit) := [("math/bits.deBruijn32tab", Rows.laid_math_bits_deBruijn32tab), ("math/bits.deBruijn64tab", Rows.laid_math_bits_deBruijn64tab)]
/-- The numbers of the second one. -/
def tab64 : List Int := [0, 1, 56, 2, 57, 49, 28, 3, 61, 58, 42, 50, 38, 29, 17, 4, 62, 47, 59, 36, 45, 43, 51, 22, 53, 39, 33, 30, 24, 18, 12, 5, 63, 55, 48, 27, 60, 41, 37, 16, 46, 35, 44, 21, 52, 32, 23, 11, 54, 26, 40, 15, 34, 20, 31, 10, 25, 14, 19, 9, 13, 8, 7, 6]
theorem laid_gl {W : World} (hL : laidMetH Tryz.prog laid2 W) : ∃ ty, laidG W ty gl := by
  rw [MakeChecks.laidMetH_plain _ _ _ (by kernel_rfl)] at hL
  obtain ⟨ty, h⟩ := laid_block (n := "math/bits.deBruijn64tab") (k := .u8) (zs := tab64) hL (List.mem_cons_of_mem _ (List.mem_cons_self ..)) (g := 1) (t := 271) (e := 5) (m := 64) (by kernel_rfl) (by kernel_rfl) Tryz.underlying271 Tryz.underlying5 (by kernel_rfl) (by kernel_rfl) (by simp [tab64])
  refine ⟨fun _ => ty, fun x hx => ?_⟩
  have hx : x = (1, tab64.map fun z => Value.int .u8 z) := by
    have h2 : gl = [(1, tab64.map fun z => Value.int .u8 z)] := by kernel_rfl
    rw [h2] at hx
    simpa using hx
  subst hx
  exact h

/-- A value of a slice's type. -/
theorem ok_slice {P : Program} {w : World} {r : Reach} {base : Nat} {t e : TypeId} {v : Value} (ht : P.underlying t = some (.slice e)) (h : Value.okWide P w r base t v) :
    ∃ a n c, v = .slice a n c ∧ (∀ x, a = some x → x.spot = none) ∧ (a = none → n = 0 ∧ c = 0) := by
  unfold Value.okWide at h
  rw [ht] at h
  simp only [Cell.okWide, ht] at h
  unfold Cell.ok at h
  rw [ht] at h
  cases v with
  | slice a n c =>
    cases a with
    | none =>
      refine ⟨none, n, c, rfl, fun x hx => (by cases hx), fun _ => ?_⟩
      cases n <;> cases c <;> simp_all
    | some x =>
      refine ⟨some x, n, c, rfl, fun y hy => ?_, fun hc => (by cases hc)⟩
      cases hy
      exact h.2.2.2.1
  | _ => simp at h
/-- A cell of a whole number's type. -/
theorem ok_intCell {P : Program} {w : World} {r : Reach} {base : Nat} {t : TypeId} {k : IntKind} {v : Value} (ht : P.underlying t = some (.int k)) (h : Cell.okWide P w r base t v) : ∃ n, v = .int k n ∧ k.min ≤ n ∧ n ≤ k.max := by
  simp only [Cell.okWide, ht] at h
  unfold Cell.ok at h
  rw [ht] at h
  cases v with
  | int k' n =>
    simp only at h
    obtain ⟨rfl, h⟩ := h
    exact ⟨n, rfl, h⟩
  | _ => simp at h
/-- A struct of five whole numbers. -/
theorem ok_five {P : Program} {w : World} {r : Reach} {base : Nat} {t u : TypeId} {fs : Array Field} {k : IntKind} {v : Value} (hs : P.underlying t = some (.struct fs)) (hu : P.underlying u = some (.int k)) (hc : P.cellsOf t = 5) (hts : P.cellTypes P.depth t = some [u, u, u, u, u])
    (h : Value.okWide P w r base t v) : ∃ a0 a1 a2 a3 a4, v = .agg #[.int k a0, .int k a1, .int k a2, .int k a3, .int k a4] ∧ (k.min ≤ a0 ∧ a0 ≤ k.max) ∧ (k.min ≤ a1 ∧ a1 ≤ k.max) ∧ (k.min ≤ a2 ∧ a2 ≤ k.max) ∧ (k.min ≤ a3 ∧ a3 ≤ k.max) ∧ (k.min ≤ a4 ∧ a4 ≤ k.max) := by
  simp only [Value.okWide, hs] at h
  obtain ⟨cs, rfl, hsz, ts, h1, _, h3⟩ := h
  rw [hts] at h1
  cases h1
  rw [hc] at hsz
  obtain ⟨l⟩ := cs
  match l, hsz with
  | [c0, c1, c2, c3, c4], _ =>
    obtain ⟨u0, e0, o0⟩ := h3 0 c0 rfl
    obtain ⟨u1, e1, o1⟩ := h3 1 c1 rfl
    obtain ⟨u2, e2, o2⟩ := h3 2 c2 rfl
    obtain ⟨u3, e3, o3⟩ := h3 3 c3 rfl
    obtain ⟨u4, e4, o4⟩ := h3 4 c4 rfl
    cases e0; cases e1; cases e2; cases e3; cases e4
    obtain ⟨a0, rfl, w0⟩ := ok_intCell hu o0
    obtain ⟨a1, rfl, w1⟩ := ok_intCell hu o1
    obtain ⟨a2, rfl, w2⟩ := ok_intCell hu o2
    obtain ⟨a3, rfl, w3⟩ := ok_intCell hu o3
    obtain ⟨a4, rfl, w4⟩ := ok_intCell hu o4
    exact ⟨a0, a1, a2, a3, a4, rfl, w0, w1, w2, w3, w4⟩

theorem own : ownKnob Tryz.prog.godebug = none := by kernel_rfl
theorem laidOut : laidOutB Tryz.prog = true := by kernel_rfl
theorem door_met (os : Os) (args : Array Value) : laidMetH Tryz.prog laid2 ((World.doorLaid Tryz.prog 19 os).forCall (fun _ _ => 0) ⟨#[], args, []⟩).memory :=
  laidMetH_of_parts3 (fuel := 8) (laidMet_of_run' 8 (by kernel_rfl) (by kernel_rfl)) (by kernel_rfl) (by kernel_rfl)
end Go.Proofs.YtmhmnbaoanennaaGreatDoor
