/- A retention policy, opened out of its reading. -/
import Derived.Test.YtmhmnbaoanennaaGreatDoorChecks
import Derived.Test.YtmhmnbaoanennaaGreatDoorLaid
import Derived.Deep.Slices
namespace Go.Proofs.YtmhmnbaoanennaaGreatDoor
open Go Go.Ev Go.Proofs Go.RowKit Go.ChangeShapes Go.WideShapes Go.Deep
set_option linter.unusedVariables false
set_option linter.unusedSimpArgs false

theorem list_2 {α : Type} : ∀ {l : List α}, l.length = 2 → ∃ a0 a1, l = [a0, a1]
  | [a0, a1], _ => ⟨a0, a1, rfl⟩
theorem list_3 {α : Type} : ∀ {l : List α}, l.length = 3 → ∃ a0 a1 a2, l = [a0, a1, a2]
  | [a0, a1, a2], _ => ⟨a0, a1, a2, rfl⟩
theorem list_4 {α : Type} : ∀ {l : List α}, l.length = 4 → ∃ a0 a1 a2 a3, l = [a0, a1, a2, a3]
  | [a0, a1, a2, a3], _ => ⟨a0, a1, a2, a3, rfl⟩
theorem list_5 {α : Type} : ∀ {l : List α}, l.length = 5 → ∃ a0 a1 a2 a3 a4, l = [a0, a1, a2, a3, a4]
  | [a0, a1, a2, a3, a4], _ => ⟨a0, a1, a2, a3, a4, rfl⟩
theorem list_7 {α : Type} : ∀ {l : List α}, l.length = 7 → ∃ a0 a1 a2 a3 a4 a5 a6, l = [a0, a1, a2, a3, a4, a5, a6]
  | [a0, a1, a2, a3, a4, a5, a6], _ => ⟨a0, a1, a2, a3, a4, a5, a6, rfl⟩
theorem list_8 {α : Type} : ∀ {l : List α}, l.length = 8 → ∃ a0 a1 a2 a3 a4 a5 a6 a7, l = [a0, a1, a2, a3, a4, a5, a6, a7]
  | [a0, a1, a2, a3, a4, a5, a6, a7], _ => ⟨a0, a1, a2, a3, a4, a5, a6, a7, rfl⟩
section
variable {H : Type} {enc : TypeId × Value → H} {w : World} {base : Nat} {spare : Nat → Bool} {held : Bool}

theorem open_value {fuel : Nat} {cs : List Value} {x : DataW H × List MemPlace} (h : DataW.trod enc Tryz.prog w base spare held fuel 31 cs = some x) :
    ∃ n t i, cs = [.int .i64 n, .string t, .int .i64 i] := by
  obtain ⟨xs, k, _, _, hl, hxl, hf⟩ := DataW.trod_struct Tryz.underlying31 h
  have c0 : Tryz.prog.cellsOf 31 = 3 := by kernel_rfl
  have c3 : Tryz.prog.cellsOf 3 = 1 := by kernel_rfl
  have c9 : Tryz.prog.cellsOf 9 = 1 := by kernel_rfl
  rw [c0] at hl
  have hxl : xs.length = 3 := hxl
  obtain ⟨y0, y1, y2, rfl⟩ := list_3 hxl
  obtain ⟨v0, v1, v2, rfl⟩ := list_3 hl
  have g0 := hf 0 _ rfl
  have g1 := hf 1 _ rfl
  have g2 := hf 2 _ rfl
  simp [c3, c9] at g0 g1 g2
  obtain ⟨n, e0, _, _⟩ := DataW.trod_int Tryz.underlying3 g0
  obtain ⟨t, e1, _, _⟩ := DataW.trod_string Tryz.underlying9 g1
  obtain ⟨i, e2, _, _⟩ := DataW.trod_int Tryz.underlying3 g2
  simp at e0 e1 e2
  exact ⟨n, t, i, by rw [e0, e1, e2]⟩
theorem open_pred {fuel : Nat} {cs : List Value} {x : DataW H × List MemPlace} (h : DataW.trod enc Tryz.prog w base spare held fuel 34 cs = some x) :
    ∃ op f k n t i A l c, cs = [.int .i64 op, .string f, .string k, .int .i64 n, .string t, .int .i64 i, .slice A l c] := by
  obtain ⟨xs, k, _, _, hl, hxl, hf⟩ := DataW.trod_struct Tryz.underlying34 h
  have c0 : Tryz.prog.cellsOf 34 = 7 := by kernel_rfl
  have c3 : Tryz.prog.cellsOf 3 = 1 := by kernel_rfl
  have c9 : Tryz.prog.cellsOf 9 = 1 := by kernel_rfl
  have c31 : Tryz.prog.cellsOf 31 = 3 := by kernel_rfl
  have c32 : Tryz.prog.cellsOf 32 = 1 := by kernel_rfl
  rw [c0] at hl
  have hxl : xs.length = 5 := hxl
  obtain ⟨y0, y1, y2, y3, y4, rfl⟩ := list_5 hxl
  obtain ⟨v0, v1, v2, v3, v4, v5, v6, rfl⟩ := list_7 hl
  have g0 := hf 0 _ rfl
  have g1 := hf 1 _ rfl
  have g2 := hf 2 _ rfl
  have g3 := hf 3 _ rfl
  have g4 := hf 4 _ rfl
  simp [c3, c9, c31, c32] at g0 g1 g2 g3 g4
  obtain ⟨op, e0, _, _⟩ := DataW.trod_int Tryz.underlying3 g0
  obtain ⟨f, e1, _, _⟩ := DataW.trod_string Tryz.underlying9 g1
  obtain ⟨k, e2, _, _⟩ := DataW.trod_string Tryz.underlying9 g2
  obtain ⟨n, t, i, e3⟩ := open_value g3
  have e4 : ∃ A l c, [v6] = [Value.slice A l c] := by
    rcases open_slice Tryz.underlying32 g4 with ⟨e, _⟩ | ⟨a, len, cap, m, n, D, Pl, e, _⟩
    · exact ⟨_, _, _, e⟩
    · exact ⟨_, _, _, e⟩
  obtain ⟨A, l, c, e4⟩ := e4
  simp at e0 e1 e2 e3 e4
  exact ⟨op, f, k, n, t, i, A, l, c, by rw [e0, e1, e2, e3.1, e3.2.1, e3.2.2, e4]⟩
def listR (x : RuleX) : List Value := [.int .i64 x.r.op, .string x.r.f, .string x.r.k, .int .i64 x.r.n, .string x.r.t, .int .i64 x.r.i, .slice x.r.A x.l x.r.c, .int .i64 x.r.e]
theorem open_rule {fuel : Nat} {cs : List Value} {x : DataW H × List MemPlace} (h : DataW.trod enc Tryz.prog w base spare held fuel 36 cs = some x) : ∃ r : RuleX, cs = listR r := by
  obtain ⟨xs, k, _, _, hl, hxl, hf⟩ := DataW.trod_struct Tryz.underlying36 h
  have c0 : Tryz.prog.cellsOf 36 = 8 := by kernel_rfl
  have c3 : Tryz.prog.cellsOf 3 = 1 := by kernel_rfl
  have c34 : Tryz.prog.cellsOf 34 = 7 := by kernel_rfl
  rw [c0] at hl
  have hxl : xs.length = 2 := hxl
  obtain ⟨y0, y1, rfl⟩ := list_2 hxl
  obtain ⟨v0, v1, v2, v3, v4, v5, v6, v7, rfl⟩ := list_8 hl
  have g0 := hf 0 _ rfl
  have g1 := hf 1 _ rfl
  simp [c3, c34] at g0 g1
  obtain ⟨op, f, k, n, t, i, A, l, c, e0⟩ := open_pred g0
  obtain ⟨e, e1, _, _⟩ := DataW.trod_int Tryz.underlying3 g1
  simp at e0 e1
  obtain ⟨q0, q1, q2, q3, q4, q5, q6⟩ := e0
  exact ⟨⟨⟨op, f, k, n, t, i, A, c, e⟩, l⟩, by rw [q0, q1, q2, q3, q4, q5, q6, e1]; rfl⟩
theorem cells_rowX {W : World} {p : Addr} {r : RuleX} (hs : p.spot = none) (h : W.cells? base p 8 = some (listR r)) : RowX W p r := by
  obtain ⟨_, _, hc⟩ := World.cells?_some h
  obtain ⟨b, o, s⟩ := p
  cases hs
  have h0 := hc 0 (by omega)
  have h1 := hc 1 (by omega)
  have h2 := hc 2 (by omega)
  have h3 := hc 3 (by omega)
  have h4 := hc 4 (by omega)
  have h5 := hc 5 (by omega)
  have h6 := hc 6 (by omega)
  have h7 := hc 7 (by omega)
  simp [listR, add_plain] at h0 h1 h2 h3 h4 h5 h6 h7
  exact ⟨by simpa [Addr.add] using h0, h1, h2, h3, h4, h5, h6, h7⟩
instance : Inhabited RuleX := ⟨⟨⟨0, default, default, 0, default, 0, none, 0, 0⟩, 0⟩⟩
theorem open_rules {fuel : Nat} {v : Value} {x : DataW H × List MemPlace} (h : DataW.trod enc Tryz.prog w base spare held fuel 22 [v] = some x) :
    ∃ (a : Option Addr) (xs : List RuleX) (c : Nat), v = .slice a xs.length c ∧ (∀ y, a = some y → y.spot = none ∨ xs = []) ∧ RulesX w a xs := by
  have c36 : Tryz.prog.cellsOf 36 = 8 := by kernel_rfl
  rcases open_slice Tryz.underlying22 h with ⟨e, _⟩ | ⟨a, len, cap, m, n, D, Pl, e, _, hlc, _, hm, _, hel⟩
  · simp at e
    refine ⟨none, [], 0, by rw [e]; rfl, fun y hy => (by cases hy), fun j hj => ?_⟩
    simp at hj
  · simp at e
    have hlm : len ≤ m := by rw [hm]; split <;> omega
    rw [c36] at hel
    have each : ∀ i, i < len → ∃ r : RuleX, w.cells? base (a.add (i * 8)) 8 = some (listR r) := by
      intro i hi
      obtain ⟨cs, h1, h2⟩ := hel i (by omega)
      obtain ⟨r, rfl⟩ := open_rule h2
      exact ⟨r, h1⟩
    obtain ⟨f, hf⟩ := choose_lt each
    have hsp : ∀ j, j < len → a.spot = none := by
      intro j hj
      obtain ⟨_, _, hc⟩ := World.cells?_some (hf 0 (by omega))
      have h0 := hc 0 (by omega)
      rw [Deep.add_add] at h0
      have h0 : w.cell? a = some (Value.int .i64 (f 0).r.op) := by simpa [listR, Addr.add] using h0
      exact World.cell?_spot h0
    refine ⟨some a, (List.range len).map f, cap, by rw [e]; simp, fun y hy => ?_, fun j hj => ?_⟩
    · cases hy
      cases len with
      | zero => right; simp
      | succ n => left; exact hsp 0 (by omega)
    · simp at hj
      refine ⟨a, rfl, ?_⟩
      simp only [List.getElem_map, List.getElem_range]
      exact cells_rowX (by have := hsp j hj; simp [Addr.add]; split <;> simp_all) (hf j hj)
/-- A struct of two whole numbers, a slice and two whole numbers. -/
theorem ok_mixed {P : Program} {w : World} {r : Reach} {base : Nat} {t u q e : TypeId} {fs : Array Field} {k : IntKind} {v : Value} (hs : P.underlying t = some (.struct fs)) (hu : P.underlying u = some (.int k)) (hq : P.underlying q = some (.slice e)) (hc : P.cellsOf t = 5) (hts : P.cellTypes P.depth t = some [u, u, q, u, u])
    (h : Value.okWide P w r base t v) : ∃ f s a n c d x, v = .agg #[.int k f, .int k s, .slice a n c, .int k d, .int k x] ∧ ∀ y, a = some y → y.spot = none := by
  simp only [Value.okWide, hs] at h
  obtain ⟨cs, rfl, hsz, ts, h1, _, h3⟩ := h
  rw [hts] at h1
  cases h1
  rw [hc] at hsz
  obtain ⟨l⟩ := cs
  obtain ⟨c0, c1, c2, c3, c4, rfl⟩ := list_5 hsz
  obtain ⟨u0, e0, o0⟩ := h3 0 c0 rfl
  obtain ⟨u1, e1, o1⟩ := h3 1 c1 rfl
  obtain ⟨u2, e2, o2⟩ := h3 2 c2 rfl
  obtain ⟨u3, e3, o3⟩ := h3 3 c3 rfl
  obtain ⟨u4, e4, o4⟩ := h3 4 c4 rfl
  cases e0; cases e1; cases e2; cases e3; cases e4
  obtain ⟨f, rfl, _⟩ := ok_intCell hu o0
  obtain ⟨s, rfl, _⟩ := ok_intCell hu o1
  obtain ⟨dd, rfl, _⟩ := ok_intCell hu o3
  obtain ⟨x, rfl, _⟩ := ok_intCell hu o4
  have o2' : Value.okWide P w r base q c2 := by simp only [Value.okWide, hq]; exact o2
  obtain ⟨a, n, c, rfl, hs, _⟩ := ok_slice hq o2'
  exact ⟨f, s, a, n, c, dd, x, rfl, hs⟩
set_option maxRecDepth 100000 in
/-- A retention policy's value. -/
theorem open_policy {r : Reach} {b2 : Nat} {v : Value} {d : DataW H} {p : List MemPlace} (hv : Value.okWide Tryz.prog w r b2 26 v) (h : DataW.Trod enc Tryz.prog w base spare held 26 v d p) :
    ∃ f s a xs c dd x, v = .agg #[.int .i64 f, .int .i64 s, .slice a (List.length (α := RuleX) xs) c, .int .i64 dd, .int .i64 x] ∧ (∀ y, a = some y → y.spot = none) ∧ RulesX w a xs := by
  obtain ⟨f, s, a, n, c, dd, x, rfl, hs⟩ := ok_mixed Tryz.underlying26 Tryz.underlying3 Tryz.underlying22 (by kernel_rfl) (by kernel_rfl) hv
  obtain ⟨m, hm⟩ := h
  obtain ⟨ys, k, _, _, hl, hxl, hf⟩ := DataW.trod_struct Tryz.underlying26 hm
  have hxl : ys.length = 4 := hxl
  have g2 := hf 2 _ rfl
  have c24 : Tryz.prog.cellsOf 24 = 2 := by kernel_rfl
  have c22 : Tryz.prog.cellsOf 22 = 1 := by kernel_rfl
  obtain ⟨y0, y1, y2, y3, rfl⟩ := list_4 hxl
  simp [c24, Value.cells] at g2
  obtain ⟨zs, k2, _, _, hl2, hxl2, hf2⟩ := DataW.trod_struct Tryz.underlying24 g2
  have hxl2 : zs.length = 2 := hxl2
  obtain ⟨z0, z1, rfl⟩ := list_2 hxl2
  have i0 := hf2 0 _ rfl
  simp [c22] at i0
  obtain ⟨a', xs, c', e2', _, hr⟩ := open_rules i0
  cases e2'
  exact ⟨f, s, a, xs, c, dd, x, rfl, hs, hr⟩
end
end Go.Proofs.YtmhmnbaoanennaaGreatDoor
