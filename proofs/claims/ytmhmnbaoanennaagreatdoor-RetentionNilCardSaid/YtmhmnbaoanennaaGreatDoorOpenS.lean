/- A story, opened out of its reading. -/
import Derived.Test.YtmhmnbaoanennaaGreatDoorOpenR
import Derived.Test.YtmhmnbaoanennaaGreatDoorMade
namespace Go.Proofs.YtmhmnbaoanennaaGreatDoor
open Go Go.Ev Go.Proofs Go.RowKit Go.ChangeShapes Go.WideShapes Go.Deep
set_option linter.unusedVariables false
set_option linter.unusedSimpArgs false
theorem list_11 {α : Type} : ∀ {l : List α}, l.length = 11 → ∃ a0 a1 a2 a3 a4 a5 a6 a7 a8 a9 a10, l = [a0, a1, a2, a3, a4, a5, a6, a7, a8, a9, a10]
  | [a0, a1, a2, a3, a4, a5, a6, a7, a8, a9, a10], _ => ⟨a0, a1, a2, a3, a4, a5, a6, a7, a8, a9, a10, rfl⟩
theorem lit_u8 {n : Int} (h : (Lit.int .u8 n).wf = true) : isU8 n := by
  simp [Lit.wf, IntKind.min, IntKind.max, IntKind.signed, IntKind.bits] at h
  exact ⟨by omega, by omega⟩
section
variable {H : Type} {enc : TypeId × Value → H} {w : World} {base : Nat} {spare : Nat → Bool} {held : Bool}
theorem open_call {fuel : Nat} {cs : List Value} {x : DataW H × List MemPlace} (h : DataW.trod enc Tryz.prog w base spare held fuel 234 cs = some x) : ∃ r : CallD, cs = r.cells ∧ r.ok := by
  obtain ⟨xs, k, _, _, hl, hxl, hf⟩ := DataW.trod_struct Tryz.underlying234 h
  have c0 : Tryz.prog.cellsOf 234 = 11 := by kernel_rfl
  have c5 : Tryz.prog.cellsOf 5 = 1 := by kernel_rfl
  have c4 : Tryz.prog.cellsOf 4 = 1 := by kernel_rfl
  rw [c0] at hl
  have hxl : xs.length = 11 := hxl
  obtain ⟨y0, y1, y2, y3, y4, y5, y6, y7, y8, y9, y10, rfl⟩ := list_11 hxl
  obtain ⟨v0, v1, v2, v3, v4, v5, v6, v7, v8, v9, v10, rfl⟩ := list_11 hl
  have g0 := hf 0 _ rfl
  have g1 := hf 1 _ rfl
  have g2 := hf 2 _ rfl
  have g3 := hf 3 _ rfl
  have g4 := hf 4 _ rfl
  have g5 := hf 5 _ rfl
  have g6 := hf 6 _ rfl
  have g7 := hf 7 _ rfl
  have g8 := hf 8 _ rfl
  have g9 := hf 9 _ rfl
  have g10 := hf 10 _ rfl
  simp [c4, c5] at g0 g1 g2 g3 g4 g5 g6 g7 g8 g9 g10
  obtain ⟨n0, e0, _, w0⟩ := DataW.trod_int Tryz.underlying5 g0
  obtain ⟨n1, e1, _, w1⟩ := DataW.trod_int Tryz.underlying5 g1
  obtain ⟨n2, e2, _, w2⟩ := DataW.trod_int Tryz.underlying5 g2
  obtain ⟨n3, e3, _, w3⟩ := DataW.trod_int Tryz.underlying5 g3
  obtain ⟨n4, e4, _, w4⟩ := DataW.trod_int Tryz.underlying5 g4
  obtain ⟨n5, e5, _, w5⟩ := DataW.trod_int Tryz.underlying5 g5
  obtain ⟨n6, e6, _, w6⟩ := DataW.trod_int Tryz.underlying5 g6
  obtain ⟨n7, e7, _, w7⟩ := DataW.trod_int Tryz.underlying5 g7
  obtain ⟨n8, e8, _, w8⟩ := DataW.trod_int Tryz.underlying5 g8
  obtain ⟨n9, e9, _, w9⟩ := DataW.trod_int Tryz.underlying5 g9
  obtain ⟨n10, e10, _⟩ := DataW.trod_bool Tryz.underlying4 g10
  simp only [List.cons.injEq, and_true] at e0 e1 e2 e3 e4 e5 e6 e7 e8 e9 e10
  exact ⟨⟨n0, n1, n2, n3, n4, n5, n6, n7, n8, n9, n10⟩, by rw [e0, e1, e2, e3, e4, e5, e6, e7, e8, e9, e10]; rfl, lit_u8 w0, lit_u8 w1, lit_u8 w2, lit_u8 w3, lit_u8 w4, lit_u8 w5, lit_u8 w6, lit_u8 w7, lit_u8 w8, lit_u8 w9⟩
theorem cells_call {W : World} {p : Addr} {r : CallD} (hs : p.spot = none) (h : W.cells? base p 11 = some r.cells) : CallAt W p r := by
  obtain ⟨_, _, hc⟩ := World.cells?_some h
  obtain ⟨b, o, s⟩ := p
  cases hs
  have h0 := hc 0 (by omega)
  have h1 := hc 1 (by omega)
  have h2 := hc 2 (by omega)
  have h3 := hc 3 (by omega)
  have h4 := hc 4 (by omega)
  have h5 := hc 5 (by omega)
  have h6 := hc 6 (by omega)
  have h7 := hc 7 (by omega)
  have h8 := hc 8 (by omega)
  have h9 := hc 9 (by omega)
  have h10 := hc 10 (by omega)
  simp [CallD.cells, add_plain] at h0 h1 h2 h3 h4 h5 h6 h7 h8 h9 h10
  exact ⟨by simpa [Addr.add] using h0, h1, h2, h3, h4, h5, h6, h7, h8, h9, h10⟩
instance : Inhabited CallD := ⟨⟨0, 0, 0, 0, 0, 0, 0, 0, 0, 0, false⟩⟩
instance : Inhabited TreeD := ⟨⟨0, 0, none, [], 0⟩⟩
theorem open_calls {fuel : Nat} {v : Value} {x : DataW H × List MemPlace} (h : DataW.trod enc Tryz.prog w base spare held fuel 185 [v] = some x) :
    ∃ (a : Option Addr) (xs : List CallD) (c : Nat), v = .slice a xs.length c ∧ xs.length ≤ maxLen ∧ CallsAt w a xs := by
  have c36 : Tryz.prog.cellsOf 234 = 11 := by kernel_rfl
  rcases open_slice Tryz.underlying185 h with ⟨e, _⟩ | ⟨a, len, cap, m, n, D, Pl, e, _, hlc, hcm, hm, _, hel⟩
  · simp at e
    refine ⟨none, [], 0, by rw [e]; rfl, Nat.zero_le _, fun j hj => ?_⟩
    simp at hj
  · simp at e
    have hlm : len ≤ m := by rw [hm]; split <;> omega
    rw [c36] at hel
    have each : ∀ i, i < len → ∃ r : CallD, w.cells? base (a.add (i * 11)) 11 = some r.cells ∧ r.ok := by
      intro i hi
      obtain ⟨cs, h1, h2⟩ := hel i (by omega)
      obtain ⟨r, rfl, hr⟩ := open_call h2
      exact ⟨r, h1, hr⟩
    obtain ⟨f, hf⟩ := choose_lt each
    have hsp : ∀ j, j < len → a.spot = none := by
      intro j hj
      obtain ⟨_, _, hc⟩ := World.cells?_some (hf 0 (by omega)).1
      have h0 := hc 0 (by omega)
      rw [Deep.add_add] at h0
      have h0 : w.cell? a = some (Value.int .u8 (f 0).p) := by simpa [CallD.cells, Addr.add] using h0
      exact World.cell?_spot h0
    refine ⟨some a, (List.range len).map f, cap, by rw [e]; simp, by simp; omega, fun j hj => ?_⟩
    simp at hj
    refine ⟨a, rfl, ?_⟩
    simp only [List.getElem_map, List.getElem_range]
    exact ⟨cells_call (by have := hsp j hj; simp [Addr.add]; split <;> simp_all) (hf j hj).1, (hf j hj).2⟩
def listT (x : TreeD) : List Value := [.int .u8 x.s, .int .u8 x.f, .slice x.a x.cs.length x.c]
theorem open_tree {fuel : Nat} {cs : List Value} {x : DataW H × List MemPlace} (h : DataW.trod enc Tryz.prog w base spare held fuel 187 cs = some x) :
    ∃ r : TreeD, cs = listT r ∧ CallsAt w r.a r.cs ∧ isU8 r.s ∧ isU8 r.f ∧ r.cs.length ≤ maxLen := by
  obtain ⟨xs, k, _, _, hl, hxl, hf⟩ := DataW.trod_struct Tryz.underlying187 h
  have c0 : Tryz.prog.cellsOf 187 = 3 := by kernel_rfl
  have c5 : Tryz.prog.cellsOf 5 = 1 := by kernel_rfl
  have c185 : Tryz.prog.cellsOf 185 = 1 := by kernel_rfl
  rw [c0] at hl
  have hxl : xs.length = 3 := hxl
  obtain ⟨y0, y1, y2, rfl⟩ := list_3 hxl
  obtain ⟨v0, v1, v2, rfl⟩ := list_3 hl
  have g0 := hf 0 _ rfl
  have g1 := hf 1 _ rfl
  have g2 := hf 2 _ rfl
  simp [c5, c185] at g0 g1 g2
  obtain ⟨n0, e0, _, w0⟩ := DataW.trod_int Tryz.underlying5 g0
  obtain ⟨n1, e1, _, w1⟩ := DataW.trod_int Tryz.underlying5 g1
  obtain ⟨a, xs, c, e2, hlen, hca⟩ := open_calls g2
  simp only [List.cons.injEq, and_true] at e0 e1
  exact ⟨⟨n0, n1, a, xs, c⟩, by rw [e0, e1, e2]; rfl, hca, lit_u8 w0, lit_u8 w1, hlen⟩
theorem open_trees {fuel : Nat} {v : Value} {x : DataW H × List MemPlace} (h : DataW.trod enc Tryz.prog w base spare held fuel 48 [v] = some x) :
    ∃ (a : Option Addr) (ts : List TreeD) (c : Nat), v = .slice a ts.length c ∧ ts.length ≤ maxLen ∧ TreesAt w a ts ∧ ∀ j (hj : j < ts.length), ts[j].cs.length ≤ maxLen := by
  have c36 : Tryz.prog.cellsOf 187 = 3 := by kernel_rfl
  rcases open_slice Tryz.underlying48 h with ⟨e, _⟩ | ⟨a, len, cap, m, n, D, Pl, e, _, hlc, hcm, hm, _, hel⟩
  · simp at e
    refine ⟨none, [], 0, by rw [e]; rfl, Nat.zero_le _, fun j hj => ?_, fun j hj => ?_⟩
    · simp at hj
    · simp at hj
  · simp at e
    have hlm : len ≤ m := by rw [hm]; split <;> omega
    rw [c36] at hel
    have each : ∀ i, i < len → ∃ r : TreeD, w.cells? base (a.add (i * 3)) 3 = some (listT r) ∧ CallsAt w r.a r.cs ∧ isU8 r.s ∧ isU8 r.f ∧ r.cs.length ≤ maxLen := by
      intro i hi
      obtain ⟨cs, h1, h2⟩ := hel i (by omega)
      obtain ⟨r, rfl, hr⟩ := open_tree h2
      exact ⟨r, h1, hr⟩
    obtain ⟨f, hf⟩ := choose_lt each
    have hsp : ∀ j, j < len → a.spot = none := by
      intro j hj
      obtain ⟨_, _, hc⟩ := World.cells?_some (hf 0 (by omega)).1
      have h0 := hc 0 (by omega)
      rw [Deep.add_add] at h0
      have h0 : w.cell? a = some (Value.int .u8 (f 0).s) := by simpa [listT, Addr.add] using h0
      exact World.cell?_spot h0
    refine ⟨some a, (List.range len).map f, cap, by rw [e]; simp, by simp; omega, fun j hj => ?_, fun j hj => ?_⟩
    · simp at hj
      refine ⟨a, rfl, ?_⟩
      simp only [List.getElem_map, List.getElem_range]
      obtain ⟨h1, h2, h3, h4, _⟩ := hf j hj
      have hs : (a.add (j * 3)).spot = none := by have := hsp j hj; simp [Addr.add]; split <;> simp_all
      generalize a.add (j * 3) = p at *
      obtain ⟨b, o, s⟩ := p
      cases hs
      obtain ⟨_, _, hc⟩ := World.cells?_some h1
      have k0 := hc 0 (by omega)
      have k1 := hc 1 (by omega)
      have k2 := hc 2 (by omega)
      simp [listT, add_plain] at k0 k1 k2
      exact ⟨by simpa [Addr.add] using k0, k1, k2, h2, h3, h4⟩
    · simp at hj
      simp only [List.getElem_map, List.getElem_range]
      exact (hf j hj).2.2.2.2
set_option maxRecDepth 100000 in
/-- A story's value. -/
theorem open_story {r : Reach} {b2 : Nat} {v : Value} {dd : DataW H} {p : List MemPlace} (hv : Value.okWide Tryz.prog w r b2 53 v) (h : DataW.Trod enc Tryz.prog w base spare held 53 v dd p) :
    ∃ a ts c o0 o1 o2 o3 b m d q, v = .agg #[.slice a (List.length (α := TreeD) ts) c, .int .i8 o0, .int .i8 o1, .int .i8 o2, .int .i8 o3, .slice b m d, .int .u8 q] ∧ TreesAt w a ts ∧ ts.length ≤ maxLen ∧ m ≤ maxLen ∧ (∀ j (hj : j < ts.length), ts[j].cs.length ≤ maxLen) ∧ isU8 q := by
  simp only [Value.okWide, Tryz.underlying53] at hv
  obtain ⟨cs, rfl, _⟩ := hv
  obtain ⟨m, hm⟩ := h
  obtain ⟨l⟩ := cs
  obtain ⟨ys, k, _, _, hl, hxl, hf⟩ := DataW.trod_struct Tryz.underlying53 hm
  have c0 : Tryz.prog.cellsOf 53 = 7 := by kernel_rfl
  have c48 : Tryz.prog.cellsOf 48 = 1 := by kernel_rfl
  have c50 : Tryz.prog.cellsOf 50 = 4 := by kernel_rfl
  have c49 : Tryz.prog.cellsOf 49 = 1 := by kernel_rfl
  have c51 : Tryz.prog.cellsOf 51 = 1 := by kernel_rfl
  have c5 : Tryz.prog.cellsOf 5 = 1 := by kernel_rfl
  rw [c0] at hl
  have hxl : ys.length = 4 := hxl
  simp only [Value.cells] at hl hf
  obtain ⟨v0, v1, v2, v3, v4, v5, v6, rfl⟩ := list_7 hl
  obtain ⟨y0, y1, y2, y3, rfl⟩ := list_4 hxl
  have g0 := hf 0 _ rfl
  have g1 := hf 1 _ rfl
  have g2 := hf 2 _ rfl
  have g3 := hf 3 _ rfl
  simp [c48, c50, c51, c5] at g0 g1 g2 g3
  obtain ⟨a, ts, c, rfl, hlen, htr, hcl⟩ := open_trees g0
  obtain ⟨zs, k2, _, _, hl2, hxl2, hf2⟩ := DataW.trod_array Tryz.underlying50 g1
  obtain ⟨z0, z1, z2, z3, rfl⟩ := list_4 hxl2
  have i0 := hf2 0 (by decide)
  have i1 := hf2 1 (by decide)
  have i2 := hf2 2 (by decide)
  have i3 := hf2 3 (by decide)
  simp [c49] at i0 i1 i2 i3
  obtain ⟨n0, e0, _, _⟩ := DataW.trod_int Tryz.underlying49 i0
  obtain ⟨n1, e1, _, _⟩ := DataW.trod_int Tryz.underlying49 i1
  obtain ⟨n2, e2, _, _⟩ := DataW.trod_int Tryz.underlying49 i2
  obtain ⟨n3, e3, _, _⟩ := DataW.trod_int Tryz.underlying49 i3
  obtain ⟨q, e6, _, w6⟩ := DataW.trod_int Tryz.underlying5 g3
  simp only [List.cons.injEq, and_true] at e0 e1 e2 e3 e6
  subst e0 e1 e2 e3 e6
  rcases open_slice Tryz.underlying51 g2 with ⟨e, _⟩ | ⟨b, len, cap, mm, n, D, Pl, e, _, hlc, hcm, _⟩
  · simp only [List.cons.injEq, and_true] at e
    subst e
    exact ⟨a, ts, c, n0, n1, n2, n3, none, 0, 0, q, rfl, htr, hlen, Nat.zero_le _, hcl, lit_u8 w6⟩
  · simp only [List.cons.injEq, and_true] at e
    subst e
    exact ⟨a, ts, c, n0, n1, n2, n3, some b, len, cap, q, rfl, htr, hlen, Nat.le_trans hlc hcm, hcl, lit_u8 w6⟩
end
end Go.Proofs.YtmhmnbaoanennaaGreatDoor
