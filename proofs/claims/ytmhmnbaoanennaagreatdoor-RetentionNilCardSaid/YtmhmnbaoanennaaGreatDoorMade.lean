/- Contract: the span of a call. -/
import Derived.Test.YtmhmnbaoanennaaGreatDoorReg
import Derived.Deep.QuietTactic
import Derived.BigQuiet
namespace Go.Proofs.YtmhmnbaoanennaaGreatDoor
open Go Go.Ev Go.Proofs Go.RowKit
set_option linter.unusedVariables false
set_option linter.unusedSimpArgs false
/-- ints lie in a row -/
def IntsAt (W : World) (a : Option Addr) (l : List Int) : Prop := ∀ j (h : j < l.length), ∃ ad, a = some ad ∧ W.cell? (ad.add j) = some (.int .i64 l[j])
theorem IntsAt.below {W W' : World} {a : Option Addr} {l : List Int} (h : IntsAt W a l) (k : Below W.heap.size W W') : IntsAt W' a l := fun j hj => by
  obtain ⟨ad, h1, h2⟩ := h j hj
  exact ⟨ad, h1, (k.cell (World.block_lt_of_cell? W _ h2)).trans h2⟩
/-- the cells of a box -/
def BoxAt (W : World) (g : Nat) (cs : List Value) : Prop := ∀ i v, cs[i]? = some v → W.cell? ⟨g, i, none⟩ = some v
theorem BoxAt.below {W W' : World} {g : Nat} {cs : List Value} (h : BoxAt W g cs) (k : Below W.heap.size W W') : BoxAt W' g cs := fun i v hv =>
  (k.cell (p := ⟨g, i, none⟩) (World.block_lt_of_cell? W _ (h i v hv))).trans (h i v hv)
def cellsStory (a : Option Addr) (n c : Nat) (o0 o1 o2 o3 : Int) (b : Option Addr) (m d : Nat) (q : Int) : List Value := [.slice a n c, .int .i8 o0, .int .i8 o1, .int .i8 o2, .int .i8 o3, .slice b m d, .int .u8 q]
def CallD.cells (x : CallD) : List Value := [.int .u8 x.p, .int .u8 x.k, .int .u8 x.n, .int .u8 x.s, .int .u8 x.v, .int .u8 x.o, .int .u8 x.w, .int .u8 x.l, .int .u8 x.j, .int .u8 x.t, .bool x.e]
theorem BoxAt.story {W : World} {g : Nat} {a : Option Addr} {n c : Nat} {o0 o1 o2 o3 : Int} {b : Option Addr} {m d : Nat} {q : Int} (h : BoxAt W g (cellsStory a n c o0 o1 o2 o3 b m d q)) :
    W.cell? ⟨g, 0, none⟩ = some (.slice a n c) ∧ W.cell? ⟨g, 1, none⟩ = some (.int .i8 o0) ∧ W.cell? ⟨g, 2, none⟩ = some (.int .i8 o1) ∧ W.cell? ⟨g, 3, none⟩ = some (.int .i8 o2) ∧ W.cell? ⟨g, 4, none⟩ = some (.int .i8 o3) ∧ W.cell? ⟨g, 5, none⟩ = some (.slice b m d) ∧ W.cell? ⟨g, 6, none⟩ = some (.int .u8 q) :=
  ⟨h 0 _ rfl, h 1 _ rfl, h 2 _ rfl, h 3 _ rfl, h 4 _ rfl, h 5 _ rfl, h 6 _ rfl⟩
theorem BoxAt.call {W : World} {g : Nat} {x : CallD} (h : BoxAt W g x.cells) :
    W.cell? ⟨g, 0, none⟩ = some (.int .u8 x.p) ∧ W.cell? ⟨g, 1, none⟩ = some (.int .u8 x.k) ∧ W.cell? ⟨g, 2, none⟩ = some (.int .u8 x.n) ∧ W.cell? ⟨g, 3, none⟩ = some (.int .u8 x.s) ∧ W.cell? ⟨g, 4, none⟩ = some (.int .u8 x.v) ∧ W.cell? ⟨g, 5, none⟩ = some (.int .u8 x.o) ∧
    W.cell? ⟨g, 6, none⟩ = some (.int .u8 x.w) ∧ W.cell? ⟨g, 7, none⟩ = some (.int .u8 x.l) ∧ W.cell? ⟨g, 8, none⟩ = some (.int .u8 x.j) ∧ W.cell? ⟨g, 9, none⟩ = some (.int .u8 x.t) ∧ W.cell? ⟨g, 10, none⟩ = some (.bool x.e) :=
  ⟨h 0 _ rfl, h 1 _ rfl, h 2 _ rfl, h 3 _ rfl, h 4 _ rfl, h 5 _ rfl, h 6 _ rfl, h 7 _ rfl, h 8 _ rfl, h 9 _ rfl, h 10 _ rfl⟩
/-- A span without anything. -/
def cells89 : Array Value := #[.int .i64 0, .int .i64 0, .int .i64 0, .int .i64 0, .int .i64 0, .int .i64 0, .string ⟨#[]⟩, .string ⟨#[]⟩, .string ⟨#[]⟩, .int .i64 0, .int .i64 0, .bool false, .slice none 0 0, .slice none 0 0]
/-- What is held in the region. -/
abbrev MadeS (w : World) (g : Nat) (a : Option Addr) (n c : Nat) (o0 o1 o2 o3 : Int) (b : Option Addr) (m d : Nat) (q : Int) (x : CallD) (sp ep : Addr) (s e : Int) (W : World) : Prop :=
  (W.cell? ⟨g, 0, none⟩ = some (.slice a n c) ∧ W.cell? ⟨g, 1, none⟩ = some (.int .i8 o0) ∧ W.cell? ⟨g, 2, none⟩ = some (.int .i8 o1) ∧ W.cell? ⟨g, 3, none⟩ = some (.int .i8 o2) ∧ W.cell? ⟨g, 4, none⟩ = some (.int .i8 o3) ∧ W.cell? ⟨g, 5, none⟩ = some (.slice b m d) ∧ W.cell? ⟨g, 6, none⟩ = some (.int .u8 q)) ∧
  (W.cell? ⟨g + 1 + 1, 0, none⟩ = some (.int .u8 x.p) ∧ W.cell? ⟨g + 1 + 1, 1, none⟩ = some (.int .u8 x.k) ∧ W.cell? ⟨g + 1 + 1, 2, none⟩ = some (.int .u8 x.n) ∧ W.cell? ⟨g + 1 + 1, 3, none⟩ = some (.int .u8 x.s) ∧ W.cell? ⟨g + 1 + 1, 4, none⟩ = some (.int .u8 x.v) ∧ W.cell? ⟨g + 1 + 1, 5, none⟩ = some (.int .u8 x.o) ∧
    W.cell? ⟨g + 1 + 1, 6, none⟩ = some (.int .u8 x.w) ∧ W.cell? ⟨g + 1 + 1, 7, none⟩ = some (.int .u8 x.l) ∧ W.cell? ⟨g + 1 + 1, 8, none⟩ = some (.int .u8 x.j) ∧ W.cell? ⟨g + 1 + 1, 9, none⟩ = some (.int .u8 x.t) ∧ W.cell? ⟨g + 1 + 1, 10, none⟩ = some (.bool x.e)) ∧
  W.cell? sp = some (.int .i64 s) ∧ W.cell? ep = some (.int .i64 e) ∧ Below w.heap.size w W ∧ W.heap[g + 1]? = some (.cells cells89 89 (0, 0))
theorem MadeS.below {w W W' : World} {g : Nat} {a : Option Addr} {n c : Nat} {o0 o1 o2 o3 : Int} {b : Option Addr} {m d : Nat} {q : Int} {x : CallD} {sp ep : Addr} {s e : Int} (h : MadeS w g a n c o0 o1 o2 o3 b m d q x sp ep s e W) (k : Below W.heap.size W W') : MadeS w g a n c o0 o1 o2 o3 b m d q x sp ep s e W' := by
  obtain ⟨⟨h0, h1, h2, h3, h4, h5, h6⟩, ⟨c0, c1, c2, c3, c4, c5, c6, c7, c8, c9, c10⟩, hs, he, hb, hz⟩ := h
  have l0 := World.block_lt_of_cell? W _ h0
  have l2 := World.block_lt_of_cell? W _ c0
  exact ⟨⟨(k.cell l0).trans h0, (k.cell (p := ⟨g, 1, none⟩) l0).trans h1, (k.cell (p := ⟨g, 2, none⟩) l0).trans h2, (k.cell (p := ⟨g, 3, none⟩) l0).trans h3, (k.cell (p := ⟨g, 4, none⟩) l0).trans h4, (k.cell (p := ⟨g, 5, none⟩) l0).trans h5, (k.cell (p := ⟨g, 6, none⟩) l0).trans h6⟩,
    ⟨(k.cell l2).trans c0, (k.cell (p := ⟨g + 1 + 1, 1, none⟩) l2).trans c1, (k.cell (p := ⟨g + 1 + 1, 2, none⟩) l2).trans c2, (k.cell (p := ⟨g + 1 + 1, 3, none⟩) l2).trans c3, (k.cell (p := ⟨g + 1 + 1, 4, none⟩) l2).trans c4, (k.cell (p := ⟨g + 1 + 1, 5, none⟩) l2).trans c5, (k.cell (p := ⟨g + 1 + 1, 6, none⟩) l2).trans c6, (k.cell (p := ⟨g + 1 + 1, 7, none⟩) l2).trans c7, (k.cell (p := ⟨g + 1 + 1, 8, none⟩) l2).trans c8, (k.cell (p := ⟨g + 1 + 1, 9, none⟩) l2).trans c9, (k.cell (p := ⟨g + 1 + 1, 10, none⟩) l2).trans c10⟩,
    (k.cell (World.block_lt_of_cell? W _ hs)).trans hs, (k.cell (World.block_lt_of_cell? W _ he)).trans he, hb.trans (k.mono hb.size), blk_keep k hz⟩
theorem MadeS.beh {w W : World} {g : Nat} {a : Option Addr} {n c : Nat} {o0 o1 o2 o3 : Int} {b : Option Addr} {m d : Nat} {q : Int} {x : CallD} {sp ep : Addr} {s e : Int} (h : MadeS w g a n c o0 o1 o2 o3 b m d q x sp ep s e W) : Below w.heap.size w W := h.2.2.2.2.1
theorem MadeS.set {w W : World} {g : Nat} {a : Option Addr} {n c : Nat} {o0 o1 o2 o3 : Int} {b : Option Addr} {m d : Nat} {q : Int} {x : CallD} {sp ep : Addr} {s e : Int} (h : MadeS w g a n c o0 o1 o2 o3 b m d q x sp ep s e W) {r j : Nat} {v : Value} (hg : g = w.heap.size) (hr : w.heap.size + 3 ≤ r) (hs : sp.block < w.heap.size) (he : ep.block < w.heap.size) :
    MadeS w g a n c o0 o1 o2 o3 b m d q x sp ep s e (W.setCell ⟨r, j, none⟩ v) := by
  subst hg
  obtain ⟨⟨h0, h1, h2, h3, h4, h5, h6⟩, ⟨c0, c1, c2, c3, c4, c5, c6, c7, c8, c9, c10⟩, h7, h8, hb, hz⟩ := h
  have k : ∀ p : Addr, p.block ≠ r → (W.setCell ⟨r, j, none⟩ v).cell? p = W.cell? p := fun p hp => World.cell?_setCell_far _ _ _ _ (Ne.symm hp)
  exact ⟨⟨(k _ (by simp; omega)).trans h0, (k _ (by simp; omega)).trans h1, (k _ (by simp; omega)).trans h2, (k _ (by simp; omega)).trans h3, (k _ (by simp; omega)).trans h4, (k _ (by simp; omega)).trans h5, (k _ (by simp; omega)).trans h6⟩,
    ⟨(k _ (by simp; omega)).trans c0, (k _ (by simp; omega)).trans c1, (k _ (by simp; omega)).trans c2, (k _ (by simp; omega)).trans c3, (k _ (by simp; omega)).trans c4, (k _ (by simp; omega)).trans c5, (k _ (by simp; omega)).trans c6, (k _ (by simp; omega)).trans c7, (k _ (by simp; omega)).trans c8, (k _ (by simp; omega)).trans c9, (k _ (by simp; omega)).trans c10⟩,
    (k _ (by omega)).trans h7, (k _ (by omega)).trans h8, hb.setCell (by simp; omega) _, (heap_setCell_other W ⟨r, j, none⟩ _ v (by simp; omega)).trans hz⟩
theorem MadeS.cells {w : World} {g : Nat} {a : Option Addr} {n c : Nat} {o0 o1 o2 o3 : Int} {b : Option Addr} {m d : Nat} {q : Int} {x : CallD} {sp ep : Addr} {s e : Int} {r : Nat} (hg : g = w.heap.size) (hr : w.heap.size + 3 ≤ r) (hs : sp.block < w.heap.size) (he : ep.block < w.heap.size) :
    ∀ (vs : List Value) (j : Nat) (W : World), MadeS w g a n c o0 o1 o2 o3 b m d q x sp ep s e W → MadeS w g a n c o0 o1 o2 o3 b m d q x sp ep s e (W.setCells r j vs)
  | [], _, _, h => h
  | v :: vs, j, W, h => MadeS.cells hg hr hs he vs (j + 1) _ (h.set hg hr hs he)
theorem MadeS.room {w W : World} {a : Option Addr} {n c : Nat} {o0 o1 o2 o3 : Int} {b : Option Addr} {m d : Nat} {q : Int} {x : CallD} {sp ep : Addr} {s e : Int} (h : MadeS w w.heap.size a n c o0 o1 o2 o3 b m d q x sp ep s e W) : w.heap.size + 3 ≤ W.heap.size := World.block_lt_of_cell? W _ h.2.1.1
/-- The cells of a block of 14. -/
theorem cells14 {W : World} {r : Nat} {v0 v1 v2 v3 v4 v5 v6 v7 v8 v9 v10 v11 v12 v13 : Value} {t : TypeId} (h : W.heap[r]? = some (.cells #[v0, v1, v2, v3, v4, v5, v6, v7, v8, v9, v10, v11, v12, v13] t (0, 0))) :
    (W.cell? ⟨r, 0, none⟩ = some v0 ∧ W.cell? ⟨r, 1, none⟩ = some v1 ∧ W.cell? ⟨r, 2, none⟩ = some v2 ∧ W.cell? ⟨r, 3, none⟩ = some v3 ∧ W.cell? ⟨r, 4, none⟩ = some v4 ∧ W.cell? ⟨r, 5, none⟩ = some v5 ∧ W.cell? ⟨r, 6, none⟩ = some v6 ∧ W.cell? ⟨r, 7, none⟩ = some v7 ∧ W.cell? ⟨r, 8, none⟩ = some v8 ∧ W.cell? ⟨r, 9, none⟩ = some v9 ∧ W.cell? ⟨r, 10, none⟩ = some v10 ∧ W.cell? ⟨r, 11, none⟩ = some v11 ∧ W.cell? ⟨r, 12, none⟩ = some v12 ∧ W.cell? ⟨r, 13, none⟩ = some v13) ∧
    ∀ i, W.frozen? ⟨r, i, none⟩ = false := by
  refine ⟨⟨cell_blk h 0 rfl, cell_blk h 1 rfl, cell_blk h 2 rfl, cell_blk h 3 rfl, cell_blk h 4 rfl, cell_blk h 5 rfl, cell_blk h 6 rfl, cell_blk h 7 rfl, cell_blk h 8 rfl, cell_blk h 9 rfl, cell_blk h 10 rfl, cell_blk h 11 rfl, cell_blk h 12 rfl, cell_blk h 13 rfl⟩, fun i => ?_⟩
  simp only [World.frozen?, h]
  simp
theorem MadeS.mk {w W : World} {g : Nat} {a : Option Addr} {n c : Nat} {o0 o1 o2 o3 : Int} {b : Option Addr} {m d : Nat} {q : Int} {x : CallD} {sp ep : Addr} {s e : Int} {t0 t2 : TypeId} {f0 f2 : Nat × Nat}
    (h0 : W.heap[g]? = some (.cells #[.slice a n c, .int .i8 o0, .int .i8 o1, .int .i8 o2, .int .i8 o3, .slice b m d, .int .u8 q] t0 f0))
    (h2 : W.heap[g + 1 + 1]? = some (.cells #[.int .u8 x.p, .int .u8 x.k, .int .u8 x.n, .int .u8 x.s, .int .u8 x.v, .int .u8 x.o, .int .u8 x.w, .int .u8 x.l, .int .u8 x.j, .int .u8 x.t, .bool x.e] t2 f2))
    (hs : W.cell? sp = some (.int .i64 s)) (he : W.cell? ep = some (.int .i64 e)) (hb : Below w.heap.size w W) (hz : W.heap[g + 1]? = some (.cells cells89 89 (0, 0))) : MadeS w g a n c o0 o1 o2 o3 b m d q x sp ep s e W :=
  ⟨⟨cell_blk h0 0 rfl, cell_blk h0 1 rfl, cell_blk h0 2 rfl, cell_blk h0 3 rfl, cell_blk h0 4 rfl, cell_blk h0 5 rfl, cell_blk h0 6 rfl⟩,
   ⟨cell_blk h2 0 rfl, cell_blk h2 1 rfl, cell_blk h2 2 rfl, cell_blk h2 3 rfl, cell_blk h2 4 rfl, cell_blk h2 5 rfl, cell_blk h2 6 rfl, cell_blk h2 7 rfl, cell_blk h2 8 rfl, cell_blk h2 9 rfl, cell_blk h2 10 rfl⟩, hs, he, hb, hz⟩
/-- The names. -/
def svcs : List ByteArray := [⟨#[97, 112, 105]⟩, ⟨#[100, 98]⟩, ⟨#[119, 101, 98]⟩, ⟨#[99, 97, 99, 104, 101]⟩]
def vers : List ByteArray := [⟨#[118, 49]⟩, ⟨#[118, 50]⟩, ⟨#[]⟩]
def opns : List ByteArray := [⟨#[103, 101, 116]⟩, ⟨#[112, 117, 116]⟩, ⟨#[108, 105, 115, 116]⟩]
def nth (l : List ByteArray) (i : Int) : ByteArray := l.getD i.toNat ⟨#[]⟩
theorem svc_at (W : World) (i : Int) (h0 : 0 ≤ i.tmod 4) (h4 : i.tmod 4 < 4) : (W.alloc (.cells #[.string ⟨#[97, 112, 105]⟩, .string ⟨#[100, 98]⟩, .string ⟨#[119, 101, 98]⟩, .string ⟨#[99, 97, 99, 104, 101]⟩] 9)).cell? ⟨W.heap.size, (i.tmod 4).toNat, none⟩ = some (.string (nth svcs (i.tmod 4))) := by
  generalize i.tmod 4 = u at *
  obtain rfl | rfl | rfl | rfl : u = 0 ∨ u = 1 ∨ u = 2 ∨ u = 3 := by omega
  all_goals exact cell_last _ _ _ _ _ _ rfl rfl
theorem ver_at (W : World) (i : Int) (h0 : 0 ≤ i.tmod 3) (h4 : i.tmod 3 < 3) : (W.alloc (.cells #[.string ⟨#[118, 49]⟩, .string ⟨#[118, 50]⟩, .string ⟨#[]⟩] 9)).cell? ⟨W.heap.size, (i.tmod 3).toNat, none⟩ = some (.string (nth vers (i.tmod 3))) := by
  generalize i.tmod 3 = u at *
  obtain rfl | rfl | rfl : u = 0 ∨ u = 1 ∨ u = 2 := by omega
  all_goals exact cell_last _ _ _ _ _ _ rfl rfl
theorem opn_at (W : World) (i : Int) (h0 : 0 ≤ i.tmod 3) (h4 : i.tmod 3 < 3) : (W.alloc (.cells #[.string ⟨#[103, 101, 116]⟩, .string ⟨#[112, 117, 116]⟩, .string ⟨#[108, 105, 115, 116]⟩] 9)).cell? ⟨W.heap.size, (i.tmod 3).toNat, none⟩ = some (.string (nth opns (i.tmod 3))) := by
  generalize i.tmod 3 = u at *
  obtain rfl | rfl | rfl : u = 0 ∨ u = 1 ∨ u = 2 := by omega
  all_goals exact cell_last _ _ _ _ _ _ rfl rfl
theorem svc_get (i : Int) (h0 : 0 ≤ i.tmod 4) (h4 : i.tmod 4 < 4) (h : (i.tmod 4).toNat < [Value.string ⟨#[97, 112, 105]⟩, .string ⟨#[100, 98]⟩, .string ⟨#[119, 101, 98]⟩, .string ⟨#[99, 97, 99, 104, 101]⟩].length) : [Value.string ⟨#[97, 112, 105]⟩, .string ⟨#[100, 98]⟩, .string ⟨#[119, 101, 98]⟩, .string ⟨#[99, 97, 99, 104, 101]⟩][(i.tmod 4).toNat]'h = .string (nth svcs (i.tmod 4)) := by
  generalize i.tmod 4 = u at *
  obtain rfl | rfl | rfl | rfl : u = 0 ∨ u = 1 ∨ u = 2 ∨ u = 3 := by omega
  all_goals rfl
theorem ver_get (i : Int) (h0 : 0 ≤ i.tmod 3) (h4 : i.tmod 3 < 3) (h : (i.tmod 3).toNat < [Value.string ⟨#[118, 49]⟩, .string ⟨#[118, 50]⟩, .string ⟨#[]⟩].length) : [Value.string ⟨#[118, 49]⟩, .string ⟨#[118, 50]⟩, .string ⟨#[]⟩][(i.tmod 3).toNat]'h = .string (nth vers (i.tmod 3)) := by
  generalize i.tmod 3 = u at *
  obtain rfl | rfl | rfl : u = 0 ∨ u = 1 ∨ u = 2 := by omega
  all_goals rfl
theorem opn_get (i : Int) (h0 : 0 ≤ i.tmod 3) (h4 : i.tmod 3 < 3) (h : (i.tmod 3).toNat < [Value.string ⟨#[103, 101, 116]⟩, .string ⟨#[112, 117, 116]⟩, .string ⟨#[108, 105, 115, 116]⟩].length) : [Value.string ⟨#[103, 101, 116]⟩, .string ⟨#[112, 117, 116]⟩, .string ⟨#[108, 105, 115, 116]⟩][(i.tmod 3).toNat]'h = .string (nth opns (i.tmod 3)) := by
  generalize i.tmod 3 = u at *
  obtain rfl | rfl | rfl : u = 0 ∨ u = 1 ∨ u = 2 := by omega
  all_goals rfl
/-- .. and a block r known whole, and the one at w.heap.size + 1. -/
def MadeT (w : World) (a : Option Addr) (n c : Nat) (o0 o1 o2 o3 : Int) (b : Option Addr) (m d : Nat) (q : Int) (x : CallD) (sp ep : Addr) (s e : Int) (r : Nat) (cs : Array Value) (W : World) : Prop :=
  MadeS w w.heap.size a n c o0 o1 o2 o3 b m d q x sp ep s e W ∧ W.heap[r]? = some (.cells cs 89 (0, 0)) ∧ w.heap.size + 3 ≤ r ∧ sp.block < w.heap.size ∧ ep.block < w.heap.size
section
variable {w W : World} {a : Option Addr} {n c : Nat} {o0 o1 o2 o3 : Int} {b : Option Addr} {m d : Nat} {q : Int} {x : CallD} {sp ep : Addr} {s e : Int} {r : Nat} {cs : Array Value}
theorem MadeT.below {W' : World} (h : MadeT w a n c o0 o1 o2 o3 b m d q x sp ep s e r cs W) (k : Below W.heap.size W W') : MadeT w a n c o0 o1 o2 o3 b m d q x sp ep s e r cs W' :=
  ⟨h.1.below k, blk_keep k h.2.1, h.2.2⟩
theorem MadeT.set (h : MadeT w a n c o0 o1 o2 o3 b m d q x sp ep s e r cs W) (j : Nat) (v : Value) : MadeT w a n c o0 o1 o2 o3 b m d q x sp ep s e r (cs.setIfInBounds j v) (W.setCell ⟨r, j, none⟩ v) :=
  ⟨h.1.set rfl h.2.2.1 h.2.2.2.1 h.2.2.2.2, heap_setCell_same W r j cs 89 v h.2.1, h.2.2⟩
theorem MadeT.put (h : MadeT w a n c o0 o1 o2 o3 b m d q x sp ep s e r cs W) (j : Nat) (v : Value) (o : Obj) : MadeT w a n c o0 o1 o2 o3 b m d q x sp ep s e r (cs.setIfInBounds j v) ((W.setCell ⟨r, j, none⟩ v).alloc o) :=
  (h.set j v).below (below_alloc _ _)
theorem MadeT.cell (h : MadeT w a n c o0 o1 o2 o3 b m d q x sp ep s e r cs W) (j : Nat) {v : Value} (hv : cs[j]? = some v) : W.cell? ⟨r, j, none⟩ = some v ∧ W.frozen? ⟨r, j, none⟩ = false := ⟨cell_blk h.2.1 j hv, frozen_blk h.2.1 j⟩
theorem MadeT.sizes (h : MadeT w a n c o0 o1 o2 o3 b m d q x sp ep s e r cs W) : w.heap.size < W.heap.size ∧ w.heap.size + 1 < W.heap.size ∧ w.heap.size + 1 + 1 < W.heap.size ∧ r < W.heap.size := by
  have h1 := h.1.room
  have h2 := blk_lt h.2.1
  exact ⟨by omega, by omega, by omega, h2⟩
end
/-- What stands while the region of the span is on its way. -/
def MadeI (w : World) (ad : Addr) (n c : Nat) (o0 o1 o2 o3 : Int) (b : Option Addr) (m d : Nat) (q : Int) (x : CallD) (sp ep : Addr) (s e : Int) (i : Nat) (A : Act) (L : Nat → Prop) (a : Act) (W : World) : Prop :=
  MadeS w w.heap.size (some ad) n c o0 o1 o2 o3 b m d q x sp ep s e W ∧ ∃ x26 x35 x46 x12 : Value, a = (((A.put (some 26) x26).put (some 35) x35).put (some 46) x46).put (some 12) x12 ∧
    (L 2 → ∃ t, x26 = .int .i64 t) ∧ (L 11 → ∃ k, x35 = .int .i64 k) ∧
    (L 22 → L 2 ∧ L 11 ∧ x46 = .agg #[x26, .int .i64 (IntKind.i64.wrap (i + 1)), .int .i64 0, .int .i64 0, .int .i64 (IntKind.i64.wrap (1 + IntKind.i64.wrap (x.k.tmod 4))), x35, .string ⟨#[]⟩, .string ⟨#[]⟩, .string ⟨#[]⟩, .int .i64 s, .int .i64 e, .bool x.e, .slice none 0 0, .slice none 0 0]) ∧
    (L 23 → ∃ r cs, x12 = .pointer (some ⟨r, 0, none⟩) ∧ w.heap.size + 3 ≤ r ∧ W.heap[r]? = some (.cells cs 89 (0, 0)) ∧ cs.size = 14 ∧ (L 24 → .agg cs = x46)) ∧
    (L 24 → L 22 ∧ L 23)

theorem k_run {P : Program} {ops : Array Oper} {K : Act → World → Prop} {Q R : Exit → Act → World → Prop} {c : Code} {a : Act} {w : World} (hK : ∀ a w, Code.wp P c R a w → K a w) (h : Code.wp P c R a w) : wpList P ops (Exit.then K Q) [] a w := hK _ _ h
/-- A function that returns a block which has just been written whole. -/
theorem ret_row {P : Program} {fn : Func} {R : Ending → World → Prop} {a : Act} {W : World} {g : Nat} {vs : List Value} {p : Tmp} {ty : TypeId} {cs : Array Value} {t : TypeId} {d : TypeDesc} (hres : W.heap[g]? = some (.cells cs t (0, 0))) (hrs : fn.results = #[.cell p ty])
    (hp : a.tmps.getD p undef = .pointer (some ⟨g, 0, none⟩)) (hl : 0 + vs.length = cs.size) (hu : P.underlying ty = some d) (hd : (match d with | .struct _ | .array _ _ => true | _ => false) = true) (hi : (P.info? ty).map (·.size) = some vs.length) (hdef : a.defers = [])
    (hR : R (.returned (.agg vs.toArray)) (W.setCells g 0 vs)) : bodyPost P fn R .ret a (W.setCells g 0 vs) := by
  have h := blk_setCells g t vs 0 W cs hres hl
  rw [List.take_zero, List.nil_append] at h
  exact bodyPost_ret (results_cell_row hrs _ _ g t _ (0, 0) d hp h hu hd (by simpa using hi)) hdef hR
/-- What a span looks like. -/
def MadeV (e : Ending) : Prop := ∃ (i0 i1 i2 i3 i4 i5 : Int) (s6 s7 s8 : ByteArray) (i9 i10 : Int) (b : Bool) (A12 : Option Addr) (N12 C12 : Nat) (A13 : Option Addr) (N13 C13 : Nat),
  e = .returned (.agg #[.int .i64 i0, .int .i64 i1, .int .i64 i2, .int .i64 i3, .int .i64 i4, .int .i64 i5, .string s6, .string s7, .string s8, .int .i64 i9, .int .i64 i10, .bool b, .slice A12 N12 C12, .slice A13 N13 C13])
set_option maxRecDepth 20000 in
set_option maxHeartbeats 8000000 in
theorem made_any (a : Option Addr) (ts : List TreeD) (c : Nat) (o0 o1 o2 o3 : Int) (b : Option Addr) (m d : Nat) (q : Int) (k i : Nat) (hk : k < ts.length) (hi : i < ts[k].cs.length) (hi8 : i < 8)
    (sA : Option Addr) (sc : Nat) (ss : List Int) (eA : Option Addr) (ec : Nat) (es : List Int) (w : World) (ht : TreesAt w a ts) (hs : IntsAt w sA ss) (he : IntsAt w eA es) (his : i < ss.length) (hie : i < es.length) (hcl : ∀ j (hj : j < ts.length), ts[j].cs.length ≤ maxLen) (hl : ts.length ≤ maxLen) (hsl : ss.length ≤ maxLen) (hel : es.length ≤ maxLen) :
    Calls Tryz.prog 172 #[.agg #[.slice a ts.length c, .int .i8 o0, .int .i8 o1, .int .i8 o2, .int .i8 o3, .slice b m d, .int .u8 q], .int .i64 k, .int .i64 i, .slice sA ss.length sc, .slice eA es.length ec] w fun e w' => MadeV e ∧ Below w.heap.size w w' := by
  unfold maxLen at hcl hl hsl hel
  have hcl := hcl k hk
  have HT := Lib.hid ht
  have HS := Lib.hid hs
  have HE := Lib.hid he
  have hb0 := (below_alloc w (.cells #[.slice a ts.length c, .int .i8 o0, .int .i8 o1, .int .i8 o2, .int .i8 o3, .slice b m d, .int .u8 q] 53)).alloc (by simp) (.cells cells89 89)
  unfold cells89 at hb0
  obtain ⟨ad, rfl, t0, t1, t2, htc, _, _⟩ := ht.below hb0 k hk
  obtain ⟨cad, hcad, ⟨c0, c1, c2, c3, c4, c5, c6, c7, c8, c9, c10⟩, hok⟩ := htc i hi
  obtain ⟨sad, rfl, s0⟩ := hs i his
  obtain ⟨ead, rfl, e0⟩ := he i hie
  rw [hcad] at t2
  clear hcad
  have hb1 := hb0.alloc (by simp; omega) (.cells #[.int .u8 ts[k].cs[i].p, .int .u8 ts[k].cs[i].k, .int .u8 ts[k].cs[i].n, .int .u8 ts[k].cs[i].s, .int .u8 ts[k].cs[i].v, .int .u8 ts[k].cs[i].o, .int .u8 ts[k].cs[i].w, .int .u8 ts[k].cs[i].l, .int .u8 ts[k].cs[i].j, .int .u8 ts[k].cs[i].t, .bool ts[k].cs[i].e] 234)
  have HM := Lib.hid (MadeS.mk (w := w) (g := w.heap.size) (a := some ad) (n := ts.length) (c := c) (o0 := o0) (o1 := o1) (o2 := o2) (o3 := o3) (b := b) (m := m) (d := d) (q := q) (x := ts[k].cs[i])
    (heap_alloc_old (heap_alloc_old (heap_alloc_last _ _))) (by rw [show w.heap.size + 1 + 1 = ((w.alloc (.cells #[.slice (some ad) ts.length c, .int .i8 o0, .int .i8 o1, .int .i8 o2, .int .i8 o3, .slice b m d, .int .u8 q] 53)).alloc (.cells cells89 89)).heap.size by simp]; exact heap_alloc_last _ _)
    ((hb1.cell (World.block_lt_of_cell? w _ s0)).trans s0) ((hb1.cell (World.block_lt_of_cell? w _ e0)).trans e0) hb1 (heap_alloc_old (by rw [show w.heap.size + 1 = (w.alloc (.cells #[.slice (some ad) ts.length c, .int .i8 o0, .int .i8 o1, .int .i8 o2, .int .i8 o3, .slice b m d, .int .u8 q] 53)).heap.size by simp]; exact heap_alloc_last _ _)))
  have hsp := World.block_lt_of_cell? w _ s0
  have hep := World.block_lt_of_cell? w _ e0
  clear ht hs he htc t0 t1 hb0 hb1 s0 e0
  have HOK := Lib.hid hok
  clear hok
  go_enter Tryz.func172, Tryz.ntmps172
  go_wp2_with fail
  generalize ts[k].cs[i] = x at *
  generalize ss[i] = s1 at *
  generalize es[i] = e1 at *
  have i0 : (0 : Int) ≤ (i : Int) := by omega
  have i1 : (i : Int) < (ss.length : Int) := by omega
  have i2 : (i : Int) < (es.length : Int) := by omega
  refine wp_region_held_drew (S := (fun W => MadeS w w.heap.size (some ad) ts.length c o0 o1 o2 o3 b m d q x (sad.add i) (ead.add i) s1 e1 W)) (by kernel_rfl) (MadeS.below HM.out (below_drew _)) (fun hHeld => ?_)
  refine wpAnyH_take (i := 0) (oi := { dst := some 24, op := Op.load 53 (Operand.tmp 5), type := 53, pos := "world.go:90", after := #[], guard := none }) (v := ?_) rfl (by kernel_rfl) (by kernel_rfl) (by kernel_rfl) (fun _ _ _ h => h) (Or.inl ⟨by rfl, ?_⟩) hHeld ?_
  rotate_left
  · intro W hSw; (try dsimp only at hSw); unfold MadeS at hSw; go_simp; try with_reducible rfl
  try simp only [Act.put, List.setIfInBounds_toArray, List.set_cons_zero, List.set_cons_succ]
  refine wpAnyH_take (i := 1) (oi := { dst := some 25, op := Op.move (Operand.tmp 1), type := 3, pos := "world.go:90", after := #[], guard := none }) (v := ?_) rfl (by kernel_rfl) (by kernel_rfl) (by kernel_rfl) (fun _ _ _ h => h) (Or.inl ⟨by rfl, ?_⟩) hHeld ?_
  rotate_left
  · intro W hSw; (try dsimp only at hSw); unfold MadeS at hSw; go_simp; try with_reducible rfl
  try simp only [Act.put, List.setIfInBounds_toArray, List.set_cons_zero, List.set_cons_succ]
  refine wpAnyH_take (i := 3) (oi := { dst := some 27, op := Op.move (Operand.tmp 2), type := 3, pos := "world.go:90", after := #[], guard := none }) (v := ?_) rfl (by kernel_rfl) (by kernel_rfl) (by kernel_rfl) (fun _ _ _ h => h) (Or.inl ⟨by rfl, ?_⟩) hHeld ?_
  rotate_left
  · intro W hSw; (try dsimp only at hSw); unfold MadeS at hSw; go_simp; try with_reducible rfl
  try simp only [Act.put, List.setIfInBounds_toArray, List.set_cons_zero, List.set_cons_succ]
  refine wpAnyH_take (i := 4) (oi := { dst := some 28, op := Op.binOp BinOp.add 3 (Operand.tmp 27) (Operand.const (Value.int IntKind.i64 1)) 3, type := 3, pos := "world.go:90", after := #[{ on := 3, ground := Ground.data }], guard := none }) (v := ?_) rfl (by kernel_rfl) (by kernel_rfl) (by kernel_rfl) (fun _ _ _ h => h) (Or.inl ⟨by rfl, ?_⟩) hHeld ?_
  rotate_left
  · intro W hSw; (try dsimp only at hSw); unfold MadeS at hSw; go_simp; try with_reducible rfl
  try simp only [Act.put, List.setIfInBounds_toArray, List.set_cons_zero, List.set_cons_succ]
  refine wpAnyH_take (i := 5) (oi := { dst := some 29, op := Op.fieldAddr 234 (Operand.tmp 11) 1, type := 0, pos := "world.go:90", after := #[], guard := none }) (v := ?_) rfl (by kernel_rfl) (by kernel_rfl) (by kernel_rfl) (fun _ _ _ h => h) (Or.inl ⟨by rfl, ?_⟩) hHeld ?_
  rotate_left
  · intro W hSw; (try dsimp only at hSw); unfold MadeS at hSw; go_simp; try with_reducible rfl
  try simp only [Act.put, List.setIfInBounds_toArray, List.set_cons_zero, List.set_cons_succ]
  refine wpAnyH_take (i := 6) (oi := { dst := some 30, op := Op.load 5 (Operand.tmp 29), type := 5, pos := "world.go:90", after := #[{ on := 5, ground := Ground.data }], guard := none }) (v := ?_) rfl (by kernel_rfl) (by kernel_rfl) (by kernel_rfl) (fun _ _ _ h => h) (Or.inl ⟨by rfl, ?_⟩) hHeld ?_
  rotate_left
  · intro W hSw; (try dsimp only at hSw); unfold MadeS at hSw; go_simp; try with_reducible rfl
  try simp only [Act.put, List.setIfInBounds_toArray, List.set_cons_zero, List.set_cons_succ]
  refine wpAnyH_take (i := 7) (oi := { dst := some 31, op := Op.binOp BinOp.rem 5 (Operand.tmp 30) (Operand.const (Value.int IntKind.u8 4)) 5, type := 5, pos := "world.go:90", after := #[{ on := 6, ground := Ground.data }], guard := none }) (v := ?_) rfl (by kernel_rfl) (by kernel_rfl) (by kernel_rfl) (fun _ _ _ h => h) (Or.inl ⟨by rfl, ?_⟩) hHeld ?_
  rotate_left
  · intro W hSw; (try dsimp only at hSw); unfold MadeS at hSw; go_simp; try with_reducible rfl
  try simp only [Act.put, List.setIfInBounds_toArray, List.set_cons_zero, List.set_cons_succ]
  refine wpAnyH_take (i := 8) (oi := { dst := some 32, op := Op.convert 5 3 (Operand.tmp 31), type := 3, pos := "world.go:90", after := #[{ on := 7, ground := Ground.data }], guard := none }) (v := ?_) rfl (by kernel_rfl) (by kernel_rfl) (by kernel_rfl) (fun _ _ _ h => h) (Or.inl ⟨by rfl, ?_⟩) hHeld ?_
  rotate_left
  · intro W hSw; (try dsimp only at hSw); unfold MadeS at hSw; go_simp; try with_reducible rfl
  try simp only [Act.put, List.setIfInBounds_toArray, List.set_cons_zero, List.set_cons_succ]
  refine wpAnyH_take (i := 9) (oi := { dst := some 33, op := Op.binOp BinOp.add 3 (Operand.const (Value.int IntKind.i64 1)) (Operand.tmp 32) 3, type := 3, pos := "world.go:90", after := #[{ on := 8, ground := Ground.data }], guard := none }) (v := ?_) rfl (by kernel_rfl) (by kernel_rfl) (by kernel_rfl) (fun _ _ _ h => h) (Or.inl ⟨by rfl, ?_⟩) hHeld ?_
  rotate_left
  · intro W hSw; (try dsimp only at hSw); unfold MadeS at hSw; go_simp; try with_reducible rfl
  try simp only [Act.put, List.setIfInBounds_toArray, List.set_cons_zero, List.set_cons_succ]
  refine wpAnyH_take (i := 10) (oi := { dst := some 34, op := Op.load 234 (Operand.tmp 11), type := 234, pos := "world.go:90", after := #[], guard := none }) (v := ?_) rfl (by kernel_rfl) (by kernel_rfl) (by kernel_rfl) (fun _ _ _ h => h) (Or.inl ⟨by rfl, ?_⟩) hHeld ?_
  rotate_left
  · intro W hSw; (try dsimp only at hSw); unfold MadeS at hSw; go_simp; try with_reducible rfl
  try simp only [Act.put, List.setIfInBounds_toArray, List.set_cons_zero, List.set_cons_succ]
  refine wpAnyH_take (i := 12) (oi := { dst := some 36, op := Op.fieldAddr 234 (Operand.tmp 11) 10, type := 0, pos := "world.go:90", after := #[], guard := none }) (v := ?_) rfl (by kernel_rfl) (by kernel_rfl) (by kernel_rfl) (fun _ _ _ h => h) (Or.inl ⟨by rfl, ?_⟩) hHeld ?_
  rotate_left
  · intro W hSw; (try dsimp only at hSw); unfold MadeS at hSw; go_simp; try with_reducible rfl
  try simp only [Act.put, List.setIfInBounds_toArray, List.set_cons_zero, List.set_cons_succ]
  refine wpAnyH_take (i := 13) (oi := { dst := some 37, op := Op.load 4 (Operand.tmp 36), type := 4, pos := "world.go:90", after := #[{ on := 12, ground := Ground.data }], guard := none }) (v := ?_) rfl (by kernel_rfl) (by kernel_rfl) (by kernel_rfl) (fun _ _ _ h => h) (Or.inl ⟨by rfl, ?_⟩) hHeld ?_
  rotate_left
  · intro W hSw; (try dsimp only at hSw); unfold MadeS at hSw; go_simp; try with_reducible rfl
  try simp only [Act.put, List.setIfInBounds_toArray, List.set_cons_zero, List.set_cons_succ]
  refine wpAnyH_take (i := 14) (oi := { dst := some 38, op := Op.move (Operand.tmp 3), type := 57, pos := "world.go:90", after := #[], guard := none }) (v := ?_) rfl (by kernel_rfl) (by kernel_rfl) (by kernel_rfl) (fun _ _ _ h => h) (Or.inl ⟨by rfl, ?_⟩) hHeld ?_
  rotate_left
  · intro W hSw; (try dsimp only at hSw); unfold MadeS at hSw; go_simp; try with_reducible rfl
  try simp only [Act.put, List.setIfInBounds_toArray, List.set_cons_zero, List.set_cons_succ]
  refine wpAnyH_take (i := 15) (oi := { dst := some 39, op := Op.move (Operand.tmp 2), type := 3, pos := "world.go:90", after := #[], guard := none }) (v := ?_) rfl (by kernel_rfl) (by kernel_rfl) (by kernel_rfl) (fun _ _ _ h => h) (Or.inl ⟨by rfl, ?_⟩) hHeld ?_
  rotate_left
  · intro W hSw; (try dsimp only at hSw); unfold MadeS at hSw; go_simp; try with_reducible rfl
  try simp only [Act.put, List.setIfInBounds_toArray, List.set_cons_zero, List.set_cons_succ]
  refine wpAnyH_take (i := 16) (oi := { dst := some 40, op := Op.indexAddr 57 (Operand.tmp 38) (Operand.tmp 39), type := 0, pos := "world.go:90", after := #[{ on := 14, ground := Ground.data }, { on := 15, ground := Ground.data }], guard := none }) (v := ?_) rfl (by kernel_rfl) (by kernel_rfl) (by kernel_rfl) (fun _ _ _ h => h) (Or.inl ⟨by rfl, ?_⟩) hHeld ?_
  rotate_left
  · intro W hSw; (try dsimp only at hSw); unfold MadeS at hSw; go_simp; try with_reducible rfl
  try simp only [Act.put, List.setIfInBounds_toArray, List.set_cons_zero, List.set_cons_succ]
  refine wpAnyH_take (i := 17) (oi := { dst := some 41, op := Op.load 3 (Operand.tmp 40), type := 3, pos := "world.go:90", after := #[{ on := 16, ground := Ground.data }], guard := none }) (v := ?_) rfl (by kernel_rfl) (by kernel_rfl) (by kernel_rfl) (fun _ _ _ h => h) (Or.inl ⟨by rfl, ?_⟩) hHeld ?_
  rotate_left
  · intro W hSw; (try dsimp only at hSw); unfold MadeS at hSw; go_simp; try with_reducible rfl
  try simp only [Act.put, List.setIfInBounds_toArray, List.set_cons_zero, List.set_cons_succ]
  refine wpAnyH_take (i := 18) (oi := { dst := some 42, op := Op.move (Operand.tmp 4), type := 57, pos := "world.go:90", after := #[], guard := none }) (v := ?_) rfl (by kernel_rfl) (by kernel_rfl) (by kernel_rfl) (fun _ _ _ h => h) (Or.inl ⟨by rfl, ?_⟩) hHeld ?_
  rotate_left
  · intro W hSw; (try dsimp only at hSw); unfold MadeS at hSw; go_simp; try with_reducible rfl
  try simp only [Act.put, List.setIfInBounds_toArray, List.set_cons_zero, List.set_cons_succ]
  refine wpAnyH_take (i := 19) (oi := { dst := some 43, op := Op.move (Operand.tmp 2), type := 3, pos := "world.go:90", after := #[], guard := none }) (v := ?_) rfl (by kernel_rfl) (by kernel_rfl) (by kernel_rfl) (fun _ _ _ h => h) (Or.inl ⟨by rfl, ?_⟩) hHeld ?_
  rotate_left
  · intro W hSw; (try dsimp only at hSw); unfold MadeS at hSw; go_simp; try with_reducible rfl
  try simp only [Act.put, List.setIfInBounds_toArray, List.set_cons_zero, List.set_cons_succ]
  refine wpAnyH_take (i := 20) (oi := { dst := some 44, op := Op.indexAddr 57 (Operand.tmp 42) (Operand.tmp 43), type := 0, pos := "world.go:90", after := #[{ on := 18, ground := Ground.data }, { on := 19, ground := Ground.data }], guard := none }) (v := ?_) rfl (by kernel_rfl) (by kernel_rfl) (by kernel_rfl) (fun _ _ _ h => h) (Or.inl ⟨by rfl, ?_⟩) hHeld ?_
  rotate_left
  · intro W hSw; (try dsimp only at hSw); unfold MadeS at hSw; go_simp; try with_reducible rfl
  try simp only [Act.put, List.setIfInBounds_toArray, List.set_cons_zero, List.set_cons_succ]
  refine wpAnyH_take (i := 21) (oi := { dst := some 45, op := Op.load 3 (Operand.tmp 44), type := 3, pos := "world.go:90", after := #[{ on := 20, ground := Ground.data }], guard := none }) (v := ?_) rfl (by kernel_rfl) (by kernel_rfl) (by kernel_rfl) (fun _ _ _ h => h) (Or.inl ⟨by rfl, ?_⟩) hHeld ?_
  rotate_left
  · intro W hSw; (try dsimp only at hSw); unfold MadeS at hSw; go_simp; try with_reducible rfl
  try simp only [Act.put, List.setIfInBounds_toArray, List.set_cons_zero, List.set_cons_succ]
  refine wpAnyH_rest [2, 11, 22, 23, 24] (MadeI w ad ts.length c o0 o1 o2 o3 b m d q x (sad.add i) (ead.add i) s1 e1 i) (by kernel_rfl) rfl (by kernel_rfl) (by kernel_rfl) (by kernel_rfl) ?_ (fun _ _ _ h => h.1) ?_ ?_
  · intro L hL
    refine ⟨hHeld, undef, undef, undef, undef, ?_, fun h => absurd h (hL 2 (by simp)), fun h => absurd h (hL 11 (by simp)), fun h => absurd h (hL 22 (by simp)), fun h => absurd h (hL 23 (by simp)), fun h => absurd h (hL 24 (by simp))⟩
    simp only [Act.put, List.setIfInBounds_toArray, List.set_cons_zero, List.set_cons_succ]
  · intro i0 hi0
    simp only [List.mem_cons, List.not_mem_nil, or_false] at hi0
    rcases hi0 with rfl | rfl | rfl | rfl | rfl
    · intro L A W o hI ho hn hd
      obtain rfl : { dst := some 26, op := Op.call { callee := Callee.value (Operand.func 142), args := #[Operand.tmp 24, Operand.tmp 25], argTypes := #[53, 3] }, type := 3, pos := "world.go:90", after := #[{ on := 0, ground := Ground.data }, { on := 1, ground := Ground.data }], guard := none } = o := Option.some.inj ho
      obtain ⟨hS, x26, x35, x46, x12, rfl, h2, h11, h22, h23, h24⟩ := hI
      simp only [Act.put, List.setIfInBounds_toArray, List.set_cons_zero, List.set_cons_succ]
      refine wpOp_step (o := { dst := some 26, op := Op.call { callee := Callee.value (Operand.func 142), args := #[Operand.tmp 24, Operand.tmp 25], argTypes := #[53, 3] }, type := 3, pos := "world.go:90", after := #[{ on := 0, ground := Ground.data }, { on := 1, ground := Ground.data }], guard := none }) rfl (fun K hK => ?_)
      rw [if_pos (by rfl)]
      go_simp
      (with_reducible refine (traceId_any _ _ _ _ _ _ _ _ _ _ _ _ hk _ ?tr).mono ?_)
      case tr => exact HT.out.below hS.beh
      rintro e w' ⟨⟨tid, rfl⟩, hbb⟩
      refine hK _ _ ⟨hS.below hbb, .int .i64 tid, x35, x46, x12, ?_, fun _ => ⟨tid, rfl⟩, fun h => h11 (h.resolve_right (by decide)), fun h => absurd (h22 (h.resolve_right (by decide))).1 hn, fun h => ?_, fun h => absurd (h22 (h24 (h.resolve_right (by decide))).1).1 hn⟩
      · simp only [Act.put, List.setIfInBounds_toArray, List.set_cons_zero, List.set_cons_succ]
      · obtain ⟨r, cs, e1, e2, e3, e4, e5⟩ := h23 (h.resolve_right (by decide))
        exact ⟨r, cs, e1, e2, blk_keep hbb e3, e4, fun h => absurd (h22 (h24 (h.resolve_right (by decide))).1).1 hn⟩
    · intro L A W o hI ho hn hd
      obtain rfl : { dst := some 35, op := Op.call { callee := Callee.value (Operand.func 201), args := #[Operand.tmp 34], argTypes := #[234] }, type := 3, pos := "world.go:90", after := #[{ on := 10, ground := Ground.data }, { on := 2, ground := Ground.chain }], guard := none } = o := Option.some.inj ho
      obtain ⟨hS, x26, x35, x46, x12, rfl, h2, h11, h22, h23, h24⟩ := hI
      simp only [Act.put, List.setIfInBounds_toArray, List.set_cons_zero, List.set_cons_succ]
      refine wpOp_step (o := { dst := some 35, op := Op.call { callee := Callee.value (Operand.func 201), args := #[Operand.tmp 34], argTypes := #[234] }, type := 3, pos := "world.go:90", after := #[{ on := 10, ground := Ground.data }, { on := 2, ground := Ground.chain }], guard := none }) rfl (fun K hK => ?_)
      rw [if_pos (by rfl)]
      go_simp
      (with_reducible refine (kind_any _ HOK.out _).mono ?_)
      rintro e w' ⟨⟨kd, rfl⟩, hbb⟩
      refine hK _ _ ⟨hS.below hbb, x26, .int .i64 kd, x46, x12, ?_, fun h => h2 (h.resolve_right (by decide)), fun _ => ⟨kd, rfl⟩, fun h => absurd (h22 (h.resolve_right (by decide))).2.1 hn, fun h => ?_, fun h => absurd (h22 (h24 (h.resolve_right (by decide))).1).2.1 hn⟩
      · simp only [Act.put, List.setIfInBounds_toArray, List.set_cons_zero, List.set_cons_succ]
      · obtain ⟨r, cs, e1, e2, e3, e4, e5⟩ := h23 (h.resolve_right (by decide))
        exact ⟨r, cs, e1, e2, blk_keep hbb e3, e4, fun h => absurd (h22 (h24 (h.resolve_right (by decide))).1).2.1 hn⟩
    · intro L A W o hI ho hn hd
      obtain rfl : { dst := some 46, op := Op.build 89 #[(0, Operand.tmp 26), (1, Operand.tmp 28), (4, Operand.tmp 33), (5, Operand.tmp 35), (11, Operand.tmp 37), (9, Operand.tmp 41), (10, Operand.tmp 45)], type := 89, pos := "world.go:90", after := #[{ on := 2, ground := Ground.data }, { on := 4, ground := Ground.data }, { on := 9, ground := Ground.data }, { on := 11, ground := Ground.data }, { on := 13, ground := Ground.data }, { on := 17, ground := Ground.data }, { on := 21, ground := Ground.data }], guard := none } = o := Option.some.inj ho
      obtain ⟨hS, x26, x35, x46, x12, rfl, h2, h11, h22, h23, h24⟩ := hI
      simp only [Act.put, List.setIfInBounds_toArray, List.set_cons_zero, List.set_cons_succ]
      refine wpOp_step (o := { dst := some 46, op := Op.build 89 #[(0, Operand.tmp 26), (1, Operand.tmp 28), (4, Operand.tmp 33), (5, Operand.tmp 35), (11, Operand.tmp 37), (9, Operand.tmp 41), (10, Operand.tmp 45)], type := 89, pos := "world.go:90", after := #[{ on := 2, ground := Ground.data }, { on := 4, ground := Ground.data }, { on := 9, ground := Ground.data }, { on := 11, ground := Ground.data }, { on := 13, ground := Ground.data }, { on := 17, ground := Ground.data }, { on := 21, ground := Ground.data }], guard := none }) rfl (fun K hK => ?_)
      rw [if_pos (by rfl)]
      have l2 : L 2 := hd { on := 2, ground := Ground.data } (by simp) rfl (by simp)
      have l11 : L 11 := hd { on := 11, ground := Ground.data } (by simp) rfl (by simp)
      obtain ⟨t, rfl⟩ := h2 l2
      obtain ⟨k2, rfl⟩ := h11 l11
      go_simp
      refine hK _ _ ⟨hS, .int .i64 t, .int .i64 k2, _, x12, ?_, fun _ => ⟨t, rfl⟩, fun _ => ⟨k2, rfl⟩, fun _ => ⟨.inl l2, .inl l11, rfl⟩, fun h => ?_, fun h => absurd (h24 (h.resolve_right (by decide))).1 hn⟩
      · simp only [Act.put, List.setIfInBounds_toArray, List.set_cons_zero, List.set_cons_succ]
      · obtain ⟨r, cs, e1, e2, e3, e4, e5⟩ := h23 (h.resolve_right (by decide))
        exact ⟨r, cs, e1, e2, e3, e4, fun h => absurd (h24 (h.resolve_right (by decide))).1 hn⟩
    · intro L A W o hI ho hn hd
      obtain rfl : { dst := some 12, op := Op.alloc 89, type := 0, pos := "world.go:90", after := #[], guard := none } = o := Option.some.inj ho
      obtain ⟨hS, x26, x35, x46, x12, rfl, h2, h11, h22, h23, h24⟩ := hI
      simp only [Act.put, List.setIfInBounds_toArray, List.set_cons_zero, List.set_cons_succ]
      refine wpOp_step (o := { dst := some 12, op := Op.alloc 89, type := 0, pos := "world.go:90", after := #[], guard := none }) rfl (fun K hK => ?_)
      rw [if_pos (by rfl)]
      go_simp
      refine hK _ _ ⟨hS.below (below_alloc _ _), x26, x35, x46, .pointer (some ⟨W.heap.size, 0, none⟩), ?_, fun h => h2 (h.resolve_right (by decide)), fun h => h11 (h.resolve_right (by decide)), fun h => (h22 (h.resolve_right (by decide))).imp .inl (And.imp_left .inl), fun _ => ⟨W.heap.size, _, rfl, hS.room, heap_alloc_last _ _, rfl, fun h => absurd (h24 (h.resolve_right (by decide))).2 hn⟩, fun h => absurd (h24 (h.resolve_right (by decide))).2 hn⟩
      · simp only [Act.put, List.setIfInBounds_toArray, List.set_cons_zero, List.set_cons_succ]
    · intro L A W o hI ho hn hd
      obtain rfl : { dst := none, op := Op.store 89 (Operand.tmp 12) (Operand.tmp 46), type := 0, pos := "world.go:90", after := #[{ on := 23, ground := Ground.data }, { on := 22, ground := Ground.data }, { on := 11, ground := Ground.chain }, { on := 0, ground := Ground.phase }, { on := 1, ground := Ground.phase }, { on := 2, ground := Ground.phase }, { on := 3, ground := Ground.phase }, { on := 4, ground := Ground.phase }, { on := 5, ground := Ground.phase }, { on := 6, ground := Ground.phase }, { on := 7, ground := Ground.phase }, { on := 8, ground := Ground.phase }, { on := 9, ground := Ground.phase }, { on := 10, ground := Ground.phase }, { on := 11, ground := Ground.phase }, { on := 12, ground := Ground.phase }, { on := 13, ground := Ground.phase }, { on := 14, ground := Ground.phase }, { on := 15, ground := Ground.phase }, { on := 16, ground := Ground.phase }, { on := 17, ground := Ground.phase }, { on := 18, ground := Ground.phase }, { on := 19, ground := Ground.phase }, { on := 20, ground := Ground.phase }, { on := 21, ground := Ground.phase }, { on := 22, ground := Ground.phase }, { on := 23, ground := Ground.phase }], guard := none } = o := Option.some.inj ho
      obtain ⟨hS, x26, x35, x46, x12, rfl, h2, h11, h22, h23, h24⟩ := hI
      simp only [Act.put, List.setIfInBounds_toArray, List.set_cons_zero, List.set_cons_succ]
      refine wpOp_step (o := { dst := none, op := Op.store 89 (Operand.tmp 12) (Operand.tmp 46), type := 0, pos := "world.go:90", after := #[{ on := 23, ground := Ground.data }, { on := 22, ground := Ground.data }, { on := 11, ground := Ground.chain }, { on := 0, ground := Ground.phase }, { on := 1, ground := Ground.phase }, { on := 2, ground := Ground.phase }, { on := 3, ground := Ground.phase }, { on := 4, ground := Ground.phase }, { on := 5, ground := Ground.phase }, { on := 6, ground := Ground.phase }, { on := 7, ground := Ground.phase }, { on := 8, ground := Ground.phase }, { on := 9, ground := Ground.phase }, { on := 10, ground := Ground.phase }, { on := 11, ground := Ground.phase }, { on := 12, ground := Ground.phase }, { on := 13, ground := Ground.phase }, { on := 14, ground := Ground.phase }, { on := 15, ground := Ground.phase }, { on := 16, ground := Ground.phase }, { on := 17, ground := Ground.phase }, { on := 18, ground := Ground.phase }, { on := 19, ground := Ground.phase }, { on := 20, ground := Ground.phase }, { on := 21, ground := Ground.phase }, { on := 22, ground := Ground.phase }, { on := 23, ground := Ground.phase }], guard := none }) rfl (fun K hK => ?_)
      rw [if_pos (by rfl)]
      have l22 : L 22 := hd { on := 22, ground := Ground.data } (by simp) rfl (by simp)
      have l23 : L 23 := hd { on := 23, ground := Ground.data } (by simp) rfl (by simp)
      obtain ⟨l2, l11, rfl⟩ := h22 l22
      obtain ⟨t, rfl⟩ := h2 l2
      obtain ⟨k2, rfl⟩ := h11 l11
      obtain ⟨r, cs, rfl, e2, e3, e4, e5⟩ := h23 l23
      refine wp_store_mid 89 (.tmp 12) (.tmp 46) rfl r 0 _ rfl rfl (there_blk e3 (by rw [e4]; rfl)) (by kernel_rfl) (by simp [Value.oneCell']) ?_
      refine hK _ _ ⟨MadeS.cells rfl e2 hsp hep _ 0 W hS, .int .i64 t, .int .i64 k2, _, .pointer (some ⟨r, 0, none⟩), ?_, fun _ => ⟨t, rfl⟩, fun _ => ⟨k2, rfl⟩, fun _ => ⟨.inl l2, .inl l11, rfl⟩, fun _ => ⟨r, _, rfl, e2, blk_setCells r 89 _ 0 W cs e3 (by rw [e4]; rfl), rfl, fun _ => rfl⟩, fun _ => ⟨.inl l22, .inl l23⟩⟩
      simp only [Act.put, List.setIfInBounds_toArray, List.set_cons_zero, List.set_cons_succ]
  · intro L A W hI ha
    obtain ⟨hS, x26, x35, x46, x12, rfl, h2, h11, h22, h23, h24⟩ := hI
    obtain ⟨_, _, rfl⟩ := h22 (ha 22 (by simp))
    obtain ⟨t, rfl⟩ := h2 (ha 2 (by simp))
    obtain ⟨k2, rfl⟩ := h11 (ha 11 (by simp))
    obtain ⟨r, cs, rfl, e2, e3, e4, e5⟩ := h23 (ha 23 (by simp))
    obtain rfl := Value.agg.inj (e5 (ha 24 (by simp)))
    clear h2 h11 h22 h23 h24 ha e4 e5 hHeld
    simp only [Act.put, List.setIfInBounds_toArray, List.set_cons_zero, List.set_cons_succ]
    have HT1 : Hid (MadeT _ _ _ _ _ _ _ _ _ _ _ _ _ _ _ _ _ r _ W) := Lib.hid ⟨hS, e3, e2, hsp, hep⟩
    clear hS e3 e2 HM
    have s0 := Int.tmod_nonneg 4 (show 0 ≤ x.s from HOK.out.2.2.2.1.1)
    have s4 := Int.tmod_lt_of_pos x.s (show (0 : Int) < 4 by decide)
    have v0 := Int.tmod_nonneg 3 (show 0 ≤ x.v from HOK.out.2.2.2.2.1.1)
    have v3 := Int.tmod_lt_of_pos x.v (show (0 : Int) < 3 by decide)
    have p0 := Int.tmod_nonneg 3 (show 0 ≤ x.o from HOK.out.2.2.2.2.2.1.1)
    have p3 := Int.tmod_lt_of_pos x.o (show (0 : Int) < 3 by decide)
    have hsg := svc_get x.s s0 s4
    have hvg := ver_get x.v v0 v3
    have hog := opn_get x.o p0 p3
    obtain ⟨z0, z1, z2, z3⟩ := HT1.out.sizes
    have y1 := HT1.out.1.2.1.2.2.2.1
    obtain ⟨y2, y3⟩ := HT1.out.cell 6 rfl
    go_upto_region 4 with (fail)
    have HT2 := Lib.hid (HT1.out.put 6 (.string (nth svcs (x.s.tmod 4))) (.cells #[.string ⟨#[97, 112, 105]⟩, .string ⟨#[100, 98]⟩, .string ⟨#[119, 101, 98]⟩, .string ⟨#[99, 97, 99, 104, 101]⟩] 9))
    clear y1 y2 y3 z0 z1 z2 z3 hsg
    generalize (W.setCell ⟨r, 6, none⟩ (.string (nth svcs (x.s.tmod 4)))).alloc (.cells #[.string ⟨#[97, 112, 105]⟩, .string ⟨#[100, 98]⟩, .string ⟨#[119, 101, 98]⟩, .string ⟨#[99, 97, 99, 104, 101]⟩] 9) = W2 at HT2 ⊢
    clear HT1
    obtain ⟨z0, z1, z2, z3⟩ := HT2.out.sizes
    have y1 := HT2.out.1.2.1.2.2.2.2.1
    obtain ⟨y2, y3⟩ := HT2.out.cell 7 rfl
    go_upto_region 5 with (fail)
    have HT3 := Lib.hid (HT2.out.put 7 (.string (nth vers (x.v.tmod 3))) (.cells #[.string ⟨#[118, 49]⟩, .string ⟨#[118, 50]⟩, .string ⟨#[]⟩] 9))
    clear y1 y2 y3 z0 z1 z2 z3 hvg
    generalize (W2.setCell ⟨r, 7, none⟩ (.string (nth vers (x.v.tmod 3)))).alloc (.cells #[.string ⟨#[118, 49]⟩, .string ⟨#[118, 50]⟩, .string ⟨#[]⟩] 9) = W3 at HT3 ⊢
    clear HT2
    obtain ⟨z0, z1, z2, z3⟩ := HT3.out.sizes
    have y1 := HT3.out.1.2.1.2.2.2.2.2.1
    obtain ⟨y2, y3⟩ := HT3.out.cell 8 rfl
    go_upto_region 6 with (fail)
    have HT4 := Lib.hid (HT3.out.put 8 (.string (nth opns (x.o.tmod 3))) (.cells #[.string ⟨#[103, 101, 116]⟩, .string ⟨#[112, 117, 116]⟩, .string ⟨#[108, 105, 115, 116]⟩] 9))
    clear y1 y2 y3 z0 z1 z2 z3 hog
    generalize (W3.setCell ⟨r, 8, none⟩ (.string (nth opns (x.o.tmod 3)))).alloc (.cells #[.string ⟨#[103, 101, 116]⟩, .string ⟨#[112, 117, 116]⟩, .string ⟨#[108, 105, 115, 116]⟩] 9) = W4 at HT4 ⊢
    clear HT3
    obtain ⟨z0, z1, z2, z3⟩ := HT4.out.sizes
    have y1 := HT4.out.1.2.1.1
    obtain ⟨y2, y3⟩ := HT4.out.cell 2 rfl
    have j0 := Int.tmod_nonneg 16 (show 0 ≤ x.j from HOK.out.2.2.2.2.2.2.2.2.1.1)
    have j16 := Int.tmod_lt_of_pos x.j (show (0 : Int) < 16 by decide)
    obtain ⟨jn, hJ⟩ : ∃ jn : Nat, x.j.tmod 16 = (jn : Int) := ⟨(x.j.tmod 16).toNat, (Int.toNat_of_nonneg j0).symm⟩
    have jn16 : (jn : Int) < 16 := by omega
    clear j0 j16
    go_upto_region 11 with (fail)
    · have HT5 := Lib.hid (HT4.out.set 2 (.int .i64 (wrap64 ((wrap64 x.p).tmod (↑i + 1) + 1))))
      generalize W4.setCell ⟨r, 2, none⟩ (.int .i64 (wrap64 ((wrap64 x.p).tmod (↑i + 1) + 1))) = W5 at HT5 ⊢
      clear y1 y2 y3 z0 z1 z2 z3
      obtain ⟨z0, z1, z2, z3⟩ := HT5.out.sizes
      have y1 := HT5.out.1.2.1.2.2.2.2.2.2.2.2.1
      have y4 := HT5.out.1.2.2.1
      by_cases hji : jn < i
      · obtain ⟨sad', hsa, y5⟩ := HS.out jn (by omega)
        obtain rfl := Option.some.inj hsa
        have y6 := (HT5.out.1.beh.cell (World.block_lt_of_cell? w _ y5)).trans y5
        clear hsa y5
        have hd1 : decide ((jn : Int) < (i : Int)) = true := decide_eq_true (by omega)
        have b1 : (0 : Int) ≤ (jn : Int) := by omega
        have b2 : (jn : Int) < (ss.length : Int) := by omega
        go_upto_region 12 with (fail)
        go_quiet (fail)
        all_goals
          have HT6 := Lib.hid (HT5.out.below (below_drewN0 _ nq))
          clear y1 y4 y6 z0 z1 z2 z3
          generalize W5.drewN nq = W6 at HT6 ⊢
          clear HT5
          obtain ⟨z0, z1, z2, z3⟩ := HT6.out.sizes
          obtain ⟨y0, _⟩ := HT6.out.cell 0 rfl
          obtain ⟨y2, y3⟩ := HT6.out.cell 13 rfl
          obtain ⟨c0, c1, c2, c3, c4, c5, c6, c7, c8, c9, c10⟩ := HT6.out.1.2.1
          go_wp2_with fail
          all_goals
            (with_reducible refine (attrs_any x HOK.out _).mono ?_)
            rintro e w' ⟨⟨A, N, C, rfl⟩, hbb⟩
            clear y0 y2 y3 z0 z1 z2 z3 c0 c1 c2 c3 c4 c5 c6 c7 c8 c9 c10
            first
              | have HT7 := Lib.hid ((HT6.out.put 13 (.slice (some ⟨W6.heap.size, 0, none⟩) 1 1) _).below hbb)
              | have HT7 := Lib.hid (HT6.out.below hbb)
            clear HT6 hbb
            obtain ⟨y2, y3⟩ := HT7.out.cell 12 rfl
            go_upto_region 15 with (fail)
            have HT8 := Lib.hid (HT7.out.set 12 (.slice A N C))
            clear HT7 y2 y3
            generalize w'.setCell ⟨r, 12, none⟩ (.slice A N C) = W8 at HT8 ⊢
            have hblk := HT8.out.2.1
            have hres := HT8.out.1.2.2.2.2.2
            have hbel := HT8.out.1.beh
            clear HT8
            simp only [List.setIfInBounds_toArray, List.set_cons_zero, List.set_cons_succ] at hblk
            refine wp_region_lit ?_
            refine wpList_load_row rfl 89 (.tmp 12) rfl r rfl 89 _ (0, 0) _ hblk Tryz.underlying89 rfl (by kernel_rfl) ?_
            refine wpList_store_mid rfl 89 (.tmp 10) (.tmp 111) rfl (w.heap.size + 1) 0 _ rfl rfl (there_blk hres rfl) (by kernel_rfl) (by simp [Value.oneCell']) ?_
            refine k_run (by assumption) ?_
            apply wp_ret
            refine ret_row hres rfl rfl ?_ Tryz.underlying89 rfl ?_ rfl ⟨?_, below_setCells (w.heap.size + 1) (by omega) _ 0 _ hbel⟩
            · rfl
            · kernel_rfl
            · exact ⟨_, _, _, _, _, _, _, _, _, _, _, _, _, _, _, _, _, _, rfl⟩

      · have hd1 : decide ((jn : Int) < (i : Int)) = false := decide_eq_false (by omega)
        go_upto_region 12 with (fail)
        go_quiet (fail)
        all_goals
          have HT6 := Lib.hid (HT5.out.below (below_drewN0 _ nq))
          clear y1 y4 z0 z1 z2 z3
          generalize W5.drewN nq = W6 at HT6 ⊢
          clear HT5
          obtain ⟨z0, z1, z2, z3⟩ := HT6.out.sizes
          obtain ⟨y0, _⟩ := HT6.out.cell 0 rfl
          obtain ⟨y2, y3⟩ := HT6.out.cell 13 rfl
          obtain ⟨c0, c1, c2, c3, c4, c5, c6, c7, c8, c9, c10⟩ := HT6.out.1.2.1
          go_wp2_with fail
          all_goals
            (with_reducible refine (attrs_any x HOK.out _).mono ?_)
            rintro e w' ⟨⟨A, N, C, rfl⟩, hbb⟩
            clear y0 y2 y3 z0 z1 z2 z3 c0 c1 c2 c3 c4 c5 c6 c7 c8 c9 c10
            first
              | have HT7 := Lib.hid ((HT6.out.put 13 (.slice (some ⟨W6.heap.size, 0, none⟩) 1 1) _).below hbb)
              | have HT7 := Lib.hid (HT6.out.below hbb)
            clear HT6 hbb
            obtain ⟨y2, y3⟩ := HT7.out.cell 12 rfl
            go_upto_region 15 with (fail)
            have HT8 := Lib.hid (HT7.out.set 12 (.slice A N C))
            clear HT7 y2 y3
            generalize w'.setCell ⟨r, 12, none⟩ (.slice A N C) = W8 at HT8 ⊢
            have hblk := HT8.out.2.1
            have hres := HT8.out.1.2.2.2.2.2
            have hbel := HT8.out.1.beh
            clear HT8
            simp only [List.setIfInBounds_toArray, List.set_cons_zero, List.set_cons_succ] at hblk
            refine wp_region_lit ?_
            refine wpList_load_row rfl 89 (.tmp 12) rfl r rfl 89 _ (0, 0) _ hblk Tryz.underlying89 rfl (by kernel_rfl) ?_
            refine wpList_store_mid rfl 89 (.tmp 10) (.tmp 111) rfl (w.heap.size + 1) 0 _ rfl rfl (there_blk hres rfl) (by kernel_rfl) (by simp [Value.oneCell']) ?_
            refine k_run (by assumption) ?_
            apply wp_ret
            refine ret_row hres rfl rfl ?_ Tryz.underlying89 rfl ?_ rfl ⟨?_, below_setCells (w.heap.size + 1) (by omega) _ 0 _ hbel⟩
            · rfl
            · kernel_rfl
            · exact ⟨_, _, _, _, _, _, _, _, _, _, _, _, _, _, _, _, _, _, rfl⟩
    · have HT5 := Lib.hid (HT4.out.set 2 (.int .i64 100))
      generalize W4.setCell ⟨r, 2, none⟩ (.int .i64 100) = W5 at HT5 ⊢
      clear y1 y2 y3 z0 z1 z2 z3
      obtain ⟨z0, z1, z2, z3⟩ := HT5.out.sizes
      have y1 := HT5.out.1.2.1.2.2.2.2.2.2.2.2.1
      have y4 := HT5.out.1.2.2.1
      by_cases hji : jn < i
      · obtain ⟨sad', hsa, y5⟩ := HS.out jn (by omega)
        obtain rfl := Option.some.inj hsa
        have y6 := (HT5.out.1.beh.cell (World.block_lt_of_cell? w _ y5)).trans y5
        clear hsa y5
        have hd1 : decide ((jn : Int) < (i : Int)) = true := decide_eq_true (by omega)
        have b1 : (0 : Int) ≤ (jn : Int) := by omega
        have b2 : (jn : Int) < (ss.length : Int) := by omega
        go_upto_region 12 with (fail)
        go_quiet (fail)
        all_goals
          have HT6 := Lib.hid (HT5.out.below (below_drewN0 _ nq))
          clear y1 y4 y6 z0 z1 z2 z3
          generalize W5.drewN nq = W6 at HT6 ⊢
          clear HT5
          obtain ⟨z0, z1, z2, z3⟩ := HT6.out.sizes
          obtain ⟨y0, _⟩ := HT6.out.cell 0 rfl
          obtain ⟨y2, y3⟩ := HT6.out.cell 13 rfl
          obtain ⟨c0, c1, c2, c3, c4, c5, c6, c7, c8, c9, c10⟩ := HT6.out.1.2.1
          go_wp2_with fail
          all_goals
            (with_reducible refine (attrs_any x HOK.out _).mono ?_)
            rintro e w' ⟨⟨A, N, C, rfl⟩, hbb⟩
            clear y0 y2 y3 z0 z1 z2 z3 c0 c1 c2 c3 c4 c5 c6 c7 c8 c9 c10
            first
              | have HT7 := Lib.hid ((HT6.out.put 13 (.slice (some ⟨W6.heap.size, 0, none⟩) 1 1) _).below hbb)
              | have HT7 := Lib.hid (HT6.out.below hbb)
            clear HT6 hbb
            obtain ⟨y2, y3⟩ := HT7.out.cell 12 rfl
            go_upto_region 15 with (fail)
            have HT8 := Lib.hid (HT7.out.set 12 (.slice A N C))
            clear HT7 y2 y3
            generalize w'.setCell ⟨r, 12, none⟩ (.slice A N C) = W8 at HT8 ⊢
            have hblk := HT8.out.2.1
            have hres := HT8.out.1.2.2.2.2.2
            have hbel := HT8.out.1.beh
            clear HT8
            simp only [List.setIfInBounds_toArray, List.set_cons_zero, List.set_cons_succ] at hblk
            refine wp_region_lit ?_
            refine wpList_load_row rfl 89 (.tmp 12) rfl r rfl 89 _ (0, 0) _ hblk Tryz.underlying89 rfl (by kernel_rfl) ?_
            refine wpList_store_mid rfl 89 (.tmp 10) (.tmp 111) rfl (w.heap.size + 1) 0 _ rfl rfl (there_blk hres rfl) (by kernel_rfl) (by simp [Value.oneCell']) ?_
            refine k_run (by assumption) ?_
            apply wp_ret
            refine ret_row hres rfl rfl ?_ Tryz.underlying89 rfl ?_ rfl ⟨?_, below_setCells (w.heap.size + 1) (by omega) _ 0 _ hbel⟩
            · rfl
            · kernel_rfl
            · exact ⟨_, _, _, _, _, _, _, _, _, _, _, _, _, _, _, _, _, _, rfl⟩

      · have hd1 : decide ((jn : Int) < (i : Int)) = false := decide_eq_false (by omega)
        go_upto_region 12 with (fail)
        go_quiet (fail)
        all_goals
          have HT6 := Lib.hid (HT5.out.below (below_drewN0 _ nq))
          clear y1 y4 z0 z1 z2 z3
          generalize W5.drewN nq = W6 at HT6 ⊢
          clear HT5
          obtain ⟨z0, z1, z2, z3⟩ := HT6.out.sizes
          obtain ⟨y0, _⟩ := HT6.out.cell 0 rfl
          obtain ⟨y2, y3⟩ := HT6.out.cell 13 rfl
          obtain ⟨c0, c1, c2, c3, c4, c5, c6, c7, c8, c9, c10⟩ := HT6.out.1.2.1
          go_wp2_with fail
          all_goals
            (with_reducible refine (attrs_any x HOK.out _).mono ?_)
            rintro e w' ⟨⟨A, N, C, rfl⟩, hbb⟩
            clear y0 y2 y3 z0 z1 z2 z3 c0 c1 c2 c3 c4 c5 c6 c7 c8 c9 c10
            first
              | have HT7 := Lib.hid ((HT6.out.put 13 (.slice (some ⟨W6.heap.size, 0, none⟩) 1 1) _).below hbb)
              | have HT7 := Lib.hid (HT6.out.below hbb)
            clear HT6 hbb
            obtain ⟨y2, y3⟩ := HT7.out.cell 12 rfl
            go_upto_region 15 with (fail)
            have HT8 := Lib.hid (HT7.out.set 12 (.slice A N C))
            clear HT7 y2 y3
            generalize w'.setCell ⟨r, 12, none⟩ (.slice A N C) = W8 at HT8 ⊢
            have hblk := HT8.out.2.1
            have hres := HT8.out.1.2.2.2.2.2
            have hbel := HT8.out.1.beh
            clear HT8
            simp only [List.setIfInBounds_toArray, List.set_cons_zero, List.set_cons_succ] at hblk
            refine wp_region_lit ?_
            refine wpList_load_row rfl 89 (.tmp 12) rfl r rfl 89 _ (0, 0) _ hblk Tryz.underlying89 rfl (by kernel_rfl) ?_
            refine wpList_store_mid rfl 89 (.tmp 10) (.tmp 111) rfl (w.heap.size + 1) 0 _ rfl rfl (there_blk hres rfl) (by kernel_rfl) (by simp [Value.oneCell']) ?_
            refine k_run (by assumption) ?_
            apply wp_ret
            refine ret_row hres rfl rfl ?_ Tryz.underlying89 rfl ?_ rfl ⟨?_, below_setCells (w.heap.size + 1) (by omega) _ 0 _ hbel⟩
            · rfl
            · kernel_rfl
            · exact ⟨_, _, _, _, _, _, _, _, _, _, _, _, _, _, _, _, _, _, rfl⟩
    · have HT5 := HT4
      clear HT4
      clear y1 y2 y3 z0 z1 z2 z3
      obtain ⟨z0, z1, z2, z3⟩ := HT5.out.sizes
      have y1 := HT5.out.1.2.1.2.2.2.2.2.2.2.2.1
      have y4 := HT5.out.1.2.2.1
      by_cases hji : jn < i
      · exfalso
        omega
      · have hd1 : decide ((jn : Int) < (i : Int)) = false := decide_eq_false (by omega)
        go_upto_region 12 with (fail)
        go_quiet (fail)
        all_goals
          have HT6 := Lib.hid (HT5.out.below (below_drewN0 _ nq))
          clear y1 y4 z0 z1 z2 z3
          generalize W4.drewN nq = W6 at HT6 ⊢
          clear HT5
          obtain ⟨z0, z1, z2, z3⟩ := HT6.out.sizes
          obtain ⟨y0, _⟩ := HT6.out.cell 0 rfl
          obtain ⟨y2, y3⟩ := HT6.out.cell 13 rfl
          obtain ⟨c0, c1, c2, c3, c4, c5, c6, c7, c8, c9, c10⟩ := HT6.out.1.2.1
          go_wp2_with fail
          all_goals
            (with_reducible refine (attrs_any x HOK.out _).mono ?_)
            rintro e w' ⟨⟨A, N, C, rfl⟩, hbb⟩
            clear y0 y2 y3 z0 z1 z2 z3 c0 c1 c2 c3 c4 c5 c6 c7 c8 c9 c10
            first
              | have HT7 := Lib.hid ((HT6.out.put 13 (.slice (some ⟨W6.heap.size, 0, none⟩) 1 1) _).below hbb)
              | have HT7 := Lib.hid (HT6.out.below hbb)
            clear HT6 hbb
            obtain ⟨y2, y3⟩ := HT7.out.cell 12 rfl
            go_upto_region 15 with (fail)
            have HT8 := Lib.hid (HT7.out.set 12 (.slice A N C))
            clear HT7 y2 y3
            generalize w'.setCell ⟨r, 12, none⟩ (.slice A N C) = W8 at HT8 ⊢
            have hblk := HT8.out.2.1
            have hres := HT8.out.1.2.2.2.2.2
            have hbel := HT8.out.1.beh
            clear HT8
            simp only [List.setIfInBounds_toArray, List.set_cons_zero, List.set_cons_succ] at hblk
            refine wp_region_lit ?_
            refine wpList_load_row rfl 89 (.tmp 12) rfl r rfl 89 _ (0, 0) _ hblk Tryz.underlying89 rfl (by kernel_rfl) ?_
            refine wpList_store_mid rfl 89 (.tmp 10) (.tmp 111) rfl (w.heap.size + 1) 0 _ rfl rfl (there_blk hres rfl) (by kernel_rfl) (by simp [Value.oneCell']) ?_
            refine k_run (by assumption) ?_
            apply wp_ret
            refine ret_row hres rfl rfl ?_ Tryz.underlying89 rfl ?_ rfl ⟨?_, below_setCells (w.heap.size + 1) (by omega) _ 0 _ hbel⟩
            · rfl
            · kernel_rfl
            · exact ⟨_, _, _, _, _, _, _, _, _, _, _, _, _, _, _, _, _, _, rfl⟩
end Go.Proofs.YtmhmnbaoanennaaGreatDoor
