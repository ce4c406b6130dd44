/- Contracts over a short story: what its functions make, by its form alone. -/
import Derived.Test.YtmhmnbaoanennaaGreatDoorKeeper
namespace Go.Proofs.YtmhmnbaoanennaaGreatDoor
open Go Go.Ev Go.Proofs Go.RowKit
set_option linter.unusedVariables false
set_option linter.unusedSimpArgs false

/-- A call of a story. -/
structure CallD where
  p : Int
  k : Int
  n : Int
  s : Int
  v : Int
  o : Int
  w : Int
  l : Int
  j : Int
  t : Int
  e : Bool
def isU8 (x : Int) : Prop := 0 ≤ x ∧ x < 256
def CallD.ok (x : CallD) : Prop := isU8 x.p ∧ isU8 x.k ∧ isU8 x.n ∧ isU8 x.s ∧ isU8 x.v ∧ isU8 x.o ∧ isU8 x.w ∧ isU8 x.l ∧ isU8 x.j ∧ isU8 x.t
def CallAt (W : World) (p : Addr) (x : CallD) : Prop :=
  W.cell? p = some (.int .u8 x.p) ∧ W.cell? ⟨p.block, p.off + 1, none⟩ = some (.int .u8 x.k) ∧ W.cell? ⟨p.block, p.off + 2, none⟩ = some (.int .u8 x.n) ∧ W.cell? ⟨p.block, p.off + 3, none⟩ = some (.int .u8 x.s) ∧
  W.cell? ⟨p.block, p.off + 4, none⟩ = some (.int .u8 x.v) ∧ W.cell? ⟨p.block, p.off + 5, none⟩ = some (.int .u8 x.o) ∧ W.cell? ⟨p.block, p.off + 6, none⟩ = some (.int .u8 x.w) ∧ W.cell? ⟨p.block, p.off + 7, none⟩ = some (.int .u8 x.l) ∧
  W.cell? ⟨p.block, p.off + 8, none⟩ = some (.int .u8 x.j) ∧ W.cell? ⟨p.block, p.off + 9, none⟩ = some (.int .u8 x.t) ∧ W.cell? ⟨p.block, p.off + 10, none⟩ = some (.bool x.e)
theorem CallAt.below {W W' : World} {p : Addr} {x : CallD} (h : CallAt W p x) (k : Below W.heap.size W W') : CallAt W' p x := by
  obtain ⟨h0, h1, h2, h3, h4, h5, h6, h7, h8, h9, h10⟩ := h
  have hlt := World.block_lt_of_cell? W _ h0
  exact ⟨(k.cell hlt).trans h0, (k.cell (p := ⟨p.block, p.off + 1, none⟩) hlt).trans h1, (k.cell (p := ⟨p.block, p.off + 2, none⟩) hlt).trans h2, (k.cell (p := ⟨p.block, p.off + 3, none⟩) hlt).trans h3,
    (k.cell (p := ⟨p.block, p.off + 4, none⟩) hlt).trans h4, (k.cell (p := ⟨p.block, p.off + 5, none⟩) hlt).trans h5, (k.cell (p := ⟨p.block, p.off + 6, none⟩) hlt).trans h6, (k.cell (p := ⟨p.block, p.off + 7, none⟩) hlt).trans h7,
    (k.cell (p := ⟨p.block, p.off + 8, none⟩) hlt).trans h8, (k.cell (p := ⟨p.block, p.off + 9, none⟩) hlt).trans h9, (k.cell (p := ⟨p.block, p.off + 10, none⟩) hlt).trans h10⟩
def CallsAt (W : World) (a : Option Addr) (cs : List CallD) : Prop := ∀ j (h : j < cs.length), ∃ ad, a = some ad ∧ CallAt W (ad.add (j * 11)) cs[j] ∧ cs[j].ok
theorem CallsAt.below {W W' : World} {a : Option Addr} {cs : List CallD} (h : CallsAt W a cs) (k : Below W.heap.size W W') : CallsAt W' a cs := fun j hj =>
  let ⟨ad, h1, h2, h3⟩ := h j hj
  ⟨ad, h1, h2.below k, h3⟩
/-- A tree of a story. -/
structure TreeD where
  s : Int
  f : Int
  a : Option Addr
  cs : List CallD
  c : Nat
def TreeAt (W : World) (p : Addr) (x : TreeD) : Prop :=
  W.cell? p = some (.int .u8 x.s) ∧ W.cell? ⟨p.block, p.off + 1, none⟩ = some (.int .u8 x.f) ∧ W.cell? ⟨p.block, p.off + 2, none⟩ = some (.slice x.a x.cs.length x.c) ∧ CallsAt W x.a x.cs ∧ isU8 x.s ∧ isU8 x.f
theorem TreeAt.below {W W' : World} {p : Addr} {x : TreeD} (h : TreeAt W p x) (k : Below W.heap.size W W') : TreeAt W' p x := by
  obtain ⟨h0, h1, h2, h3, h4, h5⟩ := h
  have hlt := World.block_lt_of_cell? W _ h0
  exact ⟨(k.cell hlt).trans h0, (k.cell (p := ⟨p.block, p.off + 1, none⟩) hlt).trans h1, (k.cell (p := ⟨p.block, p.off + 2, none⟩) hlt).trans h2, h3.below k, h4, h5⟩
def TreesAt (W : World) (a : Option Addr) (ts : List TreeD) : Prop := ∀ j (h : j < ts.length), ∃ ad, a = some ad ∧ TreeAt W (ad.add (j * 3)) ts[j]
theorem TreesAt.below {W W' : World} {a : Option Addr} {ts : List TreeD} (h : TreesAt W a ts) (k : Below W.heap.size W W') : TreesAt W' a ts := fun j hj =>
  let ⟨ad, h1, h2⟩ := h j hj
  ⟨ad, h1, h2.below k⟩

set_option maxHeartbeats 4000000 in
theorem kind_any (x : CallD) (h : x.ok) (w : World) :
    Calls Tryz.prog 201 #[.agg #[.int .u8 x.p, .int .u8 x.k, .int .u8 x.n, .int .u8 x.s, .int .u8 x.v, .int .u8 x.o, .int .u8 x.w, .int .u8 x.l, .int .u8 x.j, .int .u8 x.t, .bool x.e]] w fun e w' => (∃ n, e = .returned (.int .i64 n)) ∧ Below w.heap.size w w' := by
  obtain ⟨-, -, h, -⟩ := h
  unfold isU8 at h
  generalize x.n = n at *
  go_enter Tryz.func201, Tryz.ntmps201
  go_wp2_with fail
  go_ret
  exact ⟨⟨_, rfl⟩, below_alloc _ _⟩
set_option maxHeartbeats 4000000 in
theorem offset_any (a : Option Addr) (n c : Nat) (o0 o1 o2 o3 : Int) (b : Option Addr) (m d : Nat) (q i : Int) (w : World) :
    Calls Tryz.prog 99 #[.agg #[.slice a n c, .int .i8 o0, .int .i8 o1, .int .i8 o2, .int .i8 o3, .slice b m d, .int .u8 q], .int .i64 i] w fun e w' => (∃ n, e = .returned (.int .i64 n)) ∧ Below w.heap.size w w' := by
  obtain ⟨⟨z, hz⟩, hv⟩ : (∃ z, (w.alloc (.cells #[.slice a n c, .int .i8 o0, .int .i8 o1, .int .i8 o2, .int .i8 o3, .slice b m d, .int .u8 q] 53)).cell? ⟨w.heap.size, 1 + ((IntKind.u64.wrap (IntKind.u64.wrap i + 3)).tmod 4).toNat, none⟩ = some (.int .i8 z)) ∧ 0 ≤ (IntKind.u64.wrap (IntKind.u64.wrap i + 3)).tmod 4 ∧ (IntKind.u64.wrap (IntKind.u64.wrap i + 3)).tmod 4 < 4 := by
    have h1 : 0 ≤ IntKind.u64.wrap (IntKind.u64.wrap i + 3) := by simp only [IntKind.wrap]; exact Int.emod_nonneg _ (by decide)
    generalize IntKind.u64.wrap (IntKind.u64.wrap i + 3) = u at h1
    have h2 := Int.tmod_nonneg 4 h1
    have h3 := Int.tmod_lt_of_pos u (show (0 : Int) < 4 by decide)
    generalize u.tmod 4 = v at h2 h3
    refine ⟨?_, h2, h3⟩
    obtain rfl | rfl | rfl | rfl : v = 0 ∨ v = 1 ∨ v = 2 ∨ v = 3 := by omega
    · exact ⟨o0, cell_last _ _ _ _ _ _ rfl rfl⟩
    · exact ⟨o1, cell_last _ _ _ _ _ _ rfl rfl⟩
    · exact ⟨o2, cell_last _ _ _ _ _ _ rfl rfl⟩
    · exact ⟨o3, cell_last _ _ _ _ _ _ rfl rfl⟩
  go_enter Tryz.func99, Tryz.ntmps99
  go_wp2_with fail
  go_ret
  exact ⟨⟨_, rfl⟩, below_alloc _ _⟩
set_option maxHeartbeats 4000000 in
theorem traceId_any (a : Option Addr) (ts : List TreeD) (c : Nat) (o0 o1 o2 o3 : Int) (b : Option Addr) (m d : Nat) (q : Int) (k : Nat) (hk : k < ts.length) (w : World) (ht : TreesAt w a ts) :
    Calls Tryz.prog 142 #[.agg #[.slice a ts.length c, .int .i8 o0, .int .i8 o1, .int .i8 o2, .int .i8 o3, .slice b m d, .int .u8 q], .int .i64 k] w fun e w' => (∃ n, e = .returned (.int .i64 n)) ∧ Below w.heap.size w w' := by
  obtain ⟨ad, rfl, h0, h1, h2, h3, h4, h5⟩ := ht.below (below_alloc w (.cells #[.slice a ts.length c, .int .i8 o0, .int .i8 o1, .int .i8 o2, .int .i8 o3, .slice b m d, .int .u8 q] 53)) k hk
  clear ht h1 h2 h3
  generalize ts[k] = x at *
  unfold isU8 at h4 h5
  go_enter Tryz.func142, Tryz.ntmps142
  go_wp2_with fail
  go_ret
  exact ⟨⟨_, rfl⟩, below_alloc _ _⟩
/-- Does the evaluator give a slice? -/
noncomputable def isSlice (r : Option (Value × Hp)) : Bool :=
  match r with
  | some (.slice _ _ _, _) => true
  | _ => false
/-- A call that gives a slice, at plain arguments. -/
theorem slice_at {P : Program} {ext : Ext} {n : Nat} {f : FuncId} {args : List Value} (hc : CallOK P (evCall P ext n)) (ha : ∀ v ∈ args, plain v = true)
    (he : isSlice (evCall P ext n (.func f) args ⟨mkT (blksOf (fun _ => 0) [] ++ []), 64, 64⟩) = true) (w : World) :
    Calls P f args.toArray w fun en w' => (∃ a n c, en = .returned (.slice a n c)) ∧ Below w.heap.size w w' := by
  unfold isSlice at he
  split at he
  · rename_i a l c h' hr
    have hl : laidG w (fun _ => 0) [] := fun x hx => by cases hx
    have r0 : Rel P ⟨mkT (blksOf (fun _ => 0) [] ++ []), 64, 64⟩ env0 w := laidG_rel rfl hl (fun _ _ => rfl) (Nat.le_refl _)
    refine Calls.mono ((hc.func _ _ _ _ _ hr).2 env0 w args r0 ⟨fun v hv => (plain_ok (ha v hv) _ env0).under, (List.map_id' args).symm.trans (List.map_congr_left fun v hv => (plain_ok (ha v hv) 0 env0).eq)⟩) ?_
    rintro en w' ⟨e', v', rfl, r, s, hv'⟩
    exact ⟨⟨_, _, _, by rw [hv'.eq, conc]⟩, laidG_below (ty := fun _ => 0) (g := []) rfl hl (fun _ _ => rfl) r s⟩
  · cases he
/-- A call's value. -/
def CallD.val (x : CallD) (t : Int) : Value := .agg #[.int .u8 x.p, .int .u8 x.k, .int .u8 x.n, .int .u8 x.s, .int .u8 x.v, .int .u8 x.o, .int .u8 x.w, .int .u8 x.l, .int .u8 x.j, .int .u8 t, .bool x.e]
set_option maxRecDepth 100000 in
theorem attrs_all (x : CallD) : ((List.range 256).all fun t => isSlice (evCall Tryz.prog noExt 100 (.func 202) [x.val (.ofNat t)] ⟨mkT (blksOf (fun _ => 0) [] ++ []), 64, 64⟩)) = true := by kernel_rfl
set_option maxRecDepth 100000 in
theorem attrs_any (x : CallD) (h : x.ok) (w : World) :
    Calls Tryz.prog 202 #[.agg #[.int .u8 x.p, .int .u8 x.k, .int .u8 x.n, .int .u8 x.s, .int .u8 x.v, .int .u8 x.o, .int .u8 x.w, .int .u8 x.l, .int .u8 x.j, .int .u8 x.t, .bool x.e]] w fun e w' => (∃ a n c, e = .returned (.slice a n c)) ∧ Below w.heap.size w w' := by
  obtain ⟨-, -, -, -, -, -, -, -, -, h⟩ := h
  unfold isU8 at h
  have hx := attrs_all x
  rw [List.all_eq_true] at hx
  have hk := hx x.t.toNat (List.mem_range.2 (by omega))
  rw [show Int.ofNat x.t.toNat = x.t by simp; omega] at hk
  exact slice_at (P := Tryz.prog) (args := [x.val x.t]) (evCall_ok mixed noExt_ok 100) (fun v hv => by simp at hv; subst hv; kernel_rfl) hk w
end Go.Proofs.YtmhmnbaoanennaaGreatDoor
