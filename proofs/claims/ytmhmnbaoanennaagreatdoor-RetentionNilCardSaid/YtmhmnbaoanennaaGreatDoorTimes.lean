/- Contract: the times of a tree. -/
import Derived.Test.YtmhmnbaoanennaaGreatDoorMade
import Derived.Deep.AppendLies
import Derived.Laws.OwnMore
import Derived.StillTailTactics
namespace Go.Proofs.YtmhmnbaoanennaaGreatDoor
open Go Go.Ev Go.Proofs Go.RowKit
set_option linter.unusedVariables false
set_option linter.unusedSimpArgs false
def ints (xs : List Int) : List Value := xs.map (.int .i64)
theorem ints_get {xs : List Int} {j : Nat} (h : j < xs.length) : (ints xs)[j]? = some (.int .i64 xs[j]) := by simp [ints, h]
theorem ints_one (xs : List Int) : ∀ v ∈ ints xs, v.oneCell' = true := by
  intro v hv
  simp only [ints, List.mem_map] at hv
  obtain ⟨x, _, rfl⟩ := hv
  rfl
theorem ints_set (xs : List Int) (j : Nat) (u : Int) : (ints xs).set j (.int .i64 u) = ints (xs.set j u) := by simp [ints, List.map_set]
theorem ints_app (xs : List Int) (u : Int) : ints xs ++ [.int .i64 u] = ints (xs ++ [u]) := by simp [ints]
theorem row_below {B : Nat} {e : TypeId} {k : Nat} {v : Value} {n : Nat} {xs : List Value} {w w' : World} (h : w.ownsRow B e k v n xs) (hb : Below w.heap.size w w') : w'.ownsRow B e k v n xs :=
  h.kept (row := none) ⟨hb.os, hb.tape, hb.output, hb.size, fun j hj _ => hb.block j hj⟩ (by cases hv : v.ownBlock <;> simp)
theorem row_forms {w : World} {base size n : Nat} {e : TypeId} {v : Value} {xs : List Value} (h : w.ownsRow base e size v n xs) : ∃ a c, v = .slice a n c ∧ (0 < n → ∃ g, a = some ⟨g, 0, none⟩ ∧ base ≤ g ∧ g < w.heap.size) ∧ n ≤ c := by
  rcases h.2 with ⟨rfl, rfl⟩ | ⟨g, cap, cur, rfl, hb, hg, hc, _⟩
  · exact ⟨none, 0, rfl, fun h => absurd h (by omega), Nat.le_refl _⟩
  · exact ⟨_, cap, rfl, fun _ => ⟨g, rfl, hb, blk_lt hg⟩, hc⟩
theorem row_lies {w : World} {base n : Nat} {a : Option Addr} {c : Nat} {xs : List Int} (h : w.ownsRow base 3 1 (.slice a n c) n (ints xs)) : xs.length = n ∧ IntsAt w a xs := by
  have hl : xs.length = n := by simpa [ints] using h.1
  refine ⟨hl, fun j hj => ?_⟩
  obtain ⟨a', c', he, hf, _⟩ := row_forms h
  cases he
  obtain ⟨g, rfl, _, _⟩ := hf (by omega)
  exact ⟨_, rfl, h.cells rfl j _ (ints_get hj)⟩
theorem blk_grown {W W' : World} {g : Nat} {o : Obj} {row : Option Nat} (k : W.grownBy W' row) (h : W.heap[g]? = some o) (hne : row ≠ some g) : W'.heap[g]? = some o := (k.block _ (blk_lt h) (fun e => hne e.symm)).trans h
/-- A row is no block of another type. -/
theorem row_ne {w : World} {base n size : Nat} {e t : TypeId} {v : Value} {xs : List Value} (h : w.ownsRow base e size v n xs) {g : Nat} {cs : Array Value} {f : Nat × Nat} (hg : w.heap[g]? = some (.cells cs t f)) (ht : t ≠ e) : v.ownBlock ≠ some g := by
  intro hv
  rcases h.2 with ⟨rfl, _⟩ | ⟨g', cap, cur, rfl, hb, hh, _⟩
  · cases hv
  · simp only [Value.ownBlock, Option.some.injEq] at hv
    subst hv
    rw [hh] at hg
    injection hg with hg
    injection hg with h1 h2
    exact ht h2.symm
theorem below_grown {base : Nat} {w W W' : World} {row : Option Nat} (h : Below base w W) (k : W.grownBy W' row) (hr : ∀ g, row = some g → base ≤ g) (hb : base ≤ W.heap.size) : Below base w W' :=
  ⟨k.os.trans h.os, k.tape.trans h.tape, k.output.trans h.output, Nat.le_trans h.size k.size, fun i hi => (k.block i (by omega) (fun e => by have := hr i e.symm; omega)).trans (h.block i hi)⟩
/-- What stands while the times of a tree are made: the box of the tree, the box of a call. -/
def TimesB (w : World) (s f : Int) (a : Option Addr) (n c : Nat) (W : World) : Prop := Below w.heap.size w W ∧ W.heap[w.heap.size]? = some (.cells #[.int .u8 s, .int .u8 f, .slice a n c] 187 (0, 0))
def TimesS (w : World) (s f : Int) (a : Option Addr) (n c q : Nat) (x : CallD) (W : World) : Prop := TimesB w s f a n c W ∧ W.heap[q]? = some (.cells x.cells.toArray 234 (0, 0)) ∧ W.cell? ⟨q, 7, none⟩ = some (.int .u8 x.l)
/-- The two rows. -/
def Rows2 (base n : Nat) (v2 v3 : Value) (xs ys : List Int) (W : World) : Prop := W.ownsRow base 3 1 v2 n (ints xs) ∧ W.ownsRow base 3 1 v3 n (ints ys) ∧ (v2.ownBlock = none ∨ v2.ownBlock ≠ v3.ownBlock)
section
variable {w W W' : World} {s f : Int} {a : Option Addr} {n c q : Nat} {x : CallD} {base : Nat} {v2 v3 : Value} {xs ys : List Int}
theorem TimesB.below (h : TimesB w s f a n c W) (k : Below W.heap.size W W') : TimesB w s f a n c W' := ⟨⟨k.os.trans h.1.os, k.tape.trans h.1.tape, k.output.trans h.1.output, Nat.le_trans h.1.size k.size, fun i hi => (k.block i (Nat.lt_of_lt_of_le hi h.1.size)).trans (h.1.block i hi)⟩, blk_keep k h.2⟩
theorem TimesS.below (h : TimesS w s f a n c q x W) (k : Below W.heap.size W W') : TimesS w s f a n c q x W' := ⟨h.1.below k, blk_keep k h.2.1, cell_blk (blk_keep k h.2.1) 7 rfl⟩
theorem TimesB.sizes (h : TimesB w s f a n c W) : w.heap.size < W.heap.size := blk_lt h.2
theorem TimesB.cells (h : TimesB w s f a n c W) : W.cell? ⟨w.heap.size, 0, none⟩ = some (.int .u8 s) ∧ W.cell? ⟨w.heap.size, 1, none⟩ = some (.int .u8 f) ∧ W.cell? ⟨w.heap.size, 2, none⟩ = some (.slice a n c) := ⟨cell_blk h.2 0 rfl, cell_blk h.2 1 rfl, cell_blk h.2 2 rfl⟩
theorem TimesB.row {v : Value} {k : Nat} {zs : List Value} (h : TimesB w s f a n c W) (hv : W.ownsRow (w.heap.size + 1) 3 1 v k zs) (g : W.grownBy W' v.ownBlock) : TimesB w s f a n c W' :=
  ⟨below_grown h.1 g (fun j hj => by have := (hv.lt j hj).1; omega) h.1.size, blk_grown g h.2 (row_ne hv h.2 (by decide))⟩
theorem TimesS.row {v : Value} {k : Nat} {zs : List Value} (h : TimesS w s f a n c q x W) (hv : W.ownsRow (w.heap.size + 1) 3 1 v k zs) (g : W.grownBy W' v.ownBlock) : TimesS w s f a n c q x W' :=
  have hq := blk_grown g h.2.1 (row_ne hv h.2.1 (by decide))
  ⟨h.1.row hv g, hq, cell_blk hq 7 rfl⟩
theorem Rows2.below (h : Rows2 base n v2 v3 xs ys W) (k : Below W.heap.size W W') : Rows2 base n v2 v3 xs ys W' := ⟨row_below h.1 k, row_below h.2.1 k, h.2.2⟩
end
/-- What stands while the two times of a call are appended. -/
def TimesI (S : World → Prop) (base j : Nat) (v2 v3 : Value) (xs ys : List Int) (t u : Int) (A : Act) (L : Nat → Prop) (a : Act) (W : World) : Prop :=
  S W ∧ ∃ x50 x51 x59 x60 x2 x3 : Value, a = (((((A.put (some 50) x50).put (some 51) x51).put (some 59) x59).put (some 60) x60).put (some 2) x2).put (some 3) x3 ∧ base ≤ W.heap.size ∧
    (L 3 → L 2) ∧ (L 12 → L 11 ∧ L 3) ∧
    (¬ L 3 → W.ownsRow base 3 1 v2 j (ints xs) ∧ (v2.ownBlock = none ∨ v2.ownBlock ≠ v3.ownBlock)) ∧
    (¬ L 12 → W.ownsRow base 3 1 v3 j (ints ys)) ∧
    (L 2 → ¬ L 3 → ∃ g, x50 = .slice (some ⟨g, 0, none⟩) 1 1 ∧ W.heap[g]? = some (.cells #[.int .i64 t] 3 (0, 0))) ∧
    (L 11 → ¬ L 12 → ∃ g, x59 = .slice (some ⟨g, 0, none⟩) 1 1 ∧ W.heap[g]? = some (.cells #[.int .i64 u] 3 (0, 0)) ∧ (¬ L 3 → v2.ownBlock ≠ some g)) ∧
    (L 3 → W.ownsRow base 3 1 x51 (j + 1) (ints (xs ++ [t])) ∧ (¬ L 12 → x51.ownBlock ≠ v3.ownBlock)) ∧
    (L 12 → W.ownsRow base 3 1 x60 (j + 1) (ints (ys ++ [u])) ∧ x51.ownBlock ≠ x60.ownBlock) ∧
    (L 13 → x2 = x51) ∧ (L 14 → x3 = x60) ∧ (L 13 → L 12) ∧ (L 14 → L 13)
def TimesV (n : Nat) (w : World) (e : Ending) : Prop := ∃ (sA eA : Option Addr) (sc ec : Nat) (ss es : List Int), e = .returned (.tuple #[.slice sA ss.length sc, .slice eA es.length ec]) ∧ ss.length = n ∧ es.length = n ∧ IntsAt w sA ss ∧ IntsAt w eA es

theorem rows_ne {v v' : Value} (h : v.ownBlock = none ∨ v.ownBlock ≠ v'.ownBlock) : v'.ownBlock = none ∨ v'.ownBlock ≠ v.ownBlock := by
  cases hu : v'.ownBlock with
  | none => exact .inl rfl
  | some g => exact .inr fun e => h.elim (fun h => by rw [h] at e; cases e) fun h => h (by rw [hu]; exact e.symm)
def infoIs (sz b : Nat) (r : Option TypeInfo) : Bool :=
  match r with
  | some i => (match i.zero with
    | some z => Nat.beq i.size sz && Nat.beq i.bytes b && Nat.beq z.cells.size sz
    | none => false)
  | none => false
theorem infoIs_spec {sz b : Nat} {r : Option TypeInfo} (h : infoIs sz b r = true) : ∃ i z, r = some i ∧ i.zero = some z ∧ i.size = sz ∧ i.bytes = b ∧ z.cells.size = sz := by
  unfold infoIs at h
  split at h
  · rename_i i
    split at h
    · rename_i z hz
      rw [Bool.and_eq_true, Bool.and_eq_true] at h
      exact ⟨i, z, rfl, hz, Nat.eq_of_beq_eq_true h.1.1, Nat.eq_of_beq_eq_true h.1.2, Nat.eq_of_beq_eq_true h.2⟩
    · cases h
  · cases h
theorem info3 : infoIs 1 8 (Tryz.prog.info? 3) = true := by kernel_rfl
set_option maxRecDepth 20000 in
set_option maxHeartbeats 8000000 in
theorem times_any (s f : Int) (a : Option Addr) (cs : List CallD) (c : Nat) (w : World) (hc : CallsAt w a cs) (hs : isU8 s) (hf : isU8 f) (hl : cs.length ≤ 100) :
    Calls Tryz.prog 171 #[.agg #[.int .u8 s, .int .u8 f, .slice a cs.length c]] w fun e w' => TimesV cs.length w' e ∧ Below w.heap.size w w' := by
  have HB0 := Lib.hid (show TimesB w s f a cs.length c (w.alloc (.cells #[.int .u8 s, .int .u8 f, .slice a cs.length c] 187)) from ⟨below_alloc _ _, heap_alloc_last _ _⟩)
  have HC := Lib.hid hc
  unfold isU8 at hs hf
  clear hc
  obtain ⟨i3, z3, hi3, hi3z, hi3s, hi3b, hi3c⟩ := infoIs_spec info3
  go_enter Tryz.func171, Tryz.ntmps171
  go_wp2_with fail
  have HR0 := Lib.hid (show Rows2 (w.heap.size + 1) 0 (.slice none 0 0) (.slice none 0 0) [] [] (w.alloc (.cells #[.int .u8 s, .int .u8 f, .slice a cs.length c] 187)) from ⟨World.ownsRow_nil _ _ _ _, World.ownsRow_nil _ _ _ _, .inl rfl⟩)
  go_loopw [2, 3, 4] (fun v2 v3 i wr => ∃ (j : Nat) (xs ys : List Int), j ≤ cs.length ∧ i = .int .i64 j ∧ Hid (TimesB w s f a cs.length c wr) ∧ Hid (Rows2 (w.heap.size + 1) j v2 v3 xs ys wr)) (fun _ _ i _ => cs.length - (intOf i).toNat)
  case atStart => exact ⟨0, [], [], by omega, rfl, HB0, HR0⟩
  case round =>
    obtain ⟨j, xs, ys, hj, rfl, HB, HR⟩ := hrel
    obtain ⟨b0, b1, b2⟩ := HB.out.cells
    have z0 := HB.out.sizes
    by_cases hlt : j < cs.length
    · obtain ⟨cad, rfl, c0, hok⟩ := (HC.out.below HB.out.1) j hlt
      have hw := c0
      obtain ⟨c0, c1, c2, c3, c4, c5, c6, c7, c8, c9, c10⟩ := c0
      generalize hx : cs[j] = x at *
      unfold CallD.ok isU8 at hok
      obtain ⟨a2, k2, rfl, f2, m2⟩ := row_forms HR.out.1
      have i0 : (0 : Int) ≤ (j : Int) := by omega
      have p0 := Int.emod_nonneg x.p (show (j : Int) + 1 ≠ 0 by omega)
      have p1 := Int.emod_lt_of_pos x.p (show (0 : Int) < (j : Int) + 1 by omega)
      obtain ⟨pn, hP⟩ : ∃ pn : Nat, x.p % ((j : Int) + 1) = (pn : Int) := ⟨(x.p % ((j : Int) + 1)).toNat, (Int.toNat_of_nonneg p0).symm⟩
      rw [hP] at p0 p1
      go_upto_region 7 with (fail)
      try simp only [hP]
      have HS1 := Lib.hid (show TimesS w s f (some cad) cs.length c wr.heap.size x (wr.alloc (.cells x.cells.toArray 234)) from ⟨HB.out.below (below_alloc _ _), heap_alloc_last _ _, cell_blk (heap_alloc_last _ _) 7 rfl⟩)
      have HR1 := Lib.hid (HR.out.below (below_alloc wr (.cells x.cells.toArray 234)))
      obtain ⟨r2, i2⟩ := row_lies HR1.out.1
      have hq : wr.heap.size < (wr.alloc (.cells x.cells.toArray 234)).heap.size := by simp
      have y6 : (wr.alloc (.cells x.cells.toArray 234)).cell? ⟨wr.heap.size, 6, none⟩ = some (.int .u8 x.w) := cell_blk (heap_alloc_last _ _) 6 rfl
      unfold CallD.cells at HS1 HR1 i2 hq y6
      clear HB HR b0 b1 b2 z0 c0 c1 c2 c3 c4 c5 c6 c7 c8 c9 c10 hw
      generalize wr.alloc _ = W1 at *
      generalize wr.heap.size = q at *
      clear wr
      by_cases hpj : pn < j
      · obtain ⟨ad2, rfl, y2⟩ := i2 pn (by omega)
        have q1 : (pn : Int) < (j : Int) := by omega
        have q2 : (0 : Int) < (j : Int) := by omega
        generalize xs[pn] = y at *
        go_upto_region 11 with (fail)
        generalize wrap64 (y + x.w % 32) = t
        try generalize decide (0 < j) = dj
        clear i2 y6
        clear f2 m2
        have HRd := Lib.hid (HR1.out.below (below_drew _))
        have HS2 : Hid (TimesS w s f (some cad) cs.length c q x W1) := HS1
        clear HS1
        refine wp_region_held_drew (S := (fun W => TimesS w s f (some cad) cs.length c q x W)) (by kernel_rfl) (HS2.out.below (below_drew _)) (fun hHeld => ?_)
        refine wpAnyH_take (i := 0) (oi := { dst := some 48, op := Op.move (Operand.tmp 2), type := 57, pos := "world.go:66", after := #[], guard := none }) (v := ?_) rfl (by kernel_rfl) (by kernel_rfl) (by kernel_rfl) (fun _ _ _ h => h) (Or.inl ⟨by rfl, ?_⟩) hHeld ?_
        rotate_left
        · intro W hSw; (try dsimp only at hSw); unfold TimesS TimesB at hSw; go_simp; try with_reducible rfl
        try simp only [Act.put, List.setIfInBounds_toArray, List.set_cons_zero, List.set_cons_succ]
        refine wpAnyH_take (i := 1) (oi := { dst := some 49, op := Op.move (Operand.tmp 6), type := 3, pos := "world.go:66", after := #[], guard := none }) (v := ?_) rfl (by kernel_rfl) (by kernel_rfl) (by kernel_rfl) (fun _ _ _ h => h) (Or.inl ⟨by rfl, ?_⟩) hHeld ?_
        rotate_left
        · intro W hSw; (try dsimp only at hSw); unfold TimesS TimesB at hSw; go_simp; try with_reducible rfl
        try simp only [Act.put, List.setIfInBounds_toArray, List.set_cons_zero, List.set_cons_succ]
        refine wpAnyH_take (i := 4) (oi := { dst := some 52, op := Op.move (Operand.tmp 3), type := 57, pos := "world.go:66", after := #[], guard := none }) (v := ?_) rfl (by kernel_rfl) (by kernel_rfl) (by kernel_rfl) (fun _ _ _ h => h) (Or.inl ⟨by rfl, ?_⟩) hHeld ?_
        rotate_left
        · intro W hSw; (try dsimp only at hSw); unfold TimesS TimesB at hSw; go_simp; try with_reducible rfl
        try simp only [Act.put, List.setIfInBounds_toArray, List.set_cons_zero, List.set_cons_succ]
        refine wpAnyH_take (i := 5) (oi := { dst := some 53, op := Op.move (Operand.tmp 6), type := 3, pos := "world.go:66", after := #[], guard := none }) (v := ?_) rfl (by kernel_rfl) (by kernel_rfl) (by kernel_rfl) (fun _ _ _ h => h) (Or.inl ⟨by rfl, ?_⟩) hHeld ?_
        rotate_left
        · intro W hSw; (try dsimp only at hSw); unfold TimesS TimesB at hSw; go_simp; try with_reducible rfl
        try simp only [Act.put, List.setIfInBounds_toArray, List.set_cons_zero, List.set_cons_succ]
        refine wpAnyH_take (i := 6) (oi := { dst := some 54, op := Op.fieldAddr 234 (Operand.tmp 5) 7, type := 0, pos := "world.go:66", after := #[], guard := none }) (v := ?_) rfl (by kernel_rfl) (by kernel_rfl) (by kernel_rfl) (fun _ _ _ h => h) (Or.inl ⟨by rfl, ?_⟩) hHeld ?_
        rotate_left
        · intro W hSw; (try dsimp only at hSw); unfold TimesS TimesB at hSw; go_simp; try with_reducible rfl
        try simp only [Act.put, List.setIfInBounds_toArray, List.set_cons_zero, List.set_cons_succ]
        refine wpAnyH_take (i := 7) (oi := { dst := some 55, op := Op.load 5 (Operand.tmp 54), type := 5, pos := "world.go:66", after := #[{ on := 6, ground := Ground.data }], guard := none }) (v := ?_) rfl (by kernel_rfl) (by kernel_rfl) (by kernel_rfl) (fun _ _ _ h => h) (Or.inl ⟨by rfl, ?_⟩) hHeld ?_
        rotate_left
        · intro W hSw; (try dsimp only at hSw); unfold TimesS TimesB at hSw; go_simp; try with_reducible rfl
        try simp only [Act.put, List.setIfInBounds_toArray, List.set_cons_zero, List.set_cons_succ]
        refine wpAnyH_take (i := 8) (oi := { dst := some 56, op := Op.binOp BinOp.rem 5 (Operand.tmp 55) (Operand.const (Value.int IntKind.u8 32)) 5, type := 5, pos := "world.go:66", after := #[{ on := 7, ground := Ground.data }], guard := none }) (v := ?_) rfl (by kernel_rfl) (by kernel_rfl) (by kernel_rfl) (fun _ _ _ h => h) (Or.inl ⟨by rfl, ?_⟩) hHeld ?_
        rotate_left
        · intro W hSw; (try dsimp only at hSw); unfold TimesS TimesB at hSw; go_simp; try with_reducible rfl
        try simp only [Act.put, List.setIfInBounds_toArray, List.set_cons_zero, List.set_cons_succ]
        refine wpAnyH_take (i := 9) (oi := { dst := some 57, op := Op.convert 5 3 (Operand.tmp 56), type := 3, pos := "world.go:66", after := #[{ on := 8, ground := Ground.data }], guard := none }) (v := ?_) rfl (by kernel_rfl) (by kernel_rfl) (by kernel_rfl) (fun _ _ _ h => h) (Or.inl ⟨by rfl, ?_⟩) hHeld ?_
        rotate_left
        · intro W hSw; (try dsimp only at hSw); unfold TimesS TimesB at hSw; go_simp; try with_reducible rfl
        try simp only [Act.put, List.setIfInBounds_toArray, List.set_cons_zero, List.set_cons_succ]
        refine wpAnyH_take (i := 10) (oi := { dst := some 58, op := Op.binOp BinOp.add 3 (Operand.tmp 53) (Operand.tmp 57) 3, type := 3, pos := "world.go:66", after := #[{ on := 5, ground := Ground.data }, { on := 9, ground := Ground.data }], guard := none }) (v := ?_) rfl (by kernel_rfl) (by kernel_rfl) (by kernel_rfl) (fun _ _ _ h => h) (Or.inl ⟨by rfl, ?_⟩) hHeld ?_
        rotate_left
        · intro W hSw; (try dsimp only at hSw); unfold TimesS TimesB at hSw; go_simp; try with_reducible rfl
        try simp only [Act.put, List.setIfInBounds_toArray, List.set_cons_zero, List.set_cons_succ]
        refine wpAnyH_rest [2, 3, 11, 12, 13, 14] (TimesI (TimesS w s f (some cad) cs.length c q x) (w.heap.size + 1) j (.slice (some ad2) j k2) u3 xs ys t (IntKind.i64.wrap (t + IntKind.i64.wrap (x.l.tmod 32)))) (by kernel_rfl) rfl (by kernel_rfl) (by kernel_rfl) (by kernel_rfl) ?_ (fun _ _ _ h => h.1) ?_ ?_
        · intro L hL
          have g : ∀ k ∈ [2, 3, 11, 12, 13, 14], L k → False := fun k hk h => hL k hk h
          refine ⟨hHeld, ?x50, ?x51, ?x59, ?x60, .slice (some ad2) j k2, u3, ?eq, Nat.succ_le_of_lt hHeld.1.sizes, fun h => (g 3 (by simp) h).elim, fun h => (g 12 (by simp) h).elim, fun _ => ⟨HRd.out.1, HRd.out.2.2⟩, fun _ => HRd.out.2.1, fun h => (g 2 (by simp) h).elim, fun h => (g 11 (by simp) h).elim, fun h => (g 3 (by simp) h).elim, fun h => (g 12 (by simp) h).elim, fun h => (g 13 (by simp) h).elim, fun h => (g 14 (by simp) h).elim, fun h => (g 13 (by simp) h).elim, fun h => (g 14 (by simp) h).elim⟩
          case eq =>
            simp only [Act.put, List.setIfInBounds_toArray, List.set_cons_zero, List.set_cons_succ]
            try rfl
        · intro i0 hi0
          simp only [List.mem_cons, List.not_mem_nil, or_false] at hi0
          rcases hi0 with rfl | rfl | rfl | rfl | rfl | rfl
          · intro L A W o hI ho hn hd
            obtain rfl : { dst := some 50, op := Op.buildSlice 57 1 #[(0, Operand.tmp 49)], type := 57, pos := "world.go:66", after := #[{ on := 1, ground := Ground.data }], guard := none } = o := Option.some.inj ho
            obtain ⟨hS, x50, x51, x59, x60, x2, x3, rfl, hsz, h32, h12, hA, hB, hC, hD, hE, hF, hG, hH, hI, hJ⟩ := hI
            simp only [Act.put, List.setIfInBounds_toArray, List.set_cons_zero, List.set_cons_succ]
            refine wpOp_step (o := { dst := some 50, op := Op.buildSlice 57 1 #[(0, Operand.tmp 49)], type := 57, pos := "world.go:66", after := #[{ on := 1, ground := Ground.data }], guard := none }) rfl (fun K hK => ?_)
            rw [if_pos (by rfl)]
            have n3 : ¬ L 3 := fun h => hn (h32 h)
            have n12 : ¬ L 12 := fun h => n3 (h12 h).2
            go_simp
            refine hK _ _ ⟨hS.below (below_alloc _ _), .slice (some ⟨W.heap.size, 0, none⟩) 1 1, x51, x59, x60, x2, x3, ?_, by simp; omega, fun h => absurd (h.resolve_right (by decide)) n3, fun h => absurd (h.resolve_right (by decide)) n12, fun _ => ⟨(hA n3).1.alloc _, (hA n3).2⟩, fun _ => (hB n12).alloc _, fun _ _ => ⟨W.heap.size, rfl, heap_alloc_last _ _⟩, fun h _ => ?_, fun h => absurd (h.resolve_right (by decide)) n3, fun h => absurd (h.resolve_right (by decide)) n12, fun h => absurd (hI (h.resolve_right (by decide))) n12, fun h => absurd (hI (hJ (h.resolve_right (by decide)))) n12, fun h => absurd (hI (h.resolve_right (by decide))) n12, fun h => absurd (hI (hJ (h.resolve_right (by decide)))) n12⟩
            · simp only [Act.put, List.setIfInBounds_toArray, List.set_cons_zero, List.set_cons_succ]
            · obtain ⟨g, e1, e2, e3⟩ := hD (h.resolve_right (by decide)) n12
              exact ⟨g, e1, heap_alloc_old e2, fun _ => e3 n3⟩
          · intro L A W o hI ho hn hd
            obtain rfl : { dst := some 51, op := Op.call { callee := Callee.builtin Builtin.append, args := #[Operand.tmp 48, Operand.tmp 50], argTypes := #[57, 57] }, type := 57, pos := "world.go:66", after := #[{ on := 0, ground := Ground.data }, { on := 2, ground := Ground.data }], guard := none } = o := Option.some.inj ho
            obtain ⟨hS, x50, x51, x59, x60, x2, x3, rfl, hsz, h32, h12, hA, hB, hC, hD, hE, hF, hG, hH, hI, hJ⟩ := hI
            simp only [Act.put, List.setIfInBounds_toArray, List.set_cons_zero, List.set_cons_succ]
            refine wpOp_step (o := { dst := some 51, op := Op.call { callee := Callee.builtin Builtin.append, args := #[Operand.tmp 48, Operand.tmp 50], argTypes := #[57, 57] }, type := 57, pos := "world.go:66", after := #[{ on := 0, ground := Ground.data }, { on := 2, ground := Ground.data }], guard := none }) rfl (fun K hK => ?_)
            rw [if_pos (by rfl)]
            have l2 : L 2 := hd { on := 2, ground := Ground.data } (by simp) rfl (by simp)
            have n12 : ¬ L 12 := fun h => hn (h12 h).2
            obtain ⟨g2, rfl, e2⟩ := hC l2 hn
            obtain ⟨o2, hne⟩ := hA hn
            have o3 := hB n12
            refine wp_append_lies W (.tmp 48) (.tmp 50) 57 rfl (w.heap.size + 1) 3 i3 z3 1 8 Tryz.underlying57 hi3 hi3z hi3s hi3b hi3c (by decide) (.slice (some ad2) j k2) j (ints xs) rfl o2 ⟨g2, 0, none⟩ 1 1 [.int .i64 t] rfl rfl (World.news_of_block e2) (by intro u hu; simp only [List.mem_singleton] at hu; subst hu; rfl) (by decide) (by unfold maxLen; omega) (by omega) hsz _ rfl ?_
            intro g cap w1 hown hgr hat hlt
            rw [ints_app] at hown
            have h63 : Value.ownBlock (.slice (some ⟨g, 0, none⟩) (j + 1) cap) ≠ u3.ownBlock := by
              rcases hat with h | h
              · rw [show Value.ownBlock (.slice (some ⟨g, 0, none⟩) (j + 1) cap) = some g from rfl, ← h]
                exact hne.resolve_left (by rw [h]; simp)
              · intro h'
                have := (o3.lt g h'.symm).2
                omega
            refine hK _ _ ⟨hS.row o2 hgr, .slice (some ⟨g2, 0, none⟩) 1 1, .slice (some ⟨g, 0, none⟩) (j + 1) cap, x59, x60, x2, x3, ?_, by have := hgr.size; omega, fun _ => .inl l2, fun h => absurd (h.resolve_right (by decide)) n12, fun h => absurd (.inr rfl) h, fun _ => o3.kept hgr (rows_ne hne), fun _ h => absurd (.inr rfl) h, fun h _ => ?_, fun _ => ⟨hown, fun _ => h63⟩, fun h => absurd (h.resolve_right (by decide)) n12, fun h => absurd (hI (h.resolve_right (by decide))) n12, fun h => absurd (hI (hJ (h.resolve_right (by decide)))) n12, fun h => absurd (hI (h.resolve_right (by decide))) n12, fun h => absurd (hI (hJ (h.resolve_right (by decide)))) n12⟩
            · simp only [Act.put, List.setIfInBounds_toArray, List.set_cons_zero, List.set_cons_succ]
            · obtain ⟨g, e1, e2, e3⟩ := hD (h.resolve_right (by decide)) n12
              exact ⟨g, e1, blk_grown hgr e2 (e3 hn), fun h => absurd (.inr rfl) h⟩
          · intro L A W o hI ho hn hd
            obtain rfl : { dst := some 59, op := Op.buildSlice 57 1 #[(0, Operand.tmp 58)], type := 57, pos := "world.go:66", after := #[{ on := 10, ground := Ground.data }], guard := none } = o := Option.some.inj ho
            obtain ⟨hS, x50, x51, x59, x60, x2, x3, rfl, hsz, h32, h12, hA, hB, hC, hD, hE, hF, hG, hH, hI, hJ⟩ := hI
            simp only [Act.put, List.setIfInBounds_toArray, List.set_cons_zero, List.set_cons_succ]
            refine wpOp_step (o := { dst := some 59, op := Op.buildSlice 57 1 #[(0, Operand.tmp 58)], type := 57, pos := "world.go:66", after := #[{ on := 10, ground := Ground.data }], guard := none }) rfl (fun K hK => ?_)
            rw [if_pos (by rfl)]
            have n12 : ¬ L 12 := fun h => hn (h12 h).1
            go_simp
            refine hK _ _ ⟨hS.below (below_alloc _ _), x50, x51, .slice (some ⟨W.heap.size, 0, none⟩) 1 1, x60, x2, x3, ?_, by simp; omega, fun h => .inl (h32 (h.resolve_right (by decide))), fun h => absurd (h.resolve_right (by decide)) n12, fun h => ⟨(hA fun l => h (.inl l)).1.alloc _, (hA fun l => h (.inl l)).2⟩, fun _ => (hB n12).alloc _, fun h h' => ?_, fun _ _ => ⟨W.heap.size, rfl, heap_alloc_last _ _, fun h e => ?_⟩, fun h => ⟨(hE (h.resolve_right (by decide))).1.alloc _, fun _ => (hE (h.resolve_right (by decide))).2 n12⟩, fun h => absurd (h.resolve_right (by decide)) n12, fun h => absurd (hI (h.resolve_right (by decide))) n12, fun h => absurd (hI (hJ (h.resolve_right (by decide)))) n12, fun h => absurd (hI (h.resolve_right (by decide))) n12, fun h => absurd (hI (hJ (h.resolve_right (by decide)))) n12⟩
            · simp only [Act.put, List.setIfInBounds_toArray, List.set_cons_zero, List.set_cons_succ]
            · obtain ⟨g, e1, e2⟩ := hC (h.resolve_right (by decide)) (fun l => h' (.inl l))
              exact ⟨g, e1, heap_alloc_old e2⟩
            · have := ((hA fun l => h (.inl l)).1.lt _ e).2
              omega
          · intro L A W o hI ho hn hd
            obtain rfl : { dst := some 60, op := Op.call { callee := Callee.builtin Builtin.append, args := #[Operand.tmp 52, Operand.tmp 59], argTypes := #[57, 57] }, type := 57, pos := "world.go:66", after := #[{ on := 4, ground := Ground.data }, { on := 11, ground := Ground.data }, { on := 3, ground := Ground.chain }], guard := none } = o := Option.some.inj ho
            obtain ⟨hS, x50, x51, x59, x60, x2, x3, rfl, hsz, h32, h12, hA, hB, hC, hD, hE, hF, hG, hH, hI, hJ⟩ := hI
            simp only [Act.put, List.setIfInBounds_toArray, List.set_cons_zero, List.set_cons_succ]
            refine wpOp_step (o := { dst := some 60, op := Op.call { callee := Callee.builtin Builtin.append, args := #[Operand.tmp 52, Operand.tmp 59], argTypes := #[57, 57] }, type := 57, pos := "world.go:66", after := #[{ on := 4, ground := Ground.data }, { on := 11, ground := Ground.data }, { on := 3, ground := Ground.chain }], guard := none }) rfl (fun K hK => ?_)
            rw [if_pos (by rfl)]
            have l11 : L 11 := hd { on := 11, ground := Ground.data } (by simp) rfl (by simp)
            have l3 : L 3 := hd { on := 3, ground := Ground.chain } (by simp) rfl (by simp)
            obtain ⟨g2, rfl, e2, e3⟩ := hD l11 hn
            have o3 := hB hn
            obtain ⟨o2, hne⟩ := hE l3
            refine wp_append_lies W (.tmp 52) (.tmp 59) 57 rfl (w.heap.size + 1) 3 i3 z3 1 8 Tryz.underlying57 hi3 hi3z hi3s hi3b hi3c (by decide) u3 j (ints ys) rfl o3 ⟨g2, 0, none⟩ 1 1 [.int .i64 (IntKind.i64.wrap (t + IntKind.i64.wrap (x.l.tmod 32)))] rfl rfl (World.news_of_block e2) (by intro u hu; simp only [List.mem_singleton] at hu; subst hu; rfl) (by decide) (by unfold maxLen; omega) (by omega) hsz _ rfl ?_
            intro g cap w1 hown hgr hat hlt
            rw [ints_app] at hown
            have hne := hne hn
            have h63 : x51.ownBlock ≠ Value.ownBlock (.slice (some ⟨g, 0, none⟩) (j + 1) cap) := by
              rcases hat with h | h
              · rw [show Value.ownBlock (.slice (some ⟨g, 0, none⟩) (j + 1) cap) = some g from rfl, ← h]
                exact hne
              · intro h'
                have := (o2.lt g h').2
                omega
            refine hK _ _ ⟨hS.row o3 hgr, x50, x51, .slice (some ⟨g2, 0, none⟩) 1 1, .slice (some ⟨g, 0, none⟩) (j + 1) cap, x2, x3, ?_, by have := hgr.size; omega, fun h => .inl (h32 (h.resolve_right (by decide))), fun _ => ⟨.inl l11, .inl l3⟩, fun h => absurd (.inl l3) h, fun h => absurd (.inr rfl) h, fun _ h => absurd (.inl l3) h, fun _ h => absurd (.inr rfl) h, fun _ => ⟨o2.kept hgr (.inr hne), fun h => absurd (.inr rfl) h⟩, fun _ => ⟨hown, h63⟩, fun h => absurd (hI (h.resolve_right (by decide))) hn, fun h => absurd (hI (hJ (h.resolve_right (by decide)))) hn, fun h => absurd (hI (h.resolve_right (by decide))) hn, fun h => absurd (hI (hJ (h.resolve_right (by decide)))) hn⟩
            simp only [Act.put, List.setIfInBounds_toArray, List.set_cons_zero, List.set_cons_succ]
          · intro L A W o hI ho hn hd
            obtain rfl : { dst := some 2, op := Op.assign (Operand.tmp 51), type := 57, pos := "world.go:66", after := #[{ on := 3, ground := Ground.data }, { on := 12, ground := Ground.chain }, { on := 0, ground := Ground.phase }, { on := 1, ground := Ground.phase }, { on := 2, ground := Ground.phase }, { on := 3, ground := Ground.phase }, { on := 4, ground := Ground.textOnly Departure.lateStores }, { on := 5, ground := Ground.textOnly Departure.lateStores }, { on := 6, ground := Ground.textOnly Departure.lateStores }, { on := 7, ground := Ground.textOnly Departure.lateStores }, { on := 8, ground := Ground.textOnly Departure.lateStores }, { on := 9, ground := Ground.textOnly Departure.lateStores }, { on := 10, ground := Ground.textOnly Departure.lateStores }, { on := 11, ground := Ground.textOnly Departure.lateStores }, { on := 12, ground := Ground.textOnly Departure.lateStoresUnsure }], guard := none } = o := Option.some.inj ho
            obtain ⟨hS, x50, x51, x59, x60, x2, x3, rfl, hsz, h32, h12, hA, hB, hC, hD, hE, hF, hG, hH, hI, hJ⟩ := hI
            simp only [Act.put, List.setIfInBounds_toArray, List.set_cons_zero, List.set_cons_succ]
            refine wpOp_step (o := { dst := some 2, op := Op.assign (Operand.tmp 51), type := 57, pos := "world.go:66", after := #[{ on := 3, ground := Ground.data }, { on := 12, ground := Ground.chain }, { on := 0, ground := Ground.phase }, { on := 1, ground := Ground.phase }, { on := 2, ground := Ground.phase }, { on := 3, ground := Ground.phase }, { on := 4, ground := Ground.textOnly Departure.lateStores }, { on := 5, ground := Ground.textOnly Departure.lateStores }, { on := 6, ground := Ground.textOnly Departure.lateStores }, { on := 7, ground := Ground.textOnly Departure.lateStores }, { on := 8, ground := Ground.textOnly Departure.lateStores }, { on := 9, ground := Ground.textOnly Departure.lateStores }, { on := 10, ground := Ground.textOnly Departure.lateStores }, { on := 11, ground := Ground.textOnly Departure.lateStores }, { on := 12, ground := Ground.textOnly Departure.lateStoresUnsure }], guard := none }) rfl (fun K hK => ?_)
            rw [if_pos (by rfl)]
            have l12 : L 12 := hd { on := 12, ground := Ground.chain } (by simp) rfl (by simp)
            have l3 := (h12 l12).2
            go_simp
            refine hK _ _ ⟨hS, x50, x51, x59, x60, x51, x3, ?_, hsz, fun h => .inl (h32 (h.resolve_right (by decide))), fun h => (h12 (h.resolve_right (by decide))).imp .inl .inl, fun h => absurd (.inl l3) h, fun h => absurd (.inl l12) h, fun _ h => absurd (.inl l3) h, fun _ h => absurd (.inl l12) h, fun _ => ⟨(hE l3).1, fun h => absurd (.inl l12) h⟩, fun _ => hF l12, fun _ => rfl, fun h => absurd (hJ (h.resolve_right (by decide))) hn, fun _ => .inl l12, fun h => absurd (hJ (h.resolve_right (by decide))) hn⟩
            simp only [Act.put, List.setIfInBounds_toArray, List.set_cons_zero, List.set_cons_succ]
          · intro L A W o hI ho hn hd
            obtain rfl : { dst := some 3, op := Op.assign (Operand.tmp 60), type := 57, pos := "world.go:66", after := #[{ on := 12, ground := Ground.data }, { on := 13, ground := Ground.chain }, { on := 0, ground := Ground.phase }, { on := 1, ground := Ground.phase }, { on := 2, ground := Ground.phase }, { on := 3, ground := Ground.phase }, { on := 4, ground := Ground.phase }, { on := 5, ground := Ground.phase }, { on := 6, ground := Ground.phase }, { on := 7, ground := Ground.phase }, { on := 8, ground := Ground.phase }, { on := 9, ground := Ground.phase }, { on := 10, ground := Ground.phase }, { on := 11, ground := Ground.phase }, { on := 12, ground := Ground.phase }, { on := 13, ground := Ground.phase }], guard := none } = o := Option.some.inj ho
            obtain ⟨hS, x50, x51, x59, x60, x2, x3, rfl, hsz, h32, h12, hA, hB, hC, hD, hE, hF, hG, hH, hI, hJ⟩ := hI
            simp only [Act.put, List.setIfInBounds_toArray, List.set_cons_zero, List.set_cons_succ]
            refine wpOp_step (o := { dst := some 3, op := Op.assign (Operand.tmp 60), type := 57, pos := "world.go:66", after := #[{ on := 12, ground := Ground.data }, { on := 13, ground := Ground.chain }, { on := 0, ground := Ground.phase }, { on := 1, ground := Ground.phase }, { on := 2, ground := Ground.phase }, { on := 3, ground := Ground.phase }, { on := 4, ground := Ground.phase }, { on := 5, ground := Ground.phase }, { on := 6, ground := Ground.phase }, { on := 7, ground := Ground.phase }, { on := 8, ground := Ground.phase }, { on := 9, ground := Ground.phase }, { on := 10, ground := Ground.phase }, { on := 11, ground := Ground.phase }, { on := 12, ground := Ground.phase }, { on := 13, ground := Ground.phase }], guard := none }) rfl (fun K hK => ?_)
            rw [if_pos (by rfl)]
            have l12 : L 12 := hd { on := 12, ground := Ground.data } (by simp) rfl (by simp)
            have l13 : L 13 := hd { on := 13, ground := Ground.chain } (by simp) rfl (by simp)
            have l3 := (h12 l12).2
            go_simp
            refine hK _ _ ⟨hS, x50, x51, x59, x60, x2, x60, ?_, hsz, fun h => .inl (h32 (h.resolve_right (by decide))), fun h => (h12 (h.resolve_right (by decide))).imp .inl .inl, fun h => absurd (.inl l3) h, fun h => absurd (.inl l12) h, fun _ h => absurd (.inl l3) h, fun _ h => absurd (.inl l12) h, fun _ => ⟨(hE l3).1, fun h => absurd (.inl l12) h⟩, fun _ => hF l12, fun h => hG (h.resolve_right (by decide)), fun _ => rfl, fun h => .inl (hI (h.resolve_right (by decide))), fun _ => .inl l13⟩
            simp only [Act.put, List.setIfInBounds_toArray, List.set_cons_zero, List.set_cons_succ]
        · intro L A W hI ha
          obtain ⟨hS, x50, x51, x59, x60, x2, x3, rfl, hsz, h32, h12, hA, hB, hC, hD, hE, hF, hG, hH, hI, hJ⟩ := hI
          obtain rfl := hG (ha 13 (by simp))
          obtain rfl := hH (ha 14 (by simp))
          have hr1 := (hE (ha 3 (by simp))).1
          have hr2 := (hF (ha 12 (by simp)))
          have HR9 := Lib.hid (show Rows2 (w.heap.size + 1) (j + 1) x2 x3 (xs ++ [t]) (ys ++ [IntKind.i64.wrap (t + IntKind.i64.wrap (x.l.tmod 32))]) W from ⟨hr1, hr2.1, .inr hr2.2⟩)
          have HB9 := Lib.hid hS.1
          clear h32 h12 hA hB hC hD hE hF hG hH hI hJ ha hHeld
          simp only [Act.put, List.setIfInBounds_toArray, List.set_cons_zero, List.set_cons_succ]
          go_wp2_with fail
          exact ⟨⟨j + 1, _, _, by omega, by go_num, HB9, HR9⟩, by simp [intOf]; omega⟩
      · have q1 : ¬ (pn : Int) < (j : Int) := by omega
        by_cases hj0 : (0 : Int) < (j : Int)
        · go_upto_region 11 with (fail)
          generalize 1000 + f % 32 + x.w % 32 = t
          try generalize decide (0 < j) = dj
          clear i2 y6
          clear f2 m2
          have HRd := Lib.hid (HR1.out.below (below_drew _))
          have HS2 : Hid (TimesS w s f (some cad) cs.length c q x W1) := HS1
          clear HS1
          refine wp_region_held_drew (S := (fun W => TimesS w s f (some cad) cs.length c q x W)) (by kernel_rfl) (HS2.out.below (below_drew _)) (fun hHeld => ?_)
          refine wpAnyH_take (i := 0) (oi := { dst := some 48, op := Op.move (Operand.tmp 2), type := 57, pos := "world.go:66", after := #[], guard := none }) (v := ?_) rfl (by kernel_rfl) (by kernel_rfl) (by kernel_rfl) (fun _ _ _ h => h) (Or.inl ⟨by rfl, ?_⟩) hHeld ?_
          rotate_left
          · intro W hSw; (try dsimp only at hSw); unfold TimesS TimesB at hSw; go_simp; try with_reducible rfl
          try simp only [Act.put, List.setIfInBounds_toArray, List.set_cons_zero, List.set_cons_succ]
          refine wpAnyH_take (i := 1) (oi := { dst := some 49, op := Op.move (Operand.tmp 6), type := 3, pos := "world.go:66", after := #[], guard := none }) (v := ?_) rfl (by kernel_rfl) (by kernel_rfl) (by kernel_rfl) (fun _ _ _ h => h) (Or.inl ⟨by rfl, ?_⟩) hHeld ?_
          rotate_left
          · intro W hSw; (try dsimp only at hSw); unfold TimesS TimesB at hSw; go_simp; try with_reducible rfl
          try simp only [Act.put, List.setIfInBounds_toArray, List.set_cons_zero, List.set_cons_succ]
          refine wpAnyH_take (i := 4) (oi := { dst := some 52, op := Op.move (Operand.tmp 3), type := 57, pos := "world.go:66", after := #[], guard := none }) (v := ?_) rfl (by kernel_rfl) (by kernel_rfl) (by kernel_rfl) (fun _ _ _ h => h) (Or.inl ⟨by rfl, ?_⟩) hHeld ?_
          rotate_left
          · intro W hSw; (try dsimp only at hSw); unfold TimesS TimesB at hSw; go_simp; try with_reducible rfl
          try simp only [Act.put, List.setIfInBounds_toArray, List.set_cons_zero, List.set_cons_succ]
          refine wpAnyH_take (i := 5) (oi := { dst := some 53, op := Op.move (Operand.tmp 6), type := 3, pos := "world.go:66", after := #[], guard := none }) (v := ?_) rfl (by kernel_rfl) (by kernel_rfl) (by kernel_rfl) (fun _ _ _ h => h) (Or.inl ⟨by rfl, ?_⟩) hHeld ?_
          rotate_left
          · intro W hSw; (try dsimp only at hSw); unfold TimesS TimesB at hSw; go_simp; try with_reducible rfl
          try simp only [Act.put, List.setIfInBounds_toArray, List.set_cons_zero, List.set_cons_succ]
          refine wpAnyH_take (i := 6) (oi := { dst := some 54, op := Op.fieldAddr 234 (Operand.tmp 5) 7, type := 0, pos := "world.go:66", after := #[], guard := none }) (v := ?_) rfl (by kernel_rfl) (by kernel_rfl) (by kernel_rfl) (fun _ _ _ h => h) (Or.inl ⟨by rfl, ?_⟩) hHeld ?_
          rotate_left
          · intro W hSw; (try dsimp only at hSw); unfold TimesS TimesB at hSw; go_simp; try with_reducible rfl
          try simp only [Act.put, List.setIfInBounds_toArray, List.set_cons_zero, List.set_cons_succ]
          refine wpAnyH_take (i := 7) (oi := { dst := some 55, op := Op.load 5 (Operand.tmp 54), type := 5, pos := "world.go:66", after := #[{ on := 6, ground := Ground.data }], guard := none }) (v := ?_) rfl (by kernel_rfl) (by kernel_rfl) (by kernel_rfl) (fun _ _ _ h => h) (Or.inl ⟨by rfl, ?_⟩) hHeld ?_
          rotate_left
          · intro W hSw; (try dsimp only at hSw); unfold TimesS TimesB at hSw; go_simp; try with_reducible rfl
          try simp only [Act.put, List.setIfInBounds_toArray, List.set_cons_zero, List.set_cons_succ]
          refine wpAnyH_take (i := 8) (oi := { dst := some 56, op := Op.binOp BinOp.rem 5 (Operand.tmp 55) (Operand.const (Value.int IntKind.u8 32)) 5, type := 5, pos := "world.go:66", after := #[{ on := 7, ground := Ground.data }], guard := none }) (v := ?_) rfl (by kernel_rfl) (by kernel_rfl) (by kernel_rfl) (fun _ _ _ h => h) (Or.inl ⟨by rfl, ?_⟩) hHeld ?_
          rotate_left
          · intro W hSw; (try dsimp only at hSw); unfold TimesS TimesB at hSw; go_simp; try with_reducible rfl
          try simp only [Act.put, List.setIfInBounds_toArray, List.set_cons_zero, List.set_cons_succ]
          refine wpAnyH_take (i := 9) (oi := { dst := some 57, op := Op.convert 5 3 (Operand.tmp 56), type := 3, pos := "world.go:66", after := #[{ on := 8, ground := Ground.data }], guard := none }) (v := ?_) rfl (by kernel_rfl) (by kernel_rfl) (by kernel_rfl) (fun _ _ _ h => h) (Or.inl ⟨by rfl, ?_⟩) hHeld ?_
          rotate_left
          · intro W hSw; (try dsimp only at hSw); unfold TimesS TimesB at hSw; go_simp; try with_reducible rfl
          try simp only [Act.put, List.setIfInBounds_toArray, List.set_cons_zero, List.set_cons_succ]
          refine wpAnyH_take (i := 10) (oi := { dst := some 58, op := Op.binOp BinOp.add 3 (Operand.tmp 53) (Operand.tmp 57) 3, type := 3, pos := "world.go:66", after := #[{ on := 5, ground := Ground.data }, { on := 9, ground := Ground.data }], guard := none }) (v := ?_) rfl (by kernel_rfl) (by kernel_rfl) (by kernel_rfl) (fun _ _ _ h => h) (Or.inl ⟨by rfl, ?_⟩) hHeld ?_
          rotate_left
          · intro W hSw; (try dsimp only at hSw); unfold TimesS TimesB at hSw; go_simp; try with_reducible rfl
          try simp only [Act.put, List.setIfInBounds_toArray, List.set_cons_zero, List.set_cons_succ]
          refine wpAnyH_rest [2, 3, 11, 12, 13, 14] (TimesI (TimesS w s f (some cad) cs.length c q x) (w.heap.size + 1) j (.slice a2 j k2) u3 xs ys t (IntKind.i64.wrap (t + IntKind.i64.wrap (x.l.tmod 32)))) (by kernel_rfl) rfl (by kernel_rfl) (by kernel_rfl) (by kernel_rfl) ?_ (fun _ _ _ h => h.1) ?_ ?_
          · intro L hL
            have g : ∀ k ∈ [2, 3, 11, 12, 13, 14], L k → False := fun k hk h => hL k hk h
            refine ⟨hHeld, ?x50, ?x51, ?x59, ?x60, .slice a2 j k2, u3, ?eq, Nat.succ_le_of_lt hHeld.1.sizes, fun h => (g 3 (by simp) h).elim, fun h => (g 12 (by simp) h).elim, fun _ => ⟨HRd.out.1, HRd.out.2.2⟩, fun _ => HRd.out.2.1, fun h => (g 2 (by simp) h).elim, fun h => (g 11 (by simp) h).elim, fun h => (g 3 (by simp) h).elim, fun h => (g 12 (by simp) h).elim, fun h => (g 13 (by simp) h).elim, fun h => (g 14 (by simp) h).elim, fun h => (g 13 (by simp) h).elim, fun h => (g 14 (by simp) h).elim⟩
            case eq =>
              simp only [Act.put, List.setIfInBounds_toArray, List.set_cons_zero, List.set_cons_succ]
              try rfl
          · intro i0 hi0
            simp only [List.mem_cons, List.not_mem_nil, or_false] at hi0
            rcases hi0 with rfl | rfl | rfl | rfl | rfl | rfl
            · intro L A W o hI ho hn hd
              obtain rfl : { dst := some 50, op := Op.buildSlice 57 1 #[(0, Operand.tmp 49)], type := 57, pos := "world.go:66", after := #[{ on := 1, ground := Ground.data }], guard := none } = o := Option.some.inj ho
              obtain ⟨hS, x50, x51, x59, x60, x2, x3, rfl, hsz, h32, h12, hA, hB, hC, hD, hE, hF, hG, hH, hI, hJ⟩ := hI
              simp only [Act.put, List.setIfInBounds_toArray, List.set_cons_zero, List.set_cons_succ]
              refine wpOp_step (o := { dst := some 50, op := Op.buildSlice 57 1 #[(0, Operand.tmp 49)], type := 57, pos := "world.go:66", after := #[{ on := 1, ground := Ground.data }], guard := none }) rfl (fun K hK => ?_)
              rw [if_pos (by rfl)]
              have n3 : ¬ L 3 := fun h => hn (h32 h)
              have n12 : ¬ L 12 := fun h => n3 (h12 h).2
              go_simp
              refine hK _ _ ⟨hS.below (below_alloc _ _), .slice (some ⟨W.heap.size, 0, none⟩) 1 1, x51, x59, x60, x2, x3, ?_, by simp; omega, fun h => absurd (h.resolve_right (by decide)) n3, fun h => absurd (h.resolve_right (by decide)) n12, fun _ => ⟨(hA n3).1.alloc _, (hA n3).2⟩, fun _ => (hB n12).alloc _, fun _ _ => ⟨W.heap.size, rfl, heap_alloc_last _ _⟩, fun h _ => ?_, fun h => absurd (h.resolve_right (by decide)) n3, fun h => absurd (h.resolve_right (by decide)) n12, fun h => absurd (hI (h.resolve_right (by decide))) n12, fun h => absurd (hI (hJ (h.resolve_right (by decide)))) n12, fun h => absurd (hI (h.resolve_right (by decide))) n12, fun h => absurd (hI (hJ (h.resolve_right (by decide)))) n12⟩
              · simp only [Act.put, List.setIfInBounds_toArray, List.set_cons_zero, List.set_cons_succ]
              · obtain ⟨g, e1, e2, e3⟩ := hD (h.resolve_right (by decide)) n12
                exact ⟨g, e1, heap_alloc_old e2, fun _ => e3 n3⟩
            · intro L A W o hI ho hn hd
              obtain rfl : { dst := some 51, op := Op.call { callee := Callee.builtin Builtin.append, args := #[Operand.tmp 48, Operand.tmp 50], argTypes := #[57, 57] }, type := 57, pos := "world.go:66", after := #[{ on := 0, ground := Ground.data }, { on := 2, ground := Ground.data }], guard := none } = o := Option.some.inj ho
              obtain ⟨hS, x50, x51, x59, x60, x2, x3, rfl, hsz, h32, h12, hA, hB, hC, hD, hE, hF, hG, hH, hI, hJ⟩ := hI
              simp only [Act.put, List.setIfInBounds_toArray, List.set_cons_zero, List.set_cons_succ]
              refine wpOp_step (o := { dst := some 51, op := Op.call { callee := Callee.builtin Builtin.append, args := #[Operand.tmp 48, Operand.tmp 50], argTypes := #[57, 57] }, type := 57, pos := "world.go:66", after := #[{ on := 0, ground := Ground.data }, { on := 2, ground := Ground.data }], guard := none }) rfl (fun K hK => ?_)
              rw [if_pos (by rfl)]
              have l2 : L 2 := hd { on := 2, ground := Ground.data } (by simp) rfl (by simp)
              have n12 : ¬ L 12 := fun h => hn (h12 h).2
              obtain ⟨g2, rfl, e2⟩ := hC l2 hn
              obtain ⟨o2, hne⟩ := hA hn
              have o3 := hB n12
              refine wp_append_lies W (.tmp 48) (.tmp 50) 57 rfl (w.heap.size + 1) 3 i3 z3 1 8 Tryz.underlying57 hi3 hi3z hi3s hi3b hi3c (by decide) (.slice a2 j k2) j (ints xs) rfl o2 ⟨g2, 0, none⟩ 1 1 [.int .i64 t] rfl rfl (World.news_of_block e2) (by intro u hu; simp only [List.mem_singleton] at hu; subst hu; rfl) (by decide) (by unfold maxLen; omega) (by omega) hsz _ rfl ?_
              intro g cap w1 hown hgr hat hlt
              rw [ints_app] at hown
              have h63 : Value.ownBlock (.slice (some ⟨g, 0, none⟩) (j + 1) cap) ≠ u3.ownBlock := by
                rcases hat with h | h
                · rw [show Value.ownBlock (.slice (some ⟨g, 0, none⟩) (j + 1) cap) = some g from rfl, ← h]
                  exact hne.resolve_left (by rw [h]; simp)
                · intro h'
                  have := (o3.lt g h'.symm).2
                  omega
              refine hK _ _ ⟨hS.row o2 hgr, .slice (some ⟨g2, 0, none⟩) 1 1, .slice (some ⟨g, 0, none⟩) (j + 1) cap, x59, x60, x2, x3, ?_, by have := hgr.size; omega, fun _ => .inl l2, fun h => absurd (h.resolve_right (by decide)) n12, fun h => absurd (.inr rfl) h, fun _ => o3.kept hgr (rows_ne hne), fun _ h => absurd (.inr rfl) h, fun h _ => ?_, fun _ => ⟨hown, fun _ => h63⟩, fun h => absurd (h.resolve_right (by decide)) n12, fun h => absurd (hI (h.resolve_right (by decide))) n12, fun h => absurd (hI (hJ (h.resolve_right (by decide)))) n12, fun h => absurd (hI (h.resolve_right (by decide))) n12, fun h => absurd (hI (hJ (h.resolve_right (by decide)))) n12⟩
              · simp only [Act.put, List.setIfInBounds_toArray, List.set_cons_zero, List.set_cons_succ]
              · obtain ⟨g, e1, e2, e3⟩ := hD (h.resolve_right (by decide)) n12
                exact ⟨g, e1, blk_grown hgr e2 (e3 hn), fun h => absurd (.inr rfl) h⟩
            · intro L A W o hI ho hn hd
              obtain rfl : { dst := some 59, op := Op.buildSlice 57 1 #[(0, Operand.tmp 58)], type := 57, pos := "world.go:66", after := #[{ on := 10, ground := Ground.data }], guard := none } = o := Option.some.inj ho
              obtain ⟨hS, x50, x51, x59, x60, x2, x3, rfl, hsz, h32, h12, hA, hB, hC, hD, hE, hF, hG, hH, hI, hJ⟩ := hI
              simp only [Act.put, List.setIfInBounds_toArray, List.set_cons_zero, List.set_cons_succ]
              refine wpOp_step (o := { dst := some 59, op := Op.buildSlice 57 1 #[(0, Operand.tmp 58)], type := 57, pos := "world.go:66", after := #[{ on := 10, ground := Ground.data }], guard := none }) rfl (fun K hK => ?_)
              rw [if_pos (by rfl)]
              have n12 : ¬ L 12 := fun h => hn (h12 h).1
              go_simp
              refine hK _ _ ⟨hS.below (below_alloc _ _), x50, x51, .slice (some ⟨W.heap.size, 0, none⟩) 1 1, x60, x2, x3, ?_, by simp; omega, fun h => .inl (h32 (h.resolve_right (by decide))), fun h => absurd (h.resolve_right (by decide)) n12, fun h => ⟨(hA fun l => h (.inl l)).1.alloc _, (hA fun l => h (.inl l)).2⟩, fun _ => (hB n12).alloc _, fun h h' => ?_, fun _ _ => ⟨W.heap.size, rfl, heap_alloc_last _ _, fun h e => ?_⟩, fun h => ⟨(hE (h.resolve_right (by decide))).1.alloc _, fun _ => (hE (h.resolve_right (by decide))).2 n12⟩, fun h => absurd (h.resolve_right (by decide)) n12, fun h => absurd (hI (h.resolve_right (by decide))) n12, fun h => absurd (hI (hJ (h.resolve_right (by decide)))) n12, fun h => absurd (hI (h.resolve_right (by decide))) n12, fun h => absurd (hI (hJ (h.resolve_right (by decide)))) n12⟩
              · simp only [Act.put, List.setIfInBounds_toArray, List.set_cons_zero, List.set_cons_succ]
              · obtain ⟨g, e1, e2⟩ := hC (h.resolve_right (by decide)) (fun l => h' (.inl l))
                exact ⟨g, e1, heap_alloc_old e2⟩
              · have := ((hA fun l => h (.inl l)).1.lt _ e).2
                omega
            · intro L A W o hI ho hn hd
              obtain rfl : { dst := some 60, op := Op.call { callee := Callee.builtin Builtin.append, args := #[Operand.tmp 52, Operand.tmp 59], argTypes := #[57, 57] }, type := 57, pos := "world.go:66", after := #[{ on := 4, ground := Ground.data }, { on := 11, ground := Ground.data }, { on := 3, ground := Ground.chain }], guard := none } = o := Option.some.inj ho
              obtain ⟨hS, x50, x51, x59, x60, x2, x3, rfl, hsz, h32, h12, hA, hB, hC, hD, hE, hF, hG, hH, hI, hJ⟩ := hI
              simp only [Act.put, List.setIfInBounds_toArray, List.set_cons_zero, List.set_cons_succ]
              refine wpOp_step (o := { dst := some 60, op := Op.call { callee := Callee.builtin Builtin.append, args := #[Operand.tmp 52, Operand.tmp 59], argTypes := #[57, 57] }, type := 57, pos := "world.go:66", after := #[{ on := 4, ground := Ground.data }, { on := 11, ground := Ground.data }, { on := 3, ground := Ground.chain }], guard := none }) rfl (fun K hK => ?_)
              rw [if_pos (by rfl)]
              have l11 : L 11 := hd { on := 11, ground := Ground.data } (by simp) rfl (by simp)
              have l3 : L 3 := hd { on := 3, ground := Ground.chain } (by simp) rfl (by simp)
              obtain ⟨g2, rfl, e2, e3⟩ := hD l11 hn
              have o3 := hB hn
              obtain ⟨o2, hne⟩ := hE l3
              refine wp_append_lies W (.tmp 52) (.tmp 59) 57 rfl (w.heap.size + 1) 3 i3 z3 1 8 Tryz.underlying57 hi3 hi3z hi3s hi3b hi3c (by decide) u3 j (ints ys) rfl o3 ⟨g2, 0, none⟩ 1 1 [.int .i64 (IntKind.i64.wrap (t + IntKind.i64.wrap (x.l.tmod 32)))] rfl rfl (World.news_of_block e2) (by intro u hu; simp only [List.mem_singleton] at hu; subst hu; rfl) (by decide) (by unfold maxLen; omega) (by omega) hsz _ rfl ?_
              intro g cap w1 hown hgr hat hlt
              rw [ints_app] at hown
              have hne := hne hn
              have h63 : x51.ownBlock ≠ Value.ownBlock (.slice (some ⟨g, 0, none⟩) (j + 1) cap) := by
                rcases hat with h | h
                · rw [show Value.ownBlock (.slice (some ⟨g, 0, none⟩) (j + 1) cap) = some g from rfl, ← h]
                  exact hne
                · intro h'
                  have := (o2.lt g h').2
                  omega
              refine hK _ _ ⟨hS.row o3 hgr, x50, x51, .slice (some ⟨g2, 0, none⟩) 1 1, .slice (some ⟨g, 0, none⟩) (j + 1) cap, x2, x3, ?_, by have := hgr.size; omega, fun h => .inl (h32 (h.resolve_right (by decide))), fun _ => ⟨.inl l11, .inl l3⟩, fun h => absurd (.inl l3) h, fun h => absurd (.inr rfl) h, fun _ h => absurd (.inl l3) h, fun _ h => absurd (.inr rfl) h, fun _ => ⟨o2.kept hgr (.inr hne), fun h => absurd (.inr rfl) h⟩, fun _ => ⟨hown, h63⟩, fun h => absurd (hI (h.resolve_right (by decide))) hn, fun h => absurd (hI (hJ (h.resolve_right (by decide)))) hn, fun h => absurd (hI (h.resolve_right (by decide))) hn, fun h => absurd (hI (hJ (h.resolve_right (by decide)))) hn⟩
              simp only [Act.put, List.setIfInBounds_toArray, List.set_cons_zero, List.set_cons_succ]
            · intro L A W o hI ho hn hd
              obtain rfl : { dst := some 2, op := Op.assign (Operand.tmp 51), type := 57, pos := "world.go:66", after := #[{ on := 3, ground := Ground.data }, { on := 12, ground := Ground.chain }, { on := 0, ground := Ground.phase }, { on := 1, ground := Ground.phase }, { on := 2, ground := Ground.phase }, { on := 3, ground := Ground.phase }, { on := 4, ground := Ground.textOnly Departure.lateStores }, { on := 5, ground := Ground.textOnly Departure.lateStores }, { on := 6, ground := Ground.textOnly Departure.lateStores }, { on := 7, ground := Ground.textOnly Departure.lateStores }, { on := 8, ground := Ground.textOnly Departure.lateStores }, { on := 9, ground := Ground.textOnly Departure.lateStores }, { on := 10, ground := Ground.textOnly Departure.lateStores }, { on := 11, ground := Ground.textOnly Departure.lateStores }, { on := 12, ground := Ground.textOnly Departure.lateStoresUnsure }], guard := none } = o := Option.some.inj ho
              obtain ⟨hS, x50, x51, x59, x60, x2, x3, rfl, hsz, h32, h12, hA, hB, hC, hD, hE, hF, hG, hH, hI, hJ⟩ := hI
              simp only [Act.put, List.setIfInBounds_toArray, List.set_cons_zero, List.set_cons_succ]
              refine wpOp_step (o := { dst := some 2, op := Op.assign (Operand.tmp 51), type := 57, pos := "world.go:66", after := #[{ on := 3, ground := Ground.data }, { on := 12, ground := Ground.chain }, { on := 0, ground := Ground.phase }, { on := 1, ground := Ground.phase }, { on := 2, ground := Ground.phase }, { on := 3, ground := Ground.phase }, { on := 4, ground := Ground.textOnly Departure.lateStores }, { on := 5, ground := Ground.textOnly Departure.lateStores }, { on := 6, ground := Ground.textOnly Departure.lateStores }, { on := 7, ground := Ground.textOnly Departure.lateStores }, { on := 8, ground := Ground.textOnly Departure.lateStores }, { on := 9, ground := Ground.textOnly Departure.lateStores }, { on := 10, ground := Ground.textOnly Departure.lateStores }, { on := 11, ground := Ground.textOnly Departure.lateStores }, { on := 12, ground := Ground.textOnly Departure.lateStoresUnsure }], guard := none }) rfl (fun K hK => ?_)
              rw [if_pos (by rfl)]
              have l12 : L 12 := hd { on := 12, ground := Ground.chain } (by simp) rfl (by simp)
              have l3 := (h12 l12).2
              go_simp
              refine hK _ _ ⟨hS, x50, x51, x59, x60, x51, x3, ?_, hsz, fun h => .inl (h32 (h.resolve_right (by decide))), fun h => (h12 (h.resolve_right (by decide))).imp .inl .inl, fun h => absurd (.inl l3) h, fun h => absurd (.inl l12) h, fun _ h => absurd (.inl l3) h, fun _ h => absurd (.inl l12) h, fun _ => ⟨(hE l3).1, fun h => absurd (.inl l12) h⟩, fun _ => hF l12, fun _ => rfl, fun h => absurd (hJ (h.resolve_right (by decide))) hn, fun _ => .inl l12, fun h => absurd (hJ (h.resolve_right (by decide))) hn⟩
              simp only [Act.put, List.setIfInBounds_toArray, List.set_cons_zero, List.set_cons_succ]
            · intro L A W o hI ho hn hd
              obtain rfl : { dst := some 3, op := Op.assign (Operand.tmp 60), type := 57, pos := "world.go:66", after := #[{ on := 12, ground := Ground.data }, { on := 13, ground := Ground.chain }, { on := 0, ground := Ground.phase }, { on := 1, ground := Ground.phase }, { on := 2, ground := Ground.phase }, { on := 3, ground := Ground.phase }, { on := 4, ground := Ground.phase }, { on := 5, ground := Ground.phase }, { on := 6, ground := Ground.phase }, { on := 7, ground := Ground.phase }, { on := 8, ground := Ground.phase }, { on := 9, ground := Ground.phase }, { on := 10, ground := Ground.phase }, { on := 11, ground := Ground.phase }, { on := 12, ground := Ground.phase }, { on := 13, ground := Ground.phase }], guard := none } = o := Option.some.inj ho
              obtain ⟨hS, x50, x51, x59, x60, x2, x3, rfl, hsz, h32, h12, hA, hB, hC, hD, hE, hF, hG, hH, hI, hJ⟩ := hI
              simp only [Act.put, List.setIfInBounds_toArray, List.set_cons_zero, List.set_cons_succ]
              refine wpOp_step (o := { dst := some 3, op := Op.assign (Operand.tmp 60), type := 57, pos := "world.go:66", after := #[{ on := 12, ground := Ground.data }, { on := 13, ground := Ground.chain }, { on := 0, ground := Ground.phase }, { on := 1, ground := Ground.phase }, { on := 2, ground := Ground.phase }, { on := 3, ground := Ground.phase }, { on := 4, ground := Ground.phase }, { on := 5, ground := Ground.phase }, { on := 6, ground := Ground.phase }, { on := 7, ground := Ground.phase }, { on := 8, ground := Ground.phase }, { on := 9, ground := Ground.phase }, { on := 10, ground := Ground.phase }, { on := 11, ground := Ground.phase }, { on := 12, ground := Ground.phase }, { on := 13, ground := Ground.phase }], guard := none }) rfl (fun K hK => ?_)
              rw [if_pos (by rfl)]
              have l12 : L 12 := hd { on := 12, ground := Ground.data } (by simp) rfl (by simp)
              have l13 : L 13 := hd { on := 13, ground := Ground.chain } (by simp) rfl (by simp)
              have l3 := (h12 l12).2
              go_simp
              refine hK _ _ ⟨hS, x50, x51, x59, x60, x2, x60, ?_, hsz, fun h => .inl (h32 (h.resolve_right (by decide))), fun h => (h12 (h.resolve_right (by decide))).imp .inl .inl, fun h => absurd (.inl l3) h, fun h => absurd (.inl l12) h, fun _ h => absurd (.inl l3) h, fun _ h => absurd (.inl l12) h, fun _ => ⟨(hE l3).1, fun h => absurd (.inl l12) h⟩, fun _ => hF l12, fun h => hG (h.resolve_right (by decide)), fun _ => rfl, fun h => .inl (hI (h.resolve_right (by decide))), fun _ => .inl l13⟩
              simp only [Act.put, List.setIfInBounds_toArray, List.set_cons_zero, List.set_cons_succ]
          · intro L A W hI ha
            obtain ⟨hS, x50, x51, x59, x60, x2, x3, rfl, hsz, h32, h12, hA, hB, hC, hD, hE, hF, hG, hH, hI, hJ⟩ := hI
            obtain rfl := hG (ha 13 (by simp))
            obtain rfl := hH (ha 14 (by simp))
            have hr1 := (hE (ha 3 (by simp))).1
            have hr2 := (hF (ha 12 (by simp)))
            have HR9 := Lib.hid (show Rows2 (w.heap.size + 1) (j + 1) x2 x3 (xs ++ [t]) (ys ++ [IntKind.i64.wrap (t + IntKind.i64.wrap (x.l.tmod 32))]) W from ⟨hr1, hr2.1, .inr hr2.2⟩)
            have HB9 := Lib.hid hS.1
            clear h32 h12 hA hB hC hD hE hF hG hH hI hJ ha hHeld
            simp only [Act.put, List.setIfInBounds_toArray, List.set_cons_zero, List.set_cons_succ]
            go_wp2_with fail
            exact ⟨⟨j + 1, _, _, by omega, by go_num, HB9, HR9⟩, by simp [intOf]; omega⟩
        · go_upto_region 11 with (fail)
          generalize 1000 + f % 32 = t
          try generalize decide (0 < j) = dj
          clear i2 y6
          clear f2 m2
          have HRd := Lib.hid (HR1.out.below (below_drew _))
          have HS2 : Hid (TimesS w s f (some cad) cs.length c q x W1) := HS1
          clear HS1
          refine wp_region_held_drew (S := (fun W => TimesS w s f (some cad) cs.length c q x W)) (by kernel_rfl) (HS2.out.below (below_drew _)) (fun hHeld => ?_)
          refine wpAnyH_take (i := 0) (oi := { dst := some 48, op := Op.move (Operand.tmp 2), type := 57, pos := "world.go:66", after := #[], guard := none }) (v := ?_) rfl (by kernel_rfl) (by kernel_rfl) (by kernel_rfl) (fun _ _ _ h => h) (Or.inl ⟨by rfl, ?_⟩) hHeld ?_
          rotate_left
          · intro W hSw; (try dsimp only at hSw); unfold TimesS TimesB at hSw; go_simp; try with_reducible rfl
          try simp only [Act.put, List.setIfInBounds_toArray, List.set_cons_zero, List.set_cons_succ]
          refine wpAnyH_take (i := 1) (oi := { dst := some 49, op := Op.move (Operand.tmp 6), type := 3, pos := "world.go:66", after := #[], guard := none }) (v := ?_) rfl (by kernel_rfl) (by kernel_rfl) (by kernel_rfl) (fun _ _ _ h => h) (Or.inl ⟨by rfl, ?_⟩) hHeld ?_
          rotate_left
          · intro W hSw; (try dsimp only at hSw); unfold TimesS TimesB at hSw; go_simp; try with_reducible rfl
          try simp only [Act.put, List.setIfInBounds_toArray, List.set_cons_zero, List.set_cons_succ]
          refine wpAnyH_take (i := 4) (oi := { dst := some 52, op := Op.move (Operand.tmp 3), type := 57, pos := "world.go:66", after := #[], guard := none }) (v := ?_) rfl (by kernel_rfl) (by kernel_rfl) (by kernel_rfl) (fun _ _ _ h => h) (Or.inl ⟨by rfl, ?_⟩) hHeld ?_
          rotate_left
          · intro W hSw; (try dsimp only at hSw); unfold TimesS TimesB at hSw; go_simp; try with_reducible rfl
          try simp only [Act.put, List.setIfInBounds_toArray, List.set_cons_zero, List.set_cons_succ]
          refine wpAnyH_take (i := 5) (oi := { dst := some 53, op := Op.move (Operand.tmp 6), type := 3, pos := "world.go:66", after := #[], guard := none }) (v := ?_) rfl (by kernel_rfl) (by kernel_rfl) (by kernel_rfl) (fun _ _ _ h => h) (Or.inl ⟨by rfl, ?_⟩) hHeld ?_
          rotate_left
          · intro W hSw; (try dsimp only at hSw); unfold TimesS TimesB at hSw; go_simp; try with_reducible rfl
          try simp only [Act.put, List.setIfInBounds_toArray, List.set_cons_zero, List.set_cons_succ]
          refine wpAnyH_take (i := 6) (oi := { dst := some 54, op := Op.fieldAddr 234 (Operand.tmp 5) 7, type := 0, pos := "world.go:66", after := #[], guard := none }) (v := ?_) rfl (by kernel_rfl) (by kernel_rfl) (by kernel_rfl) (fun _ _ _ h => h) (Or.inl ⟨by rfl, ?_⟩) hHeld ?_
          rotate_left
          · intro W hSw; (try dsimp only at hSw); unfold TimesS TimesB at hSw; go_simp; try with_reducible rfl
          try simp only [Act.put, List.setIfInBounds_toArray, List.set_cons_zero, List.set_cons_succ]
          refine wpAnyH_take (i := 7) (oi := { dst := some 55, op := Op.load 5 (Operand.tmp 54), type := 5, pos := "world.go:66", after := #[{ on := 6, ground := Ground.data }], guard := none }) (v := ?_) rfl (by kernel_rfl) (by kernel_rfl) (by kernel_rfl) (fun _ _ _ h => h) (Or.inl ⟨by rfl, ?_⟩) hHeld ?_
          rotate_left
          · intro W hSw; (try dsimp only at hSw); unfold TimesS TimesB at hSw; go_simp; try with_reducible rfl
          try simp only [Act.put, List.setIfInBounds_toArray, List.set_cons_zero, List.set_cons_succ]
          refine wpAnyH_take (i := 8) (oi := { dst := some 56, op := Op.binOp BinOp.rem 5 (Operand.tmp 55) (Operand.const (Value.int IntKind.u8 32)) 5, type := 5, pos := "world.go:66", after := #[{ on := 7, ground := Ground.data }], guard := none }) (v := ?_) rfl (by kernel_rfl) (by kernel_rfl) (by kernel_rfl) (fun _ _ _ h => h) (Or.inl ⟨by rfl, ?_⟩) hHeld ?_
          rotate_left
          · intro W hSw; (try dsimp only at hSw); unfold TimesS TimesB at hSw; go_simp; try with_reducible rfl
          try simp only [Act.put, List.setIfInBounds_toArray, List.set_cons_zero, List.set_cons_succ]
          refine wpAnyH_take (i := 9) (oi := { dst := some 57, op := Op.convert 5 3 (Operand.tmp 56), type := 3, pos := "world.go:66", after := #[{ on := 8, ground := Ground.data }], guard := none }) (v := ?_) rfl (by kernel_rfl) (by kernel_rfl) (by kernel_rfl) (fun _ _ _ h => h) (Or.inl ⟨by rfl, ?_⟩) hHeld ?_
          rotate_left
          · intro W hSw; (try dsimp only at hSw); unfold TimesS TimesB at hSw; go_simp; try with_reducible rfl
          try simp only [Act.put, List.setIfInBounds_toArray, List.set_cons_zero, List.set_cons_succ]
          refine wpAnyH_take (i := 10) (oi := { dst := some 58, op := Op.binOp BinOp.add 3 (Operand.tmp 53) (Operand.tmp 57) 3, type := 3, pos := "world.go:66", after := #[{ on := 5, ground := Ground.data }, { on := 9, ground := Ground.data }], guard := none }) (v := ?_) rfl (by kernel_rfl) (by kernel_rfl) (by kernel_rfl) (fun _ _ _ h => h) (Or.inl ⟨by rfl, ?_⟩) hHeld ?_
          rotate_left
          · intro W hSw; (try dsimp only at hSw); unfold TimesS TimesB at hSw; go_simp; try with_reducible rfl
          try simp only [Act.put, List.setIfInBounds_toArray, List.set_cons_zero, List.set_cons_succ]
          refine wpAnyH_rest [2, 3, 11, 12, 13, 14] (TimesI (TimesS w s f (some cad) cs.length c q x) (w.heap.size + 1) j (.slice a2 j k2) u3 xs ys t (IntKind.i64.wrap (t + IntKind.i64.wrap (x.l.tmod 32)))) (by kernel_rfl) rfl (by kernel_rfl) (by kernel_rfl) (by kernel_rfl) ?_ (fun _ _ _ h => h.1) ?_ ?_
          · intro L hL
            have g : ∀ k ∈ [2, 3, 11, 12, 13, 14], L k → False := fun k hk h => hL k hk h
            refine ⟨hHeld, ?x50, ?x51, ?x59, ?x60, .slice a2 j k2, u3, ?eq, Nat.succ_le_of_lt hHeld.1.sizes, fun h => (g 3 (by simp) h).elim, fun h => (g 12 (by simp) h).elim, fun _ => ⟨HRd.out.1, HRd.out.2.2⟩, fun _ => HRd.out.2.1, fun h => (g 2 (by simp) h).elim, fun h => (g 11 (by simp) h).elim, fun h => (g 3 (by simp) h).elim, fun h => (g 12 (by simp) h).elim, fun h => (g 13 (by simp) h).elim, fun h => (g 14 (by simp) h).elim, fun h => (g 13 (by simp) h).elim, fun h => (g 14 (by simp) h).elim⟩
            case eq =>
              simp only [Act.put, List.setIfInBounds_toArray, List.set_cons_zero, List.set_cons_succ]
              try rfl
          · intro i0 hi0
            simp only [List.mem_cons, List.not_mem_nil, or_false] at hi0
            rcases hi0 with rfl | rfl | rfl | rfl | rfl | rfl
            · intro L A W o hI ho hn hd
              obtain rfl : { dst := some 50, op := Op.buildSlice 57 1 #[(0, Operand.tmp 49)], type := 57, pos := "world.go:66", after := #[{ on := 1, ground := Ground.data }], guard := none } = o := Option.some.inj ho
              obtain ⟨hS, x50, x51, x59, x60, x2, x3, rfl, hsz, h32, h12, hA, hB, hC, hD, hE, hF, hG, hH, hI, hJ⟩ := hI
              simp only [Act.put, List.setIfInBounds_toArray, List.set_cons_zero, List.set_cons_succ]
              refine wpOp_step (o := { dst := some 50, op := Op.buildSlice 57 1 #[(0, Operand.tmp 49)], type := 57, pos := "world.go:66", after := #[{ on := 1, ground := Ground.data }], guard := none }) rfl (fun K hK => ?_)
              rw [if_pos (by rfl)]
              have n3 : ¬ L 3 := fun h => hn (h32 h)
              have n12 : ¬ L 12 := fun h => n3 (h12 h).2
              go_simp
              refine hK _ _ ⟨hS.below (below_alloc _ _), .slice (some ⟨W.heap.size, 0, none⟩) 1 1, x51, x59, x60, x2, x3, ?_, by simp; omega, fun h => absurd (h.resolve_right (by decide)) n3, fun h => absurd (h.resolve_right (by decide)) n12, fun _ => ⟨(hA n3).1.alloc _, (hA n3).2⟩, fun _ => (hB n12).alloc _, fun _ _ => ⟨W.heap.size, rfl, heap_alloc_last _ _⟩, fun h _ => ?_, fun h => absurd (h.resolve_right (by decide)) n3, fun h => absurd (h.resolve_right (by decide)) n12, fun h => absurd (hI (h.resolve_right (by decide))) n12, fun h => absurd (hI (hJ (h.resolve_right (by decide)))) n12, fun h => absurd (hI (h.resolve_right (by decide))) n12, fun h => absurd (hI (hJ (h.resolve_right (by decide)))) n12⟩
              · simp only [Act.put, List.setIfInBounds_toArray, List.set_cons_zero, List.set_cons_succ]
              · obtain ⟨g, e1, e2, e3⟩ := hD (h.resolve_right (by decide)) n12
                exact ⟨g, e1, heap_alloc_old e2, fun _ => e3 n3⟩
            · intro L A W o hI ho hn hd
              obtain rfl : { dst := some 51, op := Op.call { callee := Callee.builtin Builtin.append, args := #[Operand.tmp 48, Operand.tmp 50], argTypes := #[57, 57] }, type := 57, pos := "world.go:66", after := #[{ on := 0, ground := Ground.data }, { on := 2, ground := Ground.data }], guard := none } = o := Option.some.inj ho
              obtain ⟨hS, x50, x51, x59, x60, x2, x3, rfl, hsz, h32, h12, hA, hB, hC, hD, hE, hF, hG, hH, hI, hJ⟩ := hI
              simp only [Act.put, List.setIfInBounds_toArray, List.set_cons_zero, List.set_cons_succ]
              refine wpOp_step (o := { dst := some 51, op := Op.call { callee := Callee.builtin Builtin.append, args := #[Operand.tmp 48, Operand.tmp 50], argTypes := #[57, 57] }, type := 57, pos := "world.go:66", after := #[{ on := 0, ground := Ground.data }, { on := 2, ground := Ground.data }], guard := none }) rfl (fun K hK => ?_)
              rw [if_pos (by rfl)]
              have l2 : L 2 := hd { on := 2, ground := Ground.data } (by simp) rfl (by simp)
              have n12 : ¬ L 12 := fun h => hn (h12 h).2
              obtain ⟨g2, rfl, e2⟩ := hC l2 hn
              obtain ⟨o2, hne⟩ := hA hn
              have o3 := hB n12
              refine wp_append_lies W (.tmp 48) (.tmp 50) 57 rfl (w.heap.size + 1) 3 i3 z3 1 8 Tryz.underlying57 hi3 hi3z hi3s hi3b hi3c (by decide) (.slice a2 j k2) j (ints xs) rfl o2 ⟨g2, 0, none⟩ 1 1 [.int .i64 t] rfl rfl (World.news_of_block e2) (by intro u hu; simp only [List.mem_singleton] at hu; subst hu; rfl) (by decide) (by unfold maxLen; omega) (by omega) hsz _ rfl ?_
              intro g cap w1 hown hgr hat hlt
              rw [ints_app] at hown
              have h63 : Value.ownBlock (.slice (some ⟨g, 0, none⟩) (j + 1) cap) ≠ u3.ownBlock := by
                rcases hat with h | h
                · rw [show Value.ownBlock (.slice (some ⟨g, 0, none⟩) (j + 1) cap) = some g from rfl, ← h]
                  exact hne.resolve_left (by rw [h]; simp)
                · intro h'
                  have := (o3.lt g h'.symm).2
                  omega
              refine hK _ _ ⟨hS.row o2 hgr, .slice (some ⟨g2, 0, none⟩) 1 1, .slice (some ⟨g, 0, none⟩) (j + 1) cap, x59, x60, x2, x3, ?_, by have := hgr.size; omega, fun _ => .inl l2, fun h => absurd (h.resolve_right (by decide)) n12, fun h => absurd (.inr rfl) h, fun _ => o3.kept hgr (rows_ne hne), fun _ h => absurd (.inr rfl) h, fun h _ => ?_, fun _ => ⟨hown, fun _ => h63⟩, fun h => absurd (h.resolve_right (by decide)) n12, fun h => absurd (hI (h.resolve_right (by decide))) n12, fun h => absurd (hI (hJ (h.resolve_right (by decide)))) n12, fun h => absurd (hI (h.resolve_right (by decide))) n12, fun h => absurd (hI (hJ (h.resolve_right (by decide)))) n12⟩
              · simp only [Act.put, List.setIfInBounds_toArray, List.set_cons_zero, List.set_cons_succ]
              · obtain ⟨g, e1, e2, e3⟩ := hD (h.resolve_right (by decide)) n12
                exact ⟨g, e1, blk_grown hgr e2 (e3 hn), fun h => absurd (.inr rfl) h⟩
            · intro L A W o hI ho hn hd
              obtain rfl : { dst := some 59, op := Op.buildSlice 57 1 #[(0, Operand.tmp 58)], type := 57, pos := "world.go:66", after := #[{ on := 10, ground := Ground.data }], guard := none } = o := Option.some.inj ho
              obtain ⟨hS, x50, x51, x59, x60, x2, x3, rfl, hsz, h32, h12, hA, hB, hC, hD, hE, hF, hG, hH, hI, hJ⟩ := hI
              simp only [Act.put, List.setIfInBounds_toArray, List.set_cons_zero, List.set_cons_succ]
              refine wpOp_step (o := { dst := some 59, op := Op.buildSlice 57 1 #[(0, Operand.tmp 58)], type := 57, pos := "world.go:66", after := #[{ on := 10, ground := Ground.data }], guard := none }) rfl (fun K hK => ?_)
              rw [if_pos (by rfl)]
              have n12 : ¬ L 12 := fun h => hn (h12 h).1
              go_simp
              refine hK _ _ ⟨hS.below (below_alloc _ _), x50, x51, .slice (some ⟨W.heap.size, 0, none⟩) 1 1, x60, x2, x3, ?_, by simp; omega, fun h => .inl (h32 (h.resolve_right (by decide))), fun h => absurd (h.resolve_right (by decide)) n12, fun h => ⟨(hA fun l => h (.inl l)).1.alloc _, (hA fun l => h (.inl l)).2⟩, fun _ => (hB n12).alloc _, fun h h' => ?_, fun _ _ => ⟨W.heap.size, rfl, heap_alloc_last _ _, fun h e => ?_⟩, fun h => ⟨(hE (h.resolve_right (by decide))).1.alloc _, fun _ => (hE (h.resolve_right (by decide))).2 n12⟩, fun h => absurd (h.resolve_right (by decide)) n12, fun h => absurd (hI (h.resolve_right (by decide))) n12, fun h => absurd (hI (hJ (h.resolve_right (by decide)))) n12, fun h => absurd (hI (h.resolve_right (by decide))) n12, fun h => absurd (hI (hJ (h.resolve_right (by decide)))) n12⟩
              · simp only [Act.put, List.setIfInBounds_toArray, List.set_cons_zero, List.set_cons_succ]
              · obtain ⟨g, e1, e2⟩ := hC (h.resolve_right (by decide)) (fun l => h' (.inl l))
                exact ⟨g, e1, heap_alloc_old e2⟩
              · have := ((hA fun l => h (.inl l)).1.lt _ e).2
                omega
            · intro L A W o hI ho hn hd
              obtain rfl : { dst := some 60, op := Op.call { callee := Callee.builtin Builtin.append, args := #[Operand.tmp 52, Operand.tmp 59], argTypes := #[57, 57] }, type := 57, pos := "world.go:66", after := #[{ on := 4, ground := Ground.data }, { on := 11, ground := Ground.data }, { on := 3, ground := Ground.chain }], guard := none } = o := Option.some.inj ho
              obtain ⟨hS, x50, x51, x59, x60, x2, x3, rfl, hsz, h32, h12, hA, hB, hC, hD, hE, hF, hG, hH, hI, hJ⟩ := hI
              simp only [Act.put, List.setIfInBounds_toArray, List.set_cons_zero, List.set_cons_succ]
              refine wpOp_step (o := { dst := some 60, op := Op.call { callee := Callee.builtin Builtin.append, args := #[Operand.tmp 52, Operand.tmp 59], argTypes := #[57, 57] }, type := 57, pos := "world.go:66", after := #[{ on := 4, ground := Ground.data }, { on := 11, ground := Ground.data }, { on := 3, ground := Ground.chain }], guard := none }) rfl (fun K hK => ?_)
              rw [if_pos (by rfl)]
              have l11 : L 11 := hd { on := 11, ground := Ground.data } (by simp) rfl (by simp)
              have l3 : L 3 := hd { on := 3, ground := Ground.chain } (by simp) rfl (by simp)
              obtain ⟨g2, rfl, e2, e3⟩ := hD l11 hn
              have o3 := hB hn
              obtain ⟨o2, hne⟩ := hE l3
              refine wp_append_lies W (.tmp 52) (.tmp 59) 57 rfl (w.heap.size + 1) 3 i3 z3 1 8 Tryz.underlying57 hi3 hi3z hi3s hi3b hi3c (by decide) u3 j (ints ys) rfl o3 ⟨g2, 0, none⟩ 1 1 [.int .i64 (IntKind.i64.wrap (t + IntKind.i64.wrap (x.l.tmod 32)))] rfl rfl (World.news_of_block e2) (by intro u hu; simp only [List.mem_singleton] at hu; subst hu; rfl) (by decide) (by unfold maxLen; omega) (by omega) hsz _ rfl ?_
              intro g cap w1 hown hgr hat hlt
              rw [ints_app] at hown
              have hne := hne hn
              have h63 : x51.ownBlock ≠ Value.ownBlock (.slice (some ⟨g, 0, none⟩) (j + 1) cap) := by
                rcases hat with h | h
                · rw [show Value.ownBlock (.slice (some ⟨g, 0, none⟩) (j + 1) cap) = some g from rfl, ← h]
                  exact hne
                · intro h'
                  have := (o2.lt g h').2
                  omega
              refine hK _ _ ⟨hS.row o3 hgr, x50, x51, .slice (some ⟨g2, 0, none⟩) 1 1, .slice (some ⟨g, 0, none⟩) (j + 1) cap, x2, x3, ?_, by have := hgr.size; omega, fun h => .inl (h32 (h.resolve_right (by decide))), fun _ => ⟨.inl l11, .inl l3⟩, fun h => absurd (.inl l3) h, fun h => absurd (.inr rfl) h, fun _ h => absurd (.inl l3) h, fun _ h => absurd (.inr rfl) h, fun _ => ⟨o2.kept hgr (.inr hne), fun h => absurd (.inr rfl) h⟩, fun _ => ⟨hown, h63⟩, fun h => absurd (hI (h.resolve_right (by decide))) hn, fun h => absurd (hI (hJ (h.resolve_right (by decide)))) hn, fun h => absurd (hI (h.resolve_right (by decide))) hn, fun h => absurd (hI (hJ (h.resolve_right (by decide)))) hn⟩
              simp only [Act.put, List.setIfInBounds_toArray, List.set_cons_zero, List.set_cons_succ]
            · intro L A W o hI ho hn hd
              obtain rfl : { dst := some 2, op := Op.assign (Operand.tmp 51), type := 57, pos := "world.go:66", after := #[{ on := 3, ground := Ground.data }, { on := 12, ground := Ground.chain }, { on := 0, ground := Ground.phase }, { on := 1, ground := Ground.phase }, { on := 2, ground := Ground.phase }, { on := 3, ground := Ground.phase }, { on := 4, ground := Ground.textOnly Departure.lateStores }, { on := 5, ground := Ground.textOnly Departure.lateStores }, { on := 6, ground := Ground.textOnly Departure.lateStores }, { on := 7, ground := Ground.textOnly Departure.lateStores }, { on := 8, ground := Ground.textOnly Departure.lateStores }, { on := 9, ground := Ground.textOnly Departure.lateStores }, { on := 10, ground := Ground.textOnly Departure.lateStores }, { on := 11, ground := Ground.textOnly Departure.lateStores }, { on := 12, ground := Ground.textOnly Departure.lateStoresUnsure }], guard := none } = o := Option.some.inj ho
              obtain ⟨hS, x50, x51, x59, x60, x2, x3, rfl, hsz, h32, h12, hA, hB, hC, hD, hE, hF, hG, hH, hI, hJ⟩ := hI
              simp only [Act.put, List.setIfInBounds_toArray, List.set_cons_zero, List.set_cons_succ]
              refine wpOp_step (o := { dst := some 2, op := Op.assign (Operand.tmp 51), type := 57, pos := "world.go:66", after := #[{ on := 3, ground := Ground.data }, { on := 12, ground := Ground.chain }, { on := 0, ground := Ground.phase }, { on := 1, ground := Ground.phase }, { on := 2, ground := Ground.phase }, { on := 3, ground := Ground.phase }, { on := 4, ground := Ground.textOnly Departure.lateStores }, { on := 5, ground := Ground.textOnly Departure.lateStores }, { on := 6, ground := Ground.textOnly Departure.lateStores }, { on := 7, ground := Ground.textOnly Departure.lateStores }, { on := 8, ground := Ground.textOnly Departure.lateStores }, { on := 9, ground := Ground.textOnly Departure.lateStores }, { on := 10, ground := Ground.textOnly Departure.lateStores }, { on := 11, ground := Ground.textOnly Departure.lateStores }, { on := 12, ground := Ground.textOnly Departure.lateStoresUnsure }], guard := none }) rfl (fun K hK => ?_)
              rw [if_pos (by rfl)]
              have l12 : L 12 := hd { on := 12, ground := Ground.chain } (by simp) rfl (by simp)
              have l3 := (h12 l12).2
              go_simp
              refine hK _ _ ⟨hS, x50, x51, x59, x60, x51, x3, ?_, hsz, fun h => .inl (h32 (h.resolve_right (by decide))), fun h => (h12 (h.resolve_right (by decide))).imp .inl .inl, fun h => absurd (.inl l3) h, fun h => absurd (.inl l12) h, fun _ h => absurd (.inl l3) h, fun _ h => absurd (.inl l12) h, fun _ => ⟨(hE l3).1, fun h => absurd (.inl l12) h⟩, fun _ => hF l12, fun _ => rfl, fun h => absurd (hJ (h.resolve_right (by decide))) hn, fun _ => .inl l12, fun h => absurd (hJ (h.resolve_right (by decide))) hn⟩
              simp only [Act.put, List.setIfInBounds_toArray, List.set_cons_zero, List.set_cons_succ]
            · intro L A W o hI ho hn hd
              obtain rfl : { dst := some 3, op := Op.assign (Operand.tmp 60), type := 57, pos := "world.go:66", after := #[{ on := 12, ground := Ground.data }, { on := 13, ground := Ground.chain }, { on := 0, ground := Ground.phase }, { on := 1, ground := Ground.phase }, { on := 2, ground := Ground.phase }, { on := 3, ground := Ground.phase }, { on := 4, ground := Ground.phase }, { on := 5, ground := Ground.phase }, { on := 6, ground := Ground.phase }, { on := 7, ground := Ground.phase }, { on := 8, ground := Ground.phase }, { on := 9, ground := Ground.phase }, { on := 10, ground := Ground.phase }, { on := 11, ground := Ground.phase }, { on := 12, ground := Ground.phase }, { on := 13, ground := Ground.phase }], guard := none } = o := Option.some.inj ho
              obtain ⟨hS, x50, x51, x59, x60, x2, x3, rfl, hsz, h32, h12, hA, hB, hC, hD, hE, hF, hG, hH, hI, hJ⟩ := hI
              simp only [Act.put, List.setIfInBounds_toArray, List.set_cons_zero, List.set_cons_succ]
              refine wpOp_step (o := { dst := some 3, op := Op.assign (Operand.tmp 60), type := 57, pos := "world.go:66", after := #[{ on := 12, ground := Ground.data }, { on := 13, ground := Ground.chain }, { on := 0, ground := Ground.phase }, { on := 1, ground := Ground.phase }, { on := 2, ground := Ground.phase }, { on := 3, ground := Ground.phase }, { on := 4, ground := Ground.phase }, { on := 5, ground := Ground.phase }, { on := 6, ground := Ground.phase }, { on := 7, ground := Ground.phase }, { on := 8, ground := Ground.phase }, { on := 9, ground := Ground.phase }, { on := 10, ground := Ground.phase }, { on := 11, ground := Ground.phase }, { on := 12, ground := Ground.phase }, { on := 13, ground := Ground.phase }], guard := none }) rfl (fun K hK => ?_)
              rw [if_pos (by rfl)]
              have l12 : L 12 := hd { on := 12, ground := Ground.data } (by simp) rfl (by simp)
              have l13 : L 13 := hd { on := 13, ground := Ground.chain } (by simp) rfl (by simp)
              have l3 := (h12 l12).2
              go_simp
              refine hK _ _ ⟨hS, x50, x51, x59, x60, x2, x60, ?_, hsz, fun h => .inl (h32 (h.resolve_right (by decide))), fun h => (h12 (h.resolve_right (by decide))).imp .inl .inl, fun h => absurd (.inl l3) h, fun h => absurd (.inl l12) h, fun _ h => absurd (.inl l3) h, fun _ h => absurd (.inl l12) h, fun _ => ⟨(hE l3).1, fun h => absurd (.inl l12) h⟩, fun _ => hF l12, fun h => hG (h.resolve_right (by decide)), fun _ => rfl, fun h => .inl (hI (h.resolve_right (by decide))), fun _ => .inl l13⟩
              simp only [Act.put, List.setIfInBounds_toArray, List.set_cons_zero, List.set_cons_succ]
          · intro L A W hI ha
            obtain ⟨hS, x50, x51, x59, x60, x2, x3, rfl, hsz, h32, h12, hA, hB, hC, hD, hE, hF, hG, hH, hI, hJ⟩ := hI
            obtain rfl := hG (ha 13 (by simp))
            obtain rfl := hH (ha 14 (by simp))
            have hr1 := (hE (ha 3 (by simp))).1
            have hr2 := (hF (ha 12 (by simp)))
            have HR9 := Lib.hid (show Rows2 (w.heap.size + 1) (j + 1) x2 x3 (xs ++ [t]) (ys ++ [IntKind.i64.wrap (t + IntKind.i64.wrap (x.l.tmod 32))]) W from ⟨hr1, hr2.1, .inr hr2.2⟩)
            have HB9 := Lib.hid hS.1
            clear h32 h12 hA hB hC hD hE hF hG hH hI hJ ha hHeld
            simp only [Act.put, List.setIfInBounds_toArray, List.set_cons_zero, List.set_cons_succ]
            go_wp2_with fail
            exact ⟨⟨j + 1, _, _, by omega, by go_num, HB9, HR9⟩, by simp [intOf]; omega⟩
    · obtain rfl : j = cs.length := by omega
      obtain ⟨a2, k2, rfl, f2, m2⟩ := row_forms HR.out.1
      obtain ⟨a3, k3, rfl, f3, m3⟩ := row_forms HR.out.2.1
      go_wp2_with fail
      generalize hn : cs.length = n at *
      clear HB0 HR0
      go_loopw [8] (fun i wr => ∃ (z : Int) (ys : List Int), -1 ≤ z ∧ z < n ∧ i = .int .i64 z ∧ Hid (TimesB w s f a n c wr) ∧ Hid (Rows2 (w.heap.size + 1) n (.slice a2 n k2) (.slice a3 n k3) xs ys wr)) (fun i _ => (intOf i + 1).toNat)
      case atStart => exact ⟨(n : Int) - 1, ys, by omega, by omega, rfl, HB, HR⟩
      case round =>
        clear HB HR b0 b1 b2 z0
        obtain ⟨z, ys, hz0, hz1, rfl, HB, HR⟩ := hrel
        obtain ⟨b0, b1, b2⟩ := HB.out.cells
        have z0 := HB.out.sizes
        by_cases hz : 0 < z
        · obtain ⟨j, rfl⟩ : ∃ j : Nat, z = (j : Int) := ⟨z.toNat, (Int.toNat_of_nonneg (by omega)).symm⟩
          have hlt : j < cs.length := by omega
          obtain ⟨cad, rfl, c0, hok⟩ := (HC.out.below HB.out.1) j hlt
          obtain ⟨c0, c1, c2, c3, c4, c5, c6, c7, c8, c9, c10⟩ := c0
          have HOK := Lib.hid hok
          generalize hx : cs[j] = x at *
          unfold CallD.ok isU8 at hok
          have p0 := Int.emod_nonneg x.p (show (j : Int) + 1 ≠ 0 by omega)
          have p1 := Int.emod_lt_of_pos x.p (show (0 : Int) < (j : Int) + 1 by omega)
          obtain ⟨pn, hP⟩ : ∃ pn : Nat, x.p % ((j : Int) + 1) = (pn : Int) := ⟨(x.p % ((j : Int) + 1)).toNat, (Int.toNat_of_nonneg p0).symm⟩
          rw [hP] at p0 p1
          go_upto_region 16 with (fail)
          try simp only [hP]
          by_cases hpj : pn < j
          · have q1 : (pn : Int) < (j : Int) := by omega
            have q3 : (pn : Int) < (n : Int) := by omega
            obtain ⟨cad2, hca, d0, hok2⟩ := HC.out pn (by omega)
            obtain rfl := Option.some.inj hca
            have HOK2 := Lib.hid hok2
            have HX2 := Lib.hid d0
            clear d0 hok2 hca
            generalize cs[pn] = x2 at *
            obtain ⟨d0, d1, d2, d3, d4, d5, d6, d7, d8, d9, d10⟩ := HX2.out.below HB.out.1
            have hend : ∀ W : World, TimesB w s f (some cad) n c W → Rows2 (w.heap.size + 1) n (.slice a2 n k2) (.slice a3 n k3) xs ys W → (∃ (z : Int) (ys : List Int), -1 ≤ z ∧ z < n ∧ Value.int .i64 ((j : Int) - 1) = .int .i64 z ∧ Hid (TimesB w s f (some cad) n c W) ∧ Hid (Rows2 (w.heap.size + 1) n (.slice a2 n k2) (.slice a3 n k3) xs ys W)) ∧ (intOf (.int .i64 ((j : Int) - 1)) + 1).toNat < (intOf (.int .i64 (j : Int)) + 1).toNat := fun W h1 h2 => ⟨⟨(j : Int) - 1, ys, by omega, by omega, rfl, Lib.hid h1, Lib.hid h2⟩, by simp [intOf]⟩
            have HE := Lib.hid hend
            clear hend
            go_wp2_with fail
            (with_reducible refine (kind_any x HOK.out _).mono ?_)
            rintro e w1 ⟨⟨n1, rfl⟩, hbb⟩
            have HB1 := Lib.hid (HB.out.below hbb)
            have HR1 := Lib.hid (HR.out.below hbb)
            clear d0 d1 d2 d3 d4 d5 d6 d7 d8 d9 d10 c0 c1 c2 c3 c4 c5 c6 c7 c8 c9 c10 b0 b1 b2 z0 hbb HB HR
            obtain ⟨b0, b1, b2⟩ := HB1.out.cells
            have z0 := HB1.out.sizes
            obtain ⟨d0, d1, d2, d3, d4, d5, d6, d7, d8, d9, d10⟩ := HX2.out.below HB1.out.1
            by_cases hn1 : n1 = 3
            · subst hn1
              go_wp2_with fail
              (with_reducible refine (kind_any x2 HOK2.out _).mono ?_)
              rintro e w2 ⟨⟨n2, rfl⟩, hbb⟩
              have HB2 := Lib.hid (HB1.out.below hbb)
              have HR2 := Lib.hid (HR1.out.below hbb)
              clear d0 d1 d2 d3 d4 d5 d6 d7 d8 d9 d10 b0 b1 b2 z0 hbb HB1 HR1
              obtain ⟨b0, b1, b2⟩ := HB2.out.cells
              have z0 := HB2.out.sizes
              obtain ⟨d0, d1, d2, d3, d4, d5, d6, d7, d8, d9, d10⟩ := HX2.out.below HB2.out.1
              by_cases hn2 : n2 = 2
              · subst hn2
                cases hx2e : x2.e with
                | true =>
                  rw [hx2e] at d10
                  go_wp2_with fail
                  exact HE.out _ HB2.out HR2.out
                | false =>
                  rw [hx2e] at d10
                  obtain ⟨g, rfl, hg1, hg2⟩ := f3 (by omega)
                  have r3 := (row_lies HR2.out.2.1).1
                  have y1 := (HR2.out.2.1.cellAt pn (by omega)).trans (ints_get (by omega))
                  have y2 := (HR2.out.2.1.cellAt j (by omega)).trans (ints_get (by omega))
                  generalize ys[pn] = e1 at *
                  generalize ys[j] = e2 at *
                  have y3 := HR2.out.2.1.frozenAt pn
                  go_upto_region 17 with (fail)
                  go_still_tail 12, (by kernel_rfl)
                  show wpList _ _ _ _ _ w2.drew
                  have HB3 := Lib.hid (HB2.out.below (below_drew w2))
                  have HR3 := Lib.hid (HR2.out.below (below_drew w2))
                  have y4 : w2.drew.cell? ⟨g, pn, none⟩ = some (.int .i64 e1) := y1
                  have y5 : w2.drew.frozen? ⟨g, pn, none⟩ = false := y3
                  clear y1 y2 y3 d0 d1 d2 d3 d4 d5 d6 d7 d8 d9 d10 b0 b1 b2 z0 HB2 HR2
                  generalize w2.drew = w3 at *
                  have hkey : ∀ V : Int, (∃ (z : Int) (ys : List Int), -1 ≤ z ∧ z < n ∧ Value.int .i64 ((j : Int) - 1) = .int .i64 z ∧ Hid (TimesB w s f (some cad) n c (w3.setCell ⟨g, pn, none⟩ (.int .i64 V))) ∧ Hid (Rows2 (w.heap.size + 1) n (.slice a2 n k2) (.slice (some ⟨g, 0, none⟩) n k3) xs ys (w3.setCell ⟨g, pn, none⟩ (.int .i64 V)))) ∧ (intOf (.int .i64 ((j : Int) - 1)) + 1).toNat < (intOf (.int .i64 (j : Int)) + 1).toNat := fun V => by
                    obtain ⟨s1, s2⟩ := HR3.out.2.1.stored pn (.int .i64 V)
                    rw [ints_set] at s1
                    exact ⟨⟨(j : Int) - 1, ys.set pn V, by omega, by omega, rfl, Lib.hid (HB3.out.row HR3.out.2.1 s2), Lib.hid ⟨HR3.out.1.kept s2 HR3.out.2.2, s1, HR3.out.2.2⟩⟩, by simp [intOf]⟩
                  have HK := Lib.hid hkey
                  clear hkey
                  go_wp2_with fail
                  exact HK.out _
              · go_wp2_with fail
                exact HE.out _ HB2.out HR2.out
            · go_wp2_with fail
              exact HE.out _ HB1.out HR1.out
          · have q1 : ¬ (pn : Int) < (j : Int) := by omega
            go_wp2_with fail
            exact ⟨⟨(j : Int) - 1, ys, by omega, by omega, rfl, HB, HR⟩, by simp [intOf]⟩
        · go_wp2_with fail
          obtain ⟨l2, i2⟩ := row_lies HR.out.1
          obtain ⟨l3, i3⟩ := row_lies HR.out.2.1
          go_ret2
          exact ⟨⟨a2, a3, k2, k3, xs, ys, by rw [l2, l3]; rfl, l2, l3, i2, i3⟩, HB.out.1⟩
end Go.Proofs.YtmhmnbaoanennaaGreatDoor

