/- Part 3 of the proof: contracts. Contract: the times of a tree; The times of a tree, and their bounds; append, of a slice that may be nil or empty; Contract: the spans of a trace; Contracts: the exponent that a policy gives to a trace; Contracts: the exponent that a policy gives to a trace: given; Contract: the exponent that a policy gives to a trace, as the law says it; Contracts: names and values; Contracts: the error of a predicate's node itself (printed by mknode.py); Contracts: the error of a predicate; Contract: the error of a policy; Contracts: the error of a span's links. -/
import Derived.Test.YtnddlpfmagdbfaaGreatDoorMSamplesb
import Derived.Test.YtnddlpfmagdbfaaGreatDoorMSamplesa
import Derived.Deep.AppendLies
import Derived.Laws.OwnMore
import Derived.StillTailTactics
import Derived.Maps.AppendAt
import Derived.OneCell
/- Contract: the times of a tree. -/
namespace Go.Proofs.YtnddlpfmagdbfaaGreatDoor.Sto
open Go Go.Ev Go.Proofs Go.RowKit
set_option linter.unusedVariables false
set_option linter.unusedSimpArgs false
def ints (xs : List Int) : List Value := xs.map (.int .i64)
theorem ints_get {xs : List Int} {j : Nat} (h : j < xs.length) : (ints xs)[j]? = some (.int .i64 xs[j]) := by simp [ints, h]
theorem ints_one (xs : List Int) : ∀ v ∈ ints xs, v.oneCell' = true := by
  intro v hv
  simp only [ints, List.mem_map] at hv
  obtain ⟨x, _, rfl⟩ := hv
  rfl
theorem ints_set (xs : List Int) (j : Nat) (u : Int) : (ints xs).set j (.int .i64 u) = ints (xs.set j u) := by simp [ints, List.map_set]
theorem ints_app (xs : List Int) (u : Int) : ints xs ++ [.int .i64 u] = ints (xs ++ [u]) := by simp [ints]
theorem row_below {B : Nat} {e : TypeId} {k : Nat} {v : Value} {n : Nat} {xs : List Value} {w w' : World} (h : w.ownsRow B e k v n xs) (hb : Below w.heap.size w w') : w'.ownsRow B e k v n xs :=
  h.kept (row := none) ⟨hb.os, hb.tape, hb.output, hb.size, fun j hj _ => hb.block j hj⟩ (by cases hv : v.ownBlock <;> simp)
theorem row_forms {w : World} {base size n : Nat} {e : TypeId} {v : Value} {xs : List Value} (h : w.ownsRow base e size v n xs) : ∃ a c, v = .slice a n c ∧ (0 < n → ∃ g, a = some ⟨g, 0, none⟩ ∧ base ≤ g ∧ g < w.heap.size) ∧ n ≤ c := by
  rcases h.2 with ⟨rfl, rfl⟩ | ⟨g, cap, cur, rfl, hb, hg, hc, _⟩
  · exact ⟨none, 0, rfl, fun h => absurd h (by omega), Nat.le_refl _⟩
  · exact ⟨_, cap, rfl, fun _ => ⟨g, rfl, hb, blk_lt hg⟩, hc⟩
theorem row_lies {w : World} {base n : Nat} {a : Option Addr} {c : Nat} {xs : List Int} (h : w.ownsRow base 3 1 (.slice a n c) n (ints xs)) : xs.length = n ∧ IntsAt w a xs := by
  have hl : xs.length = n := by simpa [ints] using h.1
  refine ⟨hl, fun j hj => ?_⟩
  obtain ⟨a', c', he, hf, _⟩ := row_forms h
  cases he
  obtain ⟨g, rfl, _, _⟩ := hf (by omega)
  exact ⟨_, rfl, h.cells rfl j _ (ints_get hj)⟩
theorem blk_grown {W W' : World} {g : Nat} {o : Obj} {row : Option Nat} (k : W.grownBy W' row) (h : W.heap[g]? = some o) (hne : row ≠ some g) : W'.heap[g]? = some o := (k.block _ (blk_lt h) (fun e => hne e.symm)).trans h
/-- A row is no block of another type. -/
theorem row_ne {w : World} {base n size : Nat} {e t : TypeId} {v : Value} {xs : List Value} (h : w.ownsRow base e size v n xs) {g : Nat} {cs : Array Value} {f : Nat × Nat} (hg : w.heap[g]? = some (.cells cs t f)) (ht : t ≠ e) : v.ownBlock ≠ some g := by
  intro hv
  rcases h.2 with ⟨rfl, _⟩ | ⟨g', cap, cur, rfl, hb, hh, _⟩
  · cases hv
  · simp only [Value.ownBlock, Option.some.injEq] at hv
    subst hv
    rw [hh] at hg
    injection hg with hg
    injection hg with h1 h2
    exact ht h2.symm
theorem below_grown {base : Nat} {w W W' : World} {row : Option Nat} (h : Below base w W) (k : W.grownBy W' row) (hr : ∀ g, row = some g → base ≤ g) (hb : base ≤ W.heap.size) : Below base w W' :=
  ⟨k.os.trans h.os, k.tape.trans h.tape, k.output.trans h.output, Nat.le_trans h.size k.size, fun i hi => (k.block i (by omega) (fun e => by have := hr i e.symm; omega)).trans (h.block i hi)⟩
/-- What stands while the times of a tree are made: the box of the tree, the box of a call. -/
def TimesB (w : World) (s f : Int) (a : Option Addr) (n c : Nat) (W : World) : Prop := Below w.heap.size w W ∧ W.heap[w.heap.size]? = some (.cells #[.int .u8 s, .int .u8 f, .slice a n c] 87 (0, 0))
def TimesS (w : World) (s f : Int) (a : Option Addr) (n c q : Nat) (x : CallD) (W : World) : Prop := TimesB w s f a n c W ∧ W.heap[q]? = some (.cells x.cells.toArray 155 (0, 0)) ∧ W.cell? ⟨q, 7, none⟩ = some (.int .u8 x.l)
/-- The two rows. -/
def Rows2 (base n : Nat) (v2 v3 : Value) (xs ys : List Int) (W : World) : Prop := W.ownsRow base 3 1 v2 n (ints xs) ∧ W.ownsRow base 3 1 v3 n (ints ys) ∧ (v2.ownBlock = none ∨ v2.ownBlock ≠ v3.ownBlock)
section
variable {w W W' : World} {s f : Int} {a : Option Addr} {n c q : Nat} {x : CallD} {base : Nat} {v2 v3 : Value} {xs ys : List Int}
theorem TimesB.below (h : TimesB w s f a n c W) (k : Below W.heap.size W W') : TimesB w s f a n c W' := ⟨⟨k.os.trans h.1.os, k.tape.trans h.1.tape, k.output.trans h.1.output, Nat.le_trans h.1.size k.size, fun i hi => (k.block i (Nat.lt_of_lt_of_le hi h.1.size)).trans (h.1.block i hi)⟩, blk_keep k h.2⟩
theorem TimesS.below (h : TimesS w s f a n c q x W) (k : Below W.heap.size W W') : TimesS w s f a n c q x W' := ⟨h.1.below k, blk_keep k h.2.1, cell_blk (blk_keep k h.2.1) 7 rfl⟩
theorem TimesB.sizes (h : TimesB w s f a n c W) : w.heap.size < W.heap.size := blk_lt h.2
theorem TimesB.cells (h : TimesB w s f a n c W) : W.cell? ⟨w.heap.size, 0, none⟩ = some (.int .u8 s) ∧ W.cell? ⟨w.heap.size, 1, none⟩ = some (.int .u8 f) ∧ W.cell? ⟨w.heap.size, 2, none⟩ = some (.slice a n c) := ⟨cell_blk h.2 0 rfl, cell_blk h.2 1 rfl, cell_blk h.2 2 rfl⟩
theorem TimesB.row {v : Value} {k : Nat} {zs : List Value} (h : TimesB w s f a n c W) (hv : W.ownsRow (w.heap.size + 1) 3 1 v k zs) (g : W.grownBy W' v.ownBlock) : TimesB w s f a n c W' :=
  ⟨below_grown h.1 g (fun j hj => by have := (hv.lt j hj).1; omega) h.1.size, blk_grown g h.2 (row_ne hv h.2 (by decide))⟩
theorem TimesS.row {v : Value} {k : Nat} {zs : List Value} (h : TimesS w s f a n c q x W) (hv : W.ownsRow (w.heap.size + 1) 3 1 v k zs) (g : W.grownBy W' v.ownBlock) : TimesS w s f a n c q x W' :=
  have hq := blk_grown g h.2.1 (row_ne hv h.2.1 (by decide))
  ⟨h.1.row hv g, hq, cell_blk hq 7 rfl⟩
theorem Rows2.below (h : Rows2 base n v2 v3 xs ys W) (k : Below W.heap.size W W') : Rows2 base n v2 v3 xs ys W' := ⟨row_below h.1 k, row_below h.2.1 k, h.2.2⟩
end
/-- What stands while the two times of a call are appended. -/
def TimesI (S : World → Prop) (base j : Nat) (v2 v3 : Value) (xs ys : List Int) (t u : Int) (A : Act) (L : Nat → Prop) (a : Act) (W : World) : Prop :=
  S W ∧ ∃ x50 x51 x59 x60 x2 x3 : Value, a = (((((A.put (some 50) x50).put (some 51) x51).put (some 59) x59).put (some 60) x60).put (some 2) x2).put (some 3) x3 ∧ base ≤ W.heap.size ∧
    (L 3 → L 2) ∧ (L 12 → L 11 ∧ L 3) ∧
    (¬ L 3 → W.ownsRow base 3 1 v2 j (ints xs) ∧ (v2.ownBlock = none ∨ v2.ownBlock ≠ v3.ownBlock)) ∧
    (¬ L 12 → W.ownsRow base 3 1 v3 j (ints ys)) ∧
    (L 2 → ¬ L 3 → ∃ g, x50 = .slice (some ⟨g, 0, none⟩) 1 1 ∧ W.heap[g]? = some (.cells #[.int .i64 t] 3 (0, 0))) ∧
    (L 11 → ¬ L 12 → ∃ g, x59 = .slice (some ⟨g, 0, none⟩) 1 1 ∧ W.heap[g]? = some (.cells #[.int .i64 u] 3 (0, 0)) ∧ (¬ L 3 → v2.ownBlock ≠ some g)) ∧
    (L 3 → W.ownsRow base 3 1 x51 (j + 1) (ints (xs ++ [t])) ∧ (¬ L 12 → x51.ownBlock ≠ v3.ownBlock)) ∧
    (L 12 → W.ownsRow base 3 1 x60 (j + 1) (ints (ys ++ [u])) ∧ x51.ownBlock ≠ x60.ownBlock) ∧
    (L 13 → x2 = x51) ∧ (L 14 → x3 = x60) ∧ (L 13 → L 12) ∧ (L 14 → L 13)
/-- The start of the next call. -/
def stepS (f : Int) (xs : List Int) (x : CallD) : Int := (if x.p % ((xs.length : Int) + 1) < xs.length then xs.getD (x.p % ((xs.length : Int) + 1)).toNat 0 else 1000 + f % 32) + (if 0 < xs.length then x.w % 32 else 0)
theorem stepS_p {f : Int} {xs : List Int} {x : CallD} {j pn : Nat} (hl : xs.length = j) (hP : x.p % ((j : Int) + 1) = (pn : Int)) (h : pn < j) : stepS f xs x = xs[pn] + x.w % 32 := by
  subst hl
  unfold stepS
  rw [hP, if_pos (by omega), if_pos (by omega), Int.toNat_natCast]
  simp [List.getD, h]
theorem stepS_n {f : Int} {xs : List Int} {x : CallD} {j pn : Nat} (hl : xs.length = j) (hP : x.p % ((j : Int) + 1) = (pn : Int)) (h : ¬ pn < j) (h0 : 0 < j) : stepS f xs x = 1000 + f % 32 + x.w % 32 := by
  subst hl
  unfold stepS
  rw [hP, if_neg (by omega), if_pos (by omega)]
theorem stepS_0 {f : Int} {xs : List Int} {x : CallD} {j pn : Nat} (hl : xs.length = j) (hP : x.p % ((j : Int) + 1) = (pn : Int)) (h : ¬ pn < j) (h0 : ¬ 0 < j) : stepS f xs x = 1000 + f % 32 := by
  subst hl
  unfold stepS
  rw [hP, if_neg (by omega), if_neg (by omega), Int.add_zero]
def stepT (f : Int) (p : List Int × List Int) (x : CallD) : List Int × List Int := (p.1 ++ [stepS f p.1 x], p.2 ++ [stepS f p.1 x + x.l % 32])
def timesX0 (f : Int) (cs : List CallD) : List Int × List Int := cs.foldl (stepT f) ([], [])
theorem timesX0_take (f : Int) {cs : List CallD} {j : Nat} (h : j < cs.length) : timesX0 f (cs.take (j + 1)) = stepT f (timesX0 f (cs.take j)) cs[j] := by
  unfold timesX0
  rw [take_succ_get h, List.foldl_append]
  rfl
/-- The times of the first calls, and their bounds. -/
def TQ (f : Int) (cs : List CallD) (j : Nat) (xs ys : List Int) : Prop := timesX0 f (cs.take j) = (xs, ys) ∧ xs.length = j ∧ ys.length = j ∧ ∀ y ∈ xs, 1000 ≤ y ∧ y ≤ 1031 + 31 * (j : Int)
theorem TQ.nil (f : Int) (cs : List CallD) : TQ f cs 0 [] [] := ⟨rfl, rfl, rfl, by simp⟩
theorem TQ.step {f : Int} {cs : List CallD} {j : Nat} {xs ys : List Int} {t u : Int} {x : CallD} (h : TQ f cs j xs ys) (hj : j < cs.length) (hx : cs[j] = x) (ht : t = stepS f xs x) (hu : u = t + x.l % 32) (hb : 1000 ≤ t ∧ t ≤ 1031 + 31 * ((j : Int) + 1)) : TQ f cs (j + 1) (xs ++ [t]) (ys ++ [u]) := by
  refine ⟨by rw [timesX0_take f hj, h.1, hx, hu, ht]; rfl, by simp [h.2.1], by simp [h.2.2.1], fun y hy => ?_⟩
  rcases List.mem_append.1 hy with hy | hy
  · have := h.2.2.2 y hy
    constructor <;> omega
  · obtain rfl := List.mem_singleton.1 hy
    exact ⟨hb.1, by have := hb.2; omega⟩
/-- A client waits for its server. -/
def stepE (cs : List CallD) (ys : List Int) (i : Nat) : List Int :=
  match cs[i]? with
  | some x => (match cs[(x.p % ((i : Int) + 1)).toNat]? with
    | some x2 => if (x.p % ((i : Int) + 1)).toNat < i ∧ kindX x = 3 ∧ kindX x2 = 2 ∧ x2.e = false then ys.set (x.p % ((i : Int) + 1)).toNat (max (ys.getD (x.p % ((i : Int) + 1)).toNat 0) (ys.getD i 0)) else ys
    | none => ys)
  | none => ys
def endsN (cs : List CallD) (ys : List Int) : Nat → List Int
  | 0 => ys
  | d + 1 => stepE cs (endsN cs ys d) (cs.length - 1 - d)
theorem stepE_at {cs : List CallD} {ys : List Int} {i pn : Nat} {x x2 : CallD} (hi : cs[i]? = some x) (hp : x.p % ((i : Int) + 1) = (pn : Int)) (h2 : cs[pn]? = some x2) :
    stepE cs ys i = if pn < i ∧ kindX x = 3 ∧ kindX x2 = 2 ∧ x2.e = false then ys.set pn (max (ys.getD pn 0) (ys.getD i 0)) else ys := by
  simp only [stepE, hi, hp, Int.toNat_natCast, h2]
theorem stepE_no {cs : List CallD} {ys : List Int} {i pn : Nat} {x : CallD} (hi : cs[i]? = some x) (hp : x.p % ((i : Int) + 1) = (pn : Int)) (h : ¬ pn < i) : stepE cs ys i = ys := by
  simp only [stepE, hi, hp, Int.toNat_natCast]
  split
  · rw [if_neg (fun k => h k.1)]
  · rfl
def startX (f : Int) (cs : List CallD) : List Int := (timesX0 f cs).1
def endX (f : Int) (cs : List CallD) : List Int := endsN cs (timesX0 f cs).2 (cs.length - 1)
/-- What the second loop has made of the ends. -/
def EQ (cs : List CallD) (ys0 : List Int) (n : Nat) (z : Int) (ys : List Int) : Prop := ys = endsN cs ys0 ((n : Int) - 1 - z).toNat ∧ (0 ≤ z ∨ n = 0)
theorem EQ.step {cs : List CallD} {ys0 : List Int} {n j : Nat} {ys ys' : List Int} (hn : cs.length = n) (h : EQ cs ys0 n j ys) (h1 : 0 < j) (h2 : j < n) (hs : ys' = stepE cs ys j) : EQ cs ys0 n ((j : Int) - 1) ys' := by
  refine ⟨?_, by omega⟩
  rw [show ((n : Int) - 1 - ((j : Int) - 1)).toNat = ((n : Int) - 1 - j).toNat + 1 by omega]
  unfold endsN
  rw [← h.1, hs, hn]
  congr 1
  omega
theorem ends_wrap {t l : Int} (h1 : 1000 ≤ t) (h2 : t ≤ 100000) (hl : 0 ≤ l ∧ l < 256) : IntKind.i64.wrap (t + IntKind.i64.wrap (l.tmod 32)) = t + l % 32 := by
  rw [Int.tmod_eq_emod_of_nonneg hl.1]
  simp [IntKind.wrap, IntKind.bits, IntKind.signed]
  omega
def TimesV (f : Int) (cs : List CallD) (w : World) (e : Ending) : Prop := ∃ (sA eA : Option Addr) (sc ec : Nat), e = .returned (.tuple #[.slice sA cs.length sc, .slice eA cs.length ec]) ∧ (startX f cs).length = cs.length ∧ (endX f cs).length = cs.length ∧ IntsAt w sA (startX f cs) ∧ IntsAt w eA (endX f cs)

theorem rows_ne {v v' : Value} (h : v.ownBlock = none ∨ v.ownBlock ≠ v'.ownBlock) : v'.ownBlock = none ∨ v'.ownBlock ≠ v.ownBlock := by
  cases hu : v'.ownBlock with
  | none => exact .inl rfl
  | some g => exact .inr fun e => h.elim (fun h => by rw [h] at e; cases e) fun h => h (by rw [hu]; exact e.symm)
def infoIs (sz b : Nat) (r : Option TypeInfo) : Bool :=
  match r with
  | some i => (match i.zero with
    | some z => Nat.beq i.size sz && Nat.beq i.bytes b && Nat.beq z.cells.size sz
    | none => false)
  | none => false
theorem infoIs_spec {sz b : Nat} {r : Option TypeInfo} (h : infoIs sz b r = true) : ∃ i z, r = some i ∧ i.zero = some z ∧ i.size = sz ∧ i.bytes = b ∧ z.cells.size = sz := by
  unfold infoIs at h
  split at h
  · rename_i i
    split at h
    · rename_i z hz
      rw [Bool.and_eq_true, Bool.and_eq_true] at h
      exact ⟨i, z, rfl, hz, Nat.eq_of_beq_eq_true h.1.1, Nat.eq_of_beq_eq_true h.1.2, Nat.eq_of_beq_eq_true h.2⟩
    · cases h
  · cases h
theorem info3 : infoIs 1 8 (Tryz.prog.info? 3) = true := by kernel_rfl
set_option maxRecDepth 20000 in
set_option maxHeartbeats 8000000 in
theorem times_any (s f : Int) (a : Option Addr) (cs : List CallD) (c : Nat) (w : World) (hc : CallsAt w a cs) (hs : isU8 s) (hf : isU8 f) (hl : cs.length ≤ 100) :
    Calls Tryz.prog 62 #[.agg #[.int .u8 s, .int .u8 f, .slice a cs.length c]] w fun e w' => TimesV f cs w' e ∧ Below w.heap.size w w' := by
  have HB0 := Lib.hid (show TimesB w s f a cs.length c (w.alloc (.cells #[.int .u8 s, .int .u8 f, .slice a cs.length c] 87)) from ⟨below_alloc _ _, heap_alloc_last _ _⟩)
  have HC := Lib.hid hc
  unfold isU8 at hs hf
  clear hc
  obtain ⟨i3, z3, hi3, hi3z, hi3s, hi3b, hi3c⟩ := infoIs_spec info3
  go_enter Tryz.func62, Tryz.ntmps62
  go_wp2_with fail
  have HR0 := Lib.hid (show Rows2 (w.heap.size + 1) 0 (.slice none 0 0) (.slice none 0 0) [] [] (w.alloc (.cells #[.int .u8 s, .int .u8 f, .slice a cs.length c] 87)) from ⟨World.ownsRow_nil _ _ _ _, World.ownsRow_nil _ _ _ _, .inl rfl⟩)
  go_loopw [2, 3, 4] (fun v2 v3 i wr => ∃ (j : Nat) (xs ys : List Int), j ≤ cs.length ∧ i = .int .i64 j ∧ Hid (TimesB w s f a cs.length c wr) ∧ Hid (Rows2 (w.heap.size + 1) j v2 v3 xs ys wr) ∧ Hid (TQ f cs j xs ys)) (fun _ _ i _ => cs.length - (intOf i).toNat)
  case atStart => exact ⟨0, [], [], by omega, rfl, HB0, HR0, Lib.hid (TQ.nil f cs)⟩
  case round =>
    obtain ⟨j, xs, ys, hj, rfl, HB, HR, HQ⟩ := hrel
    obtain ⟨b0, b1, b2⟩ := HB.out.cells
    have z0 := HB.out.sizes
    by_cases hlt : j < cs.length
    · obtain ⟨cad, rfl, c0, hok⟩ := (HC.out.below HB.out.1) j hlt
      have hw := c0
      obtain ⟨c0, c1, c2, c3, c4, c5, c6, c7, c8, c9, c10⟩ := c0
      generalize hx : cs[j] = x at *
      unfold CallD.ok isU8 at hok
      have HLb : Hid (0 ≤ x.l ∧ x.l < 256) := Lib.hid hok.2.2.2.2.2.2.2.1
      obtain ⟨a2, k2, rfl, f2, m2⟩ := row_forms HR.out.1
      have i0 : (0 : Int) ≤ (j : Int) := by omega
      have p0 := Int.emod_nonneg x.p (show (j : Int) + 1 ≠ 0 by omega)
      have p1 := Int.emod_lt_of_pos x.p (show (0 : Int) < (j : Int) + 1 by omega)
      obtain ⟨pn, hP⟩ : ∃ pn : Nat, x.p % ((j : Int) + 1) = (pn : Int) := ⟨(x.p % ((j : Int) + 1)).toNat, (Int.toNat_of_nonneg p0).symm⟩
      rw [hP] at p0 p1
      go_upto_region 7 with (fail)
      try simp only [hP]
      have HS1 := Lib.hid (show TimesS w s f (some cad) cs.length c wr.heap.size x (wr.alloc (.cells x.cells.toArray 155)) from ⟨HB.out.below (below_alloc _ _), heap_alloc_last _ _, cell_blk (heap_alloc_last _ _) 7 rfl⟩)
      have HR1 := Lib.hid (HR.out.below (below_alloc wr (.cells x.cells.toArray 155)))
      obtain ⟨r2, i2⟩ := row_lies HR1.out.1
      have hq : wr.heap.size < (wr.alloc (.cells x.cells.toArray 155)).heap.size := by simp
      have y6 : (wr.alloc (.cells x.cells.toArray 155)).cell? ⟨wr.heap.size, 6, none⟩ = some (.int .u8 x.w) := cell_blk (heap_alloc_last _ _) 6 rfl
      unfold CallD.cells at HS1 HR1 i2 hq y6
      clear HB HR b0 b1 b2 z0 c0 c1 c2 c3 c4 c5 c6 c7 c8 c9 c10 hw
      generalize wr.alloc _ = W1 at *
      generalize wr.heap.size = q at *
      clear wr
      by_cases hpj : pn < j
      · obtain ⟨ad2, rfl, y2⟩ := i2 pn (by omega)
        have q1 : (pn : Int) < (j : Int) := by omega
        have q2 : (0 : Int) < (j : Int) := by omega
        have hyb := Lib.hid (HQ.out.2.2.2 xs[pn] (List.getElem_mem _))
        have HT : Hid (stepS f xs x = xs[pn] + x.w % 32) := Lib.hid (stepS_p HQ.out.2.1 hP hpj)
        generalize xs[pn] = y at *
        go_upto_region 11 with (fail)
        obtain ⟨t, ht⟩ : ∃ t, t = wrap64 (y + x.w % 32) := ⟨_, rfl⟩
        rw [← ht]
        have htw : t = y + x.w % 32 := ht.trans (IntWalk.wrap64_in _ (by have := hyb.out; omega))
        have HTt : Hid (t = stepS f xs x) := Lib.hid (htw.trans HT.out.symm)
        have HTb : Hid (1000 ≤ t ∧ t ≤ 1031 + 31 * ((j : Int) + 1)) := Lib.hid (by have := hyb.out; omega)
        clear ht htw HT hyb
        try generalize decide (0 < j) = dj
        clear i2 y6
        clear f2 m2
        have HRd := Lib.hid (HR1.out.below (below_drew _))
        have HS2 : Hid (TimesS w s f (some cad) cs.length c q x W1) := HS1
        clear HS1
        refine wp_region_held_drew (S := (fun W => TimesS w s f (some cad) cs.length c q x W)) (by kernel_rfl) (HS2.out.below (below_drew _)) (fun hHeld => ?_)
        refine take_at (i := 0) (v := ?_) rfl (by kernel_rfl) (by kernel_rfl) (by kernel_rfl) (fun _ _ _ h => h) (Or.inl ⟨by rfl, ?_⟩) hHeld ?_
        rotate_left
        · intro W hSw; (try dsimp only at hSw); unfold TimesS TimesB at hSw; go_simp; try with_reducible rfl
        try simp only [Act.put, List.setIfInBounds_toArray, List.set_cons_zero, List.set_cons_succ]
        refine take_at (i := 1) (v := ?_) rfl (by kernel_rfl) (by kernel_rfl) (by kernel_rfl) (fun _ _ _ h => h) (Or.inl ⟨by rfl, ?_⟩) hHeld ?_
        rotate_left
        · intro W hSw; (try dsimp only at hSw); unfold TimesS TimesB at hSw; go_simp; try with_reducible rfl
        try simp only [Act.put, List.setIfInBounds_toArray, List.set_cons_zero, List.set_cons_succ]
        refine take_at (i := 4) (v := ?_) rfl (by kernel_rfl) (by kernel_rfl) (by kernel_rfl) (fun _ _ _ h => h) (Or.inl ⟨by rfl, ?_⟩) hHeld ?_
        rotate_left
        · intro W hSw; (try dsimp only at hSw); unfold TimesS TimesB at hSw; go_simp; try with_reducible rfl
        try simp only [Act.put, List.setIfInBounds_toArray, List.set_cons_zero, List.set_cons_succ]
        refine take_at (i := 5) (v := ?_) rfl (by kernel_rfl) (by kernel_rfl) (by kernel_rfl) (fun _ _ _ h => h) (Or.inl ⟨by rfl, ?_⟩) hHeld ?_
        rotate_left
        · intro W hSw; (try dsimp only at hSw); unfold TimesS TimesB at hSw; go_simp; try with_reducible rfl
        try simp only [Act.put, List.setIfInBounds_toArray, List.set_cons_zero, List.set_cons_succ]
        refine take_at (i := 6) (v := ?_) rfl (by kernel_rfl) (by kernel_rfl) (by kernel_rfl) (fun _ _ _ h => h) (Or.inl ⟨by rfl, ?_⟩) hHeld ?_
        rotate_left
        · intro W hSw; (try dsimp only at hSw); unfold TimesS TimesB at hSw; go_simp; try with_reducible rfl
        try simp only [Act.put, List.setIfInBounds_toArray, List.set_cons_zero, List.set_cons_succ]
        refine take_at (i := 7) (v := ?_) rfl (by kernel_rfl) (by kernel_rfl) (by kernel_rfl) (fun _ _ _ h => h) (Or.inl ⟨by rfl, ?_⟩) hHeld ?_
        rotate_left
        · intro W hSw; (try dsimp only at hSw); unfold TimesS TimesB at hSw; go_simp; try with_reducible rfl
        try simp only [Act.put, List.setIfInBounds_toArray, List.set_cons_zero, List.set_cons_succ]
        refine take_at (i := 8) (v := ?_) rfl (by kernel_rfl) (by kernel_rfl) (by kernel_rfl) (fun _ _ _ h => h) (Or.inl ⟨by rfl, ?_⟩) hHeld ?_
        rotate_left
        · intro W hSw; (try dsimp only at hSw); unfold TimesS TimesB at hSw; go_simp; try with_reducible rfl
        try simp only [Act.put, List.setIfInBounds_toArray, List.set_cons_zero, List.set_cons_succ]
        refine take_at (i := 9) (v := ?_) rfl (by kernel_rfl) (by kernel_rfl) (by kernel_rfl) (fun _ _ _ h => h) (Or.inl ⟨by rfl, ?_⟩) hHeld ?_
        rotate_left
        · intro W hSw; (try dsimp only at hSw); unfold TimesS TimesB at hSw; go_simp; try with_reducible rfl
        try simp only [Act.put, List.setIfInBounds_toArray, List.set_cons_zero, List.set_cons_succ]
        refine take_at (i := 10) (v := ?_) rfl (by kernel_rfl) (by kernel_rfl) (by kernel_rfl) (fun _ _ _ h => h) (Or.inl ⟨by rfl, ?_⟩) hHeld ?_
        rotate_left
        · intro W hSw; (try dsimp only at hSw); unfold TimesS TimesB at hSw; go_simp; try with_reducible rfl
        try simp only [Act.put, List.setIfInBounds_toArray, List.set_cons_zero, List.set_cons_succ]
        refine wpAnyH_rest [2, 3, 11, 12, 13, 14] (TimesI (TimesS w s f (some cad) cs.length c q x) (w.heap.size + 1) j (.slice (some ad2) j k2) u3 xs ys t (IntKind.i64.wrap (t + IntKind.i64.wrap (x.l.tmod 32)))) (by kernel_rfl) rfl (by kernel_rfl) (by kernel_rfl) (by kernel_rfl) ?_ (fun _ _ _ h => h.1) ?_ ?_
        · intro L hL
          have g : ∀ k ∈ [2, 3, 11, 12, 13, 14], L k → False := fun k hk h => hL k hk h
          refine ⟨hHeld, ?x50, ?x51, ?x59, ?x60, .slice (some ad2) j k2, u3, ?eq, Nat.succ_le_of_lt hHeld.1.sizes, fun h => (g 3 (by simp) h).elim, fun h => (g 12 (by simp) h).elim, fun _ => ⟨HRd.out.1, HRd.out.2.2⟩, fun _ => HRd.out.2.1, fun h => (g 2 (by simp) h).elim, fun h => (g 11 (by simp) h).elim, fun h => (g 3 (by simp) h).elim, fun h => (g 12 (by simp) h).elim, fun h => (g 13 (by simp) h).elim, fun h => (g 14 (by simp) h).elim, fun h => (g 13 (by simp) h).elim, fun h => (g 14 (by simp) h).elim⟩
          case eq =>
            simp only [Act.put, List.setIfInBounds_toArray, List.set_cons_zero, List.set_cons_succ]
            try rfl
        · intro i0 hi0
          simp only [List.mem_cons, List.not_mem_nil, or_false] at hi0
          rcases hi0 with rfl | rfl | rfl | rfl | rfl | rfl
          · intro L A W o hI ho hn hd
            obtain rfl := Option.some.inj (show some _ = some o from nth_of ho)
            obtain ⟨hS, x50, x51, x59, x60, x2, x3, rfl, hsz, h32, h12, hA, hB, hC, hD, hE, hF, hG, hH, hI, hJ⟩ := hI
            simp only [Act.put, List.setIfInBounds_toArray, List.set_cons_zero, List.set_cons_succ]
            refine wpOp_step (nth_at rfl) (fun K hK => ?_)
            rw [if_pos (by rfl)]
            have n3 : ¬ L 3 := fun h => hn (h32 h)
            have n12 : ¬ L 12 := fun h => n3 (h12 h).2
            go_simp
            refine hK _ _ ⟨hS.below (below_alloc _ _), .slice (some ⟨W.heap.size, 0, none⟩) 1 1, x51, x59, x60, x2, x3, ?_, by simp; omega, fun h => absurd (h.resolve_right (by decide)) n3, fun h => absurd (h.resolve_right (by decide)) n12, fun _ => ⟨(hA n3).1.alloc _, (hA n3).2⟩, fun _ => (hB n12).alloc _, fun _ _ => ⟨W.heap.size, rfl, heap_alloc_last _ _⟩, fun h _ => ?_, fun h => absurd (h.resolve_right (by decide)) n3, fun h => absurd (h.resolve_right (by decide)) n12, fun h => absurd (hI (h.resolve_right (by decide))) n12, fun h => absurd (hI (hJ (h.resolve_right (by decide)))) n12, fun h => absurd (hI (h.resolve_right (by decide))) n12, fun h => absurd (hI (hJ (h.resolve_right (by decide)))) n12⟩
            · simp only [Act.put, List.setIfInBounds_toArray, List.set_cons_zero, List.set_cons_succ]
            · obtain ⟨g, e1, e2, e3⟩ := hD (h.resolve_right (by decide)) n12
              exact ⟨g, e1, heap_alloc_old e2, fun _ => e3 n3⟩
          · intro L A W o hI ho hn hd
            obtain rfl := Option.some.inj (show some _ = some o from nth_of ho)
            obtain ⟨hS, x50, x51, x59, x60, x2, x3, rfl, hsz, h32, h12, hA, hB, hC, hD, hE, hF, hG, hH, hI, hJ⟩ := hI
            simp only [Act.put, List.setIfInBounds_toArray, List.set_cons_zero, List.set_cons_succ]
            refine wpOp_step (nth_at rfl) (fun K hK => ?_)
            rw [if_pos (by rfl)]
            have l2 : L 2 := hd { on := 2, ground := Ground.data } (by simp) rfl (by simp)
            have n12 : ¬ L 12 := fun h => hn (h12 h).2
            obtain ⟨g2, rfl, e2⟩ := hC l2 hn
            obtain ⟨o2, hne⟩ := hA hn
            have o3 := hB n12
            refine wp_append_lies W (.tmp 48) (.tmp 50) 122 rfl (w.heap.size + 1) 3 i3 z3 1 8 Tryz.underlying122 hi3 hi3z hi3s hi3b hi3c (by decide) (.slice (some ad2) j k2) j (ints xs) rfl o2 ⟨g2, 0, none⟩ 1 1 [.int .i64 t] rfl rfl (World.news_of_block e2) (by intro u hu; simp only [List.mem_singleton] at hu; subst hu; rfl) (by decide) (by unfold maxLen; omega) (by omega) hsz _ rfl ?_
            intro g cap w1 hown hgr hat hlt
            rw [ints_app] at hown
            have h63 : Value.ownBlock (.slice (some ⟨g, 0, none⟩) (j + 1) cap) ≠ u3.ownBlock := by
              rcases hat with h | h
              · rw [show Value.ownBlock (.slice (some ⟨g, 0, none⟩) (j + 1) cap) = some g from rfl, ← h]
                exact hne.resolve_left (by rw [h]; simp)
              · intro h'
                have := (o3.lt g h'.symm).2
                omega
            refine hK _ _ ⟨hS.row o2 hgr, .slice (some ⟨g2, 0, none⟩) 1 1, .slice (some ⟨g, 0, none⟩) (j + 1) cap, x59, x60, x2, x3, ?_, by have := hgr.size; omega, fun _ => .inl l2, fun h => absurd (h.resolve_right (by decide)) n12, fun h => absurd (.inr rfl) h, fun _ => o3.kept hgr (rows_ne hne), fun _ h => absurd (.inr rfl) h, fun h _ => ?_, fun _ => ⟨hown, fun _ => h63⟩, fun h => absurd (h.resolve_right (by decide)) n12, fun h => absurd (hI (h.resolve_right (by decide))) n12, fun h => absurd (hI (hJ (h.resolve_right (by decide)))) n12, fun h => absurd (hI (h.resolve_right (by decide))) n12, fun h => absurd (hI (hJ (h.resolve_right (by decide)))) n12⟩
            · simp only [Act.put, List.setIfInBounds_toArray, List.set_cons_zero, List.set_cons_succ]
            · obtain ⟨g, e1, e2, e3⟩ := hD (h.resolve_right (by decide)) n12
              exact ⟨g, e1, blk_grown hgr e2 (e3 hn), fun h => absurd (.inr rfl) h⟩
          · intro L A W o hI ho hn hd
            obtain rfl := Option.some.inj (show some _ = some o from nth_of ho)
            obtain ⟨hS, x50, x51, x59, x60, x2, x3, rfl, hsz, h32, h12, hA, hB, hC, hD, hE, hF, hG, hH, hI, hJ⟩ := hI
            simp only [Act.put, List.setIfInBounds_toArray, List.set_cons_zero, List.set_cons_succ]
            refine wpOp_step (nth_at rfl) (fun K hK => ?_)
            rw [if_pos (by rfl)]
            have n12 : ¬ L 12 := fun h => hn (h12 h).1
            go_simp
            refine hK _ _ ⟨hS.below (below_alloc _ _), x50, x51, .slice (some ⟨W.heap.size, 0, none⟩) 1 1, x60, x2, x3, ?_, by simp; omega, fun h => .inl (h32 (h.resolve_right (by decide))), fun h => absurd (h.resolve_right (by decide)) n12, fun h => ⟨(hA fun l => h (.inl l)).1.alloc _, (hA fun l => h (.inl l)).2⟩, fun _ => (hB n12).alloc _, fun h h' => ?_, fun _ _ => ⟨W.heap.size, rfl, heap_alloc_last _ _, fun h e => ?_⟩, fun h => ⟨(hE (h.resolve_right (by decide))).1.alloc _, fun _ => (hE (h.resolve_right (by decide))).2 n12⟩, fun h => absurd (h.resolve_right (by decide)) n12, fun h => absurd (hI (h.resolve_right (by decide))) n12, fun h => absurd (hI (hJ (h.resolve_right (by decide)))) n12, fun h => absurd (hI (h.resolve_right (by decide))) n12, fun h => absurd (hI (hJ (h.resolve_right (by decide)))) n12⟩
            · simp only [Act.put, List.setIfInBounds_toArray, List.set_cons_zero, List.set_cons_succ]
            · obtain ⟨g, e1, e2⟩ := hC (h.resolve_right (by decide)) (fun l => h' (.inl l))
              exact ⟨g, e1, heap_alloc_old e2⟩
            · have := ((hA fun l => h (.inl l)).1.lt _ e).2
              omega
          · intro L A W o hI ho hn hd
            obtain rfl := Option.some.inj (show some _ = some o from nth_of ho)
            obtain ⟨hS, x50, x51, x59, x60, x2, x3, rfl, hsz, h32, h12, hA, hB, hC, hD, hE, hF, hG, hH, hI, hJ⟩ := hI
            simp only [Act.put, List.setIfInBounds_toArray, List.set_cons_zero, List.set_cons_succ]
            refine wpOp_step (nth_at rfl) (fun K hK => ?_)
            rw [if_pos (by rfl)]
            have l11 : L 11 := hd { on := 11, ground := Ground.data } (by simp) rfl (by simp)
            have l3 : L 3 := hd { on := 3, ground := Ground.chain } (by simp) rfl (by simp)
            obtain ⟨g2, rfl, e2, e3⟩ := hD l11 hn
            have o3 := hB hn
            obtain ⟨o2, hne⟩ := hE l3
            refine wp_append_lies W (.tmp 52) (.tmp 59) 122 rfl (w.heap.size + 1) 3 i3 z3 1 8 Tryz.underlying122 hi3 hi3z hi3s hi3b hi3c (by decide) u3 j (ints ys) rfl o3 ⟨g2, 0, none⟩ 1 1 [.int .i64 (IntKind.i64.wrap (t + IntKind.i64.wrap (x.l.tmod 32)))] rfl rfl (World.news_of_block e2) (by intro u hu; simp only [List.mem_singleton] at hu; subst hu; rfl) (by decide) (by unfold maxLen; omega) (by omega) hsz _ rfl ?_
            intro g cap w1 hown hgr hat hlt
            rw [ints_app] at hown
            have hne := hne hn
            have h63 : x51.ownBlock ≠ Value.ownBlock (.slice (some ⟨g, 0, none⟩) (j + 1) cap) := by
              rcases hat with h | h
              · rw [show Value.ownBlock (.slice (some ⟨g, 0, none⟩) (j + 1) cap) = some g from rfl, ← h]
                exact hne
              · intro h'
                have := (o2.lt g h').2
                omega
            refine hK _ _ ⟨hS.row o3 hgr, x50, x51, .slice (some ⟨g2, 0, none⟩) 1 1, .slice (some ⟨g, 0, none⟩) (j + 1) cap, x2, x3, ?_, by have := hgr.size; omega, fun h => .inl (h32 (h.resolve_right (by decide))), fun _ => ⟨.inl l11, .inl l3⟩, fun h => absurd (.inl l3) h, fun h => absurd (.inr rfl) h, fun _ h => absurd (.inl l3) h, fun _ h => absurd (.inr rfl) h, fun _ => ⟨o2.kept hgr (.inr hne), fun h => absurd (.inr rfl) h⟩, fun _ => ⟨hown, h63⟩, fun h => absurd (hI (h.resolve_right (by decide))) hn, fun h => absurd (hI (hJ (h.resolve_right (by decide)))) hn, fun h => absurd (hI (h.resolve_right (by decide))) hn, fun h => absurd (hI (hJ (h.resolve_right (by decide)))) hn⟩
            simp only [Act.put, List.setIfInBounds_toArray, List.set_cons_zero, List.set_cons_succ]
          · intro L A W o hI ho hn hd
            obtain rfl := Option.some.inj (show some _ = some o from nth_of ho)
            obtain ⟨hS, x50, x51, x59, x60, x2, x3, rfl, hsz, h32, h12, hA, hB, hC, hD, hE, hF, hG, hH, hI, hJ⟩ := hI
            simp only [Act.put, List.setIfInBounds_toArray, List.set_cons_zero, List.set_cons_succ]
            refine wpOp_step (nth_at rfl) (fun K hK => ?_)
            rw [if_pos (by rfl)]
            have l12 : L 12 := hd { on := 12, ground := Ground.chain } (by simp) rfl (by simp)
            have l3 := (h12 l12).2
            go_simp
            refine hK _ _ ⟨hS, x50, x51, x59, x60, x51, x3, ?_, hsz, fun h => .inl (h32 (h.resolve_right (by decide))), fun h => (h12 (h.resolve_right (by decide))).imp .inl .inl, fun h => absurd (.inl l3) h, fun h => absurd (.inl l12) h, fun _ h => absurd (.inl l3) h, fun _ h => absurd (.inl l12) h, fun _ => ⟨(hE l3).1, fun h => absurd (.inl l12) h⟩, fun _ => hF l12, fun _ => rfl, fun h => absurd (hJ (h.resolve_right (by decide))) hn, fun _ => .inl l12, fun h => absurd (hJ (h.resolve_right (by decide))) hn⟩
            simp only [Act.put, List.setIfInBounds_toArray, List.set_cons_zero, List.set_cons_succ]
          · intro L A W o hI ho hn hd
            obtain rfl := Option.some.inj (show some _ = some o from nth_of ho)
            obtain ⟨hS, x50, x51, x59, x60, x2, x3, rfl, hsz, h32, h12, hA, hB, hC, hD, hE, hF, hG, hH, hI, hJ⟩ := hI
            simp only [Act.put, List.setIfInBounds_toArray, List.set_cons_zero, List.set_cons_succ]
            refine wpOp_step (nth_at rfl) (fun K hK => ?_)
            rw [if_pos (by rfl)]
            have l12 : L 12 := hd { on := 12, ground := Ground.data } (by simp) rfl (by simp)
            have l13 : L 13 := hd { on := 13, ground := Ground.chain } (by simp) rfl (by simp)
            have l3 := (h12 l12).2
            go_simp
            refine hK _ _ ⟨hS, x50, x51, x59, x60, x2, x60, ?_, hsz, fun h => .inl (h32 (h.resolve_right (by decide))), fun h => (h12 (h.resolve_right (by decide))).imp .inl .inl, fun h => absurd (.inl l3) h, fun h => absurd (.inl l12) h, fun _ h => absurd (.inl l3) h, fun _ h => absurd (.inl l12) h, fun _ => ⟨(hE l3).1, fun h => absurd (.inl l12) h⟩, fun _ => hF l12, fun h => hG (h.resolve_right (by decide)), fun _ => rfl, fun h => .inl (hI (h.resolve_right (by decide))), fun _ => .inl l13⟩
            simp only [Act.put, List.setIfInBounds_toArray, List.set_cons_zero, List.set_cons_succ]
        · intro L A W hI ha
          obtain ⟨hS, x50, x51, x59, x60, x2, x3, rfl, hsz, h32, h12, hA, hB, hC, hD, hE, hF, hG, hH, hI, hJ⟩ := hI
          obtain rfl := hG (ha 13 (by simp))
          obtain rfl := hH (ha 14 (by simp))
          have hr1 := (hE (ha 3 (by simp))).1
          have hr2 := (hF (ha 12 (by simp)))
          have HR9 := Lib.hid (show Rows2 (w.heap.size + 1) (j + 1) x2 x3 (xs ++ [t]) (ys ++ [IntKind.i64.wrap (t + IntKind.i64.wrap (x.l.tmod 32))]) W from ⟨hr1, hr2.1, .inr hr2.2⟩)
          have HQ9 : Hid (TQ f cs (j + 1) (xs ++ [t]) (ys ++ [IntKind.i64.wrap (t + IntKind.i64.wrap (x.l.tmod 32))])) := Lib.hid (HQ.out.step hlt hx HTt.out (ends_wrap HTb.out.1 (by have := HTb.out.2; omega) HLb.out) HTb.out)
          have HB9 := Lib.hid hS.1
          clear h32 h12 hA hB hC hD hE hF hG hH hI hJ ha hHeld
          simp only [Act.put, List.setIfInBounds_toArray, List.set_cons_zero, List.set_cons_succ]
          go_wp2_with fail
          exact ⟨⟨j + 1, _, _, by omega, by go_num, HB9, HR9, HQ9⟩, by simp [intOf]; omega⟩
      · have q1 : ¬ (pn : Int) < (j : Int) := by omega
        by_cases hj0 : (0 : Int) < (j : Int)
        · have HT : Hid (stepS f xs x = 1000 + f % 32 + x.w % 32) := Lib.hid (stepS_n HQ.out.2.1 hP hpj (by omega))
          go_upto_region 11 with (fail)
          obtain ⟨t, ht⟩ : ∃ t, t = 1000 + f % 32 + x.w % 32 := ⟨_, rfl⟩
          rw [← ht]
          have HTt : Hid (t = stepS f xs x) := Lib.hid (ht.trans HT.out.symm)
          have HTb : Hid (1000 ≤ t ∧ t ≤ 1031 + 31 * ((j : Int) + 1)) := Lib.hid (by omega)
          clear ht HT
          try generalize decide (0 < j) = dj
          clear i2 y6
          clear f2 m2
          have HRd := Lib.hid (HR1.out.below (below_drew _))
          have HS2 : Hid (TimesS w s f (some cad) cs.length c q x W1) := HS1
          clear HS1
          refine wp_region_held_drew (S := (fun W => TimesS w s f (some cad) cs.length c q x W)) (by kernel_rfl) (HS2.out.below (below_drew _)) (fun hHeld => ?_)
          refine take_at (i := 0) (v := ?_) rfl (by kernel_rfl) (by kernel_rfl) (by kernel_rfl) (fun _ _ _ h => h) (Or.inl ⟨by rfl, ?_⟩) hHeld ?_
          rotate_left
          · intro W hSw; (try dsimp only at hSw); unfold TimesS TimesB at hSw; go_simp; try with_reducible rfl
          try simp only [Act.put, List.setIfInBounds_toArray, List.set_cons_zero, List.set_cons_succ]
          refine take_at (i := 1) (v := ?_) rfl (by kernel_rfl) (by kernel_rfl) (by kernel_rfl) (fun _ _ _ h => h) (Or.inl ⟨by rfl, ?_⟩) hHeld ?_
          rotate_left
          · intro W hSw; (try dsimp only at hSw); unfold TimesS TimesB at hSw; go_simp; try with_reducible rfl
          try simp only [Act.put, List.setIfInBounds_toArray, List.set_cons_zero, List.set_cons_succ]
          refine take_at (i := 4) (v := ?_) rfl (by kernel_rfl) (by kernel_rfl) (by kernel_rfl) (fun _ _ _ h => h) (Or.inl ⟨by rfl, ?_⟩) hHeld ?_
          rotate_left
          · intro W hSw; (try dsimp only at hSw); unfold TimesS TimesB at hSw; go_simp; try with_reducible rfl
          try simp only [Act.put, List.setIfInBounds_toArray, List.set_cons_zero, List.set_cons_succ]
          refine take_at (i := 5) (v := ?_) rfl (by kernel_rfl) (by kernel_rfl) (by kernel_rfl) (fun _ _ _ h => h) (Or.inl ⟨by rfl, ?_⟩) hHeld ?_
          rotate_left
          · intro W hSw; (try dsimp only at hSw); unfold TimesS TimesB at hSw; go_simp; try with_reducible rfl
          try simp only [Act.put, List.setIfInBounds_toArray, List.set_cons_zero, List.set_cons_succ]
          refine take_at (i := 6) (v := ?_) rfl (by kernel_rfl) (by kernel_rfl) (by kernel_rfl) (fun _ _ _ h => h) (Or.inl ⟨by rfl, ?_⟩) hHeld ?_
          rotate_left
          · intro W hSw; (try dsimp only at hSw); unfold TimesS TimesB at hSw; go_simp; try with_reducible rfl
          try simp only [Act.put, List.setIfInBounds_toArray, List.set_cons_zero, List.set_cons_succ]
          refine take_at (i := 7) (v := ?_) rfl (by kernel_rfl) (by kernel_rfl) (by kernel_rfl) (fun _ _ _ h => h) (Or.inl ⟨by rfl, ?_⟩) hHeld ?_
          rotate_left
          · intro W hSw; (try dsimp only at hSw); unfold TimesS TimesB at hSw; go_simp; try with_reducible rfl
          try simp only [Act.put, List.setIfInBounds_toArray, List.set_cons_zero, List.set_cons_succ]
          refine take_at (i := 8) (v := ?_) rfl (by kernel_rfl) (by kernel_rfl) (by kernel_rfl) (fun _ _ _ h => h) (Or.inl ⟨by rfl, ?_⟩) hHeld ?_
          rotate_left
          · intro W hSw; (try dsimp only at hSw); unfold TimesS TimesB at hSw; go_simp; try with_reducible rfl
          try simp only [Act.put, List.setIfInBounds_toArray, List.set_cons_zero, List.set_cons_succ]
          refine take_at (i := 9) (v := ?_) rfl (by kernel_rfl) (by kernel_rfl) (by kernel_rfl) (fun _ _ _ h => h) (Or.inl ⟨by rfl, ?_⟩) hHeld ?_
          rotate_left
          · intro W hSw; (try dsimp only at hSw); unfold TimesS TimesB at hSw; go_simp; try with_reducible rfl
          try simp only [Act.put, List.setIfInBounds_toArray, List.set_cons_zero, List.set_cons_succ]
          refine take_at (i := 10) (v := ?_) rfl (by kernel_rfl) (by kernel_rfl) (by kernel_rfl) (fun _ _ _ h => h) (Or.inl ⟨by rfl, ?_⟩) hHeld ?_
          rotate_left
          · intro W hSw; (try dsimp only at hSw); unfold TimesS TimesB at hSw; go_simp; try with_reducible rfl
          try simp only [Act.put, List.setIfInBounds_toArray, List.set_cons_zero, List.set_cons_succ]
          refine wpAnyH_rest [2, 3, 11, 12, 13, 14] (TimesI (TimesS w s f (some cad) cs.length c q x) (w.heap.size + 1) j (.slice a2 j k2) u3 xs ys t (IntKind.i64.wrap (t + IntKind.i64.wrap (x.l.tmod 32)))) (by kernel_rfl) rfl (by kernel_rfl) (by kernel_rfl) (by kernel_rfl) ?_ (fun _ _ _ h => h.1) ?_ ?_
          · intro L hL
            have g : ∀ k ∈ [2, 3, 11, 12, 13, 14], L k → False := fun k hk h => hL k hk h
            refine ⟨hHeld, ?x50, ?x51, ?x59, ?x60, .slice a2 j k2, u3, ?eq, Nat.succ_le_of_lt hHeld.1.sizes, fun h => (g 3 (by simp) h).elim, fun h => (g 12 (by simp) h).elim, fun _ => ⟨HRd.out.1, HRd.out.2.2⟩, fun _ => HRd.out.2.1, fun h => (g 2 (by simp) h).elim, fun h => (g 11 (by simp) h).elim, fun h => (g 3 (by simp) h).elim, fun h => (g 12 (by simp) h).elim, fun h => (g 13 (by simp) h).elim, fun h => (g 14 (by simp) h).elim, fun h => (g 13 (by simp) h).elim, fun h => (g 14 (by simp) h).elim⟩
            case eq =>
              simp only [Act.put, List.setIfInBounds_toArray, List.set_cons_zero, List.set_cons_succ]
              try rfl
          · intro i0 hi0
            simp only [List.mem_cons, List.not_mem_nil, or_false] at hi0
            rcases hi0 with rfl | rfl | rfl | rfl | rfl | rfl
            · intro L A W o hI ho hn hd
              obtain rfl := Option.some.inj (show some _ = some o from nth_of ho)
              obtain ⟨hS, x50, x51, x59, x60, x2, x3, rfl, hsz, h32, h12, hA, hB, hC, hD, hE, hF, hG, hH, hI, hJ⟩ := hI
              simp only [Act.put, List.setIfInBounds_toArray, List.set_cons_zero, List.set_cons_succ]
              refine wpOp_step (nth_at rfl) (fun K hK => ?_)
              rw [if_pos (by rfl)]
              have n3 : ¬ L 3 := fun h => hn (h32 h)
              have n12 : ¬ L 12 := fun h => n3 (h12 h).2
              go_simp
              refine hK _ _ ⟨hS.below (below_alloc _ _), .slice (some ⟨W.heap.size, 0, none⟩) 1 1, x51, x59, x60, x2, x3, ?_, by simp; omega, fun h => absurd (h.resolve_right (by decide)) n3, fun h => absurd (h.resolve_right (by decide)) n12, fun _ => ⟨(hA n3).1.alloc _, (hA n3).2⟩, fun _ => (hB n12).alloc _, fun _ _ => ⟨W.heap.size, rfl, heap_alloc_last _ _⟩, fun h _ => ?_, fun h => absurd (h.resolve_right (by decide)) n3, fun h => absurd (h.resolve_right (by decide)) n12, fun h => absurd (hI (h.resolve_right (by decide))) n12, fun h => absurd (hI (hJ (h.resolve_right (by decide)))) n12, fun h => absurd (hI (h.resolve_right (by decide))) n12, fun h => absurd (hI (hJ (h.resolve_right (by decide)))) n12⟩
              · simp only [Act.put, List.setIfInBounds_toArray, List.set_cons_zero, List.set_cons_succ]
              · obtain ⟨g, e1, e2, e3⟩ := hD (h.resolve_right (by decide)) n12
                exact ⟨g, e1, heap_alloc_old e2, fun _ => e3 n3⟩
            · intro L A W o hI ho hn hd
              obtain rfl := Option.some.inj (show some _ = some o from nth_of ho)
              obtain ⟨hS, x50, x51, x59, x60, x2, x3, rfl, hsz, h32, h12, hA, hB, hC, hD, hE, hF, hG, hH, hI, hJ⟩ := hI
              simp only [Act.put, List.setIfInBounds_toArray, List.set_cons_zero, List.set_cons_succ]
              refine wpOp_step (nth_at rfl) (fun K hK => ?_)
              rw [if_pos (by rfl)]
              have l2 : L 2 := hd { on := 2, ground := Ground.data } (by simp) rfl (by simp)
              have n12 : ¬ L 12 := fun h => hn (h12 h).2
              obtain ⟨g2, rfl, e2⟩ := hC l2 hn
              obtain ⟨o2, hne⟩ := hA hn
              have o3 := hB n12
              refine wp_append_lies W (.tmp 48) (.tmp 50) 122 rfl (w.heap.size + 1) 3 i3 z3 1 8 Tryz.underlying122 hi3 hi3z hi3s hi3b hi3c (by decide) (.slice a2 j k2) j (ints xs) rfl o2 ⟨g2, 0, none⟩ 1 1 [.int .i64 t] rfl rfl (World.news_of_block e2) (by intro u hu; simp only [List.mem_singleton] at hu; subst hu; rfl) (by decide) (by unfold maxLen; omega) (by omega) hsz _ rfl ?_
              intro g cap w1 hown hgr hat hlt
              rw [ints_app] at hown
              have h63 : Value.ownBlock (.slice (some ⟨g, 0, none⟩) (j + 1) cap) ≠ u3.ownBlock := by
                rcases hat with h | h
                · rw [show Value.ownBlock (.slice (some ⟨g, 0, none⟩) (j + 1) cap) = some g from rfl, ← h]
                  exact hne.resolve_left (by rw [h]; simp)
                · intro h'
                  have := (o3.lt g h'.symm).2
                  omega
              refine hK _ _ ⟨hS.row o2 hgr, .slice (some ⟨g2, 0, none⟩) 1 1, .slice (some ⟨g, 0, none⟩) (j + 1) cap, x59, x60, x2, x3, ?_, by have := hgr.size; omega, fun _ => .inl l2, fun h => absurd (h.resolve_right (by decide)) n12, fun h => absurd (.inr rfl) h, fun _ => o3.kept hgr (rows_ne hne), fun _ h => absurd (.inr rfl) h, fun h _ => ?_, fun _ => ⟨hown, fun _ => h63⟩, fun h => absurd (h.resolve_right (by decide)) n12, fun h => absurd (hI (h.resolve_right (by decide))) n12, fun h => absurd (hI (hJ (h.resolve_right (by decide)))) n12, fun h => absurd (hI (h.resolve_right (by decide))) n12, fun h => absurd (hI (hJ (h.resolve_right (by decide)))) n12⟩
              · simp only [Act.put, List.setIfInBounds_toArray, List.set_cons_zero, List.set_cons_succ]
              · obtain ⟨g, e1, e2, e3⟩ := hD (h.resolve_right (by decide)) n12
                exact ⟨g, e1, blk_grown hgr e2 (e3 hn), fun h => absurd (.inr rfl) h⟩
            · intro L A W o hI ho hn hd
              obtain rfl := Option.some.inj (show some _ = some o from nth_of ho)
              obtain ⟨hS, x50, x51, x59, x60, x2, x3, rfl, hsz, h32, h12, hA, hB, hC, hD, hE, hF, hG, hH, hI, hJ⟩ := hI
              simp only [Act.put, List.setIfInBounds_toArray, List.set_cons_zero, List.set_cons_succ]
              refine wpOp_step (nth_at rfl) (fun K hK => ?_)
              rw [if_pos (by rfl)]
              have n12 : ¬ L 12 := fun h => hn (h12 h).1
              go_simp
              refine hK _ _ ⟨hS.below (below_alloc _ _), x50, x51, .slice (some ⟨W.heap.size, 0, none⟩) 1 1, x60, x2, x3, ?_, by simp; omega, fun h => .inl (h32 (h.resolve_right (by decide))), fun h => absurd (h.resolve_right (by decide)) n12, fun h => ⟨(hA fun l => h (.inl l)).1.alloc _, (hA fun l => h (.inl l)).2⟩, fun _ => (hB n12).alloc _, fun h h' => ?_, fun _ _ => ⟨W.heap.size, rfl, heap_alloc_last _ _, fun h e => ?_⟩, fun h => ⟨(hE (h.resolve_right (by decide))).1.alloc _, fun _ => (hE (h.resolve_right (by decide))).2 n12⟩, fun h => absurd (h.resolve_right (by decide)) n12, fun h => absurd (hI (h.resolve_right (by decide))) n12, fun h => absurd (hI (hJ (h.resolve_right (by decide)))) n12, fun h => absurd (hI (h.resolve_right (by decide))) n12, fun h => absurd (hI (hJ (h.resolve_right (by decide)))) n12⟩
              · simp only [Act.put, List.setIfInBounds_toArray, List.set_cons_zero, List.set_cons_succ]
              · obtain ⟨g, e1, e2⟩ := hC (h.resolve_right (by decide)) (fun l => h' (.inl l))
                exact ⟨g, e1, heap_alloc_old e2⟩
              · have := ((hA fun l => h (.inl l)).1.lt _ e).2
                omega
            · intro L A W o hI ho hn hd
              obtain rfl := Option.some.inj (show some _ = some o from nth_of ho)
              obtain ⟨hS, x50, x51, x59, x60, x2, x3, rfl, hsz, h32, h12, hA, hB, hC, hD, hE, hF, hG, hH, hI, hJ⟩ := hI
              simp only [Act.put, List.setIfInBounds_toArray, List.set_cons_zero, List.set_cons_succ]
              refine wpOp_step (nth_at rfl) (fun K hK => ?_)
              rw [if_pos (by rfl)]
              have l11 : L 11 := hd { on := 11, ground := Ground.data } (by simp) rfl (by simp)
              have l3 : L 3 := hd { on := 3, ground := Ground.chain } (by simp) rfl (by simp)
              obtain ⟨g2, rfl, e2, e3⟩ := hD l11 hn
              have o3 := hB hn
              obtain ⟨o2, hne⟩ := hE l3
              refine wp_append_lies W (.tmp 52) (.tmp 59) 122 rfl (w.heap.size + 1) 3 i3 z3 1 8 Tryz.underlying122 hi3 hi3z hi3s hi3b hi3c (by decide) u3 j (ints ys) rfl o3 ⟨g2, 0, none⟩ 1 1 [.int .i64 (IntKind.i64.wrap (t + IntKind.i64.wrap (x.l.tmod 32)))] rfl rfl (World.news_of_block e2) (by intro u hu; simp only [List.mem_singleton] at hu; subst hu; rfl) (by decide) (by unfold maxLen; omega) (by omega) hsz _ rfl ?_
              intro g cap w1 hown hgr hat hlt
              rw [ints_app] at hown
              have hne := hne hn
              have h63 : x51.ownBlock ≠ Value.ownBlock (.slice (some ⟨g, 0, none⟩) (j + 1) cap) := by
                rcases hat with h | h
                · rw [show Value.ownBlock (.slice (some ⟨g, 0, none⟩) (j + 1) cap) = some g from rfl, ← h]
                  exact hne
                · intro h'
                  have := (o2.lt g h').2
                  omega
              refine hK _ _ ⟨hS.row o3 hgr, x50, x51, .slice (some ⟨g2, 0, none⟩) 1 1, .slice (some ⟨g, 0, none⟩) (j + 1) cap, x2, x3, ?_, by have := hgr.size; omega, fun h => .inl (h32 (h.resolve_right (by decide))), fun _ => ⟨.inl l11, .inl l3⟩, fun h => absurd (.inl l3) h, fun h => absurd (.inr rfl) h, fun _ h => absurd (.inl l3) h, fun _ h => absurd (.inr rfl) h, fun _ => ⟨o2.kept hgr (.inr hne), fun h => absurd (.inr rfl) h⟩, fun _ => ⟨hown, h63⟩, fun h => absurd (hI (h.resolve_right (by decide))) hn, fun h => absurd (hI (hJ (h.resolve_right (by decide)))) hn, fun h => absurd (hI (h.resolve_right (by decide))) hn, fun h => absurd (hI (hJ (h.resolve_right (by decide)))) hn⟩
              simp only [Act.put, List.setIfInBounds_toArray, List.set_cons_zero, List.set_cons_succ]
            · intro L A W o hI ho hn hd
              obtain rfl := Option.some.inj (show some _ = some o from nth_of ho)
              obtain ⟨hS, x50, x51, x59, x60, x2, x3, rfl, hsz, h32, h12, hA, hB, hC, hD, hE, hF, hG, hH, hI, hJ⟩ := hI
              simp only [Act.put, List.setIfInBounds_toArray, List.set_cons_zero, List.set_cons_succ]
              refine wpOp_step (nth_at rfl) (fun K hK => ?_)
              rw [if_pos (by rfl)]
              have l12 : L 12 := hd { on := 12, ground := Ground.chain } (by simp) rfl (by simp)
              have l3 := (h12 l12).2
              go_simp
              refine hK _ _ ⟨hS, x50, x51, x59, x60, x51, x3, ?_, hsz, fun h => .inl (h32 (h.resolve_right (by decide))), fun h => (h12 (h.resolve_right (by decide))).imp .inl .inl, fun h => absurd (.inl l3) h, fun h => absurd (.inl l12) h, fun _ h => absurd (.inl l3) h, fun _ h => absurd (.inl l12) h, fun _ => ⟨(hE l3).1, fun h => absurd (.inl l12) h⟩, fun _ => hF l12, fun _ => rfl, fun h => absurd (hJ (h.resolve_right (by decide))) hn, fun _ => .inl l12, fun h => absurd (hJ (h.resolve_right (by decide))) hn⟩
              simp only [Act.put, List.setIfInBounds_toArray, List.set_cons_zero, List.set_cons_succ]
            · intro L A W o hI ho hn hd
              obtain rfl := Option.some.inj (show some _ = some o from nth_of ho)
              obtain ⟨hS, x50, x51, x59, x60, x2, x3, rfl, hsz, h32, h12, hA, hB, hC, hD, hE, hF, hG, hH, hI, hJ⟩ := hI
              simp only [Act.put, List.setIfInBounds_toArray, List.set_cons_zero, List.set_cons_succ]
              refine wpOp_step (nth_at rfl) (fun K hK => ?_)
              rw [if_pos (by rfl)]
              have l12 : L 12 := hd { on := 12, ground := Ground.data } (by simp) rfl (by simp)
              have l13 : L 13 := hd { on := 13, ground := Ground.chain } (by simp) rfl (by simp)
              have l3 := (h12 l12).2
              go_simp
              refine hK _ _ ⟨hS, x50, x51, x59, x60, x2, x60, ?_, hsz, fun h => .inl (h32 (h.resolve_right (by decide))), fun h => (h12 (h.resolve_right (by decide))).imp .inl .inl, fun h => absurd (.inl l3) h, fun h => absurd (.inl l12) h, fun _ h => absurd (.inl l3) h, fun _ h => absurd (.inl l12) h, fun _ => ⟨(hE l3).1, fun h => absurd (.inl l12) h⟩, fun _ => hF l12, fun h => hG (h.resolve_right (by decide)), fun _ => rfl, fun h => .inl (hI (h.resolve_right (by decide))), fun _ => .inl l13⟩
              simp only [Act.put, List.setIfInBounds_toArray, List.set_cons_zero, List.set_cons_succ]
          · intro L A W hI ha
            obtain ⟨hS, x50, x51, x59, x60, x2, x3, rfl, hsz, h32, h12, hA, hB, hC, hD, hE, hF, hG, hH, hI, hJ⟩ := hI
            obtain rfl := hG (ha 13 (by simp))
            obtain rfl := hH (ha 14 (by simp))
            have hr1 := (hE (ha 3 (by simp))).1
            have hr2 := (hF (ha 12 (by simp)))
            have HR9 := Lib.hid (show Rows2 (w.heap.size + 1) (j + 1) x2 x3 (xs ++ [t]) (ys ++ [IntKind.i64.wrap (t + IntKind.i64.wrap (x.l.tmod 32))]) W from ⟨hr1, hr2.1, .inr hr2.2⟩)
            have HQ9 : Hid (TQ f cs (j + 1) (xs ++ [t]) (ys ++ [IntKind.i64.wrap (t + IntKind.i64.wrap (x.l.tmod 32))])) := Lib.hid (HQ.out.step hlt hx HTt.out (ends_wrap HTb.out.1 (by have := HTb.out.2; omega) HLb.out) HTb.out)
            have HB9 := Lib.hid hS.1
            clear h32 h12 hA hB hC hD hE hF hG hH hI hJ ha hHeld
            simp only [Act.put, List.setIfInBounds_toArray, List.set_cons_zero, List.set_cons_succ]
            go_wp2_with fail
            exact ⟨⟨j + 1, _, _, by omega, by go_num, HB9, HR9, HQ9⟩, by simp [intOf]; omega⟩
        · have HT : Hid (stepS f xs x = 1000 + f % 32) := Lib.hid (stepS_0 HQ.out.2.1 hP hpj (by omega))
          go_upto_region 11 with (fail)
          obtain ⟨t, ht⟩ : ∃ t, t = 1000 + f % 32 := ⟨_, rfl⟩
          rw [← ht]
          have HTt : Hid (t = stepS f xs x) := Lib.hid (ht.trans HT.out.symm)
          have HTb : Hid (1000 ≤ t ∧ t ≤ 1031 + 31 * ((j : Int) + 1)) := Lib.hid (by omega)
          clear ht HT
          try generalize decide (0 < j) = dj
          clear i2 y6
          clear f2 m2
          have HRd := Lib.hid (HR1.out.below (below_drew _))
          have HS2 : Hid (TimesS w s f (some cad) cs.length c q x W1) := HS1
          clear HS1
          refine wp_region_held_drew (S := (fun W => TimesS w s f (some cad) cs.length c q x W)) (by kernel_rfl) (HS2.out.below (below_drew _)) (fun hHeld => ?_)
          refine take_at (i := 0) (v := ?_) rfl (by kernel_rfl) (by kernel_rfl) (by kernel_rfl) (fun _ _ _ h => h) (Or.inl ⟨by rfl, ?_⟩) hHeld ?_
          rotate_left
          · intro W hSw; (try dsimp only at hSw); unfold TimesS TimesB at hSw; go_simp; try with_reducible rfl
          try simp only [Act.put, List.setIfInBounds_toArray, List.set_cons_zero, List.set_cons_succ]
          refine take_at (i := 1) (v := ?_) rfl (by kernel_rfl) (by kernel_rfl) (by kernel_rfl) (fun _ _ _ h => h) (Or.inl ⟨by rfl, ?_⟩) hHeld ?_
          rotate_left
          · intro W hSw; (try dsimp only at hSw); unfold TimesS TimesB at hSw; go_simp; try with_reducible rfl
          try simp only [Act.put, List.setIfInBounds_toArray, List.set_cons_zero, List.set_cons_succ]
          refine take_at (i := 4) (v := ?_) rfl (by kernel_rfl) (by kernel_rfl) (by kernel_rfl) (fun _ _ _ h => h) (Or.inl ⟨by rfl, ?_⟩) hHeld ?_
          rotate_left
          · intro W hSw; (try dsimp only at hSw); unfold TimesS TimesB at hSw; go_simp; try with_reducible rfl
          try simp only [Act.put, List.setIfInBounds_toArray, List.set_cons_zero, List.set_cons_succ]
          refine take_at (i := 5) (v := ?_) rfl (by kernel_rfl) (by kernel_rfl) (by kernel_rfl) (fun _ _ _ h => h) (Or.inl ⟨by rfl, ?_⟩) hHeld ?_
          rotate_left
          · intro W hSw; (try dsimp only at hSw); unfold TimesS TimesB at hSw; go_simp; try with_reducible rfl
          try simp only [Act.put, List.setIfInBounds_toArray, List.set_cons_zero, List.set_cons_succ]
          refine take_at (i := 6) (v := ?_) rfl (by kernel_rfl) (by kernel_rfl) (by kernel_rfl) (fun _ _ _ h => h) (Or.inl ⟨by rfl, ?_⟩) hHeld ?_
          rotate_left
          · intro W hSw; (try dsimp only at hSw); unfold TimesS TimesB at hSw; go_simp; try with_reducible rfl
          try simp only [Act.put, List.setIfInBounds_toArray, List.set_cons_zero, List.set_cons_succ]
          refine take_at (i := 7) (v := ?_) rfl (by kernel_rfl) (by kernel_rfl) (by kernel_rfl) (fun _ _ _ h => h) (Or.inl ⟨by rfl, ?_⟩) hHeld ?_
          rotate_left
          · intro W hSw; (try dsimp only at hSw); unfold TimesS TimesB at hSw; go_simp; try with_reducible rfl
          try simp only [Act.put, List.setIfInBounds_toArray, List.set_cons_zero, List.set_cons_succ]
          refine take_at (i := 8) (v := ?_) rfl (by kernel_rfl) (by kernel_rfl) (by kernel_rfl) (fun _ _ _ h => h) (Or.inl ⟨by rfl, ?_⟩) hHeld ?_
          rotate_left
          · intro W hSw; (try dsimp only at hSw); unfold TimesS TimesB at hSw; go_simp; try with_reducible rfl
          try simp only [Act.put, List.setIfInBounds_toArray, List.set_cons_zero, List.set_cons_succ]
          refine take_at (i := 9) (v := ?_) rfl (by kernel_rfl) (by kernel_rfl) (by kernel_rfl) (fun _ _ _ h => h) (Or.inl ⟨by rfl, ?_⟩) hHeld ?_
          rotate_left
          · intro W hSw; (try dsimp only at hSw); unfold TimesS TimesB at hSw; go_simp; try with_reducible rfl
          try simp only [Act.put, List.setIfInBounds_toArray, List.set_cons_zero, List.set_cons_succ]
          refine take_at (i := 10) (v := ?_) rfl (by kernel_rfl) (by kernel_rfl) (by kernel_rfl) (fun _ _ _ h => h) (Or.inl ⟨by rfl, ?_⟩) hHeld ?_
          rotate_left
          · intro W hSw; (try dsimp only at hSw); unfold TimesS TimesB at hSw; go_simp; try with_reducible rfl
          try simp only [Act.put, List.setIfInBounds_toArray, List.set_cons_zero, List.set_cons_succ]
          refine wpAnyH_rest [2, 3, 11, 12, 13, 14] (TimesI (TimesS w s f (some cad) cs.length c q x) (w.heap.size + 1) j (.slice a2 j k2) u3 xs ys t (IntKind.i64.wrap (t + IntKind.i64.wrap (x.l.tmod 32)))) (by kernel_rfl) rfl (by kernel_rfl) (by kernel_rfl) (by kernel_rfl) ?_ (fun _ _ _ h => h.1) ?_ ?_
          · intro L hL
            have g : ∀ k ∈ [2, 3, 11, 12, 13, 14], L k → False := fun k hk h => hL k hk h
            refine ⟨hHeld, ?x50, ?x51, ?x59, ?x60, .slice a2 j k2, u3, ?eq, Nat.succ_le_of_lt hHeld.1.sizes, fun h => (g 3 (by simp) h).elim, fun h => (g 12 (by simp) h).elim, fun _ => ⟨HRd.out.1, HRd.out.2.2⟩, fun _ => HRd.out.2.1, fun h => (g 2 (by simp) h).elim, fun h => (g 11 (by simp) h).elim, fun h => (g 3 (by simp) h).elim, fun h => (g 12 (by simp) h).elim, fun h => (g 13 (by simp) h).elim, fun h => (g 14 (by simp) h).elim, fun h => (g 13 (by simp) h).elim, fun h => (g 14 (by simp) h).elim⟩
            case eq =>
              simp only [Act.put, List.setIfInBounds_toArray, List.set_cons_zero, List.set_cons_succ]
              try rfl
          · intro i0 hi0
            simp only [List.mem_cons, List.not_mem_nil, or_false] at hi0
            rcases hi0 with rfl | rfl | rfl | rfl | rfl | rfl
            · intro L A W o hI ho hn hd
              obtain rfl := Option.some.inj (show some _ = some o from nth_of ho)
              obtain ⟨hS, x50, x51, x59, x60, x2, x3, rfl, hsz, h32, h12, hA, hB, hC, hD, hE, hF, hG, hH, hI, hJ⟩ := hI
              simp only [Act.put, List.setIfInBounds_toArray, List.set_cons_zero, List.set_cons_succ]
              refine wpOp_step (nth_at rfl) (fun K hK => ?_)
              rw [if_pos (by rfl)]
              have n3 : ¬ L 3 := fun h => hn (h32 h)
              have n12 : ¬ L 12 := fun h => n3 (h12 h).2
              go_simp
              refine hK _ _ ⟨hS.below (below_alloc _ _), .slice (some ⟨W.heap.size, 0, none⟩) 1 1, x51, x59, x60, x2, x3, ?_, by simp; omega, fun h => absurd (h.resolve_right (by decide)) n3, fun h => absurd (h.resolve_right (by decide)) n12, fun _ => ⟨(hA n3).1.alloc _, (hA n3).2⟩, fun _ => (hB n12).alloc _, fun _ _ => ⟨W.heap.size, rfl, heap_alloc_last _ _⟩, fun h _ => ?_, fun h => absurd (h.resolve_right (by decide)) n3, fun h => absurd (h.resolve_right (by decide)) n12, fun h => absurd (hI (h.resolve_right (by decide))) n12, fun h => absurd (hI (hJ (h.resolve_right (by decide)))) n12, fun h => absurd (hI (h.resolve_right (by decide))) n12, fun h => absurd (hI (hJ (h.resolve_right (by decide)))) n12⟩
              · simp only [Act.put, List.setIfInBounds_toArray, List.set_cons_zero, List.set_cons_succ]
              · obtain ⟨g, e1, e2, e3⟩ := hD (h.resolve_right (by decide)) n12
                exact ⟨g, e1, heap_alloc_old e2, fun _ => e3 n3⟩
            · intro L A W o hI ho hn hd
              obtain rfl := Option.some.inj (show some _ = some o from nth_of ho)
              obtain ⟨hS, x50, x51, x59, x60, x2, x3, rfl, hsz, h32, h12, hA, hB, hC, hD, hE, hF, hG, hH, hI, hJ⟩ := hI
              simp only [Act.put, List.setIfInBounds_toArray, List.set_cons_zero, List.set_cons_succ]
              refine wpOp_step (nth_at rfl) (fun K hK => ?_)
              rw [if_pos (by rfl)]
              have l2 : L 2 := hd { on := 2, ground := Ground.data } (by simp) rfl (by simp)
              have n12 : ¬ L 12 := fun h => hn (h12 h).2
              obtain ⟨g2, rfl, e2⟩ := hC l2 hn
              obtain ⟨o2, hne⟩ := hA hn
              have o3 := hB n12
              refine wp_append_lies W (.tmp 48) (.tmp 50) 122 rfl (w.heap.size + 1) 3 i3 z3 1 8 Tryz.underlying122 hi3 hi3z hi3s hi3b hi3c (by decide) (.slice a2 j k2) j (ints xs) rfl o2 ⟨g2, 0, none⟩ 1 1 [.int .i64 t] rfl rfl (World.news_of_block e2) (by intro u hu; simp only [List.mem_singleton] at hu; subst hu; rfl) (by decide) (by unfold maxLen; omega) (by omega) hsz _ rfl ?_
              intro g cap w1 hown hgr hat hlt
              rw [ints_app] at hown
              have h63 : Value.ownBlock (.slice (some ⟨g, 0, none⟩) (j + 1) cap) ≠ u3.ownBlock := by
                rcases hat with h | h
                · rw [show Value.ownBlock (.slice (some ⟨g, 0, none⟩) (j + 1) cap) = some g from rfl, ← h]
                  exact hne.resolve_left (by rw [h]; simp)
                · intro h'
                  have := (o3.lt g h'.symm).2
                  omega
              refine hK _ _ ⟨hS.row o2 hgr, .slice (some ⟨g2, 0, none⟩) 1 1, .slice (some ⟨g, 0, none⟩) (j + 1) cap, x59, x60, x2, x3, ?_, by have := hgr.size; omega, fun _ => .inl l2, fun h => absurd (h.resolve_right (by decide)) n12, fun h => absurd (.inr rfl) h, fun _ => o3.kept hgr (rows_ne hne), fun _ h => absurd (.inr rfl) h, fun h _ => ?_, fun _ => ⟨hown, fun _ => h63⟩, fun h => absurd (h.resolve_right (by decide)) n12, fun h => absurd (hI (h.resolve_right (by decide))) n12, fun h => absurd (hI (hJ (h.resolve_right (by decide)))) n12, fun h => absurd (hI (h.resolve_right (by decide))) n12, fun h => absurd (hI (hJ (h.resolve_right (by decide)))) n12⟩
              · simp only [Act.put, List.setIfInBounds_toArray, List.set_cons_zero, List.set_cons_succ]
              · obtain ⟨g, e1, e2, e3⟩ := hD (h.resolve_right (by decide)) n12
                exact ⟨g, e1, blk_grown hgr e2 (e3 hn), fun h => absurd (.inr rfl) h⟩
            · intro L A W o hI ho hn hd
              obtain rfl := Option.some.inj (show some _ = some o from nth_of ho)
              obtain ⟨hS, x50, x51, x59, x60, x2, x3, rfl, hsz, h32, h12, hA, hB, hC, hD, hE, hF, hG, hH, hI, hJ⟩ := hI
              simp only [Act.put, List.setIfInBounds_toArray, List.set_cons_zero, List.set_cons_succ]
              refine wpOp_step (nth_at rfl) (fun K hK => ?_)
              rw [if_pos (by rfl)]
              have n12 : ¬ L 12 := fun h => hn (h12 h).1
              go_simp
              refine hK _ _ ⟨hS.below (below_alloc _ _), x50, x51, .slice (some ⟨W.heap.size, 0, none⟩) 1 1, x60, x2, x3, ?_, by simp; omega, fun h => .inl (h32 (h.resolve_right (by decide))), fun h => absurd (h.resolve_right (by decide)) n12, fun h => ⟨(hA fun l => h (.inl l)).1.alloc _, (hA fun l => h (.inl l)).2⟩, fun _ => (hB n12).alloc _, fun h h' => ?_, fun _ _ => ⟨W.heap.size, rfl, heap_alloc_last _ _, fun h e => ?_⟩, fun h => ⟨(hE (h.resolve_right (by decide))).1.alloc _, fun _ => (hE (h.resolve_right (by decide))).2 n12⟩, fun h => absurd (h.resolve_right (by decide)) n12, fun h => absurd (hI (h.resolve_right (by decide))) n12, fun h => absurd (hI (hJ (h.resolve_right (by decide)))) n12, fun h => absurd (hI (h.resolve_right (by decide))) n12, fun h => absurd (hI (hJ (h.resolve_right (by decide)))) n12⟩
              · simp only [Act.put, List.setIfInBounds_toArray, List.set_cons_zero, List.set_cons_succ]
              · obtain ⟨g, e1, e2⟩ := hC (h.resolve_right (by decide)) (fun l => h' (.inl l))
                exact ⟨g, e1, heap_alloc_old e2⟩
              · have := ((hA fun l => h (.inl l)).1.lt _ e).2
                omega
            · intro L A W o hI ho hn hd
              obtain rfl := Option.some.inj (show some _ = some o from nth_of ho)
              obtain ⟨hS, x50, x51, x59, x60, x2, x3, rfl, hsz, h32, h12, hA, hB, hC, hD, hE, hF, hG, hH, hI, hJ⟩ := hI
              simp only [Act.put, List.setIfInBounds_toArray, List.set_cons_zero, List.set_cons_succ]
              refine wpOp_step (nth_at rfl) (fun K hK => ?_)
              rw [if_pos (by rfl)]
              have l11 : L 11 := hd { on := 11, ground := Ground.data } (by simp) rfl (by simp)
              have l3 : L 3 := hd { on := 3, ground := Ground.chain } (by simp) rfl (by simp)
              obtain ⟨g2, rfl, e2, e3⟩ := hD l11 hn
              have o3 := hB hn
              obtain ⟨o2, hne⟩ := hE l3
              refine wp_append_lies W (.tmp 52) (.tmp 59) 122 rfl (w.heap.size + 1) 3 i3 z3 1 8 Tryz.underlying122 hi3 hi3z hi3s hi3b hi3c (by decide) u3 j (ints ys) rfl o3 ⟨g2, 0, none⟩ 1 1 [.int .i64 (IntKind.i64.wrap (t + IntKind.i64.wrap (x.l.tmod 32)))] rfl rfl (World.news_of_block e2) (by intro u hu; simp only [List.mem_singleton] at hu; subst hu; rfl) (by decide) (by unfold maxLen; omega) (by omega) hsz _ rfl ?_
              intro g cap w1 hown hgr hat hlt
              rw [ints_app] at hown
              have hne := hne hn
              have h63 : x51.ownBlock ≠ Value.ownBlock (.slice (some ⟨g, 0, none⟩) (j + 1) cap) := by
                rcases hat with h | h
                · rw [show Value.ownBlock (.slice (some ⟨g, 0, none⟩) (j + 1) cap) = some g from rfl, ← h]
                  exact hne
                · intro h'
                  have := (o2.lt g h').2
                  omega
              refine hK _ _ ⟨hS.row o3 hgr, x50, x51, .slice (some ⟨g2, 0, none⟩) 1 1, .slice (some ⟨g, 0, none⟩) (j + 1) cap, x2, x3, ?_, by have := hgr.size; omega, fun h => .inl (h32 (h.resolve_right (by decide))), fun _ => ⟨.inl l11, .inl l3⟩, fun h => absurd (.inl l3) h, fun h => absurd (.inr rfl) h, fun _ h => absurd (.inl l3) h, fun _ h => absurd (.inr rfl) h, fun _ => ⟨o2.kept hgr (.inr hne), fun h => absurd (.inr rfl) h⟩, fun _ => ⟨hown, h63⟩, fun h => absurd (hI (h.resolve_right (by decide))) hn, fun h => absurd (hI (hJ (h.resolve_right (by decide)))) hn, fun h => absurd (hI (h.resolve_right (by decide))) hn, fun h => absurd (hI (hJ (h.resolve_right (by decide)))) hn⟩
              simp only [Act.put, List.setIfInBounds_toArray, List.set_cons_zero, List.set_cons_succ]
            · intro L A W o hI ho hn hd
              obtain rfl := Option.some.inj (show some _ = some o from nth_of ho)
              obtain ⟨hS, x50, x51, x59, x60, x2, x3, rfl, hsz, h32, h12, hA, hB, hC, hD, hE, hF, hG, hH, hI, hJ⟩ := hI
              simp only [Act.put, List.setIfInBounds_toArray, List.set_cons_zero, List.set_cons_succ]
              refine wpOp_step (nth_at rfl) (fun K hK => ?_)
              rw [if_pos (by rfl)]
              have l12 : L 12 := hd { on := 12, ground := Ground.chain } (by simp) rfl (by simp)
              have l3 := (h12 l12).2
              go_simp
              refine hK _ _ ⟨hS, x50, x51, x59, x60, x51, x3, ?_, hsz, fun h => .inl (h32 (h.resolve_right (by decide))), fun h => (h12 (h.resolve_right (by decide))).imp .inl .inl, fun h => absurd (.inl l3) h, fun h => absurd (.inl l12) h, fun _ h => absurd (.inl l3) h, fun _ h => absurd (.inl l12) h, fun _ => ⟨(hE l3).1, fun h => absurd (.inl l12) h⟩, fun _ => hF l12, fun _ => rfl, fun h => absurd (hJ (h.resolve_right (by decide))) hn, fun _ => .inl l12, fun h => absurd (hJ (h.resolve_right (by decide))) hn⟩
              simp only [Act.put, List.setIfInBounds_toArray, List.set_cons_zero, List.set_cons_succ]
            · intro L A W o hI ho hn hd
              obtain rfl := Option.some.inj (show some _ = some o from nth_of ho)
              obtain ⟨hS, x50, x51, x59, x60, x2, x3, rfl, hsz, h32, h12, hA, hB, hC, hD, hE, hF, hG, hH, hI, hJ⟩ := hI
              simp only [Act.put, List.setIfInBounds_toArray, List.set_cons_zero, List.set_cons_succ]
              refine wpOp_step (nth_at rfl) (fun K hK => ?_)
              rw [if_pos (by rfl)]
              have l12 : L 12 := hd { on := 12, ground := Ground.data } (by simp) rfl (by simp)
              have l13 : L 13 := hd { on := 13, ground := Ground.chain } (by simp) rfl (by simp)
              have l3 := (h12 l12).2
              go_simp
              refine hK _ _ ⟨hS, x50, x51, x59, x60, x2, x60, ?_, hsz, fun h => .inl (h32 (h.resolve_right (by decide))), fun h => (h12 (h.resolve_right (by decide))).imp .inl .inl, fun h => absurd (.inl l3) h, fun h => absurd (.inl l12) h, fun _ h => absurd (.inl l3) h, fun _ h => absurd (.inl l12) h, fun _ => ⟨(hE l3).1, fun h => absurd (.inl l12) h⟩, fun _ => hF l12, fun h => hG (h.resolve_right (by decide)), fun _ => rfl, fun h => .inl (hI (h.resolve_right (by decide))), fun _ => .inl l13⟩
              simp only [Act.put, List.setIfInBounds_toArray, List.set_cons_zero, List.set_cons_succ]
          · intro L A W hI ha
            obtain ⟨hS, x50, x51, x59, x60, x2, x3, rfl, hsz, h32, h12, hA, hB, hC, hD, hE, hF, hG, hH, hI, hJ⟩ := hI
            obtain rfl := hG (ha 13 (by simp))
            obtain rfl := hH (ha 14 (by simp))
            have hr1 := (hE (ha 3 (by simp))).1
            have hr2 := (hF (ha 12 (by simp)))
            have HR9 := Lib.hid (show Rows2 (w.heap.size + 1) (j + 1) x2 x3 (xs ++ [t]) (ys ++ [IntKind.i64.wrap (t + IntKind.i64.wrap (x.l.tmod 32))]) W from ⟨hr1, hr2.1, .inr hr2.2⟩)
            have HQ9 : Hid (TQ f cs (j + 1) (xs ++ [t]) (ys ++ [IntKind.i64.wrap (t + IntKind.i64.wrap (x.l.tmod 32))])) := Lib.hid (HQ.out.step hlt hx HTt.out (ends_wrap HTb.out.1 (by have := HTb.out.2; omega) HLb.out) HTb.out)
            have HB9 := Lib.hid hS.1
            clear h32 h12 hA hB hC hD hE hF hG hH hI hJ ha hHeld
            simp only [Act.put, List.setIfInBounds_toArray, List.set_cons_zero, List.set_cons_succ]
            go_wp2_with fail
            exact ⟨⟨j + 1, _, _, by omega, by go_num, HB9, HR9, HQ9⟩, by simp [intOf]; omega⟩
    · obtain rfl : j = cs.length := by omega
      obtain ⟨a2, k2, rfl, f2, m2⟩ := row_forms HR.out.1
      obtain ⟨a3, k3, rfl, f3, m3⟩ := row_forms HR.out.2.1
      go_wp2_with fail
      have hxs : xs = startX f cs := by have := HQ.out.1; rw [List.take_length] at this; unfold startX; rw [this]
      have hys : ys = (timesX0 f cs).2 := by have := HQ.out.1; rw [List.take_length] at this; rw [this]
      have HXS := Lib.hid hxs
      have hQ0 : Hid (EQ cs (timesX0 f cs).2 cs.length ((cs.length : Int) - 1) ys) := Lib.hid ⟨by rw [hys, show ((cs.length : Int) - 1 - ((cs.length : Int) - 1)).toNat = 0 by omega]; rfl, by omega⟩
      clear hxs hys HQ
      generalize hn : cs.length = n at *
      clear HB0 HR0
      go_loopw [8] (fun i wr => ∃ (z : Int) (ys : List Int), -1 ≤ z ∧ z < n ∧ i = .int .i64 z ∧ Hid (TimesB w s f a n c wr) ∧ Hid (Rows2 (w.heap.size + 1) n (.slice a2 n k2) (.slice a3 n k3) xs ys wr) ∧ Hid (EQ cs (timesX0 f cs).2 n z ys)) (fun i _ => (intOf i + 1).toNat)
      case atStart => exact ⟨(n : Int) - 1, ys, by omega, by omega, rfl, HB, HR, hQ0⟩
      case round =>
        clear HB HR b0 b1 b2 z0 hQ0
        obtain ⟨z, ys, hz0, hz1, rfl, HB, HR, HE⟩ := hrel
        obtain ⟨b0, b1, b2⟩ := HB.out.cells
        have z0 := HB.out.sizes
        by_cases hz : 0 < z
        · have HEQ := HE
          clear HE
          obtain ⟨j, rfl⟩ : ∃ j : Nat, z = (j : Int) := ⟨z.toNat, (Int.toNat_of_nonneg (by omega)).symm⟩
          have hlt : j < cs.length := by omega
          obtain ⟨cad, rfl, c0, hok⟩ := (HC.out.below HB.out.1) j hlt
          obtain ⟨c0, c1, c2, c3, c4, c5, c6, c7, c8, c9, c10⟩ := c0
          have HOK := Lib.hid hok
          generalize hx : cs[j] = x at *
          unfold CallD.ok isU8 at hok
          have p0 := Int.emod_nonneg x.p (show (j : Int) + 1 ≠ 0 by omega)
          have p1 := Int.emod_lt_of_pos x.p (show (0 : Int) < (j : Int) + 1 by omega)
          obtain ⟨pn, hP⟩ : ∃ pn : Nat, x.p % ((j : Int) + 1) = (pn : Int) := ⟨(x.p % ((j : Int) + 1)).toNat, (Int.toNat_of_nonneg p0).symm⟩
          rw [hP] at p0 p1
          go_upto_region 16 with (fail)
          try simp only [hP]
          by_cases hpj : pn < j
          · have q1 : (pn : Int) < (j : Int) := by omega
            have q3 : (pn : Int) < (n : Int) := by omega
            obtain ⟨cad2, hca, d0, hok2⟩ := HC.out pn (by omega)
            obtain rfl := Option.some.inj hca
            have HOK2 := Lib.hid hok2
            have HX2 := Lib.hid d0
            clear d0 hok2 hca
            generalize hx2 : cs[pn] = x2 at *
            obtain ⟨d0, d1, d2, d3, d4, d5, d6, d7, d8, d9, d10⟩ := HX2.out.below HB.out.1
            have hat := stepE_at (ys := ys) (show cs[j]? = some x by rw [List.getElem?_eq_getElem hlt, hx]) hP (show cs[pn]? = some x2 by rw [List.getElem?_eq_getElem (by omega : pn < cs.length), hx2])
            have HAT := Lib.hid hat
            clear hat hx2
            have hend : ∀ (W : World) (zs : List Int), TimesB w s f (some cad) n c W → Rows2 (w.heap.size + 1) n (.slice a2 n k2) (.slice a3 n k3) xs zs W → zs = stepE cs ys j → (∃ (z : Int) (ys : List Int), -1 ≤ z ∧ z < n ∧ Value.int .i64 ((j : Int) - 1) = .int .i64 z ∧ Hid (TimesB w s f (some cad) n c W) ∧ Hid (Rows2 (w.heap.size + 1) n (.slice a2 n k2) (.slice a3 n k3) xs ys W) ∧ Hid (EQ cs (timesX0 f cs).2 n z ys)) ∧ (intOf (.int .i64 ((j : Int) - 1)) + 1).toNat < (intOf (.int .i64 (j : Int)) + 1).toNat := fun W zs h1 h2 h3 => ⟨⟨(j : Int) - 1, zs, by omega, by omega, rfl, Lib.hid h1, Lib.hid h2, Lib.hid (HEQ.out.step hn (by omega) (by omega) h3)⟩, by simp [intOf]⟩
            have hk1 : ∃ n1, kindX x = n1 := ⟨_, rfl⟩
            obtain ⟨n1, hk1⟩ := hk1
            obtain ⟨n2, hk2⟩ : ∃ n2, kindX x2 = n2 := ⟨_, rfl⟩
            have hKA := fun W => kind_any x HOK.out W
            have hKB := fun W => kind_any x2 HOK2.out W
            rw [hk1] at HAT hKA
            rw [hk2] at HAT hKB
            have HKA := Lib.hid hKA
            have HKB := Lib.hid hKB
            clear hk1 hk2 hKA hKB
            have HE := Lib.hid hend
            clear hend
            go_wp2_with fail
            (with_reducible refine (HKA.out _).mono ?_)
            rintro e w1 ⟨rfl, hbb⟩
            have HB1 := Lib.hid (HB.out.below hbb)
            have HR1 := Lib.hid (HR.out.below hbb)
            clear d0 d1 d2 d3 d4 d5 d6 d7 d8 d9 d10 c0 c1 c2 c3 c4 c5 c6 c7 c8 c9 c10 b0 b1 b2 z0 hbb HB HR
            obtain ⟨b0, b1, b2⟩ := HB1.out.cells
            have z0 := HB1.out.sizes
            obtain ⟨d0, d1, d2, d3, d4, d5, d6, d7, d8, d9, d10⟩ := HX2.out.below HB1.out.1
            by_cases hn1 : n1 = 3
            · subst hn1
              go_wp2_with fail
              (with_reducible refine (HKB.out _).mono ?_)
              rintro e w2 ⟨rfl, hbb⟩
              have HB2 := Lib.hid (HB1.out.below hbb)
              have HR2 := Lib.hid (HR1.out.below hbb)
              clear d0 d1 d2 d3 d4 d5 d6 d7 d8 d9 d10 b0 b1 b2 z0 hbb HB1 HR1
              obtain ⟨b0, b1, b2⟩ := HB2.out.cells
              have z0 := HB2.out.sizes
              obtain ⟨d0, d1, d2, d3, d4, d5, d6, d7, d8, d9, d10⟩ := HX2.out.below HB2.out.1
              by_cases hn2 : n2 = 2
              · subst hn2
                cases hx2e : x2.e with
                | true =>
                  rw [hx2e] at d10
                  go_wp2_with fail
                  exact HE.out _ _ HB2.out HR2.out (by rw [HAT.out, if_neg (fun h => by have := h.2.2.2; rw [hx2e] at this; cases this)])
                | false =>
                  rw [hx2e] at d10
                  obtain ⟨g, rfl, hg1, hg2⟩ := f3 (by omega)
                  have r3 := (row_lies HR2.out.2.1).1
                  have y1 := (HR2.out.2.1.cellAt pn (by omega)).trans (ints_get (by omega))
                  have y2 := (HR2.out.2.1.cellAt j (by omega)).trans (ints_get (by omega))
                  have HV : Hid (stepE cs ys j = ys.set pn (max ys[pn] ys[j])) := Lib.hid (by rw [HAT.out, if_pos (by simp [hpj, hx2e])]; simp [List.getD, show pn < ys.length by omega, show j < ys.length by omega])
                  generalize ys[pn] = e1 at *
                  generalize ys[j] = e2 at *
                  have y3 := HR2.out.2.1.frozenAt pn
                  go_upto_region 17 with (fail)
                  go_still_tail 12, (by kernel_rfl)
                  show wpList _ _ _ _ _ w2.drew
                  have HB3 := Lib.hid (HB2.out.below (below_drew w2))
                  have HR3 := Lib.hid (HR2.out.below (below_drew w2))
                  have y4 : w2.drew.cell? ⟨g, pn, none⟩ = some (.int .i64 e1) := y1
                  have y5 : w2.drew.frozen? ⟨g, pn, none⟩ = false := y3
                  clear y1 y2 y3 d0 d1 d2 d3 d4 d5 d6 d7 d8 d9 d10 b0 b1 b2 z0 HB2 HR2
                  generalize w2.drew = w3 at *
                  have hkey : ∀ V : Int, V = max e1 e2 → (∃ (z : Int) (ys : List Int), -1 ≤ z ∧ z < n ∧ Value.int .i64 ((j : Int) - 1) = .int .i64 z ∧ Hid (TimesB w s f (some cad) n c (w3.setCell ⟨g, pn, none⟩ (.int .i64 V))) ∧ Hid (Rows2 (w.heap.size + 1) n (.slice a2 n k2) (.slice (some ⟨g, 0, none⟩) n k3) xs ys (w3.setCell ⟨g, pn, none⟩ (.int .i64 V))) ∧ Hid (EQ cs (timesX0 f cs).2 n z ys)) ∧ (intOf (.int .i64 ((j : Int) - 1)) + 1).toNat < (intOf (.int .i64 (j : Int)) + 1).toNat := fun V hV => by
                    obtain ⟨s1, s2⟩ := HR3.out.2.1.stored pn (.int .i64 V)
                    rw [ints_set] at s1
                    exact ⟨⟨(j : Int) - 1, ys.set pn V, by omega, by omega, rfl, Lib.hid (HB3.out.row HR3.out.2.1 s2), Lib.hid ⟨HR3.out.1.kept s2 HR3.out.2.2, s1, HR3.out.2.2⟩, Lib.hid (HEQ.out.step hn (by omega) (by omega) (by rw [HV.out, hV]))⟩, by simp [intOf]⟩
                  have HK := Lib.hid hkey
                  clear hkey
                  go_wp2_with fail
                  exact HK.out _ rfl
              · have hz9 : Hid (ys = stepE cs ys j) := Lib.hid (by rw [HAT.out, if_neg (fun h => hn2 h.2.2.1)])
                go_wp2_with fail
                exact HE.out _ _ HB2.out HR2.out hz9.out
            · have hz9 : Hid (ys = stepE cs ys j) := Lib.hid (by rw [HAT.out, if_neg (fun h => hn1 h.2.1)])
              go_wp2_with fail
              exact HE.out _ _ HB1.out HR1.out hz9.out
          · have q1 : ¬ (pn : Int) < (j : Int) := by omega
            have HNO : Hid (ys = stepE cs ys j) := Lib.hid (stepE_no (show cs[j]? = some x by rw [List.getElem?_eq_getElem hlt, hx]) hP hpj).symm
            go_wp2_with fail
            exact ⟨⟨(j : Int) - 1, ys, by omega, by omega, rfl, HB, HR, Lib.hid (HEQ.out.step hn (by omega) (by omega) HNO.out)⟩, by simp [intOf]⟩
        · go_wp2_with fail
          obtain ⟨l2, i2⟩ := row_lies HR.out.1
          obtain ⟨l3, i3⟩ := row_lies HR.out.2.1
          go_ret2
          have hye : ys = endX f cs := by
            unfold endX
            have h1 := HE.out.1
            rw [show ((n : Int) - 1 - z).toNat = cs.length - 1 by have := HE.out.2; omega] at h1
            exact h1
          rw [HXS.out] at l2 i2
          rw [hye] at l3 i3
          exact ⟨⟨a2, a3, k2, k3, by rw [hn]; rfl, by rw [hn]; exact l2, by rw [hn]; exact l3, i2, i3⟩, HB.out.1⟩
end Go.Proofs.YtnddlpfmagdbfaaGreatDoor.Sto

/- The times of a tree, and their bounds. -/
namespace Go.Proofs.YtnddlpfmagdbfaaGreatDoor.Sto
open Go Go.Ev Go.Proofs Go.RowKit
set_option linter.unusedVariables false
set_option linter.unusedSimpArgs false
def TB (m : Nat) (p : List Int × List Int) : Prop := p.1.length = m ∧ p.2.length = m ∧ (∀ i (h : i < p.1.length), 1000 ≤ p.1[i] ∧ p.1[i] ≤ 1031 + 31 * (m : Int)) ∧ ∀ i (h1 : i < p.1.length) (h2 : i < p.2.length), p.1[i] ≤ p.2[i] ∧ p.2[i] ≤ p.1[i] + 31
theorem stepS_range {f : Int} {xs : List Int} {x : CallD} {m : Nat} (hl : xs.length = m) (hb : ∀ i (h : i < xs.length), 1000 ≤ xs[i] ∧ xs[i] ≤ 1031 + 31 * (m : Int)) : 1000 ≤ stepS f xs x ∧ stepS f xs x ≤ 1031 + 31 * ((m : Int) + 1) := by
  unfold stepS
  have p0 := Int.emod_nonneg x.p (show (xs.length : Int) + 1 ≠ 0 by omega)
  have h3 : 0 ≤ (if 0 < xs.length then x.w % 32 else 0) ∧ (if 0 < xs.length then x.w % 32 else 0) ≤ 31 := by split <;> omega
  split
  · rename_i h
    have hk : (x.p % ((xs.length : Int) + 1)).toNat < xs.length := by omega
    have := hb _ hk
    rw [List.getD_eq_getElem?_getD, List.getElem?_eq_getElem hk, Option.getD_some]
    omega
  · omega
theorem TB.step {f : Int} {m : Nat} {p : List Int × List Int} {x : CallD} (h : TB m p) : TB (m + 1) (stepT f p x) := by
  obtain ⟨xs, ys⟩ := p
  obtain ⟨h1, h2, h3, h4⟩ := h
  have hs := stepS_range (f := f) (x := x) h1 h3
  simp only at h1 h2 h3 h4 hs
  refine ⟨by simp [stepT, h1], by simp [stepT, h2], fun i hi => ?_, fun i hi hi' => ?_⟩
  · simp only [stepT] at hi ⊢
    rw [List.length_append, List.length_singleton] at hi
    by_cases e : i < xs.length
    · rw [List.getElem_append_left e]
      have := h3 i e
      omega
    · rw [List.getElem_append_right (by omega)]
      simp only [List.getElem_singleton]
      omega
  · simp only [stepT] at hi hi' ⊢
    rw [List.length_append, List.length_singleton] at hi
    by_cases e : i < xs.length
    · rw [List.getElem_append_left e, List.getElem_append_left (by omega)]
      exact h4 i e (by omega)
    · rw [List.getElem_append_right (by omega), List.getElem_append_right (by omega)]
      simp only [List.getElem_singleton]
      omega
theorem TB.fold {f : Int} : ∀ (cs : List CallD) (m : Nat) (p : List Int × List Int), TB m p → TB (m + cs.length) (cs.foldl (stepT f) p)
  | [], m, p, h => h
  | x :: cs, m, p, h => by
    have := TB.fold (f := f) cs (m + 1) _ (h.step (f := f) (x := x))
    rw [List.foldl_cons, List.length_cons, show m + (cs.length + 1) = m + 1 + cs.length by omega]
    exact this
theorem timesX0_all (f : Int) (cs : List CallD) : TB cs.length (timesX0 f cs) := by
  have := TB.fold (f := f) cs 0 ([], []) ⟨rfl, rfl, fun i h => absurd h (Nat.not_lt_zero _), fun i h => absurd h (Nat.not_lt_zero _)⟩
  rwa [Nat.zero_add] at this
/-- Ends that lie behind their starts. -/
def EB (B : Int) (xs ys : List Int) : Prop := ys.length = xs.length ∧ ∀ i (h1 : i < xs.length) (h2 : i < ys.length), xs[i] ≤ ys[i] ∧ ys[i] ≤ B
theorem EB.step {B : Int} {xs ys : List Int} {cs : List CallD} {i : Nat} (hB : 0 ≤ B) (h : EB B xs ys) : EB B xs (stepE cs ys i) := by
  have hd : ∀ k, ys.getD k 0 ≤ B := fun k => by
    by_cases hk : k < ys.length
    · rw [List.getD_eq_getElem?_getD, List.getElem?_eq_getElem hk, Option.getD_some]
      exact (h.2 k (by rw [← h.1]; exact hk) hk).2
    · rw [List.getD_eq_getElem?_getD, List.getElem?_eq_none (by omega), Option.getD_none]
      exact hB
  unfold stepE
  split
  · split
    · split
      · refine ⟨by rw [List.length_set]; exact h.1, fun k h1 h2 => ?_⟩
        rw [List.length_set] at h2
        have hk := h.2 k h1 h2
        rw [List.getElem_set]
        split
        · rename_i e
          have e1 := hd (k)
          rw [e]
          have e2 : ys.getD k 0 = ys[k] := by rw [List.getD_eq_getElem?_getD, List.getElem?_eq_getElem h2, Option.getD_some]
          have e3 := hd i
          rw [e2]
          omega
        · exact hk
      · exact h
    · exact h
  · exact h
theorem EB.ends {B : Int} {xs ys : List Int} {cs : List CallD} (hB : 0 ≤ B) (h : EB B xs ys) : ∀ d, EB B xs (endsN cs ys d)
  | 0 => h
  | d + 1 => EB.step hB (EB.ends hB h d)
theorem times_bounds (f : Int) (cs : List CallD) : (startX f cs).length = cs.length ∧ (endX f cs).length = cs.length ∧ ∀ i (h1 : i < (startX f cs).length) (h2 : i < (endX f cs).length), 1000 ≤ (startX f cs)[i] ∧ (startX f cs)[i] ≤ (endX f cs)[i] ∧ (endX f cs)[i] ≤ 1062 + 31 * (cs.length : Int) := by
  obtain ⟨a1, a2, a3, a4⟩ := timesX0_all f cs
  have he : EB (1062 + 31 * (cs.length : Int)) (startX f cs) (endX f cs) := EB.ends (by omega) ⟨by rw [a2]; exact a1.symm, fun i h1 h2 => by have := a3 i h1; have := a4 i h1 h2; unfold startX; omega⟩ _
  refine ⟨a1, he.1.trans a1, fun i h1 h2 => ⟨(a3 i h1).1, (he.2 i h1 h2).1, (he.2 i h1 h2).2⟩⟩
instance : Inhabited CallD := ⟨⟨0, 0, 0, 0, 0, 0, 0, 0, 0, 0, false⟩⟩
/-- By how much a span is moved. -/
def byX (o0 o1 o2 o3 q : Int) (k i : Nat) (x : CallD) : Int := offX o0 o1 o2 o3 (1 + x.k % 4) + (if 0 < q ∧ q % 8 = (i : Int) ∧ q / 8 % 3 = (k : Int) then 500 else 0)
def shiftX (b : Int) (y : SpanD) : SpanD := { y with st := y.st + b, en := y.en + b }
/-- A span of a story, without addresses. -/
def spanX (t : TreeD) (o0 o1 o2 o3 q : Int) (k i : Nat) : SpanD := shiftX (byX o0 o1 o2 o3 q k i (t.cs.getD i default)) (madeX (tidX t k) (t.cs.getD i default) i (startX t.f t.cs) ((startX t.f t.cs).getD i 0) ((endX t.f t.cs).getD i 0))
def traceX (t : TreeD) (o0 o1 o2 o3 q : Int) (k : Nat) : List SpanD := (List.range t.cs.length).map (spanX t o0 o1 o2 o3 q k)
theorem off_range (o0 o1 o2 o3 i : Int) : -20 ≤ offX o0 o1 o2 o3 i ∧ offX o0 o1 o2 o3 i ≤ 20 := by
  unfold offX
  generalize (if i = 1 then o0 else if i = 2 then o1 else if i = 3 then o2 else o3) = z
  rcases Int.le_total 0 z with h | h
  · have h1 := Int.tmod_nonneg 21 h
    have h2 := Int.tmod_lt_of_pos z (show (0 : Int) < 21 by decide)
    omega
  · have h1 := Int.tmod_nonneg 21 (show 0 ≤ -z by omega)
    have h2 := Int.tmod_lt_of_pos (-z) (show (0 : Int) < 21 by decide)
    rw [Int.neg_tmod] at h1 h2
    omega
end Go.Proofs.YtnddlpfmagdbfaaGreatDoor.Sto
/- append, of a slice that may be nil or empty. -/
namespace Go.Proofs.YtnddlpfmagdbfaaGreatDoor
open Go Go.Proofs Go.RowKit
set_option linter.unusedVariables false
set_option linter.unusedSimpArgs false
theorem run_append_nothing {P : Program} (w : World) (t ty base : Nat) (e : TypeId) (i : TypeInfo) (size : Nat) (ht : P.underlying t = some (.slice e)) (hi : P.info? e = some i)
    (v : Value) (n : Nat) (xs : List Value) (hown : w.ownsRow base e size v n xs) : (Builtin.append_ #[t, t] ty #[v, .slice none 0 0]).run P w = .ok v w := by
  rcases hown.2 with ⟨rfl, rfl⟩ | ⟨g, cap, cur, rfl, hbg, hg, hnc, hcm, hcs, htake⟩
  · simp [Builtin.append_, run_underlying ht, sizeOf, typeInfo, hi, Builtin.lenOf, Builtin.firstCells]
  · simp [Builtin.append_, run_underlying ht, sizeOf, typeInfo, hi, Builtin.lenOf, Builtin.firstCells, hnc, storeCells]
/-- At the operation: whatever is appended. -/
theorem wp_append_any {P : Program} {w : World} {o : Oper} {a : Act} {K : Act → World → Prop} {Q : Exit → Act → World → Prop} (s x : Operand) (t : TypeId)
    (ho : o.op = .call { callee := .builtin .append, args := #[s, x], argTypes := #[t, t] })
    (base : Nat) (e : TypeId) (i : TypeInfo) (z : Value) (size : Nat) (ht : P.underlying t = some (.slice e)) (hi : P.info? e = some i) (hz : i.zero = some z)
    (hsize : i.size = size) (hby : i.bytes ≤ 1000) (hzs : z.cells.size = size) (hsz : 0 < size)
    (v : Value) (n : Nat) (xs : List Value) (hs : a.eval s = v) (hown : w.ownsRow base e size v n xs)
    (ad : Option Addr) (m c : Nat) (news : List Value) (hx : a.eval x = .slice ad m c) (hl : news.length = m * size) (hnil : ad = none → m = 0 ∧ c = 0) (hnews : ∀ p, ad = some p → ∀ j u, news[j]? = some u → w.cell? (p.add j) = some u) (h1 : ∀ u ∈ news, u.oneCell' = true)
    (h63 : n + m ≤ 1000) (hbase : base ≤ w.heap.size)
    (h : ∀ v' w', w'.ownsRow base e size v' (n + m) (xs ++ news) → w.grownBy w' v.ownBlock → (v'.ownBlock = v.ownBlock ∨ v'.ownBlock = some w.heap.size) → K (a.put o.dst v') w') : o.wp P a w K Q := by
  cases ad with
  | none =>
    obtain ⟨rfl, rfl⟩ := hnil rfl
    have hn : news = [] := List.eq_nil_of_length_eq_zero (by simpa using hl)
    subst hn
    have hr := run_append_nothing (P := P) w t o.type base e i size ht hi v n xs hown
    have hk := h v w (by simpa using hown) (World.grownBy.refl _ _) (.inl rfl)
    unfold Oper.wp execOp
    simp only [ho, resolve, invoke, builtin, Sem.run_bind, Sem.run_pure, Result.andThen_ok, List.map_toArray, List.map_cons, List.map_nil, hs, hx, hr]
    exact hk
  | some p =>
    obtain ⟨v', w', hr, h2, h3, _, h5⟩ := run_append_own_at (P := P) w base t o.type e i z size i.bytes ht hi hz hsize rfl hzs hsz v n xs hown p m c news hl (hnews p rfl) h1 (by unfold maxLen; omega) (Nat.le_trans (Nat.mul_le_mul h63 hby) (by decide)) hbase
    unfold Oper.wp execOp
    simp only [ho, resolve, invoke, builtin, Sem.run_bind, Sem.run_pure, Result.andThen_ok, List.map_toArray, List.map_cons, List.map_nil, hs, hx, hr]
    exact h v' w' h2 h3 h5
end Go.Proofs.YtnddlpfmagdbfaaGreatDoor
/- Contract: the spans of a trace. -/
namespace Go.Proofs.YtnddlpfmagdbfaaGreatDoor.Sto
open Go Go.Ev Go.Proofs Go.RowKit
set_option linter.unusedVariables false
set_option linter.unusedSimpArgs false
theorem below_on {B : Nat} {a b c : World} (h : Below B a b) (k : Below b.heap.size b c) (hB : B ≤ b.heap.size) : Below B a c :=
  ⟨k.os.trans h.os, k.tape.trans h.tape, k.output.trans h.output, Nat.le_trans h.size k.size, fun i hi => (k.block i (Nat.lt_of_lt_of_le hi hB)).trans (h.block i hi)⟩
theorem info89 : infoSz 14 (Tryz.prog.info? 73) = true := by kernel_rfl
/-- The box of a story. -/
def StoryB (w : World) (g : Nat) (a : Option Addr) (n c : Nat) (o0 o1 o2 o3 : Int) (b : Option Addr) (m d : Nat) (q : Int) : Prop := w.heap[g]? = some (.cells #[.slice a n c, .int .i8 o0, .int .i8 o1, .int .i8 o2, .int .i8 o3, .slice b m d, .int .u8 q] 52 (0, 0))
theorem StoryB.cells {W : World} {g : Nat} {a : Option Addr} {n c : Nat} {o0 o1 o2 o3 : Int} {b : Option Addr} {m d : Nat} {q : Int} (h : StoryB W g a n c o0 o1 o2 o3 b m d q) :
    W.cell? ⟨g, 0, none⟩ = some (.slice a n c) ∧ W.cell? ⟨g, 1, none⟩ = some (.int .i8 o0) ∧ W.cell? ⟨g, 2, none⟩ = some (.int .i8 o1) ∧ W.cell? ⟨g, 3, none⟩ = some (.int .i8 o2) ∧ W.cell? ⟨g, 4, none⟩ = some (.int .i8 o3) ∧ W.cell? ⟨g, 5, none⟩ = some (.slice b m d) ∧ W.cell? ⟨g, 6, none⟩ = some (.int .u8 q) ∧ g < W.heap.size :=
  ⟨cell_blk h 0 rfl, cell_blk h 1 rfl, cell_blk h 2 rfl, cell_blk h 3 rfl, cell_blk h 4 rfl, cell_blk h 5 rfl, cell_blk h 6 rfl, blk_lt h⟩
/-- A span whose times have been moved is as much its own. -/
theorem owned_shift {lo : Nat} {W : World} {y : SpanD} (h : y.Owned lo W) (s e : Int) : SpanD.Owned lo W { y with st := s, en := e } := ⟨⟨h.held.attrs, h.held.links, h.held.na, h.held.nl⟩, ⟨h.sound.a, h.sound.b, h.sound.c, h.sound.d⟩, h.a, h.l⟩
theorem _root_.Go.Proofs.YtnddlpfmagdbfaaGreatDoor.RowX.mono' {lo lo' : Nat} {W : World} {v : Value} {M : List SpanD} (h : RowX lo W v M) (k : lo' ≤ lo) : RowX lo' W v M := ⟨row_mono h.row k, fun x hx => (h.own x hx).mono k, h.a, h.l⟩
/-- The box of a span at its place. -/
structure BoxS (w2 W : World) (y : SpanD) : Prop where
  b : Below w2.heap.size w2 W
  c : W.heap[w2.heap.size]? = some (.cells y.cells.toArray 73 (0, 0))
theorem BoxS.below {w2 W W' : World} {y : SpanD} (h : BoxS w2 W y) (k : Below W.heap.size W W') : BoxS w2 W' y := ⟨below_on h.b k h.b.size, blk_keep k h.c⟩
theorem BoxS.set {w2 W : World} {y : SpanD} (h : BoxS w2 W y) (s e : Int) : BoxS w2 ((W.setCell ⟨w2.heap.size, 9, none⟩ (.int .i64 s)).setCell ⟨w2.heap.size, 10, none⟩ (.int .i64 e)) { y with st := s, en := e } := by
  refine ⟨(h.b.setCell (Nat.le_refl _) _).setCell (Nat.le_refl _) _, ?_⟩
  exact heap_setCell_same _ _ 10 _ _ _ (heap_setCell_same _ _ 9 _ _ _ h.c)
set_option maxRecDepth 20000 in
set_option maxHeartbeats 8000000 in
theorem trace_any (a : Option Addr) (ts : List TreeD) (c : Nat) (o0 o1 o2 o3 : Int) (b : Option Addr) (m d : Nat) (q : Int) (k : Nat) (hk : k < ts.length) (hq : isU8 q) (hoo : isI8 o0 ∧ isI8 o1 ∧ isI8 o2 ∧ isI8 o3) (w : World) (ht : TreesAt w a ts) (hcl : ∀ j (hj : j < ts.length), ts[j].cs.length ≤ 8) (hl : ts.length ≤ 3) :
    Calls Tryz.prog 37 #[.agg #[.slice a ts.length c, .int .i8 o0, .int .i8 o1, .int .i8 o2, .int .i8 o3, .slice b m d, .int .u8 q], .int .i64 k, .bool false] w fun e w' => (∃ v M, e = .returned v ∧ RowX w.heap.size w' v M ∧ M.map SpanD.bare = traceX ts[k] o0 o1 o2 o3 q k) ∧ Below w.heap.size w w' := by
  have HB0 := Lib.hid (below_alloc w (.cells #[.slice a ts.length c, .int .i8 o0, .int .i8 o1, .int .i8 o2, .int .i8 o3, .slice b m d, .int .u8 q] 52))
  have HS0 := Lib.hid (show StoryB (w.alloc (.cells #[.slice a ts.length c, .int .i8 o0, .int .i8 o1, .int .i8 o2, .int .i8 o3, .slice b m d, .int .u8 q] 52)) w.heap.size a ts.length c o0 o1 o2 o3 b m d q from heap_alloc_last _ _)
  have HT := Lib.hid ht
  have HC := Lib.hid hcl
  have HOO := Lib.hid hoo
  have hq' := hq
  unfold isU8 at hq'
  obtain ⟨t3, z3, ht3, ht3z, ht3s, ht3b, ht3c⟩ := infoSz_spec info89
  obtain ⟨ad, rfl, t0, t1, t2, htc, hs1, hs2⟩ := ht.below HB0.out k hk
  have HOK : Hid (∀ i (hi : i < ts[k].cs.length), ts[k].cs[i].ok) := Lib.hid fun i hi => let ⟨_, _, _, h⟩ := htc i hi; h
  clear ht hcl hoo
  have hck := HC.out k hk
  have htb := times_any ts[k].s ts[k].f ts[k].a ts[k].cs ts[k].c _ htc hs1 hs2 (by omega)
  have HTB := Lib.hid htb
  have HBD := Lib.hid (times_bounds ts[k].f ts[k].cs)
  clear htb htc
  go_enter Tryz.func37, Tryz.ntmps37
  go_wp2_with fail
  refine HTB.out.mono ?_
  rintro e w1 ⟨⟨sA, eA, sc, ec, rfl, hsl, hel, hsI, heI⟩, hbb⟩
  have HB1 := Lib.hid (below_on HB0.out hbb (by simp))
  have HS1 := Lib.hid (show StoryB w1 w.heap.size (some ad) ts.length c o0 o1 o2 o3 b m d q from blk_keep hbb HS0.out)
  have HT1 := Lib.hid (HT.out.below (HB1.out))
  have HI1 := Lib.hid hsI
  have HI2 := Lib.hid heI
  have HSL := Lib.hid hsl
  have HEL := Lib.hid hel
  clear HB0 HS0 HT hbb HTB hsI heI t0 t1 t2 hsl hel
  go_wp2_with fail
  have HSP : Hid (∀ j (hj : j < ts[k].cs.length) (h1 : j < (startX ts[k].f ts[k].cs).length) (h2 : j < (endX ts[k].f ts[k].cs).length), spanX ts[k] o0 o1 o2 o3 q k j = shiftX (byX o0 o1 o2 o3 q k j ts[k].cs[j]) (madeX (tidX ts[k] k) ts[k].cs[j] j (startX ts[k].f ts[k].cs) (startX ts[k].f ts[k].cs)[j] (endX ts[k].f ts[k].cs)[j])) := Lib.hid fun j hj h1 h2 => by
    unfold spanX
    simp only [List.getD_eq_getElem?_getD, List.getElem?_eq_getElem hj, List.getElem?_eq_getElem h1, List.getElem?_eq_getElem h2, Option.getD_some]
  generalize hT : ts[k] = T at HOK hck HBD HSL HEL HSP HI1 HI2 ⊢
  have HTt := Lib.hid hT
  clear hT
  obtain ⟨n, hn⟩ : ∃ n, n = T.cs.length := ⟨_, rfl⟩
  have HN := Lib.hid hn
  rw [← hn] at hck ⊢
  have hn1 : n ≤ T.cs.length := by omega
  clear hn
  go_loopw [7, 10] (fun v7 i wr => ∃ (j : Nat) (M : List SpanD), j ≤ n ∧ i = .int .i64 j ∧ M.length = j ∧ Hid (Below w1.heap.size w1 wr) ∧ Hid (RowX w1.heap.size wr v7 M) ∧ Hid (M.map SpanD.bare = (List.range j).map (spanX T o0 o1 o2 o3 q k))) (fun _ i _ => n - (intOf i).toNat)
  case atStart => exact ⟨0, [], by omega, rfl, rfl, Lib.hid (Below.refl _ _), Lib.hid (RowX.nil _ _), Lib.hid rfl⟩
  case round =>
    obtain ⟨j, M, hj, rfl, hM, HB, HR, HMB⟩ := hrel
    obtain ⟨b0, b1, b2, b3, b4, b5, b6, z0⟩ := StoryB.cells (W := wr) ((HB.out.block _ (blk_lt HS1.out)).trans HS1.out)
    obtain ⟨ad', had, t0, t1, t2, htc, hs1, hs2⟩ := HT1.out.below HB.out k hk
    obtain rfl := Option.some.inj had
    rw [HTt.out, ← HN.out] at t2
    rw [HTt.out] at t0 t1
    clear htc hs1 hs2 had
    by_cases hlt : j < n
    · have hlT : j < T.cs.length := by omega
      have hjs : j < (startX T.f T.cs).length := by rw [HSL.out]; omega
      have hje : j < (endX T.f T.cs).length := by rw [HEL.out]; omega
      have hm := made_any (some ad) ts c o0 o1 o2 o3 b m d q k j hk (by rw [HTt.out]; omega) (by omega) sA sc (startX T.f T.cs) eA ec (endX T.f T.cs) wr (HT1.out.below HB.out) (HI1.out.below HB.out) (HI2.out.below HB.out) hjs hje (fun i hi => by have := HC.out i hi; unfold maxLen; omega) (by omega) (by rw [HSL.out, ← HN.out]; unfold maxLen; omega) (by rw [HEL.out, ← HN.out]; unfold maxLen; omega)
      simp only [HTt.out] at hm
      have hsp := Lib.hid (HSP.out j hlT hjs hje)
      have hbd := Lib.hid (HBD.out.2.2 j hjs hje)
      have hok := Lib.hid (HOK.out j hlT)
      rw [show (startX T.f T.cs).length = n by rw [HSL.out, HN.out], show (endX T.f T.cs).length = n by rw [HEL.out, HN.out]] at hm
      have hxs : Hid ((List.range (j + 1)).map (spanX T o0 o1 o2 o3 q k) = (List.range j).map (spanX T o0 o1 o2 o3 q k) ++ [spanX T o0 o1 o2 o3 q k j]) := Lib.hid (by rw [List.range_succ, List.map_append]; rfl)
      generalize spanX T o0 o1 o2 o3 q k j = SX at *
      generalize (startX T.f T.cs)[j] = s1 at *
      generalize (endX T.f T.cs)[j] = e1 at *
      generalize T.cs[j] = x at *
      have HM := Lib.hid hm
      clear hm hjs hje
      go_wp2_with fail
      refine HM.out.mono ?_
      rintro e w2 ⟨⟨sp, rfl, hsb, hso⟩, hbb⟩
      have HB2 := Lib.hid (below_on HB.out hbb HB.out.size)
      have HR2 := Lib.hid (HR.out.below hbb)
      have HBW := Lib.hid HB.out.size
      have HSB := Lib.hid hsb
      have HSO := Lib.hid hso
      have HBB := Lib.hid hbb
      clear HM HB hbb hsb hso b0 b1 b2 b3 b4 b5 b6 z0 t0 t1 t2
      obtain ⟨b0, b1, b2, b3, b4, b5, b6, z0⟩ := StoryB.cells (W := w2) ((HB2.out.block _ (blk_lt HS1.out)).trans HS1.out)
      have HX := Lib.hid (BoxS.mk (y := sp) (below_alloc w2 (.cells sp.cells.toArray 73)) (heap_alloc_last _ _))
      unfold SpanD.cells at HX
      unfold SpanD.cells
      go_upto_region 7 with (fail)
      have y4 : (w2.alloc (.cells #[.int .i64 sp.trace, .int .i64 sp.id, .int .i64 sp.parent, .int .i64 sp.rev, .int .i64 sp.clock, .int .i64 sp.kind, .string sp.svc, .string sp.ver, .string sp.op, .int .i64 sp.st, .int .i64 sp.en, .bool sp.err, .slice sp.aA sp.attrs.length sp.aC, .slice sp.lA sp.links.length sp.lC] 73)).cell? ⟨w2.heap.size, 4, none⟩ = some (.int .i64 sp.clock) := cell_blk HX.out.c 4 rfl
      clear b0 b1 b2 b3 b4 b5 b6 z0
      generalize w2.alloc _ = W3 at *
      have zg := blk_lt HX.out.c
      obtain ⟨b0, b1, b2, b3, b4, b5, b6, z0⟩ := StoryB.cells (W := W3) (blk_keep HX.out.b ((HB2.out.block _ (blk_lt HS1.out)).trans HS1.out))
      have hcl : sp.clock = 1 + x.k % 4 := congrArg SpanD.clock HSB.out
      have hst : sp.st = s1 := congrArg SpanD.st HSB.out
      have hen : sp.en = e1 := congrArg SpanD.en HSB.out
      have hc1 : 1 ≤ sp.clock := by omega
      have hc4 : sp.clock ≤ 4 := by omega
      have HF := Lib.hid (And.intro hcl (And.intro hst hen))
      clear hcl hst hen
      go_wp2_with fail
      (with_reducible refine (offset_any _ _ _ _ _ _ _ _ _ _ _ _ hc1 hc4 HOO.out.1 HOO.out.2.1 HOO.out.2.2.1 HOO.out.2.2.2 _).mono ?_)
      rintro e w4 ⟨rfl, hbb⟩
      have HX4 := Lib.hid (HX.out.below hbb)
      clear HX b0 b1 b2 b3 b4 b5 b6 z0 y4 hbb zg hc1 hc4
      obtain ⟨b0, b1, b2, b3, b4, b5, b6, z0⟩ := StoryB.cells (W := w4) (blk_keep HX4.out.b ((HB2.out.block _ (blk_lt HS1.out)).trans HS1.out))
      have zg := blk_lt HX4.out.c
      have y9 : w4.cell? ⟨w2.heap.size, 9, none⟩ = some (.int .i64 sp.st) := cell_blk HX4.out.c 9 rfl
      have y10 : w4.cell? ⟨w2.heap.size, 10, none⟩ = some (.int .i64 sp.en) := cell_blk HX4.out.c 10 rfl
      have yf := fun i => frozen_blk HX4.out.c i
      have hob := Lib.hid (off_range o0 o1 o2 o3 sp.clock)
      have hby : Hid (byX o0 o1 o2 o3 q k j x = offX o0 o1 o2 o3 sp.clock + (if 0 < q ∧ q % 8 = (j : Int) ∧ q / 8 % 3 = (k : Int) then 500 else 0)) := Lib.hid (by unfold byX; rw [HF.out.1])
      generalize offX o0 o1 o2 o3 sp.clock = by0 at *
      by_cases g1 : 0 < q ∧ q % 8 = (j : Int) ∧ q / 8 % 3 = (k : Int)
      · rw [if_pos g1] at hby
        obtain ⟨g1, g2, g3⟩ := g1
        go_upto_region 12 with (fail)
        obtain ⟨v9, hv9⟩ : ∃ v, v = wrap64 (sp.st + wrap64 (by0 + 500)) := ⟨_, rfl⟩
        obtain ⟨v10, hv10⟩ : ∃ v, v = wrap64 (sp.en + wrap64 (by0 + 500)) := ⟨_, rfl⟩
        rw [← hv9, ← hv10]
        have HV : Hid (v9 = s1 + byX o0 o1 o2 o3 q k j x ∧ v10 = e1 + byX o0 o1 o2 o3 q k j x) := Lib.hid (by
          have h1 := hob.out
          have h2 := hbd.out
          have h3 := HF.out
          have h4 := HN.out
          rw [IntWalk.wrap64_in (by0 + 500) (by omega)] at hv9 hv10
          rw [hv9, hv10, hby.out, h3.2.1, h3.2.2, IntWalk.wrap64_in _ (by omega), IntWalk.wrap64_in _ (by omega)]
          constructor <;> omega)
        clear hv9 hv10 y9 y10 yf zg b0 b1 b2 b3 b4 b5 b6 z0
        have HX9 := Lib.hid (HX4.out.set v9 v10)
        generalize (w4.setCell _ _).setCell _ _ = W9 at *
        have hzx := HX9.out.b.size
        have hz2 := HB2.out.size
        have hR9 := Lib.hid (HR2.out.below HX9.out.b)
        have HONE := Lib.hid (show ∀ u ∈ ([.int .i64 sp.trace, .int .i64 sp.id, .int .i64 sp.parent, .int .i64 sp.rev, .int .i64 sp.clock, .int .i64 sp.kind, .string sp.svc, .string sp.ver, .string sp.op, .int .i64 v9, .int .i64 v10, .bool sp.err, .slice sp.aA sp.attrs.length sp.aC, .slice sp.lA sp.links.length sp.lC] : List Value), u.oneCell' = true from cells_one { sp with st := v9, en := v10 })
        have hblk := Lib.hid (show W9.heap[w2.heap.size]? = some (.cells #[.int .i64 sp.trace, .int .i64 sp.id, .int .i64 sp.parent, .int .i64 sp.rev, .int .i64 sp.clock, .int .i64 sp.kind, .string sp.svc, .string sp.ver, .string sp.op, .int .i64 v9, .int .i64 v10, .bool sp.err, .slice sp.aA sp.attrs.length sp.aC, .slice sp.lA sp.links.length sp.lC] 73 (0, 0)) from HX9.out.c)
        refine wp_region_lit ?_
        refine wpList_plain rfl (fun K hK => ?_)
        go_simp
        refine hK _ _ ?_
        clear hK K
        refine wpList_load_row rfl 73 (.tmp 11) rfl w2.heap.size rfl 73 _ (0, 0) _ hblk.out Tryz.underlying73 rfl (by kernel_rfl) ?_
        refine wpList_plain rfl (fun K hK => ?_)
        go_simp
        refine hK _ _ ?_
        clear hK K
        refine wpList_append_own_at (w := W9.alloc _) rfl (.tmp 77) (.tmp 79) 25 rfl w1.heap.size 73 t3 z3 14 t3.bytes Tryz.underlying25 ht3 ht3z ht3s rfl ht3c (by decide) u7 M.length (cellsX M) rfl (hR9.out.row.alloc _) ⟨W9.heap.size, 0, none⟩ 1 1 [.int .i64 sp.trace, .int .i64 sp.id, .int .i64 sp.parent, .int .i64 sp.rev, .int .i64 sp.clock, .int .i64 sp.kind, .string sp.svc, .string sp.ver, .string sp.op, .int .i64 v9, .int .i64 v10, .bool sp.err, .slice sp.aA sp.attrs.length sp.aC, .slice sp.lA sp.links.length sp.lC] rfl rfl (cells_new _ _ _) HONE.out (by unfold maxLen; omega) (Nat.le_trans (Nat.mul_le_mul (show M.length + 1 ≤ 1001 by omega) ht3b) (by decide)) (by simp; omega) ?_
        intro v' W' hown hgr hnil hat
        have HW := Lib.hid hown
        have HG := Lib.hid hgr
        have HA := Lib.hid hat
        clear hown hgr hnil hat
        go_wp2_with fail
        have hbr : Below wr.heap.size wr W9 := HBB.out.trans (HX9.out.b.mono HBB.out.size)
        have hyo : SpanD.Owned wr.heap.size W9 { sp with st := v9, en := v10 } := owned_shift (HSO.out.below HX9.out.b) v9 v10
        have hsn := HR.out.snoc (y := { sp with st := v9, en := v10 }) HBW.out (hbr.alloc hbr.size _) (hyo.below (below_alloc _ _)) HW.out HG.out HA.out
        have hbl := Below.grown (((HB2.out.trans (HX9.out.b.mono hz2)).alloc (by omega) _)) HG.out (by simp; omega) (fun b hb => (HR.out.row.lt b hb).1)
        have hsx : SpanD.bare { sp with st := v9, en := v10 } = SX := by
          rw [hsp.out, ← HSB.out, HV.out.1, HV.out.2]
          have h3 := HF.out
          simp only [shiftX, SpanD.bare, SpanD.moved, h3.2.1, h3.2.2]
        exact ⟨⟨j + 1, _, by omega, by go_num, by simp [hM], Lib.hid hbl, Lib.hid hsn, Lib.hid (by rw [List.map_append, HMB.out, hxs.out, List.map_singleton, hsx])⟩, by simp [intOf]; omega⟩
      · rw [if_neg g1] at hby
        go_upto_region 12 with (fail)
        all_goals
          obtain ⟨v9, hv9⟩ : ∃ v, v = wrap64 (sp.st + by0) := ⟨_, rfl⟩
          obtain ⟨v10, hv10⟩ : ∃ v, v = wrap64 (sp.en + by0) := ⟨_, rfl⟩
          rw [← hv9, ← hv10]
          have HV : Hid (v9 = s1 + byX o0 o1 o2 o3 q k j x ∧ v10 = e1 + byX o0 o1 o2 o3 q k j x) := Lib.hid (by
            have h1 := hob.out
            have h2 := hbd.out
            have h3 := HF.out
            have h4 := HN.out
            skip
            rw [hv9, hv10, hby.out, h3.2.1, h3.2.2, IntWalk.wrap64_in _ (by omega), IntWalk.wrap64_in _ (by omega)]
            constructor <;> omega)
          clear hv9 hv10 y9 y10 yf zg b0 b1 b2 b3 b4 b5 b6 z0
          have HX9 := Lib.hid (HX4.out.set v9 v10)
          generalize (w4.setCell _ _).setCell _ _ = W9 at *
          have hzx := HX9.out.b.size
          have hz2 := HB2.out.size
          have hR9 := Lib.hid (HR2.out.below HX9.out.b)
          have HONE := Lib.hid (show ∀ u ∈ ([.int .i64 sp.trace, .int .i64 sp.id, .int .i64 sp.parent, .int .i64 sp.rev, .int .i64 sp.clock, .int .i64 sp.kind, .string sp.svc, .string sp.ver, .string sp.op, .int .i64 v9, .int .i64 v10, .bool sp.err, .slice sp.aA sp.attrs.length sp.aC, .slice sp.lA sp.links.length sp.lC] : List Value), u.oneCell' = true from cells_one { sp with st := v9, en := v10 })
          have hblk := Lib.hid (show W9.heap[w2.heap.size]? = some (.cells #[.int .i64 sp.trace, .int .i64 sp.id, .int .i64 sp.parent, .int .i64 sp.rev, .int .i64 sp.clock, .int .i64 sp.kind, .string sp.svc, .string sp.ver, .string sp.op, .int .i64 v9, .int .i64 v10, .bool sp.err, .slice sp.aA sp.attrs.length sp.aC, .slice sp.lA sp.links.length sp.lC] 73 (0, 0)) from HX9.out.c)
          refine wp_region_lit ?_
          refine wpList_plain rfl (fun K hK => ?_)
          go_simp
          refine hK _ _ ?_
          clear hK K
          refine wpList_load_row rfl 73 (.tmp 11) rfl w2.heap.size rfl 73 _ (0, 0) _ hblk.out Tryz.underlying73 rfl (by kernel_rfl) ?_
          refine wpList_plain rfl (fun K hK => ?_)
          go_simp
          refine hK _ _ ?_
          clear hK K
          refine wpList_append_own_at (w := W9.alloc _) rfl (.tmp 77) (.tmp 79) 25 rfl w1.heap.size 73 t3 z3 14 t3.bytes Tryz.underlying25 ht3 ht3z ht3s rfl ht3c (by decide) u7 M.length (cellsX M) rfl (hR9.out.row.alloc _) ⟨W9.heap.size, 0, none⟩ 1 1 [.int .i64 sp.trace, .int .i64 sp.id, .int .i64 sp.parent, .int .i64 sp.rev, .int .i64 sp.clock, .int .i64 sp.kind, .string sp.svc, .string sp.ver, .string sp.op, .int .i64 v9, .int .i64 v10, .bool sp.err, .slice sp.aA sp.attrs.length sp.aC, .slice sp.lA sp.links.length sp.lC] rfl rfl (cells_new _ _ _) HONE.out (by unfold maxLen; omega) (Nat.le_trans (Nat.mul_le_mul (show M.length + 1 ≤ 1001 by omega) ht3b) (by decide)) (by simp; omega) ?_
          intro v' W' hown hgr hnil hat
          have HW := Lib.hid hown
          have HG := Lib.hid hgr
          have HA := Lib.hid hat
          clear hown hgr hnil hat
          go_wp2_with fail
          have hbr : Below wr.heap.size wr W9 := HBB.out.trans (HX9.out.b.mono HBB.out.size)
          have hyo : SpanD.Owned wr.heap.size W9 { sp with st := v9, en := v10 } := owned_shift (HSO.out.below HX9.out.b) v9 v10
          have hsn := HR.out.snoc (y := { sp with st := v9, en := v10 }) HBW.out (hbr.alloc hbr.size _) (hyo.below (below_alloc _ _)) HW.out HG.out HA.out
          have hbl := Below.grown (((HB2.out.trans (HX9.out.b.mono hz2)).alloc (by omega) _)) HG.out (by simp; omega) (fun b hb => (HR.out.row.lt b hb).1)
          have hsx : SpanD.bare { sp with st := v9, en := v10 } = SX := by
            rw [hsp.out, ← HSB.out, HV.out.1, HV.out.2]
            have h3 := HF.out
            simp only [shiftX, SpanD.bare, SpanD.moved, h3.2.1, h3.2.2]
          exact ⟨⟨j + 1, _, by omega, by go_num, by simp [hM], Lib.hid hbl, Lib.hid hsn, Lib.hid (by rw [List.map_append, HMB.out, hxs.out, List.map_singleton, hsx])⟩, by simp [intOf]; omega⟩
    · obtain rfl : j = n := by omega
      obtain ⟨a7, c7, rfl, _⟩ := row_forms HR.out.row
      go_wp2_with fail
      go_ret
      rw [hM] at *
      exact ⟨⟨_, M, rfl, HR.out.mono' (by have := HB1.out.size; omega), by rw [HMB.out, HTt.out, traceX, HN.out]⟩, below_on HB1.out HB.out HB1.out.size⟩
end Go.Proofs.YtnddlpfmagdbfaaGreatDoor.Sto
/- Contracts: the exponent that a policy gives to a trace. -/
namespace Go.Proofs.YtnddlpfmagdbfaaGreatDoor
open Go Go.Proofs Go.RowKit
set_option linter.unusedVariables false
set_option linter.unusedSimpArgs false
/-- The first index that is true, or -1. -/
def FirstI (r : Nat → Bool) (n : Nat) (i : Int) : Prop := (∃ j : Nat, j < n ∧ i = j ∧ r j = true ∧ ∀ m, m < j → r m = false) ∨ (i = -1 ∧ ∀ m, m < n → r m = false)
set_option maxHeartbeats 4000000 in
theorem indexR_any (a : Option Addr) (L : List RuleD) (c n : Nat) (hn : n = L.length) (P : Option Addr) (r : Nat → Bool) (w : World) (h : RulesAt w a L) (hl : L.length ≤ 1000000)
    (hk : ∀ j (h : j < L.length) W, Below w.heap.size w W → Calls Tryz.prog 45 #[.agg L[j].cells.toArray, .pointer P] W fun e w' => e = .returned (.bool (r j)) ∧ Below W.heap.size W w') :
    Calls Tryz.prog 48 #[.slice a n c, .func (.func 45) #[] #[.pointer P]] w fun e w' => (∃ i : Int, e = .returned (.int .i64 i) ∧ FirstI r L.length i) ∧ Below w.heap.size w w' := by
  subst hn
  have HR := Lib.hid h
  have HK := Lib.hid hk
  clear h hk
  go_enter Tryz.func48, Tryz.ntmps48
  go_wp2_with fail
  go_loopw [5, 8] (fun t i wr => ∃ j : Nat, j ≤ L.length ∧ i = .int .i64 j ∧ Hid (∀ m, m < j → r m = false) ∧ Hid (Below w.heap.size w wr)) (fun _ i _ => L.length - (intOf i).toNat)
  case atStart => exact ⟨0, by omega, rfl, Lib.hid (fun m hm => by omega), Lib.hid (Below.refl _ _)⟩
  case round =>
    obtain ⟨j, hj, rfl, hG, hW⟩ := hrel
    by_cases hlt : j < L.length
    · have hlt2 : decide (j < L.length) = true := decide_eq_true hlt
      obtain ⟨ad, rfl, ⟨g0, g1, g2, g3, g4, g5, g6⟩, g7⟩ := (HR.out.below hW.out) j hlt
      have hc := Lib.hid (HK.out j hlt wr hW.out)
      generalize L[j] = x at *
      unfold RuleD.cells at hc
      cases hr : r j
      · have hn : Hid (∀ m, m < j + 1 → r m = false) := Lib.hid (fun m hm => by
          by_cases hmj : m = j
          · subst hmj; exact hr
          · exact hG.out m (by omega))
        rw [hr] at hc
        clear hr
        go_wp2_with (first
          | (go_at_call 45; (with_reducible refine hc.out.mono ?_); rintro e w' ⟨rfl, hb⟩; have hb := Lib.hid hb))
        exact ⟨⟨j + 1, by omega, by go_num, hn, Lib.hid (hW.out.trans (hb.out.mono hW.out.size))⟩, by simp [intOf]; omega⟩
      · have hn : Hid (FirstI r L.length j) := Lib.hid (.inl ⟨j, hlt, rfl, hr, hG.out⟩)
        rw [hr] at hc
        clear hr
        go_wp2_with (first
          | (go_at_call 45; (with_reducible refine hc.out.mono ?_); rintro e w' ⟨rfl, hb⟩; have hb := Lib.hid hb))
        go_ret
        exact ⟨⟨_, rfl, hn.out⟩, hW.out.trans (hb.out.mono hW.out.size)⟩
    · obtain rfl : j = L.length := by omega
      have hlt2 : decide (L.length < L.length) = false := decide_eq_false hlt
      have hn : Hid (FirstI r L.length (-1)) := Lib.hid (.inr ⟨rfl, hG.out⟩)
      go_wp2_with fail
      go_ret
      exact ⟨⟨_, rfl, hn.out⟩, hW.out⟩
/-- The exponent of the first rule that applies. -/
def firstX (f : PredD → Bool) (d : Int) : List RuleD → Int
  | [] => d
  | q :: l => if f q.p = true then q.e else firstX f d l
theorem firstX_at (f : PredD → Bool) (d : Int) : ∀ (L : List RuleD) (j : Nat) (hj : j < L.length), f L[j].p = true → (∀ m (hm : m < j), f (L[m]'(by omega)).p = false) → firstX f d L = L[j].e
  | q :: l, 0, _, h, _ => by unfold firstX; exact if_pos h
  | q :: l, j + 1, hj, h, k => by
    unfold firstX
    have h0 : f q.p = false := k 0 (by omega)
    rw [if_neg (by rw [h0]; simp)]
    exact firstX_at f d l j (by simpa using hj) h (fun m hm => k (m + 1) (by omega))
theorem firstX_none (f : PredD → Bool) (d : Int) : ∀ (L : List RuleD), (∀ m (hm : m < L.length), f L[m].p = false) → firstX f d L = d
  | [], _ => rfl
  | q :: l, k => by
    unfold firstX
    have h0 : f q.p = false := k 0 (by simp)
    rw [if_neg (by rw [h0]; simp)]
    exact firstX_none f d l (fun m hm => k (m + 1) (by simpa using hm))
/-- A policy. -/
structure PolD where
  A : Option Addr
  c : Nat
  rules : List RuleD
  d : Int
def PolD.cells (p : PolD) : List Value := [.slice p.A p.rules.length p.c, .int .i64 p.d]
structure PolD.Held (n : Nat) (w : World) (p : PolD) : Prop where
  at_ : RulesAt w p.A p.rules
  len : p.rules.length ≤ 1000000
  ok : ∀ q ∈ p.rules, PredOK n w q.p
theorem PolD.Held.below {n : Nat} {w W : World} {p : PolD} (h : p.Held n w) (k : Below w.heap.size w W) : p.Held n W := ⟨h.at_.below k, h.len, fun q hq => (h.ok q hq).below k⟩
structure PolD.Lies (n : Nat) (w : World) (p : PolD) : Prop where
  at_ : RulesAt w p.A p.rules
  len : p.rules.length ≤ 1000000
  ok : ∀ q ∈ p.rules, PredLie n w q.p
theorem PolD.Lies.below {n : Nat} {w W : World} {p : PolD} (h : p.Lies n w) (k : Below w.heap.size w W) : p.Lies n W := ⟨h.at_.below k, h.len, fun q hq => (h.ok q hq).below k⟩
theorem PolD.Held.lies {n : Nat} {w : World} {p : PolD} (h : p.Held n w) : p.Lies n w := ⟨h.at_, h.len, fun q hq => (h.ok q hq).lie⟩
/-- A trace. -/
structure TraceD where
  id : Int
  weight : Int
  A : Option Addr
  c : Nat
  spans : List SpanD
def TraceD.cells (t : TraceD) : List Value := [.int .i64 t.id, .int .i64 t.weight, .slice t.A t.spans.length t.c]
/-- The spans of a trace lie there, and are well made. -/
structure TraceD.Held (w : World) (t : TraceD) : Prop where
  len : t.spans.length ≤ 100000
  at_ : SpansIn w t.A t.spans
  held : ∀ x ∈ t.spans, x.Held w
  sound : ∀ x ∈ t.spans, x.Sound ∧ x.attrs.length ≤ 1000 ∧ x.links.length ≤ 1000
  str : ∀ x ∈ t.spans, x.Str
theorem TraceD.Held.below {w W : World} {t : TraceD} (h : t.Held w) (k : Below w.heap.size w W) : t.Held W := ⟨h.len, h.at_.below k, fun x hx => (h.held x hx).keeps W k, h.sound, h.str⟩
/-- The spans of a trace lie there. -/
structure TraceD.Lies (w : World) (t : TraceD) : Prop where
  len : t.spans.length ≤ 100000
  at_ : SpansIn w t.A t.spans
  held : ∀ x ∈ t.spans, x.Held w
  sound : ∀ x ∈ t.spans, x.Sound
  txt : ∀ x ∈ t.spans, x.Txt
theorem TraceD.Lies.below {w W : World} {t : TraceD} (h : t.Lies w) (k : Below w.heap.size w W) : t.Lies W := ⟨h.len, h.at_.below k, fun x hx => (h.held x hx).keeps W k, h.sound, h.txt⟩
theorem TraceD.Lies.nil {w : World} {t : TraceD} (h : t.Lies w) (k : t.A = none) : t.spans = [] := by
  rcases Nat.eq_zero_or_pos t.spans.length with h0 | h0
  · exact List.length_eq_zero_iff.1 h0
  · obtain ⟨b, o, e, _⟩ := h.at_ 0 h0
    rw [k] at e
    cases e
theorem TraceD.Lies.toHeld {w : World} {t : TraceD} (h : t.Lies w) (k : ∀ x ∈ t.spans, x.attrs.length ≤ 32 ∧ x.links.length ≤ 16) : t.Held w :=
  ⟨h.len, h.at_, h.held, fun x hx => ⟨h.sound x hx, by have := k x hx; omega, by have := k x hx; omega⟩, fun x hx => (h.txt x hx).str (by have := k x hx; omega)⟩
/-- The exponent that a policy gives to a trace. -/
def givenX (n : Nat) (p : PolD) (t : TraceD) : Int := firstX (fun q => (winX t.spans).any (holdsX n q)) p.d p.rules
theorem winX_sub (L : List SpanD) : ∀ x ∈ winX L, x ∈ L := fun x hx => setX_sub L x (pickI_sub _ _ _ x hx)
theorem str_bare {x y : SpanD} (h : x.bare = y.bare) (k : x.Str) : y.Str := by
  have e : ∀ z : SpanD, z.bare.Str ↔ z.Str := fun z => ⟨fun h => ⟨h.svc, h.ver, h.op, h.attrs, h.na⟩, fun h => ⟨h.svc, h.ver, h.op, h.attrs, h.na⟩⟩
  exact (e y).1 (h ▸ (e x).2 k)
theorem any_bare {M L : List SpanD} (h : M.map SpanD.bare = L.map SpanD.bare) (n : Nat) (q : PredD) : M.any (holdsX n q) = L.any (holdsX n q) := by
  have e : ∀ l : List SpanD, l.any (holdsX n q) = (l.map SpanD.bare).any (holdsX n q) := by
    intro l
    rw [List.any_map]
    congr 1
    funext x
    exact (holdsX_bare x n q).symm
  rw [e M, h, ← e L]
theorem all_str {M L : List SpanD} (h : M.map SpanD.bare = (winX L).map SpanD.bare) (k : ∀ x ∈ L, x.Str) : ∀ x ∈ M, x.Str := by
  intro x hx
  have h1 : x.bare ∈ (winX L).map SpanD.bare := h ▸ List.mem_map_of_mem hx
  obtain ⟨y, hy, e⟩ := List.mem_map.1 h1
  exact str_bare e (k y (winX_sub L y hy))
theorem winX_length (L : List SpanD) : (winX L).length ≤ L.length := Nat.le_trans (pickI_length _ _ _) (setX_length L)
/-- A row of spans is a slice of them. -/
theorem RowX.slice {lo : Nat} {W : World} {v : Value} {M : List SpanD} (h : RowX lo W v M) : ∃ A c, v = .slice A M.length c ∧ SpansIn W A M ∧ (A = none → M = []) ∧ ∀ p, A = some p → p.spot = none := by
  rcases h.row.2 with ⟨h0, h1⟩ | ⟨g, cap, cur, hv, hb, hg, h1, h2, h3, h4⟩
  · have : M = [] := List.length_eq_zero_iff.1 h1
    subst this
    exact ⟨none, 0, h0, fun j hj => absurd hj (Nat.not_lt_zero _), fun _ => rfl, by simp⟩
  · refine ⟨_, cap, hv, fun j hj => ⟨g, 0, rfl, fun i u hu => ?_⟩, by simp, fun p hp => by cases hp; rfl⟩
    have hi : i < 14 := by
      have := (List.getElem?_eq_some_iff.1 hu).1
      rwa [cells_length] at this
    have h5 : (cellsX M)[j * 14 + i]? = some u := (cellsX_get hj hi).trans hu
    rw [← h4, List.getElem?_take_of_lt (by omega)] at h5
    refine cell_blk hg (0 + j * 14 + i) ?_
    rw [Nat.zero_add, ← Array.getElem?_toList]
    exact h5
end Go.Proofs.YtnddlpfmagdbfaaGreatDoor
/- Contracts: the exponent that a policy gives to a trace: given. -/
namespace Go.Proofs.YtnddlpfmagdbfaaGreatDoor
open Go Go.Proofs Go.RowKit
set_option linter.unusedVariables false
set_option linter.unusedSimpArgs false
theorem rules_cell {W : World} {a : Option Addr} {L : List RuleD} (h : RulesAt W a L) {j : Nat} (hj : j < L.length) : ∃ ad, a = some ad ∧ W.cell? ⟨(ad.add (j * 8)).block, (ad.add (j * 8)).off + 7, none⟩ = some (.int .i64 L[j].e) :=
  let ⟨ad, h1, _, h3⟩ := h j hj
  ⟨ad, h1, h3⟩
theorem firstI_uniq {r : Nat → Bool} {n : Nat} {i k : Int} (h : FirstI r n i) (g : FirstI r n k) : i = k := by
  rcases h with ⟨j, hj, rfl, h1, h2⟩ | ⟨rfl, h1⟩
  · rcases g with ⟨m, hm, rfl, g1, g2⟩ | ⟨rfl, g1⟩
    · have a : ¬ j < m := fun c => by rw [g2 j c] at h1; cases h1
      have b : ¬ m < j := fun c => by rw [h2 m c] at g1; cases g1
      omega
    · rw [g1 j hj] at h1; cases h1
  · rcases g with ⟨m, hm, rfl, g1, g2⟩ | ⟨rfl, g1⟩
    · rw [h1 m hm] at g1; cases g1
    · rfl
theorem firstI_ex (r : Nat → Bool) : ∀ n : Nat, ∃ i, FirstI r n i
  | 0 => ⟨-1, .inr ⟨rfl, fun m hm => absurd hm (Nat.not_lt_zero m)⟩⟩
  | n + 1 => by
    obtain ⟨i, h⟩ := firstI_ex r n
    rcases h with ⟨j, hj, rfl, h1, h2⟩ | ⟨rfl, h1⟩
    · exact ⟨_, .inl ⟨j, by omega, rfl, h1, h2⟩⟩
    · cases hn : r n
      · refine ⟨-1, .inr ⟨rfl, fun m hm => ?_⟩⟩
        by_cases h : m = n
        · subst h; exact hn
        · exact h1 m (by omega)
      · exact ⟨_, .inl ⟨n, by omega, rfl, hn, h1⟩⟩
/-- Does a rule apply? -/
def appX (n : Nat) (t : TraceD) (q : RuleD) : Bool := (winX t.spans).any (holdsX n q.p)
theorem index_given (n : Nat) (p : PolD) (t : TraceD) (w w1 W1 : World) (A1 : Option Addr) (c1 b : Nat) (M : List SpanD) (HP : p.Held n w) (hlo : Below w.heap.size w W1) (hR : SpansIn W1 A1 M) (hH : ∀ x ∈ M, x.Held W1) (hM : M.map SpanD.bare = (winX t.spans).map SpanD.bare) (HS : ∀ x ∈ t.spans, x.Str) (HL : t.spans.length ≤ 100000) (hb : W1.cell? ⟨b, 0, none⟩ = some (.slice A1 M.length c1)) :
    Calls Tryz.prog 48 #[.slice p.A p.rules.length p.c, .func (.func 45) #[] #[.pointer (some ⟨b, 0, none⟩)]] W1 fun e w' => (∃ i : Int, e = .returned (.int .i64 i) ∧ FirstI (atB (appX n t) p.rules) p.rules.length i) ∧ Below W1.heap.size W1 w' := by
  have hlen : M.length ≤ 1000000 := by
    have h1 := congrArg List.length hM
    simp only [List.length_map] at h1
    have h2 := winX_length t.spans
    omega
  refine indexR_any p.A p.rules p.c p.rules.length rfl _ _ W1 (HP.below hlo).at_ HP.len fun j hj W hW => ?_
  rw [atB_eq hj]
  have e : appX n t p.rules[j] = M.any (holdsX n p.rules[j].p) := (any_bare hM n _).symm
  rw [e]
  exact gv1_any n p.rules[j] A1 c1 M b W (((HP.below hlo).ok _ (List.getElem_mem hj)).below hW) (hR.below hW) (fun x hx => (hH x hx).keeps W hW) (all_str hM HS) hlen ((hW.cell (World.block_lt_of_cell? W1 _ hb)).trans hb)
set_option maxHeartbeats 8000000 in
set_option maxRecDepth 20000 in
theorem given_any (n : Nat) (p : PolD) (t : TraceD) (w : World) (hp : p.Held n w) (ht : t.Held w) :
    Calls Tryz.prog 27 #[.agg p.cells.toArray, .agg t.cells.toArray] w fun e w' => e = .returned (.int .i64 (givenX n p t)) ∧ Below w.heap.size w w' := by
  have hB := Lib.hid (((Below.refl _ w).alloc (Nat.le_refl _) (.cells p.cells.toArray 24)).alloc (by simp) (.cells t.cells.toArray 27))
  have hs0 : Hid (((w.alloc (.cells p.cells.toArray 24)).alloc (.cells t.cells.toArray 27)).heap.size = w.heap.size + 2) := Lib.hid (by simp)
  have hPB := Lib.hid ((Grew.alloc (w.alloc (.cells p.cells.toArray 24)) (.cells t.cells.toArray 27)).blk (blk_new w p.cells.toArray 24))
  have HT := Lib.hid (ht.below hB.out)
  have hW := Lib.hid (winners_any t.A t.spans t.c HT.out.len _ HT.out.at_ HT.out.held HT.out.sound)
  have HS := Lib.hid ht.str
  have HL := Lib.hid ht.len
  have HP := Lib.hid hp
  clear hp ht HT
  have hval : Hid (∀ i, FirstI (atB (appX n t) p.rules) p.rules.length i → (∃ j : Nat, ∃ hj : j < p.rules.length, i = j ∧ givenX n p t = p.rules[j].e) ∨ (i = -1 ∧ givenX n p t = p.d)) := Lib.hid (fun i hi => by
    rcases hi with ⟨j, hj, rfl, h1, h2⟩ | ⟨rfl, h1⟩
    · refine .inl ⟨j, hj, rfl, ?_⟩
      rw [atB_eq hj] at h1
      exact firstX_at _ _ _ _ hj h1 (fun m hm => by have := h2 m hm; rwa [atB_eq (by omega)] at this)
    · refine .inr ⟨rfl, firstX_none _ _ _ (fun m hm => by have := h1 m hm; rwa [atB_eq hm] at this)⟩)
  obtain ⟨i0, hi0⟩ := firstI_ex (atB (appX n t) p.rules) p.rules.length
  have hu := Lib.hid (fun i (h : FirstI (atB (appX n t) p.rules) p.rules.length i) => firstI_uniq h hi0)
  have hR := Lib.hid (fun W h j hj => rules_cell (W := W) (HP.out.below h).at_ (j := j) hj)
  unfold PolD.cells TraceD.cells at hW hB hPB hs0 ⊢
  go_enter Tryz.func27, Tryz.ntmps27
  rcases hval.out i0 hi0 with ⟨j, hj, rfl, hv⟩ | ⟨rfl, hv⟩
  · have hj0 : decide ((0 : Int) ≤ (j : Int)) = true := decide_eq_true (by omega)
    have hv := Lib.hid hv
    have hR' := Lib.hid (fun W h => hR.out W h j hj)
    clear hval hR
    generalize p.rules[j] = q at *
    go_wp2_with (first
    | (go_at_call 31; (with_reducible refine hW.out.mono ?_); rintro e w1 ⟨v, M, rfl, hR, hM, hg⟩; obtain ⟨A1, c1, rfl, hI, hA, hA'⟩ := hR.slice; have hg1 : Below w.heap.size w (w1.alloc (.cells #[.slice A1 M.length c1] 25)) := (hB.out.trans (hg.mono hB.out.size)).alloc (Nat.le_trans hB.out.size hg.size) _; have hc := Lib.hid (index_given n p t w w1 (w1.alloc (.cells #[.slice A1 M.length c1] 25)) A1 c1 w1.heap.size M HP.out hg1 (hI.grew (Grew.alloc _ _)) (fun x hx => ((hR.own x hx).held).grew (Grew.alloc _ _)) hM HS.out HL.out (cell_new _ _ _ _ _ _ rfl rfl)); have hP1 := (Grew.alloc w1 (.cells #[.slice A1 M.length c1] 25)).blk (blk_keep hg hPB.out); have p0 : (w1.alloc (.cells #[.slice A1 M.length c1] 25)).cell? ⟨w.heap.size, 0, none⟩ = some (.slice p.A p.rules.length p.c) := cell_blk hP1 0 rfl; have hg1 := Lib.hid hg1; have hP1 := Lib.hid hP1; clear hI hA hA' hM hR hg)
    | (go_at_call 48; (with_reducible refine hc.out.mono ?_); rintro e w3 ⟨⟨i, rfl, hi⟩, hg3⟩; have hi := hu.out i hi; subst hi; have hP3 := blk_keep hg3 hP1.out; have q0 : w3.cell? ⟨w.heap.size, 0, none⟩ = some (.slice p.A p.rules.length p.c) := cell_blk hP3 0 rfl; have q1 : w3.cell? ⟨w.heap.size, 1, none⟩ = some (.int .i64 p.d) := cell_blk hP3 1 rfl; have hg4 := Lib.hid (hg1.out.trans (hg3.mono hg1.out.size)); clear hP3; obtain ⟨ad, hA3, hc3⟩ := hR'.out w3 hg4.out))
    go_ret
    exact ⟨by rw [hv.out]; rfl, hg4.out⟩
  · have hj0 : decide ((0 : Int) ≤ -1) = false := by decide
    have hv := Lib.hid hv
    clear hval hR
    go_wp2_with (first
    | (go_at_call 31; (with_reducible refine hW.out.mono ?_); rintro e w1 ⟨v, M, rfl, hR, hM, hg⟩; obtain ⟨A1, c1, rfl, hI, hA, hA'⟩ := hR.slice; have hg1 : Below w.heap.size w (w1.alloc (.cells #[.slice A1 M.length c1] 25)) := (hB.out.trans (hg.mono hB.out.size)).alloc (Nat.le_trans hB.out.size hg.size) _; have hc := Lib.hid (index_given n p t w w1 (w1.alloc (.cells #[.slice A1 M.length c1] 25)) A1 c1 w1.heap.size M HP.out hg1 (hI.grew (Grew.alloc _ _)) (fun x hx => ((hR.own x hx).held).grew (Grew.alloc _ _)) hM HS.out HL.out (cell_new _ _ _ _ _ _ rfl rfl)); have hP1 := (Grew.alloc w1 (.cells #[.slice A1 M.length c1] 25)).blk (blk_keep hg hPB.out); have p0 : (w1.alloc (.cells #[.slice A1 M.length c1] 25)).cell? ⟨w.heap.size, 0, none⟩ = some (.slice p.A p.rules.length p.c) := cell_blk hP1 0 rfl; have hg1 := Lib.hid hg1; have hP1 := Lib.hid hP1; clear hI hA hA' hM hR hg)
    | (go_at_call 48; (with_reducible refine hc.out.mono ?_); rintro e w3 ⟨⟨i, rfl, hi⟩, hg3⟩; have hi := hu.out i hi; subst hi; have hP3 := blk_keep hg3 hP1.out; have q0 : w3.cell? ⟨w.heap.size, 0, none⟩ = some (.slice p.A p.rules.length p.c) := cell_blk hP3 0 rfl; have q1 : w3.cell? ⟨w.heap.size, 1, none⟩ = some (.int .i64 p.d) := cell_blk hP3 1 rfl; have hg4 := Lib.hid (hg1.out.trans (hg3.mono hg1.out.size)); clear hP3))
    go_ret
    exact ⟨by rw [hv.out]; rfl, hg4.out⟩
end Go.Proofs.YtnddlpfmagdbfaaGreatDoor
/- Contract: the exponent that a policy gives to a trace, as the law says it. -/
namespace Go.Proofs.YtnddlpfmagdbfaaGreatDoor
open Go Go.Proofs Go.RowKit
set_option linter.unusedVariables false
set_option linter.unusedSimpArgs false
theorem rules_pred {W : World} {a : Option Addr} {L : List RuleD} (h : RulesAt W a L) {j : Nat} (hj : j < L.length) : ∃ b o, a = some ⟨b, o, none⟩ ∧ W.rangeAt b (o + j * 8) L[j].p.cells ∧ W.cell? ⟨b, o + j * 8 + 7, none⟩ = some (.int .i64 L[j].e) := by
  obtain ⟨⟨b, o, g⟩, h1, h2, h3⟩ := h j hj
  cases g with
  | none =>
    rw [Addr.add_mid] at h2 h3
    exact ⟨b, o, h1, predIs_range h2, h3⟩
  | some g =>
    exfalso
    obtain ⟨ad, k1, k2, _⟩ := h 0 (by omega)
    obtain rfl : (⟨b, o, some g⟩ : Addr) = ad := Option.some.inj (h1.symm.trans k1)
    have h := k2.c0
    unfold World.cell? Addr.add at h
    revert h
    simp
    split <;> simp
set_option maxHeartbeats 8000000 in
set_option maxRecDepth 20000 in
theorem gives_any (n : Nat) (p : PolD) (t : TraceD) (w : World) (hp : p.Held n w) (ht : t.Held w) :
    Calls Tryz.prog 16 #[.agg p.cells.toArray, .agg t.cells.toArray] w fun e w' => e = .returned (.int .i64 (givenX n p t)) ∧ Below w.heap.size w w' := by
  have hB := Lib.hid (((Below.refl _ w).alloc (Nat.le_refl _) (.cells p.cells.toArray 24)).alloc (by simp) (.cells t.cells.toArray 27))
  have hPB := Lib.hid ((Grew.alloc (w.alloc (.cells p.cells.toArray 24)) (.cells t.cells.toArray 27)).blk (blk_new w p.cells.toArray 24))
  have HT := Lib.hid (ht.below hB.out)
  have hW := Lib.hid (winners_any t.A t.spans t.c HT.out.len _ HT.out.at_ HT.out.held HT.out.sound)
  have HS := Lib.hid ht.str
  have HL := Lib.hid ht.len
  have HP := Lib.hid hp
  clear hp ht HT
  unfold PolD.cells TraceD.cells at hW hB hPB ⊢
  obtain ⟨d, hd, hd'⟩ := rowP
  obtain ⟨d2, hd2, hd2'⟩ := rowX
  have hlenR := HP.out.len
  go_enter Tryz.func16, Tryz.ntmps16
  go_wp2_with (first
    | (go_at_call 31; (with_reducible refine hW.out.mono ?_); rintro e w1 ⟨v, M, rfl, hR, hM, hg⟩; obtain ⟨A1, c1, rfl, hI, hA, hA'⟩ := hR.slice; have hlenM : M.length ≤ 1000000 := (by have h1 := congrArg List.length hM; simp only [List.length_map] at h1; have h2 := winX_length t.spans; have := HL.out; omega); have hI1 := Lib.hid hI; have hO1 := Lib.hid (fun x hx => (hR.own x hx).held.keeps); have hS1 := Lib.hid (all_str hM HS.out); have hP1 := Lib.hid (blk_keep hg hPB.out); have hg1 := Lib.hid (hB.out.trans (hg.mono hB.out.size)); have hM1 := Lib.hid hM; clear hI hA hA' hM hR hg))
  go_loopw [6, 7] (fun i k wr => ∃ j : Nat, j ≤ p.rules.length ∧ i = .int .i64 j ∧ Hid (∀ m (hm : m < j) (h : m < p.rules.length), appX n t p.rules[m] = false) ∧ Hid (Below w1.heap.size w1 wr)) (fun i _ _ => p.rules.length - (intOf i).toNat)
  case atStart => exact ⟨0, by omega, rfl, Lib.hid (fun m hm => by omega), Lib.hid (Below.refl _ _)⟩
  case round =>
    obtain ⟨j, hj, rfl, hG, hK⟩ := hrel
    obtain ⟨wo, rfl⟩ : ∃ x, x = wr := ⟨_, rfl⟩
    have hP2 := blk_keep hK.out hP1.out
    have p0 : wo.cell? ⟨w.heap.size, 0, none⟩ = some (.slice p.A p.rules.length p.c) := cell_blk hP2 0 rfl
    have p1 : wo.cell? ⟨w.heap.size, 1, none⟩ = some (.int .i64 p.d) := cell_blk hP2 1 rfl
    have hP2 := Lib.hid hP2
    by_cases hlt : j < p.rules.length
    · have hlt2 : decide (j < p.rules.length) = true := decide_eq_true hlt
      obtain ⟨b, o, hA, hpr, hpe⟩ := rules_pred (HP.out.below (hg1.out.trans (hK.out.mono hg1.out.size))).at_ hlt
      have hQ := Lib.hid (HP.out.ok _ (List.getElem_mem hlt))
      have hstep := Lib.hid (fun (h : appX n t p.rules[j] = false) m (hm : m < j + 1) (h' : m < p.rules.length) => (by
        by_cases e : m = j
        · subst e; exact h
        · exact hG.out m (by omega) h' : appX n t p.rules[m] = false))
      have hfin := Lib.hid (fun (h : appX n t p.rules[j] = true) => (firstX_at _ p.d _ j hlt h (fun m hm => hG.out m hm (by omega)) : givenX n p t = p.rules[j].e))
      have hap : Hid (appX n t p.rules[j] = M.any (holdsX n p.rules[j].p)) := Lib.hid (any_bare hM1.out n _).symm
      generalize p.rules[j] = q at *
      go_wp2_with fail
      go_loopw [7] (fun k wr => ∃ m : Nat, m ≤ M.length ∧ k = .int .i64 m ∧ Hid (∀ i (hi : i < m) (h : i < M.length), holdsX n q.p M[i] = false) ∧ Hid (Below wo.heap.size wo wr)) (fun k _ => M.length - (intOf k).toNat)
      case atStart => exact ⟨0, by omega, rfl, Lib.hid (fun m hm => by omega), Lib.hid (Below.refl _ _)⟩
      case round =>
        obtain ⟨m, hm, rfl, hN, hL⟩ := hrel
        by_cases hlm : m < M.length
        · have hlm2 : decide (m < M.length) = true := decide_eq_true hlm
          have hk1 := Lib.hid (hK.out.trans (hL.out.mono hK.out.size))
          obtain ⟨b2, o2, hA2, hr2⟩ := (hI1.out.below hk1.out) m hlm
          have hF := Lib.hid (fun W (h : Below wr.heap.size wr W) => (cell_blk (blk_keep h (blk_keep hL.out hP2.out)) 0 rfl : W.cell? ⟨w.heap.size, 0, none⟩ = some (.slice p.A p.rules.length p.c)))
          have hqr := Lib.hid (fun W (h : Below wr.heap.size wr W) => rangeAt_below (rangeAt_below hpr (rangeAt_lt hpr (Nat.succ_pos _)) hL.out) (Nat.lt_of_lt_of_le (rangeAt_lt hpr (Nat.succ_pos _)) hL.out.size) h)
          have hxr := Lib.hid (fun W (h : Below wr.heap.size wr W) => rangeAt_below hr2 (rangeAt_lt hr2 (by rw [cells_length]; omega)) h)
          have hbe : b < wo.heap.size := rangeAt_lt hpr (Nat.succ_pos _)
          have hqe := Lib.hid (fun W (h : Below wr.heap.size wr W) => ((h.cell (p := ⟨b, o + j * 8 + 7, none⟩) (Nat.lt_of_lt_of_le hbe hL.out.size)).trans ((hL.out.cell (p := ⟨b, o + j * 8 + 7, none⟩) hbe).trans hpe)))
          have hx := List.getElem_mem hlm
          have hc := Lib.hid (fun W (h : Below wr.heap.size wr W) => spanHolds_any n q.p M[m] W (((hQ.out.below hg1.out).below hk1.out).below h) (((hO1.out _ hx) wr hk1.out).keeps W h) (hS1.out _ hx))
          have hN1 := Lib.hid (fun (h : holdsX n q.p M[m] = false) i (hi : i < m + 1) (h' : i < M.length) => (by
            by_cases e : i = m
            · subst e; exact h
            · exact hN.out i (by omega) h' : holdsX n q.p M[i] = false))
          have hN2 := Lib.hid (fun (h : holdsX n q.p M[m] = true) => (hfin.out (hap.out.trans (List.any_eq_true.2 ⟨_, hx, h⟩))))
          generalize M[m] = x at *
          clear hx
          go_wp2_with fail
          simp only [hA] at hF
          subst hA2
          refine wp_region_quiet (C := Below wr.heap.size wr) (by kernel_rfl) (by kernel_rfl) (below_drew wr) ?_
          iterate 5
            refine wpQuiet_step (fun K hK => ?_)
            go_simp
            first
              | (refine ⟨_, fun _ _ => rfl, hK _ ?_⟩; clear hK K)
              | (refine ⟨_, fun W' hW' => (by rw [hF.out W' hW']; exact ⟨rfl, rfl⟩), hK _ ?_⟩; clear hK K)
              | (refine ⟨_, fun W' hW' => (hc.out W' hW').mono (fun e w' h => ⟨h.1, hW'.trans (h.2.mono hW'.size)⟩), hK _ ?_⟩; clear hK K)
          refine wpQuiet_step (fun K hK => ?_)
          refine quiet_load (by rfl) 34 (.tmp 28) rfl b _ rfl q.p.cells d (fun W hW' => hqr.out W hW') hd hd' (by kernel_rfl) (hK _ ?_)
          clear hK K
          iterate 3
            refine wpQuiet_step (fun K hK => ?_)
            go_simp
            first
              | (refine ⟨_, fun _ _ => rfl, hK _ ?_⟩; clear hK K)
              | (refine ⟨_, fun W' hW' => (by rw [hF.out W' hW']; exact ⟨rfl, rfl⟩), hK _ ?_⟩; clear hK K)
              | (refine ⟨_, fun W' hW' => (hc.out W' hW').mono (fun e w' h => ⟨h.1, hW'.trans (h.2.mono hW'.size)⟩), hK _ ?_⟩; clear hK K)
          refine wpQuiet_step (fun K hK => ?_)
          refine quiet_load (by rfl) 73 (.tmp 32) rfl b2 _ rfl x.cells d2 (fun W hW' => hxr.out W hW') hd2 hd2' (by kernel_rfl) (hK _ ?_)
          clear hK K
          iterate 1
            refine wpQuiet_step (fun K hK => ?_)
            go_simp
            first
              | (refine ⟨_, fun _ _ => rfl, hK _ ?_⟩; clear hK K)
              | (refine ⟨_, fun W' hW' => (by rw [hF.out W' hW']; exact ⟨rfl, rfl⟩), hK _ ?_⟩; clear hK K)
              | (refine ⟨_, fun W' hW' => (hc.out W' hW').mono (fun e w' h => ⟨h.1, hW'.trans (h.2.mono hW'.size)⟩), hK _ ?_⟩; clear hK K)
          refine wpQuiet_nil ?_
          intro W hW
          have c0 := hF.out W hW
          have c7 := hqe.out W hW
          have HW := Lib.hid hW
          clear hW hF hqr hxr hqe hc hP2 hP1
          generalize hx0 : holdsX n q.p x = r at *
          cases r
          · have hz := Lib.hid (hN1.out rfl)
            go_wp2_with fail
            exact ⟨⟨m + 1, by omega, by go_num, hz, Lib.hid (hL.out.trans (HW.out.mono hL.out.size))⟩, by simp [intOf]; omega⟩
          · have hz : Hid (givenX n p t = q.e) := Lib.hid (hN2.out rfl)
            go_wp2_with fail
            go_ret
            exact ⟨by rw [hz.out]; rfl, hg1.out.trans ((hK.out.trans ((hL.out.trans (HW.out.mono hL.out.size)).mono hK.out.size)).mono hg1.out.size)⟩
        · have hlm2 : decide (m < M.length) = false := decide_eq_false hlm
          have hz := hstep.out (hap.out.trans (List.any_eq_false.2 (fun x hx => by
            obtain ⟨i, hi, rfl⟩ := List.mem_iff_getElem.1 hx
            rw [hN.out i (by omega) hi]
            simp)))
          have hz := Lib.hid hz
          go_wp2_with fail
          exact ⟨⟨j + 1, by omega, by go_num, hz, Lib.hid (hK.out.trans (hL.out.mono hK.out.size))⟩, by simp [intOf]; omega⟩
    · have hlt2 : decide (j < p.rules.length) = false := decide_eq_false hlt
      have hv : Hid (givenX n p t = p.d) := Lib.hid (firstX_none _ _ _ (fun m hm => hG.out m (by omega) hm))
      go_wp2_with fail
      go_ret
      exact ⟨by rw [hv.out]; rfl, hg1.out.trans (hK.out.mono hg1.out.size)⟩
end Go.Proofs.YtnddlpfmagdbfaaGreatDoor
/- Contracts: names and values. -/
namespace Go.Proofs.YtnddlpfmagdbfaaGreatDoor
open Go Go.Proofs Go.RowKit
set_option linter.unusedVariables false
set_option linter.unusedSimpArgs false

/-- Byte number k. -/
def bt (s : ByteArray) (k : Nat) : Int := if h : k < s.size then (s[k].toNat : Int) else 0
theorem bt_eq {s : ByteArray} {k : Nat} (h : k < s.size) : bt s k = (s[k].toNat : Int) := by unfold bt; rw [dif_pos h]
/-- Are all bytes within bounds? -/
def withinB (s : ByteArray) (lo hi : Int) : Bool := (List.range s.size).all fun k => decide (lo ≤ bt s k ∧ bt s k ≤ hi)
theorem withinB_true {s : ByteArray} {lo hi : Int} (h : ∀ j, j < s.size → lo ≤ bt s j ∧ bt s j ≤ hi) : withinB s lo hi = true := by
  unfold withinB
  rw [List.all_eq_true]
  intro k hk
  simpa using h k (List.mem_range.1 hk)
theorem withinB_false {s : ByteArray} {lo hi : Int} {k : Nat} (hk : k < s.size) (h : ¬ (lo ≤ bt s k ∧ bt s k ≤ hi)) : withinB s lo hi = false := by
  unfold withinB
  rw [List.all_eq_false]
  exact ⟨k, List.mem_range.2 hk, by simpa using h⟩

theorem within_any (s : ByteArray) (lo hi : Int) (hs : s.size ≤ 9223372036854775807) (w : World) :
    Calls Tryz.prog 67 #[.string s, .int .u8 lo, .int .u8 hi] w fun e w' => e = .returned (.bool (withinB s lo hi)) ∧ w' = w := by
  go_enter Tryz.func67, Tryz.ntmps67
  go_wp2
  go_loopw [7, 10] (fun t i wr => ∃ k : Nat, k ≤ s.size ∧ i = .int .i64 k ∧ (∀ j, j < k → lo ≤ bt s j ∧ bt s j ≤ hi) ∧ wr = w) (fun _ i _ => s.size - (intOf i).toNat)
  case atStart => exact ⟨0, by omega, rfl, fun j hj => by omega, rfl⟩
  case round =>
    obtain ⟨k, hk, rfl, hB, rfl⟩ := hrel
    have HB := Lib.hid hB
    clear hB
    by_cases hlt : k < s.size
    · have e := bt_eq hlt
      by_cases h1 : bt s k < lo
      · have hw := withinB_false (lo := lo) (hi := hi) hlt (by omega)
        rw [e] at h1
        have HW := Lib.hid hw
        clear hw e
        go_wp2
        go_ret
        exact ⟨by rw [HW.out]; rfl, rfl⟩
      · by_cases h2 : hi < bt s k
        · have hw := withinB_false (lo := lo) (hi := hi) hlt (by omega)
          rw [e] at h1 h2
          have HW := Lib.hid hw
          have h3 : lo ≤ (s[k].toNat : Int) := by omega
          clear hw e h1
          go_wp2
          go_ret
          exact ⟨by rw [HW.out]; rfl, rfl⟩
        · have HN : Hid (∀ j, j < k + 1 → lo ≤ bt s j ∧ bt s j ≤ hi) := Lib.hid (fun j hj => by
            by_cases hjk : j = k
            · subst hjk; omega
            · exact HB.out j (by omega))
          rw [e] at h1 h2
          have h3 : lo ≤ (s[k].toNat : Int) := by omega
          have h4 : (s[k].toNat : Int) ≤ hi := by omega
          clear e h1 h2
          go_wp2
          exact ⟨⟨k + 1, by omega, by go_num, HN.out, trivial⟩, by simp [intOf]; omega⟩
    · obtain rfl : k = s.size := by omega
      have hw := withinB_true HB.out
      have HW := Lib.hid hw
      clear hw
      go_wp2
      go_ret
      exact ⟨by rw [HW.out]; rfl, rfl⟩
/-- Does a node compare a field with a value? -/
def isT (op : Int) : Bool := op == 5 || op == 6 || op == 7
theorem isTest_any (op n i : Int) (f k t : ByteArray) (A : Option Addr) (l c : Nat) (w : World) :
    Calls Tryz.prog 65 #[.agg #[.int .i64 op, .string f, .string k, .int .i64 n, .string t, .int .i64 i, .slice A l c]] w fun e w' => e = .returned (.bool (isT op)) ∧ Below w.heap.size w w' := by
  go_enter Tryz.func65, Tryz.ntmps65
  go_wp2
  all_goals
    go_ret
    refine ⟨?_, below_alloc _ _⟩
    simp [isT, *]
/-- Is it a name? -/
def nameB (s : ByteArray) : Bool := !s.toList.isEmpty && (decide ((s.size : Int) ≤ 64) && withinB s 33 126)
theorem IsName_any (s : ByteArray) (hs : s.size ≤ 9223372036854775807) (w : World) :
    Calls Tryz.prog 41 #[.string s] w fun e w' => e = .returned (.bool (nameB s)) ∧ w' = w := by
  go_enter Tryz.func41, Tryz.ntmps41
  go_wp2_with (first
    | (go_at_call 67; (with_reducible refine (within_any s 33 126 hs _).mono ?_); rintro e w' ⟨rfl, rfl⟩))
  all_goals
    go_ret
    refine ⟨?_, rfl⟩
    simp [nameB, *]
    try (intros; omega)
/-- The error of a value. -/
def valC (n i : Int) (t : ByteArray) : Int :=
  if n = 1 then (if 4096 < (t.size : Int) then 5 else if withinB t 32 126 = true ∧ i = 0 then 0 else 3)
  else if n = 2 then (if 4096 < (t.size : Int) then 5 else if t.toList = [] ∧ -1099511627776 ≤ i ∧ i ≤ 1099511627776 then 0 else 3)
  else if n = 3 then (if 4096 < (t.size : Int) then 5 else if t.toList = [] ∧ (i = 0 ∨ i = 1) then 0 else 3)
  else 12
theorem CheckValue_any (n i : Int) (t : ByteArray) (hs : t.size ≤ 9223372036854775807) (w : World) :
    Calls Tryz.prog 66 #[.agg #[.int .i64 n, .string t, .int .i64 i]] w fun e w' => e = .returned (.int .i64 (valC n i t)) ∧ Below w.heap.size w w' := by
  go_enter Tryz.func66, Tryz.ntmps66
  go_wp2_with (first
    | (go_at_call 67; (with_reducible refine (within_any t 32 126 hs _).mono ?_); rintro e w' ⟨rfl, rfl⟩))
  all_goals
    go_ret
    refine ⟨?_, below_alloc _ _⟩
    have hleaf : True := trivial
    simp_all [valC]
    try omega
end Go.Proofs.YtnddlpfmagdbfaaGreatDoor
/- Contracts: the error of a predicate's node itself (printed by mknode.py). -/
namespace Go.Proofs.YtnddlpfmagdbfaaGreatDoor
open Go Go.Proofs Go.RowKit
set_option linter.unusedVariables false
set_option linter.unusedSimpArgs false

/-- A predicate's value. -/
def PredAt (w : World) (b : Nat) (op n i : Int) (f k t : ByteArray) (A : Option Addr) (l c : Nat) (W : World) : Prop :=
  W.cell? ⟨b, 0, none⟩ = some (.int .i64 op) ∧ W.cell? ⟨b, 1, none⟩ = some (.string f) ∧ W.cell? ⟨b, 2, none⟩ = some (.string k) ∧ W.cell? ⟨b, 3, none⟩ = some (.int .i64 n) ∧ W.cell? ⟨b, 4, none⟩ = some (.string t) ∧ W.cell? ⟨b, 5, none⟩ = some (.int .i64 i) ∧ W.cell? ⟨b, 6, none⟩ = some (.slice A l c) ∧ Below w.heap.size w W
theorem PredAt.keep {w W W' : World} {b : Nat} {op n i : Int} {f k t : ByteArray} {A : Option Addr} {l c : Nat} (h : PredAt w b op n i f k t A l c W) (hk : Below W.heap.size W W') : PredAt w b op n i f k t A l c W' := by
  obtain ⟨h0, h1, h2, h3, h4, h5, h6, hb⟩ := h
  have hlt := World.block_lt_of_cell? W _ h0
  exact ⟨(hk.cell hlt).trans h0, (hk.cell (p := ⟨b, 1, none⟩) hlt).trans h1, (hk.cell (p := ⟨b, 2, none⟩) hlt).trans h2, (hk.cell (p := ⟨b, 3, none⟩) hlt).trans h3, (hk.cell (p := ⟨b, 4, none⟩) hlt).trans h4, (hk.cell (p := ⟨b, 5, none⟩) hlt).trans h5, (hk.cell (p := ⟨b, 6, none⟩) hlt).trans h6, hb.trans (hk.mono hb.size)⟩
theorem PredAt.drew {w W : World} {b : Nat} {op n i : Int} {f k t : ByteArray} {A : Option Addr} {l c : Nat} (h : PredAt w b op n i f k t A l c W) : PredAt w b op n i f k t A l c W.drew :=
  h.keep ⟨rfl, rfl, rfl, Nat.le_refl _, fun _ _ => rfl⟩

/-- Has a node the number of arguments that it should have? -/
def argsB (op : Int) (l : Nat) : Bool := if op = 1 ∨ op = 2 then decide (1 ≤ l) else if op = 3 then decide (l = 1) else decide (l = 0)
/-- The error of a node itself. -/
def nodeX (l : Nat) (op n i : Int) (f k t : ByteArray) : Int :=
  if op = 0 ∨ op = 1 ∨ op = 2 ∨ op = 3 then (if argsB op l = false then 3 else if f.toList = [] ∧ n = 0 ∧ t.toList = [] ∧ i = 0 ∧ k.toList = [] then 0 else 3)
  else if op = 4 then (if argsB op l = false then 3 else if f.toList = [] ∧ n = 0 ∧ t.toList = [] ∧ i = 0 then (if nameB k = true then 0 else 11) else 3)
  else if op = 5 ∨ op = 6 ∨ op = 7 then
    (if argsB op l = false then 3
     else if nameB f = false ∨ (f.toList = [97, 116, 116, 114] ∧ nameB k = false) ∨ (f.toList ≠ [97, 116, 116, 114] ∧ k.toList ≠ []) then 11
     else if valC n i t ≠ 0 then valC n i t
     else if (op = 6 ∧ n = 3) ∨ (op = 7 ∧ n ≠ 1) then 13 else 0)
  else 12
set_option maxHeartbeats 8000000 in
theorem node_0 (n i : Int) (f k t : ByteArray) (A : Option Addr) (c : Nat) (hf : f.size ≤ 9223372036854775807) (hk : k.size ≤ 9223372036854775807) (ht : t.size ≤ 9223372036854775807) (w : World) :
    Calls Tryz.prog 39 #[.agg #[.int .i64 0, .string f, .string k, .int .i64 n, .string t, .int .i64 i, .slice A 0 c]] w fun e w' => e = .returned (.int .i64 (nodeX 0 0 n i f k t)) ∧ Below w.heap.size w w' := by
  have hA : PredAt w w.heap.size 0 n i f k t A 0 c (w.alloc (.cells #[.int .i64 0, .string f, .string k, .int .i64 n, .string t, .int .i64 i, .slice A 0 c] 34)) := by
    refine ⟨?_, ?_, ?_, ?_, ?_, ?_, ?_, below_alloc _ _⟩ <;> simp only [World.cell?, heap_alloc_last] <;> rfl
  have HA := Lib.hid hA
  clear hA
  go_enter Tryz.func39, Tryz.ntmps39
  go_wp2_with fail
  go_region_held (fun W => W.cell? ⟨w.heap.size, 0, none⟩ = some (.int .i64 0) ∧ W.cell? ⟨w.heap.size, 1, none⟩ = some (.string f) ∧ W.cell? ⟨w.heap.size, 2, none⟩ = some (.string k) ∧ W.cell? ⟨w.heap.size, 3, none⟩ = some (.int .i64 n) ∧ W.cell? ⟨w.heap.size, 4, none⟩ = some (.string t) ∧ W.cell? ⟨w.heap.size, 5, none⟩ = some (.int .i64 i) ∧ W.cell? ⟨w.heap.size, 6, none⟩ = some (.slice A 0 c) ∧ Below w.heap.size w W)
    (first
      | exact HA.out.drew
      | exact PredAt.keep (w := w) (b := w.heap.size) (op := 0) (n := n) (i := i) (f := f) (k := k) (t := t) (A := A) (l := 0) (c := c) (by assumption) (by assumption))
    (first
      | (go_at_call 65; (with_reducible refine (isTest_any _ _ _ _ _ _ _ _ _ _).mono ?_); rintro e w' ⟨rfl, hbb⟩))
  rename_i hH
  have HH : Hid (PredAt w w.heap.size 0 n i f k t A 0 c _) := Lib.hid hH
  obtain ⟨g0, g1, g2, g3, g4, g5, g6, hB⟩ := hH
  have HB := Lib.hid hB
  clear hB HA
  have hT : isT 0 = false := rfl
  rw [hT]
  clear hT
  go_wp2_with (first
    | (go_at_call 41; (with_reducible refine (IsName_any _ (by assumption) _).mono ?_); rintro e w' ⟨rfl, rfl⟩)
    | (go_at_call 66; (with_reducible refine (CheckValue_any _ _ _ (by assumption) _).mono ?_); rintro e w' ⟨rfl, hbb⟩; obtain ⟨k0, k1, k2, k3, k4, k5, k6, hB2⟩ := HH.out.keep hbb; have HB2 := Lib.hid hB2; clear hB2 hbb))
  all_goals
    go_ret
    refine ⟨?_, ?_⟩
    · simp_all [nodeX, argsB]
    · first
        | exact HB2.out
        | exact HB.out
set_option maxHeartbeats 8000000 in
theorem node_4 (n i : Int) (f k t : ByteArray) (A : Option Addr) (c : Nat) (hf : f.size ≤ 9223372036854775807) (hk : k.size ≤ 9223372036854775807) (ht : t.size ≤ 9223372036854775807) (w : World) :
    Calls Tryz.prog 39 #[.agg #[.int .i64 4, .string f, .string k, .int .i64 n, .string t, .int .i64 i, .slice A 0 c]] w fun e w' => e = .returned (.int .i64 (nodeX 0 4 n i f k t)) ∧ Below w.heap.size w w' := by
  have hA : PredAt w w.heap.size 4 n i f k t A 0 c (w.alloc (.cells #[.int .i64 4, .string f, .string k, .int .i64 n, .string t, .int .i64 i, .slice A 0 c] 34)) := by
    refine ⟨?_, ?_, ?_, ?_, ?_, ?_, ?_, below_alloc _ _⟩ <;> simp only [World.cell?, heap_alloc_last] <;> rfl
  have HA := Lib.hid hA
  clear hA
  go_enter Tryz.func39, Tryz.ntmps39
  go_wp2_with fail
  go_region_held (fun W => W.cell? ⟨w.heap.size, 0, none⟩ = some (.int .i64 4) ∧ W.cell? ⟨w.heap.size, 1, none⟩ = some (.string f) ∧ W.cell? ⟨w.heap.size, 2, none⟩ = some (.string k) ∧ W.cell? ⟨w.heap.size, 3, none⟩ = some (.int .i64 n) ∧ W.cell? ⟨w.heap.size, 4, none⟩ = some (.string t) ∧ W.cell? ⟨w.heap.size, 5, none⟩ = some (.int .i64 i) ∧ W.cell? ⟨w.heap.size, 6, none⟩ = some (.slice A 0 c) ∧ Below w.heap.size w W)
    (first
      | exact HA.out.drew
      | exact PredAt.keep (w := w) (b := w.heap.size) (op := 4) (n := n) (i := i) (f := f) (k := k) (t := t) (A := A) (l := 0) (c := c) (by assumption) (by assumption))
    (first
      | (go_at_call 65; (with_reducible refine (isTest_any _ _ _ _ _ _ _ _ _ _).mono ?_); rintro e w' ⟨rfl, hbb⟩))
  rename_i hH
  have HH : Hid (PredAt w w.heap.size 4 n i f k t A 0 c _) := Lib.hid hH
  obtain ⟨g0, g1, g2, g3, g4, g5, g6, hB⟩ := hH
  have HB := Lib.hid hB
  clear hB HA
  have hT : isT 4 = false := rfl
  rw [hT]
  clear hT
  go_wp2_with (first
    | (go_at_call 41; (with_reducible refine (IsName_any _ (by assumption) _).mono ?_); rintro e w' ⟨rfl, rfl⟩)
    | (go_at_call 66; (with_reducible refine (CheckValue_any _ _ _ (by assumption) _).mono ?_); rintro e w' ⟨rfl, hbb⟩; obtain ⟨k0, k1, k2, k3, k4, k5, k6, hB2⟩ := HH.out.keep hbb; have HB2 := Lib.hid hB2; clear hB2 hbb))
  all_goals
    go_ret
    refine ⟨?_, ?_⟩
    · simp_all [nodeX, argsB]
    · first
        | exact HB2.out
        | exact HB.out
set_option maxHeartbeats 8000000 in
theorem node_5 (n i : Int) (f k t : ByteArray) (A : Option Addr) (c : Nat) (hf : f.size ≤ 9223372036854775807) (hk : k.size ≤ 9223372036854775807) (ht : t.size ≤ 9223372036854775807) (w : World) :
    Calls Tryz.prog 39 #[.agg #[.int .i64 5, .string f, .string k, .int .i64 n, .string t, .int .i64 i, .slice A 0 c]] w fun e w' => e = .returned (.int .i64 (nodeX 0 5 n i f k t)) ∧ Below w.heap.size w w' := by
  have hA : PredAt w w.heap.size 5 n i f k t A 0 c (w.alloc (.cells #[.int .i64 5, .string f, .string k, .int .i64 n, .string t, .int .i64 i, .slice A 0 c] 34)) := by
    refine ⟨?_, ?_, ?_, ?_, ?_, ?_, ?_, below_alloc _ _⟩ <;> simp only [World.cell?, heap_alloc_last] <;> rfl
  have HA := Lib.hid hA
  clear hA
  go_enter Tryz.func39, Tryz.ntmps39
  go_wp2_with fail
  go_region_held (fun W => W.cell? ⟨w.heap.size, 0, none⟩ = some (.int .i64 5) ∧ W.cell? ⟨w.heap.size, 1, none⟩ = some (.string f) ∧ W.cell? ⟨w.heap.size, 2, none⟩ = some (.string k) ∧ W.cell? ⟨w.heap.size, 3, none⟩ = some (.int .i64 n) ∧ W.cell? ⟨w.heap.size, 4, none⟩ = some (.string t) ∧ W.cell? ⟨w.heap.size, 5, none⟩ = some (.int .i64 i) ∧ W.cell? ⟨w.heap.size, 6, none⟩ = some (.slice A 0 c) ∧ Below w.heap.size w W)
    (first
      | exact HA.out.drew
      | exact PredAt.keep (w := w) (b := w.heap.size) (op := 5) (n := n) (i := i) (f := f) (k := k) (t := t) (A := A) (l := 0) (c := c) (by assumption) (by assumption))
    (first
      | (go_at_call 65; (with_reducible refine (isTest_any _ _ _ _ _ _ _ _ _ _).mono ?_); rintro e w' ⟨rfl, hbb⟩))
  rename_i hH
  have HH : Hid (PredAt w w.heap.size 5 n i f k t A 0 c _) := Lib.hid hH
  obtain ⟨g0, g1, g2, g3, g4, g5, g6, hB⟩ := hH
  have HB := Lib.hid hB
  clear hB HA
  have hT : isT 5 = true := rfl
  rw [hT]
  clear hT
  go_wp2_with (first
    | (go_at_call 41; (with_reducible refine (IsName_any _ (by assumption) _).mono ?_); rintro e w' ⟨rfl, rfl⟩)
    | (go_at_call 66; (with_reducible refine (CheckValue_any _ _ _ (by assumption) _).mono ?_); rintro e w' ⟨rfl, hbb⟩; obtain ⟨k0, k1, k2, k3, k4, k5, k6, hB2⟩ := HH.out.keep hbb; have HB2 := Lib.hid hB2; clear hB2 hbb))
  all_goals
    go_ret
    refine ⟨?_, ?_⟩
    · simp_all [nodeX, argsB]
    · first
        | exact HB2.out
        | exact HB.out
set_option maxHeartbeats 8000000 in
theorem node_6 (n i : Int) (f k t : ByteArray) (A : Option Addr) (c : Nat) (hf : f.size ≤ 9223372036854775807) (hk : k.size ≤ 9223372036854775807) (ht : t.size ≤ 9223372036854775807) (w : World) :
    Calls Tryz.prog 39 #[.agg #[.int .i64 6, .string f, .string k, .int .i64 n, .string t, .int .i64 i, .slice A 0 c]] w fun e w' => e = .returned (.int .i64 (nodeX 0 6 n i f k t)) ∧ Below w.heap.size w w' := by
  have hA : PredAt w w.heap.size 6 n i f k t A 0 c (w.alloc (.cells #[.int .i64 6, .string f, .string k, .int .i64 n, .string t, .int .i64 i, .slice A 0 c] 34)) := by
    refine ⟨?_, ?_, ?_, ?_, ?_, ?_, ?_, below_alloc _ _⟩ <;> simp only [World.cell?, heap_alloc_last] <;> rfl
  have HA := Lib.hid hA
  clear hA
  go_enter Tryz.func39, Tryz.ntmps39
  go_wp2_with fail
  go_region_held (fun W => W.cell? ⟨w.heap.size, 0, none⟩ = some (.int .i64 6) ∧ W.cell? ⟨w.heap.size, 1, none⟩ = some (.string f) ∧ W.cell? ⟨w.heap.size, 2, none⟩ = some (.string k) ∧ W.cell? ⟨w.heap.size, 3, none⟩ = some (.int .i64 n) ∧ W.cell? ⟨w.heap.size, 4, none⟩ = some (.string t) ∧ W.cell? ⟨w.heap.size, 5, none⟩ = some (.int .i64 i) ∧ W.cell? ⟨w.heap.size, 6, none⟩ = some (.slice A 0 c) ∧ Below w.heap.size w W)
    (first
      | exact HA.out.drew
      | exact PredAt.keep (w := w) (b := w.heap.size) (op := 6) (n := n) (i := i) (f := f) (k := k) (t := t) (A := A) (l := 0) (c := c) (by assumption) (by assumption))
    (first
      | (go_at_call 65; (with_reducible refine (isTest_any _ _ _ _ _ _ _ _ _ _).mono ?_); rintro e w' ⟨rfl, hbb⟩))
  rename_i hH
  have HH : Hid (PredAt w w.heap.size 6 n i f k t A 0 c _) := Lib.hid hH
  obtain ⟨g0, g1, g2, g3, g4, g5, g6, hB⟩ := hH
  have HB := Lib.hid hB
  clear hB HA
  have hT : isT 6 = true := rfl
  rw [hT]
  clear hT
  go_wp2_with (first
    | (go_at_call 41; (with_reducible refine (IsName_any _ (by assumption) _).mono ?_); rintro e w' ⟨rfl, rfl⟩)
    | (go_at_call 66; (with_reducible refine (CheckValue_any _ _ _ (by assumption) _).mono ?_); rintro e w' ⟨rfl, hbb⟩; obtain ⟨k0, k1, k2, k3, k4, k5, k6, hB2⟩ := HH.out.keep hbb; have HB2 := Lib.hid hB2; clear hB2 hbb))
  all_goals
    go_ret
    refine ⟨?_, ?_⟩
    · simp_all [nodeX, argsB]
    · first
        | exact HB2.out
        | exact HB.out
set_option maxHeartbeats 8000000 in
theorem node_7 (n i : Int) (f k t : ByteArray) (A : Option Addr) (c : Nat) (hf : f.size ≤ 9223372036854775807) (hk : k.size ≤ 9223372036854775807) (ht : t.size ≤ 9223372036854775807) (w : World) :
    Calls Tryz.prog 39 #[.agg #[.int .i64 7, .string f, .string k, .int .i64 n, .string t, .int .i64 i, .slice A 0 c]] w fun e w' => e = .returned (.int .i64 (nodeX 0 7 n i f k t)) ∧ Below w.heap.size w w' := by
  have hA : PredAt w w.heap.size 7 n i f k t A 0 c (w.alloc (.cells #[.int .i64 7, .string f, .string k, .int .i64 n, .string t, .int .i64 i, .slice A 0 c] 34)) := by
    refine ⟨?_, ?_, ?_, ?_, ?_, ?_, ?_, below_alloc _ _⟩ <;> simp only [World.cell?, heap_alloc_last] <;> rfl
  have HA := Lib.hid hA
  clear hA
  go_enter Tryz.func39, Tryz.ntmps39
  go_wp2_with fail
  go_region_held (fun W => W.cell? ⟨w.heap.size, 0, none⟩ = some (.int .i64 7) ∧ W.cell? ⟨w.heap.size, 1, none⟩ = some (.string f) ∧ W.cell? ⟨w.heap.size, 2, none⟩ = some (.string k) ∧ W.cell? ⟨w.heap.size, 3, none⟩ = some (.int .i64 n) ∧ W.cell? ⟨w.heap.size, 4, none⟩ = some (.string t) ∧ W.cell? ⟨w.heap.size, 5, none⟩ = some (.int .i64 i) ∧ W.cell? ⟨w.heap.size, 6, none⟩ = some (.slice A 0 c) ∧ Below w.heap.size w W)
    (first
      | exact HA.out.drew
      | exact PredAt.keep (w := w) (b := w.heap.size) (op := 7) (n := n) (i := i) (f := f) (k := k) (t := t) (A := A) (l := 0) (c := c) (by assumption) (by assumption))
    (first
      | (go_at_call 65; (with_reducible refine (isTest_any _ _ _ _ _ _ _ _ _ _).mono ?_); rintro e w' ⟨rfl, hbb⟩))
  rename_i hH
  have HH : Hid (PredAt w w.heap.size 7 n i f k t A 0 c _) := Lib.hid hH
  obtain ⟨g0, g1, g2, g3, g4, g5, g6, hB⟩ := hH
  have HB := Lib.hid hB
  clear hB HA
  have hT : isT 7 = true := rfl
  rw [hT]
  clear hT
  go_wp2_with (first
    | (go_at_call 41; (with_reducible refine (IsName_any _ (by assumption) _).mono ?_); rintro e w' ⟨rfl, rfl⟩)
    | (go_at_call 66; (with_reducible refine (CheckValue_any _ _ _ (by assumption) _).mono ?_); rintro e w' ⟨rfl, hbb⟩; obtain ⟨k0, k1, k2, k3, k4, k5, k6, hB2⟩ := HH.out.keep hbb; have HB2 := Lib.hid hB2; clear hB2 hbb))
  all_goals
    go_ret
    refine ⟨?_, ?_⟩
    · simp_all [nodeX, argsB]
    · first
        | exact HB2.out
        | exact HB.out
set_option maxHeartbeats 8000000 in
theorem node_1 (n i : Int) (f k t : ByteArray) (A : Option Addr) (c : Nat) (l : Nat) (hl : 1 ≤ l) (hL : l ≤ 1000000) (hf : f.size ≤ 9223372036854775807) (hk : k.size ≤ 9223372036854775807) (ht : t.size ≤ 9223372036854775807) (w : World) :
    Calls Tryz.prog 39 #[.agg #[.int .i64 1, .string f, .string k, .int .i64 n, .string t, .int .i64 i, .slice A l c]] w fun e w' => e = .returned (.int .i64 (nodeX l 1 n i f k t)) ∧ Below w.heap.size w w' := by
  have hd : decide ((1 : Int) ≤ (l : Int)) = true := decide_eq_true (by omega)
  have hA : PredAt w w.heap.size 1 n i f k t A l c (w.alloc (.cells #[.int .i64 1, .string f, .string k, .int .i64 n, .string t, .int .i64 i, .slice A l c] 34)) := by
    refine ⟨?_, ?_, ?_, ?_, ?_, ?_, ?_, below_alloc _ _⟩ <;> simp only [World.cell?, heap_alloc_last] <;> rfl
  have HA := Lib.hid hA
  clear hA
  go_enter Tryz.func39, Tryz.ntmps39
  go_wp2_with fail
  go_region_held (fun W => W.cell? ⟨w.heap.size, 0, none⟩ = some (.int .i64 1) ∧ W.cell? ⟨w.heap.size, 1, none⟩ = some (.string f) ∧ W.cell? ⟨w.heap.size, 2, none⟩ = some (.string k) ∧ W.cell? ⟨w.heap.size, 3, none⟩ = some (.int .i64 n) ∧ W.cell? ⟨w.heap.size, 4, none⟩ = some (.string t) ∧ W.cell? ⟨w.heap.size, 5, none⟩ = some (.int .i64 i) ∧ W.cell? ⟨w.heap.size, 6, none⟩ = some (.slice A l c) ∧ Below w.heap.size w W)
    (first
      | exact HA.out.drew
      | exact PredAt.keep (w := w) (b := w.heap.size) (op := 1) (n := n) (i := i) (f := f) (k := k) (t := t) (A := A) (l := l) (c := c) (by assumption) (by assumption))
    (first
      | (go_at_call 65; (with_reducible refine (isTest_any _ _ _ _ _ _ _ _ _ _).mono ?_); rintro e w' ⟨rfl, hbb⟩))
  rename_i hH
  have HH : Hid (PredAt w w.heap.size 1 n i f k t A l c _) := Lib.hid hH
  obtain ⟨g0, g1, g2, g3, g4, g5, g6, hB⟩ := hH
  have HB := Lib.hid hB
  clear hB HA
  have hT : isT 1 = false := rfl
  rw [hT]
  clear hT
  go_wp2_with (first
    | (go_at_call 41; (with_reducible refine (IsName_any _ (by assumption) _).mono ?_); rintro e w' ⟨rfl, rfl⟩)
    | (go_at_call 66; (with_reducible refine (CheckValue_any _ _ _ (by assumption) _).mono ?_); rintro e w' ⟨rfl, hbb⟩; obtain ⟨k0, k1, k2, k3, k4, k5, k6, hB2⟩ := HH.out.keep hbb; have HB2 := Lib.hid hB2; clear hB2 hbb))
  all_goals
    go_ret
    refine ⟨?_, ?_⟩
    · simp_all [nodeX, argsB]
    · first
        | exact HB2.out
        | exact HB.out
set_option maxHeartbeats 8000000 in
theorem node_2 (n i : Int) (f k t : ByteArray) (A : Option Addr) (c : Nat) (l : Nat) (hl : 1 ≤ l) (hL : l ≤ 1000000) (hf : f.size ≤ 9223372036854775807) (hk : k.size ≤ 9223372036854775807) (ht : t.size ≤ 9223372036854775807) (w : World) :
    Calls Tryz.prog 39 #[.agg #[.int .i64 2, .string f, .string k, .int .i64 n, .string t, .int .i64 i, .slice A l c]] w fun e w' => e = .returned (.int .i64 (nodeX l 2 n i f k t)) ∧ Below w.heap.size w w' := by
  have hd : decide ((1 : Int) ≤ (l : Int)) = true := decide_eq_true (by omega)
  have hA : PredAt w w.heap.size 2 n i f k t A l c (w.alloc (.cells #[.int .i64 2, .string f, .string k, .int .i64 n, .string t, .int .i64 i, .slice A l c] 34)) := by
    refine ⟨?_, ?_, ?_, ?_, ?_, ?_, ?_, below_alloc _ _⟩ <;> simp only [World.cell?, heap_alloc_last] <;> rfl
  have HA := Lib.hid hA
  clear hA
  go_enter Tryz.func39, Tryz.ntmps39
  go_wp2_with fail
  go_region_held (fun W => W.cell? ⟨w.heap.size, 0, none⟩ = some (.int .i64 2) ∧ W.cell? ⟨w.heap.size, 1, none⟩ = some (.string f) ∧ W.cell? ⟨w.heap.size, 2, none⟩ = some (.string k) ∧ W.cell? ⟨w.heap.size, 3, none⟩ = some (.int .i64 n) ∧ W.cell? ⟨w.heap.size, 4, none⟩ = some (.string t) ∧ W.cell? ⟨w.heap.size, 5, none⟩ = some (.int .i64 i) ∧ W.cell? ⟨w.heap.size, 6, none⟩ = some (.slice A l c) ∧ Below w.heap.size w W)
    (first
      | exact HA.out.drew
      | exact PredAt.keep (w := w) (b := w.heap.size) (op := 2) (n := n) (i := i) (f := f) (k := k) (t := t) (A := A) (l := l) (c := c) (by assumption) (by assumption))
    (first
      | (go_at_call 65; (with_reducible refine (isTest_any _ _ _ _ _ _ _ _ _ _).mono ?_); rintro e w' ⟨rfl, hbb⟩))
  rename_i hH
  have HH : Hid (PredAt w w.heap.size 2 n i f k t A l c _) := Lib.hid hH
  obtain ⟨g0, g1, g2, g3, g4, g5, g6, hB⟩ := hH
  have HB := Lib.hid hB
  clear hB HA
  have hT : isT 2 = false := rfl
  rw [hT]
  clear hT
  go_wp2_with (first
    | (go_at_call 41; (with_reducible refine (IsName_any _ (by assumption) _).mono ?_); rintro e w' ⟨rfl, rfl⟩)
    | (go_at_call 66; (with_reducible refine (CheckValue_any _ _ _ (by assumption) _).mono ?_); rintro e w' ⟨rfl, hbb⟩; obtain ⟨k0, k1, k2, k3, k4, k5, k6, hB2⟩ := HH.out.keep hbb; have HB2 := Lib.hid hB2; clear hB2 hbb))
  all_goals
    go_ret
    refine ⟨?_, ?_⟩
    · simp_all [nodeX, argsB]
    · first
        | exact HB2.out
        | exact HB.out
set_option maxHeartbeats 8000000 in
theorem node_3 (n i : Int) (f k t : ByteArray) (A : Option Addr) (c : Nat) (hf : f.size ≤ 9223372036854775807) (hk : k.size ≤ 9223372036854775807) (ht : t.size ≤ 9223372036854775807) (w : World) :
    Calls Tryz.prog 39 #[.agg #[.int .i64 3, .string f, .string k, .int .i64 n, .string t, .int .i64 i, .slice A 1 c]] w fun e w' => e = .returned (.int .i64 (nodeX 1 3 n i f k t)) ∧ Below w.heap.size w w' := by
  have hA : PredAt w w.heap.size 3 n i f k t A 1 c (w.alloc (.cells #[.int .i64 3, .string f, .string k, .int .i64 n, .string t, .int .i64 i, .slice A 1 c] 34)) := by
    refine ⟨?_, ?_, ?_, ?_, ?_, ?_, ?_, below_alloc _ _⟩ <;> simp only [World.cell?, heap_alloc_last] <;> rfl
  have HA := Lib.hid hA
  clear hA
  go_enter Tryz.func39, Tryz.ntmps39
  go_wp2_with fail
  go_region_held (fun W => W.cell? ⟨w.heap.size, 0, none⟩ = some (.int .i64 3) ∧ W.cell? ⟨w.heap.size, 1, none⟩ = some (.string f) ∧ W.cell? ⟨w.heap.size, 2, none⟩ = some (.string k) ∧ W.cell? ⟨w.heap.size, 3, none⟩ = some (.int .i64 n) ∧ W.cell? ⟨w.heap.size, 4, none⟩ = some (.string t) ∧ W.cell? ⟨w.heap.size, 5, none⟩ = some (.int .i64 i) ∧ W.cell? ⟨w.heap.size, 6, none⟩ = some (.slice A 1 c) ∧ Below w.heap.size w W)
    (first
      | exact HA.out.drew
      | exact PredAt.keep (w := w) (b := w.heap.size) (op := 3) (n := n) (i := i) (f := f) (k := k) (t := t) (A := A) (l := 1) (c := c) (by assumption) (by assumption))
    (first
      | (go_at_call 65; (with_reducible refine (isTest_any _ _ _ _ _ _ _ _ _ _).mono ?_); rintro e w' ⟨rfl, hbb⟩))
  rename_i hH
  have HH : Hid (PredAt w w.heap.size 3 n i f k t A 1 c _) := Lib.hid hH
  obtain ⟨g0, g1, g2, g3, g4, g5, g6, hB⟩ := hH
  have HB := Lib.hid hB
  clear hB HA
  have hT : isT 3 = false := rfl
  rw [hT]
  clear hT
  go_wp2_with (first
    | (go_at_call 41; (with_reducible refine (IsName_any _ (by assumption) _).mono ?_); rintro e w' ⟨rfl, rfl⟩)
    | (go_at_call 66; (with_reducible refine (CheckValue_any _ _ _ (by assumption) _).mono ?_); rintro e w' ⟨rfl, hbb⟩; obtain ⟨k0, k1, k2, k3, k4, k5, k6, hB2⟩ := HH.out.keep hbb; have HB2 := Lib.hid hB2; clear hB2 hbb))
  all_goals
    go_ret
    refine ⟨?_, ?_⟩
    · simp_all [nodeX, argsB]
    · first
        | exact HB2.out
        | exact HB.out
set_option maxHeartbeats 8000000 in
theorem node_b1 (n i : Int) (f k t : ByteArray) (A : Option Addr) (c : Nat) (hf : f.size ≤ 9223372036854775807) (hk : k.size ≤ 9223372036854775807) (ht : t.size ≤ 9223372036854775807) (w : World) :
    Calls Tryz.prog 39 #[.agg #[.int .i64 1, .string f, .string k, .int .i64 n, .string t, .int .i64 i, .slice A 0 c]] w fun e w' => e = .returned (.int .i64 (nodeX 0 1 n i f k t)) ∧ Below w.heap.size w w' := by
  have hA : PredAt w w.heap.size 1 n i f k t A 0 c (w.alloc (.cells #[.int .i64 1, .string f, .string k, .int .i64 n, .string t, .int .i64 i, .slice A 0 c] 34)) := by
    refine ⟨?_, ?_, ?_, ?_, ?_, ?_, ?_, below_alloc _ _⟩ <;> simp only [World.cell?, heap_alloc_last] <;> rfl
  have HA := Lib.hid hA
  clear hA
  go_enter Tryz.func39, Tryz.ntmps39
  go_wp2_with fail
  go_region_held (fun W => W.cell? ⟨w.heap.size, 0, none⟩ = some (.int .i64 1) ∧ W.cell? ⟨w.heap.size, 1, none⟩ = some (.string f) ∧ W.cell? ⟨w.heap.size, 2, none⟩ = some (.string k) ∧ W.cell? ⟨w.heap.size, 3, none⟩ = some (.int .i64 n) ∧ W.cell? ⟨w.heap.size, 4, none⟩ = some (.string t) ∧ W.cell? ⟨w.heap.size, 5, none⟩ = some (.int .i64 i) ∧ W.cell? ⟨w.heap.size, 6, none⟩ = some (.slice A 0 c) ∧ Below w.heap.size w W)
    (first
      | exact HA.out.drew
      | exact PredAt.keep (w := w) (b := w.heap.size) (op := 1) (n := n) (i := i) (f := f) (k := k) (t := t) (A := A) (l := 0) (c := c) (by assumption) (by assumption))
    (first
      | (go_at_call 65; (with_reducible refine (isTest_any _ _ _ _ _ _ _ _ _ _).mono ?_); rintro e w' ⟨rfl, hbb⟩))
  rename_i hH
  have HH : Hid (PredAt w w.heap.size 1 n i f k t A 0 c _) := Lib.hid hH
  obtain ⟨g0, g1, g2, g3, g4, g5, g6, hB⟩ := hH
  have HB := Lib.hid hB
  clear hB HA
  have hT : isT 1 = false := rfl
  rw [hT]
  clear hT
  go_wp2_with (first
    | (go_at_call 41; (with_reducible refine (IsName_any _ (by assumption) _).mono ?_); rintro e w' ⟨rfl, rfl⟩)
    | (go_at_call 66; (with_reducible refine (CheckValue_any _ _ _ (by assumption) _).mono ?_); rintro e w' ⟨rfl, hbb⟩; obtain ⟨k0, k1, k2, k3, k4, k5, k6, hB2⟩ := HH.out.keep hbb; have HB2 := Lib.hid hB2; clear hB2 hbb))
  all_goals
    go_ret
    refine ⟨?_, ?_⟩
    · simp_all [nodeX, argsB]
    · first
        | exact HB2.out
        | exact HB.out
set_option maxHeartbeats 8000000 in
theorem node_b2 (n i : Int) (f k t : ByteArray) (A : Option Addr) (c : Nat) (hf : f.size ≤ 9223372036854775807) (hk : k.size ≤ 9223372036854775807) (ht : t.size ≤ 9223372036854775807) (w : World) :
    Calls Tryz.prog 39 #[.agg #[.int .i64 2, .string f, .string k, .int .i64 n, .string t, .int .i64 i, .slice A 0 c]] w fun e w' => e = .returned (.int .i64 (nodeX 0 2 n i f k t)) ∧ Below w.heap.size w w' := by
  have hA : PredAt w w.heap.size 2 n i f k t A 0 c (w.alloc (.cells #[.int .i64 2, .string f, .string k, .int .i64 n, .string t, .int .i64 i, .slice A 0 c] 34)) := by
    refine ⟨?_, ?_, ?_, ?_, ?_, ?_, ?_, below_alloc _ _⟩ <;> simp only [World.cell?, heap_alloc_last] <;> rfl
  have HA := Lib.hid hA
  clear hA
  go_enter Tryz.func39, Tryz.ntmps39
  go_wp2_with fail
  go_region_held (fun W => W.cell? ⟨w.heap.size, 0, none⟩ = some (.int .i64 2) ∧ W.cell? ⟨w.heap.size, 1, none⟩ = some (.string f) ∧ W.cell? ⟨w.heap.size, 2, none⟩ = some (.string k) ∧ W.cell? ⟨w.heap.size, 3, none⟩ = some (.int .i64 n) ∧ W.cell? ⟨w.heap.size, 4, none⟩ = some (.string t) ∧ W.cell? ⟨w.heap.size, 5, none⟩ = some (.int .i64 i) ∧ W.cell? ⟨w.heap.size, 6, none⟩ = some (.slice A 0 c) ∧ Below w.heap.size w W)
    (first
      | exact HA.out.drew
      | exact PredAt.keep (w := w) (b := w.heap.size) (op := 2) (n := n) (i := i) (f := f) (k := k) (t := t) (A := A) (l := 0) (c := c) (by assumption) (by assumption))
    (first
      | (go_at_call 65; (with_reducible refine (isTest_any _ _ _ _ _ _ _ _ _ _).mono ?_); rintro e w' ⟨rfl, hbb⟩))
  rename_i hH
  have HH : Hid (PredAt w w.heap.size 2 n i f k t A 0 c _) := Lib.hid hH
  obtain ⟨g0, g1, g2, g3, g4, g5, g6, hB⟩ := hH
  have HB := Lib.hid hB
  clear hB HA
  have hT : isT 2 = false := rfl
  rw [hT]
  clear hT
  go_wp2_with (first
    | (go_at_call 41; (with_reducible refine (IsName_any _ (by assumption) _).mono ?_); rintro e w' ⟨rfl, rfl⟩)
    | (go_at_call 66; (with_reducible refine (CheckValue_any _ _ _ (by assumption) _).mono ?_); rintro e w' ⟨rfl, hbb⟩; obtain ⟨k0, k1, k2, k3, k4, k5, k6, hB2⟩ := HH.out.keep hbb; have HB2 := Lib.hid hB2; clear hB2 hbb))
  all_goals
    go_ret
    refine ⟨?_, ?_⟩
    · simp_all [nodeX, argsB]
    · first
        | exact HB2.out
        | exact HB.out
set_option maxHeartbeats 8000000 in
theorem node_b3 (n i : Int) (f k t : ByteArray) (A : Option Addr) (c : Nat) (l : Nat) (hl : ¬ l = 1) (hL : l ≤ 1000000) (hf : f.size ≤ 9223372036854775807) (hk : k.size ≤ 9223372036854775807) (ht : t.size ≤ 9223372036854775807) (w : World) :
    Calls Tryz.prog 39 #[.agg #[.int .i64 3, .string f, .string k, .int .i64 n, .string t, .int .i64 i, .slice A l c]] w fun e w' => e = .returned (.int .i64 (nodeX l 3 n i f k t)) ∧ Below w.heap.size w w' := by
  have hd : ((l : Int) == 1) = false := by rw [beq_eq_false_iff_ne]; omega
  have hA : PredAt w w.heap.size 3 n i f k t A l c (w.alloc (.cells #[.int .i64 3, .string f, .string k, .int .i64 n, .string t, .int .i64 i, .slice A l c] 34)) := by
    refine ⟨?_, ?_, ?_, ?_, ?_, ?_, ?_, below_alloc _ _⟩ <;> simp only [World.cell?, heap_alloc_last] <;> rfl
  have HA := Lib.hid hA
  clear hA
  go_enter Tryz.func39, Tryz.ntmps39
  go_wp2_with fail
  go_region_held (fun W => W.cell? ⟨w.heap.size, 0, none⟩ = some (.int .i64 3) ∧ W.cell? ⟨w.heap.size, 1, none⟩ = some (.string f) ∧ W.cell? ⟨w.heap.size, 2, none⟩ = some (.string k) ∧ W.cell? ⟨w.heap.size, 3, none⟩ = some (.int .i64 n) ∧ W.cell? ⟨w.heap.size, 4, none⟩ = some (.string t) ∧ W.cell? ⟨w.heap.size, 5, none⟩ = some (.int .i64 i) ∧ W.cell? ⟨w.heap.size, 6, none⟩ = some (.slice A l c) ∧ Below w.heap.size w W)
    (first
      | exact HA.out.drew
      | exact PredAt.keep (w := w) (b := w.heap.size) (op := 3) (n := n) (i := i) (f := f) (k := k) (t := t) (A := A) (l := l) (c := c) (by assumption) (by assumption))
    (first
      | (go_at_call 65; (with_reducible refine (isTest_any _ _ _ _ _ _ _ _ _ _).mono ?_); rintro e w' ⟨rfl, hbb⟩))
  rename_i hH
  have HH : Hid (PredAt w w.heap.size 3 n i f k t A l c _) := Lib.hid hH
  obtain ⟨g0, g1, g2, g3, g4, g5, g6, hB⟩ := hH
  have HB := Lib.hid hB
  clear hB HA
  have hT : isT 3 = false := rfl
  rw [hT]
  clear hT
  go_wp2_with (first
    | (go_at_call 41; (with_reducible refine (IsName_any _ (by assumption) _).mono ?_); rintro e w' ⟨rfl, rfl⟩)
    | (go_at_call 66; (with_reducible refine (CheckValue_any _ _ _ (by assumption) _).mono ?_); rintro e w' ⟨rfl, hbb⟩; obtain ⟨k0, k1, k2, k3, k4, k5, k6, hB2⟩ := HH.out.keep hbb; have HB2 := Lib.hid hB2; clear hB2 hbb))
  all_goals
    go_ret
    refine ⟨?_, ?_⟩
    · simp_all [nodeX, argsB]
    · first
        | exact HB2.out
        | exact HB.out
set_option maxHeartbeats 8000000 in
theorem node_b0 (n i : Int) (f k t : ByteArray) (A : Option Addr) (c : Nat) (l : Nat) (hl : ¬ l = 0) (hL : l ≤ 1000000) (hf : f.size ≤ 9223372036854775807) (hk : k.size ≤ 9223372036854775807) (ht : t.size ≤ 9223372036854775807) (w : World) :
    Calls Tryz.prog 39 #[.agg #[.int .i64 0, .string f, .string k, .int .i64 n, .string t, .int .i64 i, .slice A l c]] w fun e w' => e = .returned (.int .i64 (nodeX l 0 n i f k t)) ∧ Below w.heap.size w w' := by
  have hd : ((l : Int) == 0) = false := by rw [beq_eq_false_iff_ne]; omega
  have hA : PredAt w w.heap.size 0 n i f k t A l c (w.alloc (.cells #[.int .i64 0, .string f, .string k, .int .i64 n, .string t, .int .i64 i, .slice A l c] 34)) := by
    refine ⟨?_, ?_, ?_, ?_, ?_, ?_, ?_, below_alloc _ _⟩ <;> simp only [World.cell?, heap_alloc_last] <;> rfl
  have HA := Lib.hid hA
  clear hA
  go_enter Tryz.func39, Tryz.ntmps39
  go_wp2_with fail
  go_region_held (fun W => W.cell? ⟨w.heap.size, 0, none⟩ = some (.int .i64 0) ∧ W.cell? ⟨w.heap.size, 1, none⟩ = some (.string f) ∧ W.cell? ⟨w.heap.size, 2, none⟩ = some (.string k) ∧ W.cell? ⟨w.heap.size, 3, none⟩ = some (.int .i64 n) ∧ W.cell? ⟨w.heap.size, 4, none⟩ = some (.string t) ∧ W.cell? ⟨w.heap.size, 5, none⟩ = some (.int .i64 i) ∧ W.cell? ⟨w.heap.size, 6, none⟩ = some (.slice A l c) ∧ Below w.heap.size w W)
    (first
      | exact HA.out.drew
      | exact PredAt.keep (w := w) (b := w.heap.size) (op := 0) (n := n) (i := i) (f := f) (k := k) (t := t) (A := A) (l := l) (c := c) (by assumption) (by assumption))
    (first
      | (go_at_call 65; (with_reducible refine (isTest_any _ _ _ _ _ _ _ _ _ _).mono ?_); rintro e w' ⟨rfl, hbb⟩))
  rename_i hH
  have HH : Hid (PredAt w w.heap.size 0 n i f k t A l c _) := Lib.hid hH
  obtain ⟨g0, g1, g2, g3, g4, g5, g6, hB⟩ := hH
  have HB := Lib.hid hB
  clear hB HA
  have hT : isT 0 = false := rfl
  rw [hT]
  clear hT
  go_wp2_with (first
    | (go_at_call 41; (with_reducible refine (IsName_any _ (by assumption) _).mono ?_); rintro e w' ⟨rfl, rfl⟩)
    | (go_at_call 66; (with_reducible refine (CheckValue_any _ _ _ (by assumption) _).mono ?_); rintro e w' ⟨rfl, hbb⟩; obtain ⟨k0, k1, k2, k3, k4, k5, k6, hB2⟩ := HH.out.keep hbb; have HB2 := Lib.hid hB2; clear hB2 hbb))
  all_goals
    go_ret
    refine ⟨?_, ?_⟩
    · simp_all [nodeX, argsB]
    · first
        | exact HB2.out
        | exact HB.out
set_option maxHeartbeats 8000000 in
theorem node_b4 (n i : Int) (f k t : ByteArray) (A : Option Addr) (c : Nat) (l : Nat) (hl : ¬ l = 0) (hL : l ≤ 1000000) (hf : f.size ≤ 9223372036854775807) (hk : k.size ≤ 9223372036854775807) (ht : t.size ≤ 9223372036854775807) (w : World) :
    Calls Tryz.prog 39 #[.agg #[.int .i64 4, .string f, .string k, .int .i64 n, .string t, .int .i64 i, .slice A l c]] w fun e w' => e = .returned (.int .i64 (nodeX l 4 n i f k t)) ∧ Below w.heap.size w w' := by
  have hd : ((l : Int) == 0) = false := by rw [beq_eq_false_iff_ne]; omega
  have hA : PredAt w w.heap.size 4 n i f k t A l c (w.alloc (.cells #[.int .i64 4, .string f, .string k, .int .i64 n, .string t, .int .i64 i, .slice A l c] 34)) := by
    refine ⟨?_, ?_, ?_, ?_, ?_, ?_, ?_, below_alloc _ _⟩ <;> simp only [World.cell?, heap_alloc_last] <;> rfl
  have HA := Lib.hid hA
  clear hA
  go_enter Tryz.func39, Tryz.ntmps39
  go_wp2_with fail
  go_region_held (fun W => W.cell? ⟨w.heap.size, 0, none⟩ = some (.int .i64 4) ∧ W.cell? ⟨w.heap.size, 1, none⟩ = some (.string f) ∧ W.cell? ⟨w.heap.size, 2, none⟩ = some (.string k) ∧ W.cell? ⟨w.heap.size, 3, none⟩ = some (.int .i64 n) ∧ W.cell? ⟨w.heap.size, 4, none⟩ = some (.string t) ∧ W.cell? ⟨w.heap.size, 5, none⟩ = some (.int .i64 i) ∧ W.cell? ⟨w.heap.size, 6, none⟩ = some (.slice A l c) ∧ Below w.heap.size w W)
    (first
      | exact HA.out.drew
      | exact PredAt.keep (w := w) (b := w.heap.size) (op := 4) (n := n) (i := i) (f := f) (k := k) (t := t) (A := A) (l := l) (c := c) (by assumption) (by assumption))
    (first
      | (go_at_call 65; (with_reducible refine (isTest_any _ _ _ _ _ _ _ _ _ _).mono ?_); rintro e w' ⟨rfl, hbb⟩))
  rename_i hH
  have HH : Hid (PredAt w w.heap.size 4 n i f k t A l c _) := Lib.hid hH
  obtain ⟨g0, g1, g2, g3, g4, g5, g6, hB⟩ := hH
  have HB := Lib.hid hB
  clear hB HA
  have hT : isT 4 = false := rfl
  rw [hT]
  clear hT
  go_wp2_with (first
    | (go_at_call 41; (with_reducible refine (IsName_any _ (by assumption) _).mono ?_); rintro e w' ⟨rfl, rfl⟩)
    | (go_at_call 66; (with_reducible refine (CheckValue_any _ _ _ (by assumption) _).mono ?_); rintro e w' ⟨rfl, hbb⟩; obtain ⟨k0, k1, k2, k3, k4, k5, k6, hB2⟩ := HH.out.keep hbb; have HB2 := Lib.hid hB2; clear hB2 hbb))
  all_goals
    go_ret
    refine ⟨?_, ?_⟩
    · simp_all [nodeX, argsB]
    · first
        | exact HB2.out
        | exact HB.out
set_option maxHeartbeats 8000000 in
theorem node_b5 (n i : Int) (f k t : ByteArray) (A : Option Addr) (c : Nat) (l : Nat) (hl : ¬ l = 0) (hL : l ≤ 1000000) (hf : f.size ≤ 9223372036854775807) (hk : k.size ≤ 9223372036854775807) (ht : t.size ≤ 9223372036854775807) (w : World) :
    Calls Tryz.prog 39 #[.agg #[.int .i64 5, .string f, .string k, .int .i64 n, .string t, .int .i64 i, .slice A l c]] w fun e w' => e = .returned (.int .i64 (nodeX l 5 n i f k t)) ∧ Below w.heap.size w w' := by
  have hd : ((l : Int) == 0) = false := by rw [beq_eq_false_iff_ne]; omega
  have hA : PredAt w w.heap.size 5 n i f k t A l c (w.alloc (.cells #[.int .i64 5, .string f, .string k, .int .i64 n, .string t, .int .i64 i, .slice A l c] 34)) := by
    refine ⟨?_, ?_, ?_, ?_, ?_, ?_, ?_, below_alloc _ _⟩ <;> simp only [World.cell?, heap_alloc_last] <;> rfl
  have HA := Lib.hid hA
  clear hA
  go_enter Tryz.func39, Tryz.ntmps39
  go_wp2_with fail
  go_region_held (fun W => W.cell? ⟨w.heap.size, 0, none⟩ = some (.int .i64 5) ∧ W.cell? ⟨w.heap.size, 1, none⟩ = some (.string f) ∧ W.cell? ⟨w.heap.size, 2, none⟩ = some (.string k) ∧ W.cell? ⟨w.heap.size, 3, none⟩ = some (.int .i64 n) ∧ W.cell? ⟨w.heap.size, 4, none⟩ = some (.string t) ∧ W.cell? ⟨w.heap.size, 5, none⟩ = some (.int .i64 i) ∧ W.cell? ⟨w.heap.size, 6, none⟩ = some (.slice A l c) ∧ Below w.heap.size w W)
    (first
      | exact HA.out.drew
      | exact PredAt.keep (w := w) (b := w.heap.size) (op := 5) (n := n) (i := i) (f := f) (k := k) (t := t) (A := A) (l := l) (c := c) (by assumption) (by assumption))
    (first
      | (go_at_call 65; (with_reducible refine (isTest_any _ _ _ _ _ _ _ _ _ _).mono ?_); rintro e w' ⟨rfl, hbb⟩))
  rename_i hH
  have HH : Hid (PredAt w w.heap.size 5 n i f k t A l c _) := Lib.hid hH
  obtain ⟨g0, g1, g2, g3, g4, g5, g6, hB⟩ := hH
  have HB := Lib.hid hB
  clear hB HA
  have hT : isT 5 = true := rfl
  rw [hT]
  clear hT
  go_wp2_with (first
    | (go_at_call 41; (with_reducible refine (IsName_any _ (by assumption) _).mono ?_); rintro e w' ⟨rfl, rfl⟩)
    | (go_at_call 66; (with_reducible refine (CheckValue_any _ _ _ (by assumption) _).mono ?_); rintro e w' ⟨rfl, hbb⟩; obtain ⟨k0, k1, k2, k3, k4, k5, k6, hB2⟩ := HH.out.keep hbb; have HB2 := Lib.hid hB2; clear hB2 hbb))
  all_goals
    go_ret
    refine ⟨?_, ?_⟩
    · simp_all [nodeX, argsB]
    · first
        | exact HB2.out
        | exact HB.out
set_option maxHeartbeats 8000000 in
theorem node_b6 (n i : Int) (f k t : ByteArray) (A : Option Addr) (c : Nat) (l : Nat) (hl : ¬ l = 0) (hL : l ≤ 1000000) (hf : f.size ≤ 9223372036854775807) (hk : k.size ≤ 9223372036854775807) (ht : t.size ≤ 9223372036854775807) (w : World) :
    Calls Tryz.prog 39 #[.agg #[.int .i64 6, .string f, .string k, .int .i64 n, .string t, .int .i64 i, .slice A l c]] w fun e w' => e = .returned (.int .i64 (nodeX l 6 n i f k t)) ∧ Below w.heap.size w w' := by
  have hd : ((l : Int) == 0) = false := by rw [beq_eq_false_iff_ne]; omega
  have hA : PredAt w w.heap.size 6 n i f k t A l c (w.alloc (.cells #[.int .i64 6, .string f, .string k, .int .i64 n, .string t, .int .i64 i, .slice A l c] 34)) := by
    refine ⟨?_, ?_, ?_, ?_, ?_, ?_, ?_, below_alloc _ _⟩ <;> simp only [World.cell?, heap_alloc_last] <;> rfl
  have HA := Lib.hid hA
  clear hA
  go_enter Tryz.func39, Tryz.ntmps39
  go_wp2_with fail
  go_region_held (fun W => W.cell? ⟨w.heap.size, 0, none⟩ = some (.int .i64 6) ∧ W.cell? ⟨w.heap.size, 1, none⟩ = some (.string f) ∧ W.cell? ⟨w.heap.size, 2, none⟩ = some (.string k) ∧ W.cell? ⟨w.heap.size, 3, none⟩ = some (.int .i64 n) ∧ W.cell? ⟨w.heap.size, 4, none⟩ = some (.string t) ∧ W.cell? ⟨w.heap.size, 5, none⟩ = some (.int .i64 i) ∧ W.cell? ⟨w.heap.size, 6, none⟩ = some (.slice A l c) ∧ Below w.heap.size w W)
    (first
      | exact HA.out.drew
      | exact PredAt.keep (w := w) (b := w.heap.size) (op := 6) (n := n) (i := i) (f := f) (k := k) (t := t) (A := A) (l := l) (c := c) (by assumption) (by assumption))
    (first
      | (go_at_call 65; (with_reducible refine (isTest_any _ _ _ _ _ _ _ _ _ _).mono ?_); rintro e w' ⟨rfl, hbb⟩))
  rename_i hH
  have HH : Hid (PredAt w w.heap.size 6 n i f k t A l c _) := Lib.hid hH
  obtain ⟨g0, g1, g2, g3, g4, g5, g6, hB⟩ := hH
  have HB := Lib.hid hB
  clear hB HA
  have hT : isT 6 = true := rfl
  rw [hT]
  clear hT
  go_wp2_with (first
    | (go_at_call 41; (with_reducible refine (IsName_any _ (by assumption) _).mono ?_); rintro e w' ⟨rfl, rfl⟩)
    | (go_at_call 66; (with_reducible refine (CheckValue_any _ _ _ (by assumption) _).mono ?_); rintro e w' ⟨rfl, hbb⟩; obtain ⟨k0, k1, k2, k3, k4, k5, k6, hB2⟩ := HH.out.keep hbb; have HB2 := Lib.hid hB2; clear hB2 hbb))
  all_goals
    go_ret
    refine ⟨?_, ?_⟩
    · simp_all [nodeX, argsB]
    · first
        | exact HB2.out
        | exact HB.out
set_option maxHeartbeats 8000000 in
theorem node_b7 (n i : Int) (f k t : ByteArray) (A : Option Addr) (c : Nat) (l : Nat) (hl : ¬ l = 0) (hL : l ≤ 1000000) (hf : f.size ≤ 9223372036854775807) (hk : k.size ≤ 9223372036854775807) (ht : t.size ≤ 9223372036854775807) (w : World) :
    Calls Tryz.prog 39 #[.agg #[.int .i64 7, .string f, .string k, .int .i64 n, .string t, .int .i64 i, .slice A l c]] w fun e w' => e = .returned (.int .i64 (nodeX l 7 n i f k t)) ∧ Below w.heap.size w w' := by
  have hd : ((l : Int) == 0) = false := by rw [beq_eq_false_iff_ne]; omega
  have hA : PredAt w w.heap.size 7 n i f k t A l c (w.alloc (.cells #[.int .i64 7, .string f, .string k, .int .i64 n, .string t, .int .i64 i, .slice A l c] 34)) := by
    refine ⟨?_, ?_, ?_, ?_, ?_, ?_, ?_, below_alloc _ _⟩ <;> simp only [World.cell?, heap_alloc_last] <;> rfl
  have HA := Lib.hid hA
  clear hA
  go_enter Tryz.func39, Tryz.ntmps39
  go_wp2_with fail
  go_region_held (fun W => W.cell? ⟨w.heap.size, 0, none⟩ = some (.int .i64 7) ∧ W.cell? ⟨w.heap.size, 1, none⟩ = some (.string f) ∧ W.cell? ⟨w.heap.size, 2, none⟩ = some (.string k) ∧ W.cell? ⟨w.heap.size, 3, none⟩ = some (.int .i64 n) ∧ W.cell? ⟨w.heap.size, 4, none⟩ = some (.string t) ∧ W.cell? ⟨w.heap.size, 5, none⟩ = some (.int .i64 i) ∧ W.cell? ⟨w.heap.size, 6, none⟩ = some (.slice A l c) ∧ Below w.heap.size w W)
    (first
      | exact HA.out.drew
      | exact PredAt.keep (w := w) (b := w.heap.size) (op := 7) (n := n) (i := i) (f := f) (k := k) (t := t) (A := A) (l := l) (c := c) (by assumption) (by assumption))
    (first
      | (go_at_call 65; (with_reducible refine (isTest_any _ _ _ _ _ _ _ _ _ _).mono ?_); rintro e w' ⟨rfl, hbb⟩))
  rename_i hH
  have HH : Hid (PredAt w w.heap.size 7 n i f k t A l c _) := Lib.hid hH
  obtain ⟨g0, g1, g2, g3, g4, g5, g6, hB⟩ := hH
  have HB := Lib.hid hB
  clear hB HA
  have hT : isT 7 = true := rfl
  rw [hT]
  clear hT
  go_wp2_with (first
    | (go_at_call 41; (with_reducible refine (IsName_any _ (by assumption) _).mono ?_); rintro e w' ⟨rfl, rfl⟩)
    | (go_at_call 66; (with_reducible refine (CheckValue_any _ _ _ (by assumption) _).mono ?_); rintro e w' ⟨rfl, hbb⟩; obtain ⟨k0, k1, k2, k3, k4, k5, k6, hB2⟩ := HH.out.keep hbb; have HB2 := Lib.hid hB2; clear hB2 hbb))
  all_goals
    go_ret
    refine ⟨?_, ?_⟩
    · simp_all [nodeX, argsB]
    · first
        | exact HB2.out
        | exact HB.out
theorem node_other (op n i : Int) (f k t : ByteArray) (A : Option Addr) (l c : Nat) (h0 : ¬ op = 0) (h1 : ¬ op = 1) (h2 : ¬ op = 2) (h3 : ¬ op = 3) (h4 : ¬ op = 4) (h5 : ¬ op = 5) (h6 : ¬ op = 6) (h7 : ¬ op = 7) (w : World) :
    Calls Tryz.prog 39 #[.agg #[.int .i64 op, .string f, .string k, .int .i64 n, .string t, .int .i64 i, .slice A l c]] w fun e w' => e = .returned (.int .i64 (nodeX l op n i f k t)) ∧ Below w.heap.size w w' := by
  go_enter Tryz.func39, Tryz.ntmps39
  go_wp2
  all_goals
    go_ret
    refine ⟨?_, below_alloc _ _⟩
    simp_all [nodeX]
theorem node_any (op n i : Int) (f k t : ByteArray) (A : Option Addr) (l c : Nat) (hL : l ≤ 1000000) (hf : f.size ≤ 9223372036854775807) (hk : k.size ≤ 9223372036854775807) (ht : t.size ≤ 9223372036854775807) (w : World) :
    Calls Tryz.prog 39 #[.agg #[.int .i64 op, .string f, .string k, .int .i64 n, .string t, .int .i64 i, .slice A l c]] w fun e w' => e = .returned (.int .i64 (nodeX l op n i f k t)) ∧ Below w.heap.size w w' := by
  by_cases h0 : op = 0
  · subst h0
    by_cases hl : l = 0
    · subst hl; exact node_0 n i f k t A c hf hk ht w
    · exact node_b0 n i f k t A c l hl hL hf hk ht w
  by_cases h4 : op = 4
  · subst h4
    by_cases hl : l = 0
    · subst hl; exact node_4 n i f k t A c hf hk ht w
    · exact node_b4 n i f k t A c l hl hL hf hk ht w
  by_cases h5 : op = 5
  · subst h5
    by_cases hl : l = 0
    · subst hl; exact node_5 n i f k t A c hf hk ht w
    · exact node_b5 n i f k t A c l hl hL hf hk ht w
  by_cases h6 : op = 6
  · subst h6
    by_cases hl : l = 0
    · subst hl; exact node_6 n i f k t A c hf hk ht w
    · exact node_b6 n i f k t A c l hl hL hf hk ht w
  by_cases h7 : op = 7
  · subst h7
    by_cases hl : l = 0
    · subst hl; exact node_7 n i f k t A c hf hk ht w
    · exact node_b7 n i f k t A c l hl hL hf hk ht w
  by_cases h1 : op = 1
  · subst h1
    by_cases hl : l = 0
    · subst hl; exact node_b1 n i f k t A c hf hk ht w
    · exact node_1 n i f k t A c l (by omega) hL hf hk ht w
  by_cases h2 : op = 2
  · subst h2
    by_cases hl : l = 0
    · subst hl; exact node_b2 n i f k t A c hf hk ht w
    · exact node_2 n i f k t A c l (by omega) hL hf hk ht w
  by_cases h3 : op = 3
  · subst h3
    by_cases hl : l = 1
    · subst hl; exact node_3 n i f k t A c hf hk ht w
    · exact node_b3 n i f k t A c l hl hL hf hk ht w
  exact node_other op n i f k t A l c h0 h1 h2 h3 h4 h5 h6 h7 w
end Go.Proofs.YtnddlpfmagdbfaaGreatDoor
/- Contracts: the error of a predicate. -/
namespace Go.Proofs.YtnddlpfmagdbfaaGreatDoor
open Go Go.Proofs Go.RowKit
set_option linter.unusedVariables false
set_option linter.unusedSimpArgs false
def nodeP (p : PredD) : Int := nodeX p.args.length p.t.op p.t.kind p.t.num p.t.field p.t.key p.t.text
/-- The first error of a list of predicates, and how many nodes have been visited. -/
def visitsL (f : PredD → Nat → Int × Nat) : List PredD → Nat → Int × Nat
  | [], c => (0, c)
  | q :: l, c => if (f q c).1 ≠ 0 then f q c else visitsL f l (f q c).2
/-- The error of a predicate (of so many levels at most), and how many nodes have been visited. -/
def visitX : Nat → PredD → Int → Nat → Int × Nat
  | 0, _, _, c => (0, c)
  | n + 1, p, lv, c => if 64 ≤ c then (6, c) else if 16 < lv then (15, c) else if nodeP p ≠ 0 then (nodeP p, c + 1) else visitsL (fun q c => visitX n q (lv + 1) c) p.args (c + 1)
def PredStr : Nat → PredD → Prop
  | 0, _ => True
  | n + 1, p => (p.t.field.size ≤ 9223372036854775807 ∧ p.t.key.size ≤ 9223372036854775807) ∧ ∀ q, q ∈ p.args → PredStr n q
/-- All is as it was but for one block. -/
structure Vis (b : Nat) (w W : World) : Prop where
  os : W.os = w.os
  tape : W.tape = w.tape
  output : W.output = w.output
  size : w.heap.size ≤ W.heap.size
  block : ∀ k, k < w.heap.size → k ≠ b → W.heap[k]? = w.heap[k]?
theorem Vis.refl (b : Nat) (w : World) : Vis b w w := ⟨rfl, rfl, rfl, Nat.le_refl _, fun _ _ _ => rfl⟩
theorem Vis.trans {b : Nat} {a c d : World} (h : Vis b a c) (k : Vis b c d) : Vis b a d :=
  ⟨k.os.trans h.os, k.tape.trans h.tape, k.output.trans h.output, Nat.le_trans h.size k.size, fun i hi hb => (k.block i (Nat.lt_of_lt_of_le hi h.size) hb).trans (h.block i hi hb)⟩
theorem Vis.of {b : Nat} {w W : World} (h : Below w.heap.size w W) : Vis b w W := ⟨h.os, h.tape, h.output, h.size, fun k hk _ => h.block k hk⟩
theorem Vis.set (b i : Nat) (w : World) (v : Value) : Vis b w (w.setCell ⟨b, i, none⟩ v) :=
  let h := (Below.refl b w).setCell (p := ⟨b, i, none⟩) (Nat.le_refl _) v
  ⟨h.os, h.tape, h.output, h.size, fun k _ hb => heap_setCell_other _ _ _ _ hb⟩
theorem Vis.below {b B : Nat} {w0 w W : World} (h : Below B w0 w) (k : Vis b w W) (hB : B ≤ b) (hs : B ≤ w.heap.size) : Below B w0 W :=
  ⟨k.os.trans h.os, k.tape.trans h.tape, k.output.trans h.output, Nat.le_trans h.size k.size, fun i hi => (k.block i (by omega) (by omega)).trans (h.block i hi)⟩
theorem below_vis {b B : Nat} {w0 w W : World} (h : Below B w0 w) (k : Vis b w W) (hB : B ≤ b) (hs : B ≤ w.heap.size) : Below B w0 W := Vis.below h k hB hs
/-- The world behind the node's own check. -/
structure VisM (p : PredD) (c b1 b2 : Nat) (w W : World) : Prop where
  hb1 : W.heap[b1]? = some (.cells #[.int .i64 ((c : Int) + 1)] 3 (0, 0))
  box : W.heap[w.heap.size]? = some (.cells p.cells.toArray 34 (0, 0))
  vis : Vis b1 w W
  hb2 : W.cell? ⟨b2, 0, none⟩ = w.cell? ⟨b2, 0, none⟩
theorem VisM.mk' {p : PredD} {c b1 b2 : Nat} {w W : World} (h1 : w.heap[b1]? = some (.cells #[.int .i64 (c : Int)] 3 (0, 0))) (h2 : b2 < w.heap.size) (hne : b1 ≠ b2) (k : Below ((w.setCell ⟨b1, 0, none⟩ (.int .i64 ((c : Int) + 1))).alloc (.cells p.cells.toArray 34)).heap.size ((w.setCell ⟨b1, 0, none⟩ (.int .i64 ((c : Int) + 1))).alloc (.cells p.cells.toArray 34)) W) : VisM p c b1 b2 w W := by
  have hv : Vis b1 w W := (Vis.set b1 0 w _).trans ((Vis.of (b := b1) (Grew.alloc _ _).b).trans (Vis.of k))
  refine ⟨blk_keep k ((Grew.alloc _ _).blk (heap_setCell_same _ _ 0 _ _ _ h1)), blk_keep k ?_, hv, ?_⟩
  · have := blk_new (w.setCell ⟨b1, 0, none⟩ (.int .i64 ((c : Int) + 1))) p.cells.toArray 34
    simpa using this
  · unfold World.cell?
    rw [hv.block b2 h2 (Ne.symm hne)]
theorem Vis.cell {b : Nat} {w W : World} (h : Vis b w W) {a : Addr} (ha : a.block < w.heap.size) (hb : a.block ≠ b) : W.cell? a = w.cell? a := by
  unfold World.cell?
  rw [h.block _ ha hb]
theorem visitsL_step {f : PredD → Nat → Int × Nat} {L : List PredD} {j c : Nat} (hj : j < L.length) : visitsL f (L.drop j) c = if (f L[j] c).1 ≠ 0 then f L[j] c else visitsL f (L.drop (j + 1)) (f L[j] c).2 := by
  rw [List.drop_eq_getElem_cons hj]
  rfl
/-- The contract of the visit at predicates of n levels. -/
def VisitC (n : Nat) : Prop := ∀ (p : PredD) (lv : Int) (c b1 b2 : Nat) (w0 w : World), PredLie n w0 p → PredStr n p → 1 ≤ lv → lv ≤ 1000 → c ≤ 64 → w0.heap.size ≤ b1 → w0.heap.size ≤ b2 → b1 ≠ b2 → Below w0.heap.size w0 w →
  w.heap[b1]? = some (.cells #[.int .i64 c] 3 (0, 0)) → w.cell? ⟨b2, 0, none⟩ = some (.func (.func 38) #[] #[.pointer (some ⟨b1, 0, none⟩), .pointer (some ⟨b2, 0, none⟩)]) →
  Calls Tryz.prog 38 #[.agg p.cells.toArray, .int .i64 lv, .pointer (some ⟨b1, 0, none⟩), .pointer (some ⟨b2, 0, none⟩)] w fun e w' => e = .returned (.int .i64 (visitX n p lv c).1) ∧ (visitX n p lv c).2 ≤ 64 ∧ w'.heap[b1]? = some (.cells #[.int .i64 (visitX n p lv c).2] 3 (0, 0)) ∧ Vis b1 w w'
set_option maxHeartbeats 8000000 in
set_option maxRecDepth 20000 in
theorem visit_step (n : Nat) (ih : VisitC n) : VisitC (n + 1) := by
  intro p lv c b1 b2 w0 w hp hstr hl1 hl2 hc h1 h2 hne hB hb1 hb2
  have hlt1 := blk_lt hb1
  have hlt2 : b2 < w.heap.size := World.block_lt_of_cell? w _ hb2
  have e1 : (w.alloc (.cells p.cells.toArray 34)).cell? ⟨b1, 0, none⟩ = some (.int .i64 c) := cell_blk ((Grew.alloc _ _).blk hb1) 0 rfl
  have e2 : (w.alloc (.cells p.cells.toArray 34)).frozen? ⟨b1, 0, none⟩ = false := frozen_blk ((Grew.alloc _ _).blk hb1) _
  have hB1 := Lib.hid hb1
  clear hb1
  by_cases hc1 : 64 ≤ c
  · have hv : Hid (visitX (n + 1) p lv c = (6, c)) := Lib.hid (by rw [visitX, if_pos hc1])
    have hd : decide ((64 : Int) ≤ (c : Int)) = true := decide_eq_true (by omega)
    have hW := Lib.hid (Vis.of (b := b1) (Grew.alloc w (.cells p.cells.toArray 34)).b)
    have hbb := Lib.hid ((Grew.alloc w (.cells p.cells.toArray 34)).blk hB1.out)
    unfold PredD.cells at e1 e2 hW hbb ⊢
    go_enter Tryz.func38, Tryz.ntmps38
    go_wp2_with fail
    go_ret
    exact ⟨by rw [hv.out]; rfl, by rw [hv.out]; exact hc, by rw [hv.out]; exact hbb.out, hW.out⟩
  · have hd : decide ((64 : Int) ≤ (c : Int)) = false := decide_eq_false (by omega)
    by_cases hc2 : 16 < lv
    · have hv : Hid (visitX (n + 1) p lv c = (15, c)) := Lib.hid (by rw [visitX, if_neg hc1, if_pos hc2])
      have hd2 : decide ((16 : Int) < lv) = true := decide_eq_true hc2
      have hW := Lib.hid (Vis.of (b := b1) (Grew.alloc w (.cells p.cells.toArray 34)).b)
      have hbb := Lib.hid ((Grew.alloc w (.cells p.cells.toArray 34)).blk hB1.out)
      unfold PredD.cells at e1 e2 hW hbb ⊢
      go_enter Tryz.func38, Tryz.ntmps38
      go_wp2_with fail
      go_ret
      exact ⟨by rw [hv.out]; rfl, by rw [hv.out]; exact hc, by rw [hv.out]; exact hbb.out, hW.out⟩
    · have hd2 : decide ((16 : Int) < lv) = false := decide_eq_false hc2
      have hnode := Lib.hid (fun W => node_any p.t.op p.t.kind p.t.num p.t.field p.t.key p.t.text p.A p.args.length p.c hp.1.2.1 hstr.1.1 hstr.1.2 hp.1.2.2 W)
      have hv : Hid (visitX (n + 1) p lv c = if nodeP p ≠ 0 then (nodeP p, c + 1) else visitsL (fun q c => visitX n q (lv + 1) c) p.args (c + 1)) := Lib.hid (by rw [visitX, if_neg hc1, if_neg hc2])
      have hadd : IntKind.i64.wrap ((c : Int) + 1) = ((c + 1 : Nat) : Int) := by rw [IntWalk.i64_in _ (by omega)]; simp
      unfold nodeP at hv
      generalize nodeX p.args.length p.t.op p.t.kind p.t.num p.t.field p.t.key p.t.text = e at *
      unfold PredD.cells at e1 e2 ⊢
      have hmid := Lib.hid (fun W (k : Below ((w.setCell ⟨b1, 0, none⟩ (.int .i64 ((c : Int) + 1))).alloc (.cells p.cells.toArray 34)).heap.size _ W) => VisM.mk' (b2 := b2) hB1.out hlt2 hne k)
      have HP := Lib.hid hp
      have HStr := Lib.hid hstr
      have HB := Lib.hid hB
      have HB2 := Lib.hid hb2
      have hlen := hp.1.2.1
      have hws := hB.size
      clear hp hstr hB hb2
      unfold PredD.cells at hmid
      generalize hAA : p.A = A' at *
      have hAA := Lib.hid hAA
      by_cases he : e = 0
      · have he2 : (e != 0) = false := by rw [he]; rfl
        rw [if_neg (by simpa using he)] at hv
        clear he
        go_enter Tryz.func38, Tryz.ntmps38
        go_wp2_with (first
          | (go_at_call 39; (with_reducible refine (hnode.out _).mono ?_); rintro e' w3 ⟨rfl, hk⟩; have hM := Lib.hid (hmid.out w3 hk); have g6 : w3.cell? ⟨w.heap.size, 6, none⟩ = some (.slice A' p.args.length p.c) := (by rw [← hAA.out]; exact cell_blk hM.out.box 6 rfl); clear hk))
        go_loopw [9, 10, 27] (fun a b i wr => ∃ j cj : Nat, j ≤ p.args.length ∧ cj ≤ 64 ∧ i = .int .i64 j ∧ Hid (visitX (n + 1) p lv c = visitsL (fun q c => visitX n q (lv + 1) c) (p.args.drop j) cj) ∧ Hid (wr.heap[b1]? = some (.cells #[.int .i64 cj] 3 (0, 0))) ∧ Hid (Vis b1 w wr)) (fun _ _ i _ => p.args.length - (intOf i).toNat)
        case atStart => exact ⟨0, c + 1, by omega, by omega, rfl, Lib.hid hv.out, Lib.hid (by have := hM.out.hb1; simpa using this), Lib.hid hM.out.vis⟩
        case round =>
          obtain ⟨j, cj, hj, hcj, rfl, hG, hb1r, hW⟩ := hrel
          by_cases hlt : j < p.args.length
          · have hlt3 : decide (j < p.args.length) = true := decide_eq_true hlt
            obtain ⟨ad, hA, hq⟩ := (HP.out.1.1.below (below_vis HB.out hW.out h1 hws)) j hlt
            rw [hAA.out] at hA
            subst hA
            clear hAA
            have hmem := List.getElem_mem hlt
            have hBr := below_vis HB.out hW.out h1 hws
            have hBq := (hBr.alloc hBr.size (.cells p.args[j].cells.toArray 34))
            have hb1q := (Grew.alloc wr (.cells p.args[j].cells.toArray 34)).blk hb1r.out
            have hb2q : (wr.alloc (.cells p.args[j].cells.toArray 34)).cell? ⟨b2, 0, none⟩ = some (.func (.func 38) #[] #[.pointer (some ⟨b1, 0, none⟩), .pointer (some ⟨b2, 0, none⟩)]) := (Grew.alloc _ _).cell ((hW.out.cell (a := ⟨b2, 0, none⟩) hlt2 (Ne.symm hne)).trans HB2.out)
            have hih := Lib.hid (ih p.args[j] (lv + 1) cj b1 b2 w0 _ (HP.out.2 _ hmem) (HStr.out.2 _ hmem) (by omega) (by omega) hcj h1 h2 hne hBq hb1q hb2q)
            have hst := Lib.hid (visitsL_step (f := fun q c => visitX n q (lv + 1) c) (c := cj) hlt)
            have hWq := Lib.hid (hW.out.trans (Vis.of (b := b1) (Grew.alloc wr (.cells p.args[j].cells.toArray 34)).b))
            have hadd2 : IntKind.i64.wrap (lv + 1) = lv + 1 := IntWalk.i64_in _ (by omega)
            clear hBr hBq hb1q hmem
            generalize p.args[j] = q at *
            obtain ⟨g0, g1, g2, g3, g4, g5, g6'⟩ := hq
            generalize visitX n q (lv + 1) cj = r at *
            obtain ⟨r1, r2⟩ := r
            unfold PredD.cells at hih hb2q hWq
            by_cases hr : r1 = 0
            · have hr2 : (r1 != 0) = false := by rw [hr]; rfl
              have hG2 : Hid (visitX (n + 1) p lv c = visitsL (fun q c => visitX n q (lv + 1) c) (p.args.drop (j + 1)) r2) := Lib.hid (by rw [hG.out, hst.out, if_neg (by simpa using hr)])
              clear hr hst
              go_wp2_with (first
                | (go_at_call 38; (with_reducible refine hih.out.mono ?_); rintro e' w4 ⟨rfl, hk1, hk2, hk3⟩; have hk1 := Lib.hid hk1; have hk2 := Lib.hid hk2; have hk3 := Lib.hid hk3))
              exact ⟨⟨j + 1, r2, by omega, hk1.out, by go_num, hG2, hk2, Lib.hid (hWq.out.trans hk3.out)⟩, by simp [intOf]; omega⟩
            · have hr2 : (r1 != 0) = true := by rw [bne_iff_ne]; exact hr
              have hG2 : Hid (visitX (n + 1) p lv c = (r1, r2)) := Lib.hid (by rw [hG.out, hst.out, if_pos (by simpa using hr)])
              clear hr hst
              go_wp2_with (first
                | (go_at_call 38; (with_reducible refine hih.out.mono ?_); rintro e' w4 ⟨rfl, hk1, hk2, hk3⟩; have hk1 := Lib.hid hk1; have hk2 := Lib.hid hk2; have hk3 := Lib.hid hk3))
              go_ret
              exact ⟨by rw [hG2.out]; rfl, by rw [hG2.out]; exact hk1.out, by rw [hG2.out]; exact hk2.out, hWq.out.trans hk3.out⟩
          · have hj2 : j = p.args.length := by omega
            subst hj2
            have hlt3 : decide (p.args.length < p.args.length) = false := decide_eq_false hlt
            have hG2 : Hid (visitX (n + 1) p lv c = (0, cj)) := Lib.hid (by rw [hG.out, List.drop_length]; rfl)
            go_wp2_with fail
            go_ret
            exact ⟨by rw [hG2.out]; rfl, by rw [hG2.out]; exact hcj, by rw [hG2.out]; exact hb1r.out, hW.out⟩
      · have he2 : (e != 0) = true := by rw [bne_iff_ne]; exact he
        rw [if_pos (by simpa using he)] at hv
        clear he
        go_enter Tryz.func38, Tryz.ntmps38
        go_wp2_with (first
          | (go_at_call 39; (with_reducible refine (hnode.out _).mono ?_); rintro e' w3 ⟨rfl, hk⟩; have hM := Lib.hid (hmid.out w3 hk); have g6 : w3.cell? ⟨w.heap.size, 6, none⟩ = some (.slice A' p.args.length p.c) := (by rw [← hAA.out]; exact cell_blk hM.out.box 6 rfl); clear hk))
        go_ret
        exact ⟨by rw [hv.out]; rfl, by rw [hv.out]; show c + 1 ≤ 64; omega, by rw [hv.out]; have := hM.out.hb1; simpa using this, hM.out.vis⟩
theorem visit_any : ∀ n, VisitC n
  | 0 => fun p lv c b1 b2 w0 w hp => False.elim hp
  | n + 1 => visit_step n (visit_any n)
/-- The error of a predicate. -/
def predErr (n : Nat) (p : PredD) : Int := (visitX n p 1 0).1
set_option maxHeartbeats 4000000 in
theorem predCheck_any (n : Nat) (p : PredD) (w : World) (hp : PredLie n w p) (hstr : PredStr n p) :
    Calls Tryz.prog 25 #[.agg p.cells.toArray] w fun e w' => e = .returned (.int .i64 (predErr n p)) ∧ Below w.heap.size w w' := by
  have hc := Lib.hid (fun W h3 h4 h5 => visit_any n p 1 0 (w.heap.size + 1) (w.heap.size + 1 + 1) w W hp hstr (by decide) (by decide) (by decide) (by omega) (by omega) (by omega) h3 h4 h5)
  clear hp hstr
  unfold predErr
  generalize visitX n p 1 0 = r at *
  unfold PredD.cells at hc ⊢
  go_enter Tryz.func25, Tryz.ntmps25
  go_wp2_with (first
    | (go_at_call 38; (with_reducible refine (hc.out _ ?_ ?_ ?_).mono ?_)))
  · exact (((Below.refl _ w).alloc (Nat.le_refl _) _).alloc (by simp) _).alloc (by simp; omega) _
  · exact (Grew.alloc _ _).blk (blk_new' _ _ _ _ (by simp))
  · exact cell_new _ _ _ _ _ _ (by simp) rfl
  · rintro e w' ⟨rfl, h1, h2, h3⟩
    have hb := Lib.hid (below_vis ((((Below.refl _ w).alloc (Nat.le_refl _) _).alloc (by simp) _).alloc (by simp; omega) _) h3 (by omega) (by simp; omega))
    clear h2 h3
    go_wp2_with fail
    go_ret
    exact ⟨rfl, hb.out⟩
theorem visitsL_zero {f : PredD → Nat → Int × Nat} : ∀ {L : List PredD} {c : Nat}, (visitsL f L c).1 = 0 → ∀ q ∈ L, ∃ c', (f q c').1 = 0
  | [], _, _, q, hq => by cases hq
  | x :: l, c, h, q, hq => by
    unfold visitsL at h
    split at h
    · contradiction
    · rename_i h1
      rcases List.mem_cons.1 hq with rfl | hq
      · exact ⟨c, by simpa using h1⟩
      · exact visitsL_zero h q hq
/-- A predicate in order has one argument at least where it is a negation. -/
theorem visit_ok : ∀ {n : Nat} {W : World} {p : PredD} {lv : Int} {c : Nat}, PredLie n W p → (visitX n p lv c).1 = 0 → PredOK n W p
  | 0, _, _, _, _, h, _ => h
  | n + 1, W, p, lv, c, h, k => by
    unfold visitX at k
    split at k
    · cases k
    · split at k
      · cases k
      · split at k
        · rename_i h1
          exact absurd k h1
        · rename_i h1
          refine ⟨⟨h.1.1, h.1.2.1, h.1.2.2, fun h3 => ?_⟩, fun q hq => ?_⟩
          · simp only [ne_eq, Decidable.not_not] at h1
            unfold nodeP nodeX at h1
            rw [h3, if_pos (by decide)] at h1
            split at h1
            · cases h1
            · rename_i h2
              have h4 : argsB 3 p.args.length = decide (p.args.length = 1) := rfl
              rw [h4] at h2
              have : p.args.length = 1 := by simpa using h2
              omega
          · obtain ⟨c', hc⟩ := visitsL_zero k q hq
            exact visit_ok (h.2 q hq) hc
theorem predErr_ok {n : Nat} {W : World} {p : PredD} (h : PredLie n W p) (k : predErr n p = 0) : PredOK n W p := visit_ok h k
end Go.Proofs.YtnddlpfmagdbfaaGreatDoor
/- Contract: the error of a policy. -/
namespace Go.Proofs.YtnddlpfmagdbfaaGreatDoor
open Go Go.Proofs Go.RowKit
set_option linter.unusedVariables false
set_option linter.unusedSimpArgs false
def ruleErr (n : Nat) (q : RuleD) : Int := if predErr n q.p ≠ 0 then predErr n q.p else if q.e < 0 ∨ 10 < q.e then 2 else 0
/-- The first error of a list. -/
def firstErr {α : Type} (f : α → Int) : List α → Int
  | [] => 0
  | q :: l => if f q ≠ 0 then f q else firstErr f l
theorem firstErr_at {α : Type} (f : α → Int) : ∀ (L : List α) (j : Nat) (hj : j < L.length), f L[j] ≠ 0 → (∀ m (hm : m < j), f (L[m]'(by omega)) = 0) → firstErr f L = f L[j]
  | q :: l, 0, _, h, _ => by unfold firstErr; exact if_pos h
  | q :: l, j + 1, hj, h, k => by
    unfold firstErr
    have h0 : f q = 0 := k 0 (by omega)
    rw [if_neg (by rw [h0]; simp)]
    exact firstErr_at f l j (by simpa using hj) h (fun m hm => k (m + 1) (by omega))
theorem firstErr_none {α : Type} (f : α → Int) : ∀ (L : List α), (∀ m (hm : m < L.length), f L[m] = 0) → firstErr f L = 0
  | [], _ => rfl
  | q :: l, k => by
    unfold firstErr
    have h0 : f q = 0 := k 0 (by simp)
    rw [if_neg (by rw [h0]; simp)]
    exact firstErr_none f l (fun m hm => k (m + 1) (by simpa using hm))
/-- The error of a policy. -/
def polErr (n : Nat) (p : PolD) : Int := if 16 < p.rules.length then 6 else if firstErr (ruleErr n) p.rules ≠ 0 then firstErr (ruleErr n) p.rules else if p.d < 0 ∨ 10 < p.d then 2 else 0
theorem rule_cells {W : World} {a : Option Addr} {L : List RuleD} (h : RulesAt W a L) {j : Nat} (hj : j < L.length) : ∃ b o, a = some ⟨b, o, none⟩ ∧ ∀ k v, L[j].cells[k]? = some v → W.cell? ⟨b, o + j * 8 + k, none⟩ = some v := by
  obtain ⟨b, o, h1, h2, h3⟩ := rules_pred h hj
  refine ⟨b, o, h1, fun k v hv => ?_⟩
  unfold RuleD.cells at hv
  match k, hv with
  | 0, hv => exact h2 0 v hv
  | 1, hv => exact h2 1 v hv
  | 2, hv => exact h2 2 v hv
  | 3, hv => exact h2 3 v hv
  | 4, hv => exact h2 4 v hv
  | 5, hv => exact h2 5 v hv
  | 6, hv => exact h2 6 v hv
  | 7, hv => cases hv; exact h3
set_option maxHeartbeats 8000000 in
set_option maxRecDepth 20000 in
theorem polCheck_any (n : Nat) (p : PolD) (w : World) (hp : p.Lies n w) (hstr : ∀ q ∈ p.rules, PredStr n q.p) :
    Calls Tryz.prog 14 #[.agg p.cells.toArray] w fun e w' => e = .returned (.int .i64 (polErr n p)) ∧ Below w.heap.size w w' := by
  have hBx := Lib.hid ((Below.refl _ w).alloc (Nat.le_refl _) (.cells p.cells.toArray 24))
  have hPB := Lib.hid (blk_new w p.cells.toArray 24)
  have HP := Lib.hid hp
  have HS := Lib.hid hstr
  have hlen := hp.len
  clear hp hstr
  obtain ⟨A, c, rules, d⟩ := p
  unfold PolD.cells at hBx hPB ⊢
  simp only at hlen hBx hPB ⊢
  by_cases h16 : 16 < rules.length
  · have hd : decide ((16 : Int) < (rules.length : Int)) = true := decide_eq_true (by omega)
    have hv : Hid (polErr n ⟨A, c, rules, d⟩ = 6) := Lib.hid (by unfold polErr; exact if_pos h16)
    go_enter Tryz.func14, Tryz.ntmps14
    go_wp2_with fail
    go_ret
    exact ⟨by rw [hv.out]; rfl, hBx.out⟩
  · have hd : decide ((16 : Int) < (rules.length : Int)) = false := decide_eq_false (by omega)
    have hv : Hid (polErr n ⟨A, c, rules, d⟩ = if firstErr (ruleErr n) rules ≠ 0 then firstErr (ruleErr n) rules else if d < 0 ∨ 10 < d then 2 else 0) := Lib.hid (by unfold polErr; exact if_neg h16)
    go_enter Tryz.func14, Tryz.ntmps14
    go_wp2_with fail
    go_loopw [4, 5, 13] (fun a b i wr => ∃ j : Nat, j ≤ rules.length ∧ i = .int .i64 j ∧ Hid (∀ m (hm : m < j) (h : m < rules.length), ruleErr n rules[m] = 0) ∧ Hid (Below (w.alloc (.cells #[.slice A rules.length c, .int .i64 d] 24)).heap.size (w.alloc (.cells #[.slice A rules.length c, .int .i64 d] 24)) wr)) (fun _ _ i _ => rules.length - (intOf i).toNat)
    case atStart => exact ⟨0, by omega, rfl, Lib.hid (fun m hm => by omega), Lib.hid (Below.refl _ _)⟩
    case round =>
      obtain ⟨j, hj, rfl, hG, hK⟩ := hrel
      have hK2 := Lib.hid (hBx.out.trans (hK.out.mono hBx.out.size))
      by_cases hlt : j < rules.length
      · have hlt2 : decide (j < rules.length) = true := decide_eq_true hlt
        obtain ⟨b, o, hA, hcs⟩ := rule_cells (HP.out.below hK2.out).at_ hlt
        have hmem := List.getElem_mem hlt
        have hck := Lib.hid (fun W h => predCheck_any n rules[j].p W ((HP.out.ok _ hmem).below h) (HS.out _ hmem))
        have hstep := Lib.hid (fun (h : ruleErr n rules[j] = 0) m (hm : m < j + 1) (h' : m < rules.length) => (by
          by_cases e : m = j
          · subst e; exact h
          · exact hG.out m (by omega) h' : ruleErr n rules[m] = 0))
        have hfin : Hid (ruleErr n rules[j] ≠ 0 → polErr n ⟨A, c, rules, d⟩ = ruleErr n rules[j]) := Lib.hid (fun h => by
          have h1 := firstErr_at (ruleErr n) rules j hlt h (fun m hm => hG.out m hm (by omega))
          rw [hv.out, h1, if_pos h])
        subst hA
        generalize rules[j] = q at *
        have f0 : wr.cell? ⟨b, o + j * 8, none⟩ = some (.int .i64 q.p.t.op) := hcs 0 _ rfl
        have f1 : wr.cell? ⟨b, o + j * 8 + 1, none⟩ = some (.string q.p.t.field) := hcs 1 _ rfl
        have f2 : wr.cell? ⟨b, o + j * 8 + 2, none⟩ = some (.string q.p.t.key) := hcs 2 _ rfl
        have f3 : wr.cell? ⟨b, o + j * 8 + 3, none⟩ = some (.int .i64 q.p.t.kind) := hcs 3 _ rfl
        have f4 : wr.cell? ⟨b, o + j * 8 + 4, none⟩ = some (.string q.p.t.text) := hcs 4 _ rfl
        have f5 : wr.cell? ⟨b, o + j * 8 + 5, none⟩ = some (.int .i64 q.p.t.num) := hcs 5 _ rfl
        have f6 : wr.cell? ⟨b, o + j * 8 + 6, none⟩ = some (.slice q.p.A q.p.args.length q.p.c) := hcs 6 _ rfl
        have f7 : wr.cell? ⟨b, o + j * 8 + 7, none⟩ = some (.int .i64 q.e) := hcs 7 _ rfl
        clear hcs hmem
        have hck := Lib.hid (hck.out (wr.alloc (.cells q.cells.toArray 36)) (hK2.out.alloc hK2.out.size _))
        have hRB := Lib.hid (blk_new wr q.cells.toArray 36)
        have hgr := Lib.hid (Grew.alloc wr (.cells q.cells.toArray 36)).b
        unfold RuleD.cells at hck hRB hgr
        unfold PredD.cells at hck
        have hre : Hid (ruleErr n q = if predErr n q.p ≠ 0 then predErr n q.p else if q.e < 0 ∨ 10 < q.e then 2 else 0) := Lib.hid rfl
        generalize predErr n q.p = e at *
        by_cases he : e = 0
        · have he2 : (e != 0) = false := by rw [he]; rfl
          rw [if_neg (by simpa using he)] at hre
          clear he
          by_cases h0 : q.e < 0
          · have h0' : decide (q.e < 0) = true := decide_eq_true h0
            have hz : Hid (polErr n ⟨some ⟨b, o, none⟩, c, rules, d⟩ = 2) := Lib.hid (by rw [hfin.out (by rw [hre.out, if_pos (.inl h0)]; decide), hre.out, if_pos (.inl h0)])
            go_wp2_with (first
            | (go_at_call 25; (with_reducible refine hck.out.mono ?_); rintro e' w3 ⟨rfl, hk⟩; have hR3 := blk_keep hk hRB.out; have y7 : w3.cell? ⟨wr.heap.size, 7, none⟩ = some (.int .i64 q.e) := cell_blk hR3 7 rfl; have hk3 := Lib.hid (hK.out.trans ((hgr.out.trans (hk.mono hgr.out.size)).mono hK.out.size)); clear hR3 hk))
            go_ret
            exact ⟨by rw [hz.out]; rfl, hBx.out.trans (hk3.out.mono hBx.out.size)⟩
          · have h0' : decide (q.e < 0) = false := decide_eq_false h0
            by_cases h10 : 10 < q.e
            · have h10' : decide (10 < q.e) = true := decide_eq_true h10
              have hz : Hid (polErr n ⟨some ⟨b, o, none⟩, c, rules, d⟩ = 2) := Lib.hid (by rw [hfin.out (by rw [hre.out, if_pos (.inr h10)]; decide), hre.out, if_pos (.inr h10)])
              go_wp2_with (first
            | (go_at_call 25; (with_reducible refine hck.out.mono ?_); rintro e' w3 ⟨rfl, hk⟩; have hR3 := blk_keep hk hRB.out; have y7 : w3.cell? ⟨wr.heap.size, 7, none⟩ = some (.int .i64 q.e) := cell_blk hR3 7 rfl; have hk3 := Lib.hid (hK.out.trans ((hgr.out.trans (hk.mono hgr.out.size)).mono hK.out.size)); clear hR3 hk))
              go_ret
              exact ⟨by rw [hz.out]; rfl, hBx.out.trans (hk3.out.mono hBx.out.size)⟩
            · have h10' : decide (10 < q.e) = false := decide_eq_false h10
              have hz := Lib.hid (hstep.out (by rw [hre.out, if_neg (by omega)]))
              go_wp2_with (first
            | (go_at_call 25; (with_reducible refine hck.out.mono ?_); rintro e' w3 ⟨rfl, hk⟩; have hR3 := blk_keep hk hRB.out; have y7 : w3.cell? ⟨wr.heap.size, 7, none⟩ = some (.int .i64 q.e) := cell_blk hR3 7 rfl; have hk3 := Lib.hid (hK.out.trans ((hgr.out.trans (hk.mono hgr.out.size)).mono hK.out.size)); clear hR3 hk))
              exact ⟨⟨j + 1, by omega, by go_num, hz, hk3⟩, by simp [intOf]; omega⟩
        · have he2 : (e != 0) = true := by rw [bne_iff_ne]; exact he
          rw [if_pos (by simpa using he)] at hre
          have hz : Hid (polErr n ⟨some ⟨b, o, none⟩, c, rules, d⟩ = e) := Lib.hid (by rw [hfin.out (by rw [hre.out]; exact he), hre.out])
          clear he
          go_wp2_with (first
            | (go_at_call 25; (with_reducible refine hck.out.mono ?_); rintro e' w3 ⟨rfl, hk⟩; have hR3 := blk_keep hk hRB.out; have y7 : w3.cell? ⟨wr.heap.size, 7, none⟩ = some (.int .i64 q.e) := cell_blk hR3 7 rfl; have hk3 := Lib.hid (hK.out.trans ((hgr.out.trans (hk.mono hgr.out.size)).mono hK.out.size)); clear hR3 hk))
          go_ret
          exact ⟨by rw [hz.out]; rfl, hBx.out.trans (hk3.out.mono hBx.out.size)⟩
      · have hj2 : j = rules.length := by omega
        subst hj2
        have hlt2 : decide (rules.length < rules.length) = false := decide_eq_false hlt
        have hn0 : firstErr (ruleErr n) rules = 0 := firstErr_none _ _ (fun m hm => hG.out m hm hm)
        rw [hn0] at hv
        have hP3 := blk_keep hK.out hPB.out
        have y1 : wr.cell? ⟨w.heap.size, 1, none⟩ = some (.int .i64 d) := cell_blk hP3 1 rfl
        clear hP3 hn0
        by_cases h0 : d < 0
        · have h0' : decide (d < 0) = true := decide_eq_true h0
          have hz : Hid (polErr n ⟨A, c, rules, d⟩ = 2) := Lib.hid (by rw [hv.out, if_neg (by decide), if_pos (.inl h0)])
          go_wp2_with fail
          go_ret
          exact ⟨by rw [hz.out]; rfl, hK2.out⟩
        · have h0' : decide (d < 0) = false := decide_eq_false h0
          by_cases h10 : 10 < d
          · have h10' : decide (10 < d) = true := decide_eq_true h10
            have hz : Hid (polErr n ⟨A, c, rules, d⟩ = 2) := Lib.hid (by rw [hv.out, if_neg (by decide), if_pos (.inr h10)])
            go_wp2_with fail
            go_ret
            exact ⟨by rw [hz.out]; rfl, hK2.out⟩
          · have h10' : decide (10 < d) = false := decide_eq_false h10
            have hz : Hid (polErr n ⟨A, c, rules, d⟩ = 0) := Lib.hid (by rw [hv.out, if_neg (by decide), if_neg (by omega)])
            go_wp2_with fail
            go_ret
            exact ⟨by rw [hz.out]; rfl, hK2.out⟩
theorem firstErr_zero {α : Type} {f : α → Int} : ∀ {L : List α}, firstErr f L = 0 → ∀ x ∈ L, f x = 0
  | [], _, x, hx => by cases hx
  | y :: l, h, x, hx => by
    unfold firstErr at h
    split at h
    · contradiction
    · rename_i h1
      rcases List.mem_cons.1 hx with rfl | hx
      · simpa using h1
      · exact firstErr_zero h x hx
theorem polErr_rules {n : Nat} {p : PolD} (h : polErr n p = 0) : (∀ q ∈ p.rules, predErr n q.p = 0 ∧ 0 ≤ q.e ∧ q.e ≤ 10) ∧ 0 ≤ p.d ∧ p.d ≤ 10 := by
  unfold polErr at h
  split at h
  · cases h
  · split at h
    · contradiction
    · rename_i h1
      split at h
      · cases h
      · rename_i h2
        simp only [ne_eq, Decidable.not_not] at h1
        refine ⟨fun q hq => ?_, by omega⟩
        have h3 := firstErr_zero h1 q hq
        unfold ruleErr at h3
        split at h3
        · contradiction
        · rename_i h4
          split at h3
          · cases h3
          · exact ⟨by simpa using h4, by omega⟩
theorem PolD.Lies.held_ok {n : Nat} {w : World} {p : PolD} (h : p.Lies n w) (k : polErr n p = 0) : p.Held n w := ⟨h.at_, h.len, fun q hq => predErr_ok (h.ok q hq) ((polErr_rules k).1 q hq).1⟩
end Go.Proofs.YtnddlpfmagdbfaaGreatDoor
/- Contracts: the error of a span's links. -/
namespace Go.Proofs.YtnddlpfmagdbfaaGreatDoor
open Go Go.Proofs Go.RowKit
set_option linter.unusedVariables false
set_option linter.unusedSimpArgs false
theorem orE_any (a : Option Addr) (L : List Int) (n c : Nat) (w : World) (hn : n = L.length) (h : IntsIn w a L) (hl : L.length ≤ 1000) :
    Calls Tryz.prog 42 #[.slice a n c] w fun e w' => e = .returned (.int .i64 (orI L)) ∧ w' = w := by
  subst hn
  have HR := Lib.hid h
  clear h
  go_enter Tryz.func42, Tryz.ntmps42
  go_wp2
  go_loopw [5, 8] (fun t i wr => ∃ j : Nat, j ≤ L.length ∧ i = .int .i64 j ∧ Hid (orI (L.drop j) = orI L) ∧ wr = w) (fun _ i _ => L.length - (intOf i).toNat)
  case atStart => exact ⟨0, by omega, rfl, Lib.hid rfl, rfl⟩
  case round =>
    obtain ⟨j, hj, rfl, hG, rfl⟩ := hrel
    by_cases hlt : j < L.length
    · obtain ⟨ad, rfl, hc⟩ := HR.out j hlt
      have hd := Lib.hid (orI_drop hlt)
      generalize L[j] = x at *
      by_cases hx : x = 0
      · subst hx
        have hn : Hid (orI (L.drop (j + 1)) = orI L) := Lib.hid (by rw [← hG.out, hd.out]; rfl)
        go_wp2
        exact ⟨⟨j + 1, by omega, by go_num, hn, trivial⟩, by simp [intOf]; omega⟩
      · have hn : Hid (x = orI L) := Lib.hid (by rw [← hG.out, hd.out, if_pos hx])
        have hb : (x != 0) = true := by simpa using hx
        clear hx
        go_wp2
        go_ret
        exact ⟨by rw [← hn.out]; rfl, rfl⟩
    · obtain rfl : j = L.length := by omega
      have hn : Hid (0 = orI L) := Lib.hid (by rw [← hG.out, List.drop_length]; rfl)
      go_wp2
      go_ret
      exact ⟨by rw [← hn.out]; rfl, rfl⟩
def badX (n : Int) : Bool := decide (n < 1) || decide (1099511627776 < n)
theorem badId_any (n : Int) (w : World) : Calls Tryz.prog 40 #[.int .i64 n] w fun e w' => e = .returned (.bool (badX n)) ∧ w' = w := by
  unfold badX
  by_cases h0 : n < 1
  · have h0' : decide (n < 1) = true := decide_eq_true h0
    rw [h0']
    go_enter Tryz.func40, Tryz.ntmps40
    go_wp2_with fail
    go_ret
    exact ⟨rfl, rfl⟩
  · have h0' : decide (n < 1) = false := decide_eq_false h0
    rw [h0']
    go_enter Tryz.func40, Tryz.ntmps40
    go_wp2_with fail
    go_ret
    exact ⟨by simp, rfl⟩
/-- The error of a link behind another one. -/
def linkErr (prev : Option RefD) (x : RefD) : Int :=
  if badX x.trace = true ∨ badX x.id = true then 2 else match prev with | none => 0 | some y => if 0 ≤ cmpR y x then 8 else 0
def linksFrom : Option RefD → List RefD → Int
  | _, [] => 0
  | p, x :: l => if linkErr p x ≠ 0 then linkErr p x else linksFrom (some x) l
def linksErr (L : List RefD) : Int := if 16 < L.length then 6 else linksFrom none L
theorem linksFrom_drop {L : List RefD} {p : Option RefD} {j : Nat} (h : j < L.length) : linksFrom p (L.drop j) = if linkErr p L[j] ≠ 0 then linkErr p L[j] else linksFrom (some L[j]) (L.drop (j + 1)) := by
  rw [List.drop_eq_getElem_cons h]; rfl
def prevOf {α : Type} (L : List α) : Nat → Option α
  | 0 => none
  | j + 1 => L[j]?
theorem refs_cells {W : World} {a : Option Addr} {L : List RefD} (h : RefsAt W a L) {j : Nat} (hj : j < L.length) : ∃ b o, a = some ⟨b, o, none⟩ ∧ W.rangeAt b (o + j * 2) L[j].cells := by
  obtain ⟨⟨b, o, g⟩, h1, h2, h3⟩ := h j hj
  cases g with
  | none =>
    rw [Addr.add_mid] at h2 h3
    refine ⟨b, o, h1, fun k v hv => ?_⟩
    unfold RefD.cells at hv
    match k, hv with
    | 0, hv => cases hv; exact h2
    | 1, hv => cases hv; exact h3
  | some g =>
    exfalso
    obtain ⟨ad, k1, k2, _⟩ := h 0 (by omega)
    obtain rfl : (⟨b, o, some g⟩ : Addr) = ad := Option.some.inj (h1.symm.trans k1)
    unfold World.cell? Addr.add at k2
    revert k2
    simp
    split <;> simp
theorem rowR : ∃ d, Tryz.prog.underlying 113 = some d ∧ d.isRow = true := ⟨_, Tryz.underlying113, rfl⟩
set_option maxHeartbeats 8000000 in
set_option maxRecDepth 20000 in
theorem links_any (a : Option Addr) (L : List RefD) (n c : Nat) (hn : n = L.length) (w : World) (h : RefsAt w a L) (hl : L.length ≤ 9223372036854775807) :
    Calls Tryz.prog 44 #[.slice a n c] w fun e w' => e = .returned (.int .i64 (linksErr L)) ∧ Below w.heap.size w w' := by
  subst hn
  have HR := Lib.hid h
  clear h
  by_cases h16 : 16 < L.length
  · have hd : decide ((16 : Int) < (L.length : Int)) = true := decide_eq_true (by omega)
    have hv : Hid (linksErr L = 6) := Lib.hid (by unfold linksErr; exact if_pos h16)
    go_enter Tryz.func44, Tryz.ntmps44
    go_wp2_with fail
    go_ret
    exact ⟨by rw [hv.out]; rfl, Below.refl _ _⟩
  · have hd : decide ((16 : Int) < (L.length : Int)) = false := decide_eq_false (by omega)
    have hv : Hid (linksErr L = linksFrom none L) := Lib.hid (by unfold linksErr; exact if_neg h16)
    go_enter Tryz.func44, Tryz.ntmps44
    go_wp2_with fail
    go_loopw [3, 4, 10] (fun a b i wr => ∃ j : Nat, j ≤ L.length ∧ i = .int .i64 j ∧ Hid (linksErr L = linksFrom (prevOf L j) (L.drop j)) ∧ Hid (Below w.heap.size w wr)) (fun _ _ i _ => L.length - (intOf i).toNat)
    case atStart => exact ⟨0, by omega, rfl, hv, Lib.hid (Below.refl _ _)⟩
    case round =>
      obtain ⟨j, hj, rfl, hG, hK⟩ := hrel
      by_cases hlt : j < L.length
      · have hlt2 : decide (j < L.length) = true := decide_eq_true hlt
        obtain ⟨b, o, hA, hrg⟩ := refs_cells (refs_below HR.out hK.out) hlt
        subst hA
        have g0 : wr.cell? ⟨b, o + j * 2, none⟩ = some (.int .i64 L[j].trace) := hrg 0 _ rfl
        have g1 : wr.cell? ⟨b, o + j * 2 + 1, none⟩ = some (.int .i64 L[j].id) := hrg 1 _ rfl
        clear hrg
        have hD := Lib.hid (linksFrom_drop (p := prevOf L j) hlt)
        have hp1 : prevOf L (j + 1) = some L[j] := List.getElem?_eq_getElem hlt
        have hnext : Hid (linkErr (prevOf L j) L[j] = 0 → linksErr L = linksFrom (prevOf L (j + 1)) (L.drop (j + 1))) := Lib.hid (fun h => by rw [hG.out, hD.out, if_neg (by rw [h]; decide), hp1])
        have hfin : Hid (linkErr (prevOf L j) L[j] ≠ 0 → linksErr L = linkErr (prevOf L j) L[j]) := Lib.hid (fun h => by rw [hG.out, hD.out, if_pos h])
        have hKA := Lib.hid (hK.out.alloc hK.out.size (.cells #[.int .i64 L[j].trace, .int .i64 L[j].id] 113))
        clear hD hp1
        by_cases h0 : j = 0
        · have hj0 : decide ((0 : Int) < (j : Int)) = false := decide_eq_false (by omega)
          have hj1 : decide (0 < j) = false := decide_eq_false (by omega)
          have hj2 : ¬ 0 < j := by omega
          have hpn : prevOf L j = none := by rw [h0]; rfl
          generalize L[j] = x at *
          rw [hpn] at hnext hfin
          have hle : Hid (linkErr none x = if badX x.trace = true ∨ badX x.id = true then 2 else 0) := Lib.hid rfl
          generalize linkErr none x = le at *
          clear hpn h0
          cases hb1 : badX x.trace
          · cases hb2 : badX x.id
            · have hz := Lib.hid (hnext.out (by rw [hle.out, hb1, hb2]; simp))
              clear hfin hnext hle
              go_wp2_with (first
                | (go_at_call 40; (with_reducible refine (badId_any _ _).mono ?_); rintro e w' ⟨rfl, rfl⟩))
              go_quiet (fail)
              go_wp2_with fail
              exact ⟨⟨j + 1, by omega, by go_num, hz, Lib.hid (hKA.out.trans ((Grew.drewN _ nq).b.mono hKA.out.size))⟩, by simp [intOf]; omega⟩
            · have hz := Lib.hid (hfin.out (by rw [hle.out, hb1, hb2]; simp))
              have hz2 : Hid (linksErr L = 2) := Lib.hid (by rw [hz.out, hle.out, hb1, hb2]; simp)
              clear hfin hnext hle hz
              go_wp2_with (first
                | (go_at_call 40; (with_reducible refine (badId_any _ _).mono ?_); rintro e w' ⟨rfl, rfl⟩))
              go_ret
              exact ⟨by rw [hz2.out]; rfl, hKA.out⟩
          · have hz := Lib.hid (hfin.out (by rw [hle.out, hb1]; simp))
            have hz2 : Hid (linksErr L = 2) := Lib.hid (by rw [hz.out, hle.out, hb1]; simp)
            clear hfin hnext hle hz
            go_wp2_with (first
                | (go_at_call 40; (with_reducible refine (badId_any _ _).mono ?_); rintro e w' ⟨rfl, rfl⟩))
            go_ret
            exact ⟨by rw [hz2.out]; rfl, hKA.out⟩
        · have hj0 : decide ((0 : Int) < (j : Int)) = true := decide_eq_true (by omega)
          have hj1 : decide (0 < j) = true := decide_eq_true (by omega)
          have hj2 : 0 < j := by omega
          obtain ⟨m, hm⟩ : ∃ m, j = m + 1 := ⟨j - 1, by omega⟩
          have hml : m < L.length := by omega
          obtain ⟨b', o', hA', hyr⟩ := refs_cells (refs_below HR.out hK.out) hml
          obtain ⟨rfl, rfl⟩ : b' = b ∧ o' = o := by cases hA'; exact ⟨rfl, rfl⟩
          have hyl := rangeAt_lt hyr (Nat.succ_pos _)
          have hpn : prevOf L j = some L[m] := by rw [hm]; exact List.getElem?_eq_getElem hml
          have hw1 : IntKind.i64.wrap ((j : Int) - 1) = (m : Int) := by rw [IntWalk.i64_in _ (by omega)]; omega
          generalize L[j] = x at *
          generalize L[m] = y at *
          rw [hpn] at hnext hfin
          have hle : Hid (linkErr (some y) x = if badX x.trace = true ∨ badX x.id = true then 2 else if 0 ≤ cmpR y x then 8 else 0) := Lib.hid rfl
          generalize linkErr (some y) x = le at *
          have hjm := Lib.hid hm
          clear hpn hA' hm
          cases hb1 : badX x.trace
          · cases hb2 : badX x.id
            · have hz0 : Hid (le = if 0 ≤ cmpR y x then 8 else 0) := Lib.hid (by rw [hle.out, hb1, hb2]; simp)
              clear hle
              have hxr := Lib.hid (fun W (h : Below (wr.alloc (.cells #[.int .i64 x.trace, .int .i64 x.id] 113)).heap.size (wr.alloc (.cells #[.int .i64 x.trace, .int .i64 x.id] 113)) W) k v (hv : x.cells[k]? = some v) => (cell_blk (blk_keep h (blk_new wr #[.int .i64 x.trace, .int .i64 x.id] 113)) (0 + k) (by rw [Nat.zero_add]; show x.cells.toArray[k]? = some v; simpa using hv) : W.cell? ⟨wr.heap.size, 0 + k, none⟩ = some v))
              have hyr2 := Lib.hid (fun W (h : Below (wr.alloc (.cells #[.int .i64 x.trace, .int .i64 x.id] 113)).heap.size (wr.alloc (.cells #[.int .i64 x.trace, .int .i64 x.id] 113)) W) => rangeAt_below (rangeAt_grew hyr (Nat.succ_pos _) (Grew.alloc wr (.cells #[.int .i64 x.trace, .int .i64 x.id] 113))) (by simp; omega) h)
              obtain ⟨dR, hdR, hdR'⟩ := rowR
              clear hyr
              go_wp2_with (first
                | (go_at_call 40; (with_reducible refine (badId_any _ _).mono ?_); rintro e w' ⟨rfl, rfl⟩))
              refine wp_region_quiet (C := Below (wr.alloc (.cells #[.int .i64 x.trace, .int .i64 x.id] 113)).heap.size (wr.alloc (.cells #[.int .i64 x.trace, .int .i64 x.id] 113))) (by kernel_rfl) (by kernel_rfl) (below_drew _) ?_
              iterate 7
                refine wpQuiet_step (fun K hK => ?_)
                go_simp
                first
                  | (refine ⟨_, fun _ _ => rfl, hK _ ?_⟩; clear hK K)
              refine wpQuiet_step (fun K hK => ?_)
              refine quiet_load (by rfl) 113 (.tmp 31) rfl b' _ rfl y.cells dR (fun W hW' => hyr2.out W hW') hdR hdR' (by kernel_rfl) (hK _ ?_)
              clear hK K
              refine wpQuiet_step (fun K hK => ?_)
              refine quiet_load (by rfl) 113 (.tmp 4) rfl wr.heap.size _ rfl x.cells dR (fun W hW' => hxr.out W hW') hdR hdR' (by kernel_rfl) (hK _ ?_)
              clear hK K
              have hcr := Lib.hid (fun W => cmpR_any y x W)
              generalize cmpR y x = r at *
              by_cases hr : 0 ≤ r
              · have hr1 : decide (0 ≤ r) = true := decide_eq_true hr
                have hz : Hid (linksErr L = 8) := Lib.hid (by rw [hfin.out (by rw [hz0.out, if_pos hr]; decide), hz0.out, if_pos hr])
                iterate 4
                  refine wpQuiet_step (fun K hK => ?_)
                  go_simp
                  first
                    | (refine ⟨_, fun _ _ => rfl, hK _ ?_⟩; clear hK K)
                    | (refine ⟨_, fun W' hW' => (hcr.out W').mono (fun e w' h => ⟨h.1, hW'.trans (h.2.b.mono (by have := hW'.size; simpa using this))⟩), hK _ ?_⟩; clear hK K)
                refine wpQuiet_nil ?_
                intro W hW
                have hW2 := Lib.hid (hKA.out.trans (hW.mono hKA.out.size))
                clear hW
                go_wp2_with fail
                go_ret
                exact ⟨by rw [hz.out]; rfl, hW2.out⟩
              · have hr1 : decide (0 ≤ r) = false := decide_eq_false hr
                have hz := Lib.hid (hnext.out (by rw [hz0.out, if_neg hr]))
                iterate 4
                  refine wpQuiet_step (fun K hK => ?_)
                  go_simp
                  first
                    | (refine ⟨_, fun _ _ => rfl, hK _ ?_⟩; clear hK K)
                    | (refine ⟨_, fun W' hW' => (hcr.out W').mono (fun e w' h => ⟨h.1, hW'.trans (h.2.b.mono (by have := hW'.size; simpa using this))⟩), hK _ ?_⟩; clear hK K)
                refine wpQuiet_nil ?_
                intro W hW
                have hW2 := Lib.hid (hKA.out.trans (hW.mono hKA.out.size))
                clear hW
                go_wp2_with fail
                exact ⟨⟨j + 1, by omega, by go_num, hz, hW2⟩, by simp [intOf]; omega⟩
            · have hz := Lib.hid (hfin.out (by rw [hle.out, hb1, hb2]; simp))
              have hz2 : Hid (linksErr L = 2) := Lib.hid (by rw [hz.out, hle.out, hb1, hb2]; simp)
              clear hfin hnext hle hz
              go_wp2_with (first
                | (go_at_call 40; (with_reducible refine (badId_any _ _).mono ?_); rintro e w' ⟨rfl, rfl⟩))
              go_ret
              exact ⟨by rw [hz2.out]; rfl, hKA.out⟩
          · have hz := Lib.hid (hfin.out (by rw [hle.out, hb1]; simp))
            have hz2 : Hid (linksErr L = 2) := Lib.hid (by rw [hz.out, hle.out, hb1]; simp)
            clear hfin hnext hle hz
            go_wp2_with (first
                | (go_at_call 40; (with_reducible refine (badId_any _ _).mono ?_); rintro e w' ⟨rfl, rfl⟩))
            go_ret
            exact ⟨by rw [hz2.out]; rfl, hKA.out⟩
      · have hj2 : j = L.length := by omega
        subst hj2
        have hlt2 : decide (L.length < L.length) = false := decide_eq_false hlt
        have hz : Hid (linksErr L = 0) := Lib.hid (by rw [hG.out, List.drop_length]; cases prevOf L L.length <;> rfl)
        go_wp2_with fail
        go_ret
        exact ⟨by rw [hz.out]; rfl, hK.out⟩
end Go.Proofs.YtnddlpfmagdbfaaGreatDoor
