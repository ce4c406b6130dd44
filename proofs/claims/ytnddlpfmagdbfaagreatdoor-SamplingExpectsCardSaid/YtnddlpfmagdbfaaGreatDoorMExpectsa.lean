/- Further part 1 of the proof: contracts. Contract: the policy that is described; A plan, opened out of its reading; Plain law: the policy that is described is in order; Contract: sampling.Sample; Plain law: what a policy gives does not depend on addresses; Plain law: sampling traces without addresses, once and once more; Contract: the law's same, where two lists of traces are alike but for addresses; The contracts of a described policy and of Sample, packed for the laws; The self-test and the table of math/bits, from what the row lays; What the laws' arguments hold; policies that are alike; Plain law: the weights with which a trace i. -/
import Derived.Test.YtnddlpfmagdbfaaGreatDoorMSamplesd
import Derived.Test.YtnddlpfmagdbfaaGreatDoorMSamplesc
import Derived.Test.YtnddlpfmagdbfaaGreatDoorMSamplesa
import Derived.Test.YtnddlpfmagdbfaaGreatDoorMSamplesb
import Derived.Maps.OwnOps
import Derived.Maps.Views
/- Contract: the policy that is described. -/
namespace Go.Proofs.YtnddlpfmagdbfaaGreatDoor.Sto
open Go Go.Ev Go.Proofs Go.RowKit
set_option linter.unusedVariables false
set_option linter.unusedSimpArgs false
/-- The pairs of a plan lie there. -/
def PairsAt (W : World) (A : Option Addr) (L : List (Int × Int)) : Prop := ∀ j (h : j < L.length), ∃ ad, A = some ad ∧ W.cell? (ad.add (j * 2)) = some (.int .u8 L[j].1) ∧ W.cell? ⟨(ad.add (j * 2)).block, (ad.add (j * 2)).off + 1, none⟩ = some (.int .u8 L[j].2) ∧ isU8 L[j].1 ∧ isU8 L[j].2
theorem cell_keep {W W' : World} {p : Addr} {v : Value} (h : W.cell? p = some v) (k : Below W.heap.size W W') : W'.cell? p = some v := (k.cell (World.block_lt_of_cell? W _ h)).trans h
theorem PairsAt.below {W W' : World} {A : Option Addr} {L : List (Int × Int)} (h : PairsAt W A L) (k : Below W.heap.size W W') : PairsAt W' A L := fun j hj =>
  let ⟨ad, e, h0, h1, h2⟩ := h j hj
  ⟨ad, e, cell_keep h0 k, cell_keep h1 k, h2⟩
def ruleX (q : Int × Int) : RuleD := ⟨whereX q.1.toNat, q.2 % 11⟩
/-- The policy that is described, without addresses. -/
def policyX (L : List (Int × Int)) (d : Int) : PolD := ⟨none, 0, (L.take 3).map ruleX, d % 11⟩
/-- A rule that needs the blocks of an interval. -/
structure RuleOwn (B : Nat) (W : World) (o : Option Nat) (q : RuleD) : Prop where
  blk : ∃ lo hi, B ≤ lo ∧ hi ≤ W.heap.size ∧ (∀ W', (∀ b, lo ≤ b → b < hi → W'.heap[b]? = W.heap[b]?) → PredOK 5 W' q.p) ∧ (∀ r, o = some r → r < lo ∨ hi ≤ r)
  str : PredStr 5 q.p
def cellsR (M : List RuleD) : List Value := M.flatMap RuleD.cells
/-- A row of rules that has been made since a block. -/
structure RulesX (B : Nat) (W : World) (v : Value) (M : List RuleD) : Prop where
  row : W.ownsRow B 36 8 v M.length (cellsR M)
  own : ∀ q ∈ M, RuleOwn B W v.ownBlock q
theorem row_agree {W W' : World} {base : Nat} {e : TypeId} {size : Nat} {v : Value} {k : Nat} {xs : List Value} (h : W.ownsRow base e size v k xs) (hk : ∀ b, base ≤ b → b < W.heap.size → W'.heap[b]? = W.heap[b]?) : W'.ownsRow base e size v k xs := by
  refine ⟨h.1, ?_⟩
  rcases h.2 with h0 | ⟨g, cap, cur, h1, h2, h3, h4⟩
  · exact .inl h0
  · exact .inr ⟨g, cap, cur, h1, h2, (hk g h2 (blk_lt h3)).trans h3, h4⟩
theorem RulesX.agree {B : Nat} {W W' : World} {v : Value} {M : List RuleD} (h : RulesX B W v M) (hk : ∀ b, B ≤ b → b < W.heap.size → W'.heap[b]? = W.heap[b]?) (hs : W.heap.size ≤ W'.heap.size) : RulesX B W' v M :=
  ⟨row_agree h.row hk, fun q hq => ⟨let ⟨lo, hi, h1, h2, h3, h4⟩ := (h.own q hq).blk; ⟨lo, hi, h1, Nat.le_trans h2 hs, fun W2 k2 => h3 W2 fun b b1 b2 => (k2 b b1 b2).trans (hk b (by omega) (by omega)), h4⟩, (h.own q hq).str⟩⟩
theorem RulesX.below {B : Nat} {W W' : World} {v : Value} {M : List RuleD} (h : RulesX B W v M) (k : Below W.heap.size W W') : RulesX B W' v M := h.agree (fun b _ hb => k.block b hb) k.size
theorem RulesX.snoc {B : Nat} {W W1 W2 : World} {v v' : Value} {M : List RuleD} {q : RuleD} (h : RulesX B W v M) (hB : B ≤ W.heap.size) (hb : Below W.heap.size W W1) {lo hi : Nat} (h1 : W.heap.size ≤ lo) (h2 : hi ≤ W1.heap.size) (h3 : ∀ W', (∀ b, lo ≤ b → b < hi → W'.heap[b]? = W1.heap[b]?) → PredOK 5 W' q.p) (h4 : PredStr 5 q.p)
    (hr : W2.ownsRow B 36 8 v' (M.length + 1) (cellsR M ++ q.cells)) (hg : W1.grownBy W2 v.ownBlock) (hat : v'.ownBlock = v.ownBlock ∨ v'.ownBlock = some W1.heap.size) : RulesX B W2 v' (M ++ [q]) := by
  refine ⟨by rw [List.length_append, List.length_singleton, cellsR, List.flatMap_append, List.flatMap_singleton]; exact hr, fun x hx => ?_⟩
  have hv : ∀ r, v.ownBlock = some r → r < W.heap.size := fun r hr' => (h.row.lt r hr').2
  rcases List.mem_append.1 hx with hx | hx
  · obtain ⟨⟨lo', hi', a1, a2, a3, a4⟩, a5⟩ := h.own x hx
    refine ⟨⟨lo', hi', a1, by have := hb.size; have := hg.size; omega, fun W' hW' => a3 W' fun b b1 b2 => ?_, fun r hr' => ?_⟩, a5⟩
    · rw [hW' b b1 b2, hg.block b (by have := hb.size; omega) (fun e => by have := a4 b e.symm; omega), hb.block b (by omega)]
    · rcases hat with e | e
      · exact a4 r (e.symm.trans hr')
      · have := hb.size; rw [e] at hr'; cases hr'; omega
  · obtain rfl := List.mem_singleton.1 hx
    refine ⟨⟨lo, hi, by omega, by have := hg.size; omega, fun W' hW' => h3 W' fun b b1 b2 => ?_, fun r hr' => ?_⟩, h4⟩
    · rw [hW' b b1 b2, hg.block b (by omega) (fun e => by have := hv b e.symm; omega)]
    · rcases hat with e | e
      · have := hv r (e.symm.trans hr'); omega
      · rw [e] at hr'; cases hr'; omega
theorem RulesX.mono {B B' : Nat} {W : World} {v : Value} {M : List RuleD} (h : RulesX B W v M) (k : B' ≤ B) : RulesX B' W v M :=
  ⟨row_mono h.row k, fun q hq => ⟨let ⟨lo, hi, h1, h2⟩ := (h.own q hq).blk; ⟨lo, hi, Nat.le_trans k h1, h2⟩, (h.own q hq).str⟩⟩
/-- What stands while a rule is put to the row. -/
def PolS (w0 : World) (g : Nat) (ad : Addr) (j : Nat) (n c : Nat) (x y : Int) (W : World) : Prop := Below (g + 1 + 1) w0 W ∧ W.cell? ⟨g, 0, none⟩ = some (.slice (some ad) n c) ∧ W.cell? (ad.add (j * 2)) = some (.int .u8 x) ∧ W.cell? ⟨(ad.add (j * 2)).block, (ad.add (j * 2)).off + 1, none⟩ = some (.int .u8 y)
/-- What stands while the rule's region is on its way. -/
def PolI (w0 : World) (g : Nat) (ad : Addr) (j n c x : Nat) (y d e : Int) (a3 : Option Addr) (c3 : Nat) (M : List RuleD) (A : Act) (L : Nat → Prop) (a' : Act) (W : World) : Prop :=
  PolS w0 g ad j n c x y W ∧ ∃ (p : PredD) (lo hi : Nat) (x22 x29 x38 x39 x40 x41 : Value), a' = ((((((A.put (some 22) x22).put (some 29) x29).put (some 38) x38).put (some 39) x39).put (some 40) x40).put (some 41) x41) ∧
    (L 17 → L 8) ∧ (L 18 → L 17) ∧ (L 19 → L 18 ∧ L 1) ∧ (L 21 → L 19 ∧ L 20) ∧ (L 20 → x41 = .pointer (some ⟨g + 1 + 1, 0, none⟩)) ∧
    (¬ L 19 → Below w0.heap.size w0 W) ∧ (g + 1 + 1 < W.heap.size) ∧
    (¬ L 21 → W.heap[g + 1 + 1]? = some (.cells #[.slice a3 M.length c3, .int .i64 d] 24 (0, 0))) ∧
    (L 1 → x22 = .slice a3 M.length c3) ∧
    (L 8 → x29 = .agg p.cells.toArray ∧ w0.heap.size ≤ lo ∧ hi ≤ W.heap.size ∧ (∀ W', (∀ b, lo ≤ b → b < hi → W'.heap[b]? = W.heap[b]?) → PredOK 5 W' p) ∧ PredStr 5 p ∧ SameP 5 p (whereX x)) ∧
    (L 17 → x38 = .agg (RuleD.mk p e).cells.toArray) ∧
    (L 18 → ¬ L 19 → ∃ g', x39 = .slice (some ⟨g', 0, none⟩) 1 1 ∧ W.heap[g']? = some (.cells (RuleD.mk p e).cells.toArray 36 (0, 0))) ∧
    (L 19 → RulesX (g + 3) W x40 (M ++ [⟨p, e⟩])) ∧
    (L 21 → W.heap[g + 1 + 1]? = some (.cells #[x40, .int .i64 d] 24 (0, 0)))
theorem infoR : infoSz 8 (Tryz.prog.info? 36) = true := by kernel_rfl
set_option maxRecDepth 20000 in
set_option maxHeartbeats 8000000 in
theorem policy_any (A : Option Addr) (L : List (Int × Int)) (c : Nat) (d : Int) (hd : isU8 d) (hl : L.length ≤ 9223372036854775807) (w : World) (hA : PairsAt w A L) :
    Calls Tryz.prog 19 #[.agg #[.slice A L.length c, .int .u8 d]] w fun e w' => (∃ v M, e = .returned (.agg #[v, .int .i64 (d % 11)]) ∧ RulesX w.heap.size w' v M ∧ M.length = min L.length 3 ∧ (∀ j (h : j < M.length) (h' : j < L.length), M[j].e = L[j].2 % 11 ∧ SameP 5 M[j].p (whereX L[j].1.toNat))) ∧ Below w.heap.size w w' := by
  obtain ⟨t3, z3, ht3, ht3z, ht3s, ht3b, ht3c⟩ := infoSz_spec infoR
  have HA := Lib.hid hA
  unfold isU8 at hd
  obtain ⟨hd0, hd4⟩ := hd
  have hd2 : 0 ≤ d % 11 := by omega
  have hd3 : d % 11 < 11 := by omega
  clear hA
  go_enter Tryz.func19, Tryz.ntmps19
  go_wp2_with fail
  go_loopw [4] (fun i wr => ∃ (j : Nat) (v : Value) (M : List RuleD), j ≤ L.length ∧ j ≤ 3 ∧ i = .int .i64 j ∧ M.length = j ∧ Hid (RulesX (w.heap.size + 3) wr v M) ∧ Hid (∀ k (h : k < M.length) (h' : k < L.length), M[k].e = L[k].2 % 11 ∧ SameP 5 M[k].p (whereX L[k].1.toNat)) ∧ Hid (Below w.heap.size w wr) ∧ Hid (wr.heap[w.heap.size]? = some (.cells #[.slice A L.length c, .int .u8 d] 55 (0, 0))) ∧ Hid (wr.heap[w.heap.size + 1 + 1]? = some (.cells #[v, .int .i64 (d % 11)] 24 (0, 0))) ∧ Hid (wr.heap[w.heap.size + 1]? = some (.cells #[.slice none 0 0, .int .i64 0] 24 (0, 0))) ) (fun i _ => 3 - (intOf i).toNat)
  case atStart =>
    exact ⟨0, .slice none 0 0, [], by omega, by omega, rfl, rfl, Lib.hid ⟨World.ownsRow_nil _ _ _ _, by simp⟩, Lib.hid (fun k h => absurd h (Nat.not_lt_zero _)), Lib.hid (((Grew.alloc _ _).trans (Grew.alloc _ _)).trans (Grew.alloc _ _)).b, Lib.hid ((Grew.alloc _ _).blk ((Grew.alloc _ _).blk (blk_new _ _ _))), Lib.hid (blk_new' _ _ _ _ (by simp)), Lib.hid ((Grew.alloc _ _).blk (blk_new' _ _ _ _ (by simp)))⟩
  case round =>
    obtain ⟨j, v, M, hj, hj3, rfl, hM, HR, HV, HB, HP, HQ, HZ⟩ := hrel
    have hnv : M.length = min L.length 3 → Hid (M.length = min L.length 3) := fun h => Lib.hid h
    obtain ⟨a3, c3, rfl, _⟩ := row_forms HR.out.row
    have b0 := cell_blk HP.out 0 rfl
    have b1 := cell_blk HP.out 1 rfl
    have q0 := cell_blk HQ.out 0 rfl
    have q1 := cell_blk HQ.out 1 rfl
    have qf := fun i => frozen_blk HQ.out i
    have z0 := cell_blk HZ.out 0 rfl
    have z1 := cell_blk HZ.out 1 rfl
    have zf := fun i => frozen_blk HZ.out i
    have HE : Hid (M.length = min L.length 3 → ((wr.setCell ⟨w.heap.size + 1, 0, none⟩ (.slice a3 M.length c3)).setCell ⟨w.heap.size + 1, 1, none⟩ (.int .i64 (d % 11))).heap[w.heap.size + 1]? = some (.cells #[.slice a3 M.length c3, .int .i64 (d % 11)] 24 (0, 0)) ∧ (∃ v M', (Ending.returned (.agg #[.slice a3 M.length c3, .int .i64 (d % 11)])) = .returned (.agg #[v, .int .i64 (d % 11)]) ∧ RulesX w.heap.size ((wr.setCell ⟨w.heap.size + 1, 0, none⟩ (.slice a3 M.length c3)).setCell ⟨w.heap.size + 1, 1, none⟩ (.int .i64 (d % 11))) v M' ∧ M'.length = min L.length 3 ∧ (∀ j (h : j < M'.length) (h' : j < L.length), M'[j].e = L[j].2 % 11 ∧ SameP 5 M'[j].p (whereX L[j].1.toNat))) ∧ Below w.heap.size w ((wr.setCell ⟨w.heap.size + 1, 0, none⟩ (.slice a3 M.length c3)).setCell ⟨w.heap.size + 1, 1, none⟩ (.int .i64 (d % 11)))) := Lib.hid fun hm =>
      ⟨heap_setCell_same _ _ 1 _ _ _ (heap_setCell_same _ _ 0 _ _ _ HZ.out), ⟨_, M, rfl, (HR.out.agree (fun b h1 h2 => by rw [heap_setCell_other _ _ _ _ (by show b ≠ w.heap.size + 1; omega), heap_setCell_other _ _ _ _ (by show b ≠ w.heap.size + 1; omega)]) (by simp)).mono (by omega), hm, HV.out⟩, (HB.out.setCell (by show w.heap.size ≤ w.heap.size + 1; omega) _).setCell (by show w.heap.size ≤ w.heap.size + 1; omega) _⟩
    by_cases hlt : j < L.length
    · by_cases h3 : j < 3
      · subst hM
        obtain ⟨ad, rfl, p0, p1, p2, p3⟩ := HA.out.below HB.out M.length hlt
        have HAL : Hid ((ad.add (M.length * 2)).block < w.heap.size ∧ (ad.add (M.length * 2)).block < w.heap.size) := Lib.hid (let ⟨ad', e, k0, _⟩ := HA.out M.length hlt; by cases e; exact ⟨World.block_lt_of_cell? w _ k0, World.block_lt_of_cell? w _ k0⟩)
        go_upto_region 5 with (fail)
        obtain ⟨x, y, hxy⟩ : ∃ x y, L[M.length] = (x, y) := ⟨_, _, rfl⟩
        rw [hxy] at p0 p1 p2 p3
        have HXY := Lib.hid hxy
        clear hxy
        simp only at p0 p1 p2 p3
        unfold isU8 at p2 p3
        obtain ⟨x, rfl⟩ : ∃ n : Nat, x = n := ⟨x.toNat, by omega⟩
        have HXX : Hid (L[M.length].2 % 11 = y % 11 ∧ L[M.length].1.toNat = x) := Lib.hid (by rw [HXY.out]; exact ⟨rfl, rfl⟩)
        have hx : x ≤ 255 := by omega
        have hy0 : 0 ≤ y := by omega
        have hy1 : y < 256 := by omega
        have hy2 : 0 ≤ y % 11 := by omega
        have hy3 : y % 11 < 11 := by omega
        refine wp_region_held_drew (S := (fun W => PolS wr w.heap.size ad M.length L.length c x y W)) (by kernel_rfl) ⟨(below_drew _).mono (by have := blk_lt HQ.out; omega), b0, p0, p1⟩ (fun hHeld => ?_)
        refine take_at (i := 0) (v := ?_) rfl (by kernel_rfl) (by kernel_rfl) (by kernel_rfl) (fun _ _ _ h => h) (Or.inl ⟨by rfl, ?_⟩) hHeld ?_
        rotate_left
        · intro W hSw; (try dsimp only at hSw); unfold PolS at hSw; go_simp; try with_reducible rfl
        try simp only [Act.put, List.setIfInBounds_toArray, List.set_cons_zero, List.set_cons_succ]
        refine take_at (i := 2) (v := ?_) rfl (by kernel_rfl) (by kernel_rfl) (by kernel_rfl) (fun _ _ _ h => h) (Or.inl ⟨by rfl, ?_⟩) hHeld ?_
        rotate_left
        · intro W hSw; (try dsimp only at hSw); unfold PolS at hSw; go_simp; try with_reducible rfl
        try simp only [Act.put, List.setIfInBounds_toArray, List.set_cons_zero, List.set_cons_succ]
        refine take_at (i := 3) (v := ?_) rfl (by kernel_rfl) (by kernel_rfl) (by kernel_rfl) (fun _ _ _ h => h) (Or.inl ⟨by rfl, ?_⟩) hHeld ?_
        rotate_left
        · intro W hSw; (try dsimp only at hSw); unfold PolS at hSw; go_simp; try with_reducible rfl
        try simp only [Act.put, List.setIfInBounds_toArray, List.set_cons_zero, List.set_cons_succ]
        refine take_at (i := 4) (v := ?_) rfl (by kernel_rfl) (by kernel_rfl) (by kernel_rfl) (fun _ _ _ h => h) (Or.inl ⟨by rfl, ?_⟩) hHeld ?_
        rotate_left
        · intro W hSw; (try dsimp only at hSw); unfold PolS at hSw; go_simp; try with_reducible rfl
        try simp only [Act.put, List.setIfInBounds_toArray, List.set_cons_zero, List.set_cons_succ]
        refine take_at (i := 5) (v := ?_) rfl (by kernel_rfl) (by kernel_rfl) (by kernel_rfl) (fun _ _ _ h => h) (Or.inl ⟨by rfl, ?_⟩) hHeld ?_
        rotate_left
        · intro W hSw; (try dsimp only at hSw); unfold PolS at hSw; go_simp; try with_reducible rfl
        try simp only [Act.put, List.setIfInBounds_toArray, List.set_cons_zero, List.set_cons_succ]
        refine take_at (i := 6) (v := ?_) rfl (by kernel_rfl) (by kernel_rfl) (by kernel_rfl) (fun _ _ _ h => h) (Or.inl ⟨by rfl, ?_⟩) hHeld ?_
        rotate_left
        · intro W hSw; (try dsimp only at hSw); unfold PolS at hSw; go_simp; try with_reducible rfl
        try simp only [Act.put, List.setIfInBounds_toArray, List.set_cons_zero, List.set_cons_succ]
        refine take_at (i := 7) (v := ?_) rfl (by kernel_rfl) (by kernel_rfl) (by kernel_rfl) (fun _ _ _ h => h) (Or.inl ⟨by rfl, ?_⟩) hHeld ?_
        rotate_left
        · intro W hSw; (try dsimp only at hSw); unfold PolS at hSw; go_simp; try with_reducible rfl
        try simp only [Act.put, List.setIfInBounds_toArray, List.set_cons_zero, List.set_cons_succ]
        refine take_at (i := 9) (v := ?_) rfl (by kernel_rfl) (by kernel_rfl) (by kernel_rfl) (fun _ _ _ h => h) (Or.inl ⟨by rfl, ?_⟩) hHeld ?_
        rotate_left
        · intro W hSw; (try dsimp only at hSw); unfold PolS at hSw; go_simp; try with_reducible rfl
        try simp only [Act.put, List.setIfInBounds_toArray, List.set_cons_zero, List.set_cons_succ]
        refine take_at (i := 10) (v := ?_) rfl (by kernel_rfl) (by kernel_rfl) (by kernel_rfl) (fun _ _ _ h => h) (Or.inl ⟨by rfl, ?_⟩) hHeld ?_
        rotate_left
        · intro W hSw; (try dsimp only at hSw); unfold PolS at hSw; go_simp; try with_reducible rfl
        try simp only [Act.put, List.setIfInBounds_toArray, List.set_cons_zero, List.set_cons_succ]
        refine take_at (i := 11) (v := ?_) rfl (by kernel_rfl) (by kernel_rfl) (by kernel_rfl) (fun _ _ _ h => h) (Or.inl ⟨by rfl, ?_⟩) hHeld ?_
        rotate_left
        · intro W hSw; (try dsimp only at hSw); unfold PolS at hSw; go_simp; try with_reducible rfl
        try simp only [Act.put, List.setIfInBounds_toArray, List.set_cons_zero, List.set_cons_succ]
        refine take_at (i := 12) (v := ?_) rfl (by kernel_rfl) (by kernel_rfl) (by kernel_rfl) (fun _ _ _ h => h) (Or.inl ⟨by rfl, ?_⟩) hHeld ?_
        rotate_left
        · intro W hSw; (try dsimp only at hSw); unfold PolS at hSw; go_simp; try with_reducible rfl
        try simp only [Act.put, List.setIfInBounds_toArray, List.set_cons_zero, List.set_cons_succ]
        refine take_at (i := 13) (v := ?_) rfl (by kernel_rfl) (by kernel_rfl) (by kernel_rfl) (fun _ _ _ h => h) (Or.inl ⟨by rfl, ?_⟩) hHeld ?_
        rotate_left
        · intro W hSw; (try dsimp only at hSw); unfold PolS at hSw; go_simp; try with_reducible rfl
        try simp only [Act.put, List.setIfInBounds_toArray, List.set_cons_zero, List.set_cons_succ]
        refine take_at (i := 14) (v := ?_) rfl (by kernel_rfl) (by kernel_rfl) (by kernel_rfl) (fun _ _ _ h => h) (Or.inl ⟨by rfl, ?_⟩) hHeld ?_
        rotate_left
        · intro W hSw; (try dsimp only at hSw); unfold PolS at hSw; go_simp; try with_reducible rfl
        try simp only [Act.put, List.setIfInBounds_toArray, List.set_cons_zero, List.set_cons_succ]
        refine take_at (i := 15) (v := ?_) rfl (by kernel_rfl) (by kernel_rfl) (by kernel_rfl) (fun _ _ _ h => h) (Or.inl ⟨by rfl, ?_⟩) hHeld ?_
        rotate_left
        · intro W hSw; (try dsimp only at hSw); unfold PolS at hSw; go_simp; try with_reducible rfl
        try simp only [Act.put, List.setIfInBounds_toArray, List.set_cons_zero, List.set_cons_succ]
        refine take_at (i := 16) (v := ?_) rfl (by kernel_rfl) (by kernel_rfl) (by kernel_rfl) (fun _ _ _ h => h) (Or.inl ⟨by rfl, ?_⟩) hHeld ?_
        rotate_left
        · intro W hSw; (try dsimp only at hSw); unfold PolS at hSw; go_simp; try with_reducible rfl
        try simp only [Act.put, List.setIfInBounds_toArray, List.set_cons_zero, List.set_cons_succ]
        have hye : IntKind.i64.wrap (y.tmod 11) = y % 11 := by
          rw [Int.tmod_eq_emod_of_nonneg hy0]
          simp [IntKind.wrap, IntKind.bits, IntKind.signed]
          omega
        have hye2 : y.tmod 11 = y % 11 := Int.tmod_eq_emod_of_nonneg hy0
        rw [hye, hye2]
        clear hye hye2
        have hdt : decide ((M.length : Int) < 3) = true := decide_eq_true (by omega)
        rw [hdt]
        clear hdt
        have hgL : w.heap.size + 1 + 1 < wr.heap.size := blk_lt HQ.out
        have HPS : Hid (∀ W, Below (w.heap.size + 1 + 1) wr W → PolS wr w.heap.size ad M.length L.length c x y W) := Lib.hid fun W h => ⟨h, (h.cell (by show w.heap.size < w.heap.size + 1 + 1; omega)).trans b0, (h.cell (by have := HAL.out.1; omega)).trans p0, (h.cell (by have := HAL.out.2; show (ad.add (M.length * 2)).block < w.heap.size + 1 + 1; omega)).trans p1⟩
        clear b0 b1 q0 q1 qf z0 z1 zf p0 p1
        refine wpAnyH_rest [1, 8, 17, 18, 19, 20, 21] (PolI wr w.heap.size ad M.length L.length c x y (d % 11) (y % 11) a3 c3 M) (by kernel_rfl) rfl (by kernel_rfl) (by kernel_rfl) (by kernel_rfl) ?_ (fun _ _ _ h => h.1) ?_ ?_
        · intro L0 hL
          have g : ∀ k ∈ [1, 8, 17, 18, 19, 20, 21], L0 k → False := fun k hk h => hL k hk h
          refine ⟨hHeld, whereX 0, 0, 0, ?x22, ?x29, ?x38, ?x39, ?x40, ?x41, ?eq, fun h => (g 17 (by simp) h).elim, fun h => (g 18 (by simp) h).elim, fun h => (g 19 (by simp) h).elim, fun h => (g 21 (by simp) h).elim, fun h => (g 20 (by simp) h).elim, fun _ => below_drew _, hgL, fun _ => blk_keep (below_drew _) HQ.out, fun h => (g 1 (by simp) h).elim, fun h => (g 8 (by simp) h).elim, fun h => (g 17 (by simp) h).elim, fun h => (g 18 (by simp) h).elim, fun h => (g 19 (by simp) h).elim, fun h => (g 21 (by simp) h).elim⟩
          case eq =>
            simp only [Act.put, List.setIfInBounds_toArray, List.set_cons_zero, List.set_cons_succ]
            try rfl
        · intro i0 hi0
          simp only [List.mem_cons, List.not_mem_nil, or_false] at hi0
          rcases hi0 with rfl | rfl | rfl | rfl | rfl | rfl | rfl
          · intro L0 A W o hI ho hn hd
            obtain rfl := Option.some.inj (show some _ = some o from nth_of ho)
            obtain ⟨hS, p, lo, hi, x22, x29, x38, x39, x40, x41, rfl, h17, h18, h19, h21, h20, hBw, hsz, hbx, hA, hBq, hC, hD, hE, hF⟩ := hI
            simp only [Act.put, List.setIfInBounds_toArray, List.set_cons_zero, List.set_cons_succ]
            refine wpOp_step (nth_at rfl) (fun K hK => ?_)
            rw [if_pos (by rfl)]
            have n19 : ¬ L0 19 := fun h => hn (h19 h).2
            have n21 : ¬ L0 21 := fun h => n19 (h21 h).1
            have q9 := cell_blk (hbx n21) 0 rfl
            go_simp
            refine hK _ _ ⟨hS, p, lo, hi, .slice a3 M.length c3, x29, x38, x39, x40, x41, ?_, fun h => .inl (h17 (h.resolve_right (by decide))), fun h => .inl (h18 (h.resolve_right (by decide))), fun h => absurd (h.resolve_right (by decide)) n19, fun h => absurd (h.resolve_right (by decide)) n21, fun h => h20 (h.resolve_right (by decide)), fun _ => hBw n19, hsz, fun _ => hbx n21, fun _ => rfl, fun h => hBq (h.resolve_right (by decide)), fun h => hC (h.resolve_right (by decide)), fun h _ => hD (h.resolve_right (by decide)) n19, fun h => absurd (h.resolve_right (by decide)) n19, fun h => absurd (h.resolve_right (by decide)) n21⟩
            simp only [Act.put, List.setIfInBounds_toArray, List.set_cons_zero, List.set_cons_succ]
          · intro L0 A W o hI ho hn hd
            obtain rfl := Option.some.inj (show some _ = some o from nth_of ho)
            obtain ⟨hS, p, lo, hi, x22, x29, x38, x39, x40, x41, rfl, h17, h18, h19, h21, h20, hBw, hsz, hbx, hA, hBq, hC, hD, hE, hF⟩ := hI
            simp only [Act.put, List.setIfInBounds_toArray, List.set_cons_zero, List.set_cons_succ]
            refine wpOp_step (nth_at rfl) (fun K hK => ?_)
            rw [if_pos (by rfl)]
            have n17 : ¬ L0 17 := fun h => hn (h17 h)
            have n18 : ¬ L0 18 := fun h => n17 (h18 h)
            have n19 : ¬ L0 19 := fun h => n18 (h19 h).1
            have n21 : ¬ L0 21 := fun h => n19 (h21 h).1
            go_simp
            (with_reducible refine (where_any 4 x hx (by omega) _).mono ?_)
            rintro e w' ⟨p', rfl, hs', hok', hstr', hbb⟩
            have hb0 := hBw n19
            refine hK _ _ ⟨HPS.out _ (below_on hS.1 hbb (by omega)), p', W.heap.size, w'.heap.size, x22, .agg p'.cells.toArray, x38, x39, x40, x41, ?_, fun h => absurd (h.resolve_right (by decide)) n17, fun h => absurd (h.resolve_right (by decide)) n18, fun h => absurd (h.resolve_right (by decide)) n19, fun h => absurd (h.resolve_right (by decide)) n21, fun h => h20 (h.resolve_right (by decide)), fun _ => hb0.trans (hbb.mono hb0.size), by have := hbb.size; omega, fun _ => blk_keep hbb (hbx n21), fun h => hA (h.resolve_right (by decide)), fun _ => ⟨rfl, hb0.size, Nat.le_refl _, hok', hstr', hs'⟩, fun h => absurd (h.resolve_right (by decide)) n17, fun h => absurd (h.resolve_right (by decide)) n18, fun h => absurd (h.resolve_right (by decide)) n19, fun h => absurd (h.resolve_right (by decide)) n21⟩
            simp only [Act.put, List.setIfInBounds_toArray, List.set_cons_zero, List.set_cons_succ]
          · intro L0 A W o hI ho hn hd
            obtain rfl := Option.some.inj (show some _ = some o from nth_of ho)
            obtain ⟨hS, p, lo, hi, x22, x29, x38, x39, x40, x41, rfl, h17, h18, h19, h21, h20, hBw, hsz, hbx, hA, hBq, hC, hD, hE, hF⟩ := hI
            simp only [Act.put, List.setIfInBounds_toArray, List.set_cons_zero, List.set_cons_succ]
            refine wpOp_step (nth_at rfl) (fun K hK => ?_)
            rw [if_pos (by rfl)]
            have l8 : L0 8 := hd { on := 8, ground := Ground.data } (by simp) rfl (by simp)
            have n18 : ¬ L0 18 := fun h => hn (h18 h)
            have n19 : ¬ L0 19 := fun h => n18 (h19 h).1
            have n21 : ¬ L0 21 := fun h => n19 (h21 h).1
            obtain ⟨rfl, r1, r2, r3, r4, r5⟩ := hBq l8
            obtain ⟨tt, pA, pc, pl⟩ := p
            unfold PredD.cells
            simp only [PredD.t, PredD.A, PredD.c, PredD.args]
            go_simp
            refine hK _ _ ⟨hS, .mk tt pA pc pl, lo, hi, x22, _, _, x39, x40, x41, ?_, fun _ => .inl l8, fun h => absurd (h.resolve_right (by decide)) n18, fun h => absurd (h.resolve_right (by decide)) n19, fun h => absurd (h.resolve_right (by decide)) n21, fun h => h20 (h.resolve_right (by decide)), fun _ => hBw n19, hsz, fun _ => hbx n21, fun h => hA (h.resolve_right (by decide)), fun _ => ⟨rfl, r1, r2, r3, r4, r5⟩, fun _ => rfl, fun h => absurd (h.resolve_right (by decide)) n18, fun h => absurd (h.resolve_right (by decide)) n19, fun h => absurd (h.resolve_right (by decide)) n21⟩
            simp only [Act.put, List.setIfInBounds_toArray, List.set_cons_zero, List.set_cons_succ]
            rfl
          · intro L0 A W o hI ho hn hd
            obtain rfl := Option.some.inj (show some _ = some o from nth_of ho)
            obtain ⟨hS, p, lo, hi, x22, x29, x38, x39, x40, x41, rfl, h17, h18, h19, h21, h20, hBw, hsz, hbx, hA, hBq, hC, hD, hE, hF⟩ := hI
            simp only [Act.put, List.setIfInBounds_toArray, List.set_cons_zero, List.set_cons_succ]
            refine wpOp_step (nth_at rfl) (fun K hK => ?_)
            rw [if_pos (by rfl)]
            have l17 : L0 17 := hd { on := 17, ground := Ground.data } (by simp) rfl (by simp)
            have n19 : ¬ L0 19 := fun h => hn (h19 h).1
            have n21 : ¬ L0 21 := fun h => n19 (h21 h).1
            have hb0 := hBw n19
            obtain rfl := hC l17
            obtain ⟨rfl, r1, r2, r3, r4, r5⟩ := hBq (h17 l17)
            obtain ⟨tt, pA, pc, pl⟩ := p
            unfold PredD.cells RuleD.cells
            simp only [PredD.t, PredD.A, PredD.c, PredD.args]
            go_simp
            refine hK _ _ ⟨HPS.out _ (below_on hS.1 (below_alloc _ _) (by omega)), .mk tt pA pc pl, lo, hi, x22, _, _, .slice (some ⟨W.heap.size, 0, none⟩) 1 1, x40, x41, ?_, fun _ => .inl (h17 l17), fun _ => .inl l17, fun h => absurd (h.resolve_right (by decide)) n19, fun h => absurd (h.resolve_right (by decide)) n21, fun h => h20 (h.resolve_right (by decide)), fun _ => hb0.trans ((below_alloc _ _).mono hb0.size), by simp; omega, fun _ => blk_keep (below_alloc _ _) (hbx n21), fun h => hA (h.resolve_right (by decide)), fun _ => ⟨rfl, r1, by simp; omega, fun W' hW' => r3 W' fun b b1 b2 => (hW' b b1 b2).trans ((below_alloc _ _).block b (by omega)), r4, r5⟩, fun _ => rfl, fun _ _ => ⟨W.heap.size, rfl, blk_new _ _ _⟩, fun h => absurd (h.resolve_right (by decide)) n19, fun h => absurd (h.resolve_right (by decide)) n21⟩
            simp only [Act.put, List.setIfInBounds_toArray, List.set_cons_zero, List.set_cons_succ]
            rfl
          · intro L0 A W o hI ho hn hd
            obtain rfl := Option.some.inj (show some _ = some o from nth_of ho)
            obtain ⟨hS, p, lo, hi, x22, x29, x38, x39, x40, x41, rfl, h17, h18, h19, h21, h20, hBw, hsz, hbx, hA, hBq, hC, hD, hE, hF⟩ := hI
            simp only [Act.put, List.setIfInBounds_toArray, List.set_cons_zero, List.set_cons_succ]
            refine wpOp_step (nth_at rfl) (fun K hK => ?_)
            rw [if_pos (by rfl)]
            have l18 : L0 18 := hd { on := 18, ground := Ground.data } (by simp) rfl (by simp)
            have l1 : L0 1 := hd { on := 1, ground := Ground.data } (by simp) rfl (by simp)
            have n21 : ¬ L0 21 := fun h => hn (h21 h).1
            have hb0 := hBw hn
            have l17 := h18 l18
            have l8 := h17 l17
            obtain rfl := hA l1
            obtain ⟨g', rfl, hg'⟩ := hD l18 hn
            obtain ⟨_, r1, r2, r3, r4, r5⟩ := hBq l8
            have hrow := (HR.out.below hb0).row
            refine wp_append_any (.tmp 22) (.tmp 39) 22 rfl (w.heap.size + 3) 36 t3 z3 8 Tryz.underlying22 ht3 ht3z ht3s ht3b ht3c (by decide) (.slice a3 M.length c3) M.length (cellsR M) rfl hrow (some ⟨g', 0, none⟩) 1 1 (RuleD.mk p (y % 11)).cells rfl rfl (fun h => by cases h) (fun q hq => by cases hq; exact World.news_of_block hg') (by simp [RuleD.cells, Value.oneCell']) (by omega) (by omega) ?_
            intro v' w1 hown hgr hat
            have hbw : Below (w.heap.size + 1 + 1) wr w1 := below_grown hS.1 hgr (fun i hi => by have := (hrow.lt i hi).1; omega) (by omega)
            have hgs := hgr.size
            have hne : (Value.slice a3 M.length c3).ownBlock ≠ some (w.heap.size + 1 + 1) := fun e => by have := (hrow.lt _ e).1; omega
            refine hK _ w1 ⟨HPS.out _ hbw, p, lo, hi, .slice a3 M.length c3, x29, x38, .slice (some ⟨g', 0, none⟩) 1 1, v', x41, ?_, fun h => .inl (h17 (h.resolve_right (by decide))), fun h => .inl (h18 (h.resolve_right (by decide))), fun _ => ⟨.inl l18, .inl l1⟩, fun h => absurd (h.resolve_right (by decide)) n21, fun h => h20 (h.resolve_right (by decide)), fun h => absurd (.inr rfl) h, by omega, fun _ => blk_grown hgr (hbx n21) hne, fun _ => rfl, fun _ => ⟨(hBq l8).1, r1, by omega, fun W' hW' => r3 W' fun b b1 b2 => (hW' b b1 b2).trans (hgr.block b (by omega) (fun e => by have := (HR.out.row.lt b e.symm).2; omega)), r4, r5⟩, fun h => hC (h.resolve_right (by decide)), fun _ h => absurd (.inr rfl) h, fun _ => HR.out.snoc (by have := blk_lt HQ.out; omega) hb0 r1 r2 r3 r4 hown hgr hat, fun h => absurd (h.resolve_right (by decide)) n21⟩
            simp only [Act.put, List.setIfInBounds_toArray, List.set_cons_zero, List.set_cons_succ]
          · intro L0 A W o hI ho hn hd
            obtain rfl := Option.some.inj (show some _ = some o from nth_of ho)
            obtain ⟨hS, p, lo, hi, x22, x29, x38, x39, x40, x41, rfl, h17, h18, h19, h21, h20, hBw, hsz, hbx, hA, hBq, hC, hD, hE, hF⟩ := hI
            simp only [Act.put, List.setIfInBounds_toArray, List.set_cons_zero, List.set_cons_succ]
            refine wpOp_step (nth_at rfl) (fun K hK => ?_)
            rw [if_pos (by rfl)]
            have n21 : ¬ L0 21 := fun h => hn (h21 h).2
            go_simp
            refine hK _ _ ⟨hS, p, lo, hi, x22, x29, x38, x39, x40, .pointer (some ⟨w.heap.size + 1 + 1, 0, none⟩), ?_, fun h => .inl (h17 (h.resolve_right (by decide))), fun h => .inl (h18 (h.resolve_right (by decide))), fun h => ⟨.inl (h19 (h.resolve_right (by decide))).1, .inl (h19 (h.resolve_right (by decide))).2⟩, fun h => absurd (h.resolve_right (by decide)) n21, fun _ => rfl, fun h => hBw fun h' => h (.inl h'), hsz, fun _ => hbx n21, fun h => hA (h.resolve_right (by decide)), fun h => hBq (h.resolve_right (by decide)), fun h => hC (h.resolve_right (by decide)), fun h h' => hD (h.resolve_right (by decide)) fun h'' => h' (.inl h''), fun h => hE (h.resolve_right (by decide)), fun h => absurd (h.resolve_right (by decide)) n21⟩
            simp only [Act.put, List.setIfInBounds_toArray, List.set_cons_zero, List.set_cons_succ]
          · intro L0 A W o hI ho hn hd
            obtain rfl := Option.some.inj (show some _ = some o from nth_of ho)
            obtain ⟨hS, p, lo, hi, x22, x29, x38, x39, x40, x41, rfl, h17, h18, h19, h21, h20, hBw, hsz, hbx, hA, hBq, hC, hD, hE, hF⟩ := hI
            simp only [Act.put, List.setIfInBounds_toArray, List.set_cons_zero, List.set_cons_succ]
            refine wpOp_step (nth_at rfl) (fun K hK => ?_)
            rw [if_pos (by rfl)]
            have l19 : L0 19 := hd { on := 19, ground := Ground.data } (by simp) rfl (by simp)
            have l20 : L0 20 := hd { on := 20, ground := Ground.data } (by simp) rfl (by simp)
            obtain rfl := h20 l20
            have hr9 := hE l19
            have q9 := cell_blk (hbx hn) 0 rfl
            have qf := fun i => frozen_blk (hbx hn) i
            obtain ⟨a4, c4, rfl, _⟩ := row_forms hr9.row
            have hll : (M ++ [RuleD.mk p (y % 11)]).length = M.length + 1 := by simp
            rw [hll] at hr9 ⊢
            go_simp
            have hb9 : Below (w.heap.size + 1 + 1) wr (W.setCell ⟨w.heap.size + 1 + 1, 0, none⟩ (.slice a4 (M.length + 1) c4)) := hS.1.setCell (Nat.le_refl _) _
            refine hK _ _ ⟨HPS.out _ hb9, p, lo, hi, x22, x29, x38, x39, _, _, ?_, fun h => .inl (h17 (h.resolve_right (by decide))), fun h => .inl (h18 (h.resolve_right (by decide))), fun h => ⟨.inl (h19 (h.resolve_right (by decide))).1, .inl (h19 (h.resolve_right (by decide))).2⟩, fun _ => ⟨.inl l19, .inl l20⟩, fun _ => rfl, fun h => absurd (.inl l19) h, by simp; omega, fun h => absurd (.inr rfl) h, fun h => hA (h.resolve_right (by decide)), fun h => let ⟨r0, r1, r2, r3, r4, r5⟩ := hBq (h.resolve_right (by decide)); ⟨r0, r1, by simpa using r2, fun W' hW' => r3 W' fun b b1 b2 => (hW' b b1 b2).trans (heap_setCell_other _ _ _ _ (by show b ≠ w.heap.size + 1 + 1; have := blk_lt HQ.out; omega)), r4, r5⟩, fun h => hC (h.resolve_right (by decide)), fun _ h => absurd (.inl l19) h, fun _ => hr9.agree (fun b b1 b2 => heap_setCell_other _ _ _ _ (by show b ≠ w.heap.size + 1 + 1; omega)) (by simp), fun _ => heap_setCell_same _ _ 0 _ _ _ (hbx hn)⟩
            simp only [Act.put, List.setIfInBounds_toArray, List.set_cons_zero, List.set_cons_succ]
        · intro L0 A W9 hI ha
          obtain ⟨hS, p, lo, hi, x22, x29, x38, x39, x40, x41, rfl, -, -, -, -, -, -, hsz, -, -, hBq, -, -, hE, hF⟩ := hI
          have HR9 := Lib.hid (hE (ha 19 (by simp)))
          have HQ9 := Lib.hid (hF (ha 21 (by simp)))
          obtain ⟨-, -, -, -, -, r5⟩ := hBq (ha 8 (by simp))
          have hb := hS.1
          have HB9 := Lib.hid (HB.out.trans (hb.mono (by omega)))
          have HP9 := Lib.hid ((hb.block _ (by omega)).trans HP.out)
          have HZ9 := Lib.hid ((hb.block _ (by omega)).trans HZ.out)
          have HV9 : Hid (∀ k (h : k < (M ++ [RuleD.mk p (y % 11)]).length) (h' : k < L.length), (M ++ [RuleD.mk p (y % 11)])[k].e = L[k].2 % 11 ∧ SameP 5 (M ++ [RuleD.mk p (y % 11)])[k].p (whereX L[k].1.toNat)) := Lib.hid fun k h h' => by
            by_cases e : k < M.length
            · rw [List.getElem_append_left e]
              exact HV.out k e h'
            · rw [List.length_append, List.length_singleton] at h
              obtain rfl : k = M.length := by omega
              rw [List.getElem_append_right (Nat.le_refl _)]
              simp only [Nat.sub_self, List.getElem_singleton]
              rw [HXX.out.1, HXX.out.2]
              exact ⟨rfl, r5⟩
          clear hS hBq hE hF ha hHeld HPS r5 hb
          simp only [Act.put, List.setIfInBounds_toArray, List.set_cons_zero, List.set_cons_succ]
          go_wp2_with fail
          exact ⟨⟨M.length + 1, x40, M ++ [⟨p, y % 11⟩], by omega, by omega, by go_num, by simp, HR9, HV9, HB9, HP9, HQ9, HZ9⟩, by simp [intOf]; omega⟩
      · obtain rfl : j = 3 := by omega
        obtain ⟨he1, he2⟩ := HE.out (by omega)
        have HE1 := Lib.hid he1
        have HE2 := Lib.hid he2
        clear he1 he2
        go_wp2_with fail
        rw [hM] at HE1 HE2
        exact ret_blk HE1.out rfl rfl Tryz.underlying24 rfl (by kernel_rfl) rfl HE2.out
    · obtain rfl : j = L.length := by omega
      obtain ⟨he1, he2⟩ := HE.out (by omega)
      have HE1 := Lib.hid he1
      have HE2 := Lib.hid he2
      clear he1 he2
      go_wp2_with fail
      rw [hM] at HE1 HE2
      exact ret_blk HE1.out rfl rfl Tryz.underlying24 rfl (by kernel_rfl) rfl HE2.out
end Go.Proofs.YtnddlpfmagdbfaaGreatDoor.Sto
/- A plan, opened out of its reading. -/
namespace Go.Proofs.YtnddlpfmagdbfaaGreatDoor.Sto
open Go Go.Ev Go.Proofs Go.RowKit Go.ChangeShapes Go.WideShapes Go.Deep
set_option linter.unusedVariables false
set_option linter.unusedSimpArgs false
def cellsQ (x : Int × Int) : List Value := [.int .u8 x.1, .int .u8 x.2]
section
variable {H : Type} {enc : TypeId × Value → H} {w : World} {base : Nat} {spare : Nat → Bool} {held : Bool}
theorem open_pair {fuel : Nat} {cs : List Value} {x : DataW H × List MemPlace} (h : DataW.trod enc Tryz.prog w base spare held fuel 89 cs = some x) : ∃ r : Int × Int, cs = cellsQ r ∧ (isU8 r.1 ∧ isU8 r.2) := by
  have c5 : Tryz.prog.cellsOf 5 = 1 := by kernel_rfl
  obtain ⟨zs, k2, _, _, hl2, hxl2, hf2⟩ := DataW.trod_array Tryz.underlying89 h
  have c89 : Tryz.prog.cellsOf 89 = 2 := by kernel_rfl
  rw [c89] at hl2
  obtain ⟨v0, v1, rfl⟩ := list_2 hl2
  obtain ⟨z0, z1, rfl⟩ := list_2 hxl2
  have i0 := hf2 0 (by decide)
  have i1 := hf2 1 (by decide)
  simp [c5] at i0 i1
  obtain ⟨n0, e0, _, w0⟩ := DataW.trod_int Tryz.underlying5 i0
  obtain ⟨n1, e1, _, w1⟩ := DataW.trod_int Tryz.underlying5 i1
  simp only [List.cons.injEq, and_true] at e0 e1
  exact ⟨(n0, n1), by rw [e0, e1]; rfl, lit_u8 w0, lit_u8 w1⟩
theorem pairs_at {A : Option Addr} {L : List (Int × Int)} (hg : ∀ x ∈ L, isU8 x.1 ∧ isU8 x.2) (h : ∀ j (hj : j < L.length), ∃ b o, A = some ⟨b, o, none⟩ ∧ w.rangeAt b (o + j * 2) (cellsQ L[j])) : PairsAt w A L := fun j hj => by
  obtain ⟨b, o, e, hr⟩ := h j hj
  refine ⟨⟨b, o, none⟩, e, ?_, ?_, hg _ (List.getElem_mem hj)⟩
  · rw [add_spotless]
    exact hr 0 _ rfl
  · rw [add_spotless]
    exact hr 1 _ rfl
set_option maxRecDepth 100000 in
/-- A plan's cells. -/
theorem open_planC {fuel : Nat} {cs : List Value} {x : DataW H × List MemPlace} (h : DataW.trod enc Tryz.prog w base spare held fuel 55 cs = some x) :
    ∃ A L c d, cs = [.slice A (List.length (α := Int × Int) L) c, .int .u8 d] ∧ PairsAt w A L ∧ L.length ≤ maxLen ∧ isU8 d := by
  obtain ⟨ys, k, _, _, hl, hxl, hf⟩ := DataW.trod_struct Tryz.underlying55 h
  have c0 : Tryz.prog.cellsOf 55 = 2 := by kernel_rfl
  have c53 : Tryz.prog.cellsOf 53 = 1 := by kernel_rfl
  have c89 : Tryz.prog.cellsOf 89 = 2 := by kernel_rfl
  have c5 : Tryz.prog.cellsOf 5 = 1 := by kernel_rfl
  rw [c0] at hl
  have hxl : ys.length = 2 := hxl
  obtain ⟨v0, v1, rfl⟩ := list_2 hl
  obtain ⟨y0, y1, rfl⟩ := list_2 hxl
  have g0 := hf 0 _ rfl
  have g1 := hf 1 _ rfl
  simp [c53, c5] at g0 g1
  obtain ⟨A, L, c, rfl, hL, hg, _, hr⟩ := open_row (k := 2) (by decide) Tryz.underlying53 c89 cellsQ (fun x => isU8 x.1 ∧ isU8 x.2) (fun _ => rfl) (fun h => open_pair h) g0
  obtain ⟨d, e1, _, w1⟩ := DataW.trod_int Tryz.underlying5 g1
  simp only [List.cons.injEq, and_true] at e1
  exact ⟨A, L, c, d, by rw [e1], pairs_at hg hr, hL, lit_u8 w1⟩
set_option maxRecDepth 100000 in
/-- A plan's value. -/
theorem open_plan {r : Reach} {b2 : Nat} {v : Value} {dd : DataW H} {p : List MemPlace} (hv : Value.okWide Tryz.prog w r b2 55 v) (h : DataW.Trod enc Tryz.prog w base spare held 55 v dd p) :
    ∃ A L c d, v = .agg #[.slice A (List.length (α := Int × Int) L) c, .int .u8 d] ∧ PairsAt w A L ∧ L.length ≤ maxLen ∧ isU8 d := by
  simp only [Value.okWide, Tryz.underlying55] at hv
  obtain ⟨cs, rfl, _⟩ := hv
  obtain ⟨m, hm⟩ := h
  obtain ⟨l⟩ := cs
  simp only [Value.cells] at hm
  obtain ⟨A, L, c, d, rfl, h1⟩ := open_planC hm
  exact ⟨A, L, c, d, rfl, h1⟩
set_option maxRecDepth 100000 in
/-- The value of two plans. -/
theorem open_plan2 {r : Reach} {b2 : Nat} {v : Value} {dd : DataW H} {p : List MemPlace} (hv : Value.okWide Tryz.prog w r b2 65 v) (h : DataW.Trod enc Tryz.prog w base spare held 65 v dd p) :
    ∃ A L c d B M e f, v = .agg #[.slice A (List.length (α := Int × Int) L) c, .int .u8 d, .slice B (List.length (α := Int × Int) M) e, .int .u8 f] ∧ (PairsAt w A L ∧ L.length ≤ maxLen ∧ isU8 d) ∧ (PairsAt w B M ∧ M.length ≤ maxLen ∧ isU8 f) := by
  simp only [Value.okWide, Tryz.underlying65] at hv
  obtain ⟨cs, rfl, _⟩ := hv
  obtain ⟨m, hm⟩ := h
  obtain ⟨l⟩ := cs
  simp only [Value.cells] at hm
  have c55 : Tryz.prog.cellsOf 55 = 2 := by kernel_rfl
  have c65 : Tryz.prog.cellsOf 65 = 4 := by kernel_rfl
  obtain ⟨zs, k2, _, _, hl2, hxl2, hf2⟩ := DataW.trod_array Tryz.underlying65 hm
  rw [c65] at hl2
  obtain ⟨v0, v1, v2, v3, rfl⟩ := list_4 hl2
  obtain ⟨z0, z1, rfl⟩ := list_2 hxl2
  have i0 := hf2 0 (by decide)
  have i1 := hf2 1 (by decide)
  simp [c55] at i0 i1
  obtain ⟨A, L, c, d, e0, h1⟩ := open_planC i0
  obtain ⟨B, M, e, f, e1, h2⟩ := open_planC i1
  simp only [List.cons.injEq, and_true] at e0 e1
  obtain ⟨rfl, rfl⟩ := e0
  obtain ⟨rfl, rfl⟩ := e1
  exact ⟨A, L, c, d, B, M, e, f, rfl, h1, h2⟩
end
end Go.Proofs.YtnddlpfmagdbfaaGreatDoor.Sto
/- Plain law: the policy that is described is in order. -/
namespace Go.Proofs.YtnddlpfmagdbfaaGreatDoor.Sto
open Go Go.Ev Go.Proofs Go.RowKit
set_option linter.unusedVariables false
set_option linter.unusedSimpArgs false
theorem where_ok : ((List.range 256).all fun n => decide (predErr 5 (whereX n) = 0)) = true := by kernel_rfl
theorem visitsL_same {n : Nat} {f : PredD → Nat → Int × Nat} (hf : ∀ p q c, SameP n p q → f p c = f q c) : ∀ (L M : List PredD) (c : Nat), L.length = M.length → (∀ j (h : j < L.length) (h' : j < M.length), SameP n L[j] M[j]) → visitsL f L c = visitsL f M c
  | [], [], _, _, _ => rfl
  | p :: L, q :: M, c, hl, h => by
    have h0 : SameP n p q := h 0 (by simp) (by simp)
    unfold visitsL
    rw [hf p q c h0]
    split
    · rfl
    · exact visitsL_same hf L M _ (by simpa using hl) fun j h1 h2 => by
        have := h (j + 1) (by simp; omega) (by simp; omega)
        simpa using this
  | [], _ :: _, _, hl, _ => by simp at hl
  | _ :: _, [], _, hl, _ => by simp at hl
theorem visitX_same : ∀ (n : Nat) (p q : PredD) (lv : Int) (c : Nat), SameP n p q → visitX n p lv c = visitX n q lv c
  | 0, _, _, _, _, _ => rfl
  | n + 1, p, q, lv, c, h => by
    obtain ⟨h1, h2, h3⟩ := h
    unfold visitX
    have hn : nodeP p = nodeP q := by unfold nodeP; rw [h1, h2]
    rw [hn, visitsL_same (n := n) (fun a b c h => visitX_same n a b (lv + 1) c h) p.args q.args _ h2 h3]
theorem predErr_same {n : Nat} {p q : PredD} (h : SameP n p q) : predErr n p = predErr n q := by
  unfold predErr
  rw [visitX_same n p q 1 0 h]
theorem rules_ok {M : List RuleD} {L : List (Int × Int)} {d : Int} {A : Option Addr} {c : Nat} (hl : M.length = min L.length 3) (hd : 0 ≤ d ∧ d ≤ 10) (hL : ∀ j (h : j < L.length), isU8 L[j].1 ∧ isU8 L[j].2) (h : ∀ j (h : j < M.length) (h' : j < L.length), M[j].e = L[j].2 % 11 ∧ SameP 5 M[j].p (whereX L[j].1.toNat)) : polErr 5 ⟨A, c, M, d⟩ = 0 := by
  unfold polErr
  rw [if_neg (by show ¬ 16 < M.length; omega)]
  have h0 : firstErr (ruleErr 5) M = 0 := firstErr_none _ _ fun m hm => by
    obtain ⟨h1, h2⟩ := h m hm (by omega)
    obtain ⟨u1, u2⟩ := hL m (by omega)
    unfold isU8 at u1 u2
    have hp : predErr 5 M[m].p = 0 := by
      rw [predErr_same h2]
      exact of_decide_eq_true (List.all_eq_true.1 where_ok _ (List.mem_range.2 (by omega)))
    unfold ruleErr
    rw [if_neg (by rw [hp]; simp), if_neg (by rw [h1]; omega)]
  rw [if_neg (by show ¬ firstErr (ruleErr 5) M ≠ 0; rw [h0]; simp), if_neg (by show ¬ (d < 0 ∨ 10 < d); omega)]
end Go.Proofs.YtnddlpfmagdbfaaGreatDoor.Sto
/- Contract: sampling.Sample. -/
namespace Go.Proofs.YtnddlpfmagdbfaaGreatDoor
open Go Go.Proofs Go.RowKit
set_option linter.unusedVariables false
set_option linter.unusedSimpArgs false
theorem infoT : infoSz 3 (Tryz.prog.info? 27) = true := by kernel_rfl
theorem pow_wrapI (k : Nat) (h : k ≤ 10) : IntKind.i64.wrap (2 ^ k) = 2 ^ k := by
  have hk : k = 0 ∨ k = 1 ∨ k = 2 ∨ k = 3 ∨ k = 4 ∨ k = 5 ∨ k = 6 ∨ k = 7 ∨ k = 8 ∨ k = 9 ∨ k = 10 := by omega
  rcases hk with rfl | rfl | rfl | rfl | rfl | rfl | rfl | rfl | rfl | rfl | rfl <;> decide
theorem below_drewN0 (w : World) (n : Nat) : Below w.heap.size w (w.drewN n) := ⟨rfl, rfl, rfl, Nat.le_refl _, fun _ _ => rfl⟩
def tzX (w : Int) : Nat := w.toNat.log2
theorem tzX_pow (e : Nat) : tzX ((2 ^ e : Nat) : Int) = e := by unfold tzX; rw [Int.toNat_natCast, Nat.log2_two_pow]
/-- The exponent with which a trace is kept. -/
def expX (n : Nat) (p : PolD) (t : TraceD) : Nat := max (tzX t.weight) (givenX n p t).toNat
def keepB (n : Nat) (p : PolD) (s : Int) (t : TraceD) : Bool := kp t.id s (expX n p t)
def keptT (n : Nat) (p : PolD) (t : TraceD) : Int × Int × List SpanD := (t.id, 2 ^ expX n p t, t.spans.map SpanD.bare)
/-- The traces that are kept, and the others. -/
def keptX (n : Nat) (p : PolD) (s : Int) (L : List TraceD) : List (Int × Int × List SpanD) := (L.filter (keepB n p s)).map (keptT n p)
def goneX (n : Nat) (p : PolD) (s : Int) (L : List TraceD) : List (Int × Int × List SpanD) := (L.filter fun t => !keepB n p s t).map TraceD.bare
theorem keptX_take {n : Nat} {p : PolD} {s : Int} {L : List TraceD} {j : Nat} (h : j < L.length) : keptX n p s (L.take (j + 1)) = keptX n p s (L.take j) ++ (if keepB n p s L[j] = true then [keptT n p L[j]] else []) := by
  unfold keptX
  rw [take_succ_get h, List.filter_append, List.map_append]
  congr 1
  by_cases hk : keepB n p s L[j] = true
  · rw [List.filter_cons_of_pos hk, if_pos hk]; rfl
  · rw [List.filter_cons_of_neg hk, if_neg hk]; rfl
theorem goneX_take {n : Nat} {p : PolD} {s : Int} {L : List TraceD} {j : Nat} (h : j < L.length) : goneX n p s (L.take (j + 1)) = goneX n p s (L.take j) ++ (if keepB n p s L[j] = true then [] else [L[j].bare]) := by
  unfold goneX
  rw [take_succ_get h, List.filter_append, List.map_append]
  congr 1
  by_cases hk : keepB n p s L[j] = true
  · rw [List.filter_cons_of_neg (by simp [hk]), if_pos hk]; rfl
  · rw [List.filter_cons_of_pos (by simp [hk]), if_neg hk]; rfl
theorem firstX_mem (f : PredD → Bool) (d : Int) : ∀ L : List RuleD, firstX f d L = d ∨ ∃ q ∈ L, firstX f d L = q.e
  | [] => .inl rfl
  | q :: l => by
    unfold firstX
    split
    · exact .inr ⟨q, List.mem_cons_self, rfl⟩
    · rcases firstX_mem f d l with h | ⟨r, hr, h⟩
      · exact .inl h
      · exact .inr ⟨r, List.mem_cons_of_mem _ hr, h⟩
/-- A policy in order gives exponents from 0 to 10. -/
theorem givenX_range {n : Nat} {p : PolD} (h : polErr n p = 0) (t : TraceD) : 0 ≤ givenX n p t ∧ givenX n p t ≤ 10 := by
  unfold polErr at h
  split at h
  · cases h
  · split at h
    · contradiction
    · rename_i h1
      split at h
      · cases h
      · rename_i h2
        simp only [ne_eq, Decidable.not_not] at h1
        rcases firstX_mem (fun q => (winX t.spans).any (holdsX n q)) p.d p.rules with e | ⟨q, hq, e⟩
        · unfold givenX; rw [e]; omega
        · unfold givenX; rw [e]
          have h3 := firstErr_zero h1 q hq
          unfold ruleErr at h3
          split at h3
          · contradiction
          · split at h3
            · cases h3
            · omega
theorem expX_range {n : Nat} {p : PolD} (h : polErr n p = 0) {t : TraceD} (k : traceErr t = 0) : ∃ e g : Nat, e ≤ 10 ∧ g ≤ 10 ∧ t.weight = ((2 ^ e : Nat) : Int) ∧ givenX n p t = (g : Int) ∧ expX n p t = max e g ∧ (2 ^ e : Nat) < 18446744073709551616 := by
  obtain ⟨⟨_, _, h3, h4, h5⟩, _⟩ := traceErr_zero k
  obtain ⟨e, he, hw⟩ := pow_of_ok _ h3 h4 h5
  obtain ⟨g0, g1⟩ := givenX_range h t
  refine ⟨e, (givenX n p t).toNat, he, by omega, hw, by omega, by unfold expX; rw [hw, tzX_pow], ?_⟩
  calc 2 ^ e ≤ 2 ^ 10 := Nat.pow_le_pow_right (by decide) he
    _ < _ := by decide
theorem rangeAt_blk {W : World} {g : Nat} {cs : List Value} {t : TypeId} {f : Nat × Nat} (h : W.heap[g]? = some (.cells cs.toArray t f)) : W.rangeAt g 0 cs := fun j v hv => by
  rw [Nat.zero_add]
  exact cell_blk h j (by simpa using hv)
/-- The error of Sample. -/
def sampleErr (n : Nat) (p : PolD) (s : Int) (L : List TraceD) : Int := if polErr n p ≠ 0 then polErr n p else if s < 0 ∨ 1024 ≤ s then 2 else firstErr traceErr L
theorem traces_cells {W : World} {A : Option Addr} {L : List TraceD} (h : TracesIn W A L) {j : Nat} (hj : j < L.length) : ∃ b o, A = some ⟨b, o, none⟩ ∧ W.cell? ⟨b, o + j * 3, none⟩ = some (.int .i64 L[j].id) ∧ W.cell? ⟨b, o + j * 3 + 1, none⟩ = some (.int .i64 L[j].weight) ∧ W.cell? ⟨b, o + j * 3 + 2, none⟩ = some (.slice L[j].A L[j].spans.length L[j].c) := by
  obtain ⟨b, o, h1, h2⟩ := h j hj
  exact ⟨b, o, h1, h2 0 _ rfl, h2 1 _ rfl, h2 2 _ rfl⟩
def SampleP (n : Nat) (p : PolD) (s : Int) (L : List TraceD) (w : World) (e : Ending) (w' : World) : Prop :=
  (sampleErr n p s L ≠ 0 → e = .returned (.tuple #[.slice none 0 0, .slice none 0 0, .int .i64 (sampleErr n p s L)])) ∧
  (sampleErr n p s L = 0 → ∃ v u M N, e = .returned (.tuple #[v, u, .int .i64 0]) ∧ Two w.heap.size w' v u M N ∧ M.map TraceD.bare = keptX n p s L ∧ N.map TraceD.bare = goneX n p s L) ∧ Below w.heap.size w w'
theorem SampleP.bad {n : Nat} {p : PolD} {s : Int} {L : List TraceD} {w w' : World} {x : Int} (hx : sampleErr n p s L = x) (h0 : x ≠ 0) (hb : Below w.heap.size w w') : SampleP n p s L w (.returned (.tuple #[.slice none 0 0, .slice none 0 0, .int .i64 x])) w' :=
  ⟨fun _ => by rw [hx], fun h => absurd (hx.symm.trans h) h0, hb⟩
set_option maxHeartbeats 8000000 in
set_option maxRecDepth 20000 in
theorem sample_any (n : Nat) (p : PolD) (s : Int) (A : Option Addr) (c : Nat) (L : List TraceD) (w : World) (hp : p.Lies n w) (hstr : ∀ q ∈ p.rules, PredStr n q.p) (hL : TracesIn w A L) (hT : ∀ t ∈ L, t.Lies w ∧ t.spans.length ≤ 1000) (hlen : L.length ≤ 1000) (hTab : TabAt w) :
    Calls Tryz.prog 13 #[.agg p.cells.toArray, .int .i64 s, .slice A L.length c] w (SampleP n p s L w) := by
  have hB := Lib.hid ((Below.refl _ w).alloc (Nat.le_refl _) (.cells p.cells.toArray 24))
  have hPB := Lib.hid (blk_new w p.cells.toArray 24)
  have hc1 := Lib.hid (fun W (h : Below w.heap.size w W) => polCheck_any n p W (hp.below h) hstr)
  have hc2 := Lib.hid (fun t (ht : t ∈ L) W (h : Below w.heap.size w W) => traceCheck_any t W ((hT t ht).1.below h))
  have hc3 := Lib.hid (fun (hp0 : polErr n p = 0) t (ht : t ∈ L) (h0 : traceErr t = 0) W (h : Below w.heap.size w W) => given_any n p t W ((hp.held_ok hp0).below h) (((hT t ht).1.held_ok h0).below h))
  have HL := Lib.hid hL
  have HT := Lib.hid hT
  have HTab := Lib.hid hTab
  clear hp hstr hL hT hTab
  unfold PolD.cells at hB hPB hc1 hc3 ⊢
  by_cases h1 : polErr n p = 0
  · have h1' : (polErr n p != 0) = false := by rw [h1]; rfl
    have H1 := Lib.hid h1
    clear h1
    by_cases hs : s < 0 ∨ 1024 ≤ s
    · have hx : Hid (sampleErr n p s L = 2) := Lib.hid (by unfold sampleErr; rw [if_neg (by rw [H1.out]; simp), if_pos hs])
      by_cases hs0 : s < 0
      · have d1 : decide (s < 0) = true := decide_eq_true hs0
        clear hs
        go_enter Tryz.func13, Tryz.ntmps13
        go_wp2_with (first
          | (go_at_call 14; (with_reducible refine (hc1.out _ hB.out).mono ?_); rintro e w1 ⟨rfl, k1⟩; have b1 := Lib.hid (hB.out.trans (k1.mono hB.out.size)); clear k1))
        go_ret3
        exact SampleP.bad hx.out (by decide) b1.out
      · have d1 : decide (s < 0) = false := decide_eq_false hs0
        have d2 : decide (1024 ≤ s) = true := decide_eq_true (by omega)
        clear hs
        go_enter Tryz.func13, Tryz.ntmps13
        go_wp2_with (first
          | (go_at_call 14; (with_reducible refine (hc1.out _ hB.out).mono ?_); rintro e w1 ⟨rfl, k1⟩; have b1 := Lib.hid (hB.out.trans (k1.mono hB.out.size)); clear k1))
        go_ret3
        exact SampleP.bad hx.out (by decide) b1.out
    · have hx : Hid (sampleErr n p s L = firstErr traceErr L) := Lib.hid (by unfold sampleErr; rw [if_neg (by rw [H1.out]; simp), if_neg hs])
      have d1 : decide (s < 0) = false := decide_eq_false (by omega)
      have d2 : decide (1024 ≤ s) = false := decide_eq_false (by omega)
      have hs1 : 0 ≤ s := by omega
      have hs2 : s < 1024 := by omega
      clear hs
      go_enter Tryz.func13, Tryz.ntmps13
      go_wp2_with (first
        | (go_at_call 14; (with_reducible refine (hc1.out _ hB.out).mono ?_); rintro e w1 ⟨rfl, k1⟩; have b1 := Lib.hid (hB.out.trans (k1.mono hB.out.size)); have hP1 := Lib.hid (blk_keep k1 hPB.out); clear k1))
      go_loopw [6, 7, 11, 12, 29] (fun v u a b i wr => ∃ j : Nat, v = .slice none 0 0 ∧ u = .slice none 0 0 ∧ j ≤ L.length ∧ i = .int .i64 j ∧ Hid (∀ m (hm : m < j) (h : m < L.length), traceErr L[m] = 0) ∧ Hid (Below w.heap.size w wr) ∧ Hid (wr.heap[w.heap.size]? = some (.cells #[.slice p.A p.rules.length p.c, .int .i64 p.d] 24 (0, 0)))) (fun _ _ _ _ i _ => L.length - (intOf i).toNat)
      case atStart => exact ⟨0, rfl, rfl, by omega, rfl, Lib.hid (fun m hm => by omega), b1, hP1⟩
      case round =>
        clear hP1 b1
        obtain ⟨j, rfl, rfl, hj, rfl, hG, hW, hP⟩ := hrel
        by_cases hlt : j < L.length
        · have hlt2 : decide (j < L.length) = true := decide_eq_true hlt
          obtain ⟨b, o, rfl, f0, f1, f2⟩ := traces_cells (HL.out.below hW.out) hlt
          have hck := Lib.hid (hc2.out _ (List.getElem_mem hlt))
          have hstep := Lib.hid (fun (h : traceErr L[j] = 0) m (hm : m < j + 1) (h' : m < L.length) => (by
            by_cases e : m = j
            · subst e; exact h
            · exact hG.out m (by omega) h' : traceErr L[m] = 0))
          have hfin : Hid (traceErr L[j] ≠ 0 → firstErr traceErr L = traceErr L[j]) := Lib.hid (fun h => firstErr_at traceErr L j hlt h (fun m hm => hG.out m hm (by omega)))
          generalize L[j] = t at *
          have hB1 := Lib.hid (hW.out.alloc hW.out.size (.cells t.cells.toArray 27))
          have hg1 := Lib.hid (Grew.alloc wr (.cells t.cells.toArray 27)).b
          unfold TraceD.cells at hck hB1 hg1
          by_cases he : traceErr t = 0
          · have he2 : (traceErr t != 0) = false := by rw [he]; rfl
            have hst := Lib.hid (hstep.out he)
            clear hstep hfin he
            go_wp2_with (first
              | (go_at_call 15; (with_reducible refine (hck.out _ hB1.out).mono ?_); rintro e' w3 ⟨rfl, k3⟩; have b3 := Lib.hid (hB1.out.trans (k3.mono hB1.out.size)); have P3 := Lib.hid (blk_keep k3 (blk_keep hg1.out hP.out)); clear k3))
            exact ⟨⟨j + 1, rfl, rfl, by omega, by go_num, hst, b3, P3⟩, by simp [intOf]; omega⟩
          · have he2 : (traceErr t != 0) = true := by rw [bne_iff_ne]; exact he
            have hst := Lib.hid (hfin.out he)
            have he := Lib.hid he
            clear hstep hfin
            go_wp2_with (first
              | (go_at_call 15; (with_reducible refine (hck.out _ hB1.out).mono ?_); rintro e' w3 ⟨rfl, k3⟩; have b3 := Lib.hid (hB1.out.trans (k3.mono hB1.out.size)); clear k3))
            go_ret3
            exact SampleP.bad (hx.out.trans hst.out) he.out b3.out
        · obtain rfl : j = L.length := by omega
          have hlt2 : decide (L.length < L.length) = false := decide_eq_false hlt
          have hx0 : Hid (sampleErr n p s L = 0) := Lib.hid (hx.out.trans (firstErr_none _ _ (fun m hm => hG.out m hm hm)))
          clear hx
          go_wp2_with fail
          go_loopw [6, 7, 14, 15, 41] (fun v u x y i wr => ∃ (j : Nat) (M N : List TraceD), j ≤ L.length ∧ i = .int .i64 j ∧ M.length ≤ j ∧ N.length ≤ j ∧ Hid (Two (w.heap.size + 1) wr v u M N) ∧ Hid (M.map TraceD.bare = keptX n p s (L.take j)) ∧ Hid (N.map TraceD.bare = goneX n p s (L.take j)) ∧ Hid (Below w.heap.size w wr) ∧ Hid (wr.heap[w.heap.size]? = some (.cells #[.slice p.A p.rules.length p.c, .int .i64 p.d] 24 (0, 0)))) (fun _ _ _ _ i _ => L.length - (intOf i).toNat)
          case atStart => exact ⟨0, [], [], by omega, rfl, by simp, by simp, Lib.hid (Two.nil _ _), Lib.hid rfl, Lib.hid rfl, hW, hP⟩
          case round =>
            clear hW hP
            obtain ⟨j, M, N, hj, rfl, hM, hN, hR, hKM, hKN, hW, hP⟩ := hrel
            by_cases hlt : j < L.length
            · have hlt2 : decide (j < L.length) = true := decide_eq_true hlt
              obtain ⟨b, o, rfl, f0, f1, f2⟩ := traces_cells (HL.out.below hW.out) hlt
              have ht0 := hG.out j hlt hlt
              have hgv := Lib.hid (hc3.out H1.out _ (List.getElem_mem hlt) ht0)
              have hTL := Lib.hid (HT.out _ (List.getElem_mem hlt))
              have hOK := Lib.hid (traceErr_zero ht0)
              obtain ⟨e, g, he, hg, hwt, hgg, hex, hpw⟩ := expX_range (n := n) (p := p) H1.out ht0
              have hkT := Lib.hid (keptX_take (n := n) (p := p) (s := s) hlt)
              have hnT := Lib.hid (goneX_take (n := n) (p := p) (s := s) hlt)
              generalize L[j] = t at *
              clear ht0
              rw [hgg] at hgv
              have hcpy := Lib.hid (fun wt W (h : Below w.heap.size w W) => copyT_any t wt W (hTL.out.1.below h).at_ (fun e => hTL.out.1.nil e) (hTL.out.1.below h).held (fun x hx => ⟨hTL.out.1.sound x hx, by have := spanErr_small (hOK.out.2 x hx).1; omega, by have := spanErr_small (hOK.out.2 x hx).1; omega⟩) hTL.out.2)
              unfold TraceD.cells at hgv hcpy
              obtain ⟨PW, hPW⟩ : ∃ PW : Int, PW = ((2 ^ e : Nat) : Int) := ⟨_, rfl⟩
              have hcv : IntKind.u64.wrap t.weight = PW := by
                rw [hPW, hwt]
                simp only [IntKind.wrap, IntKind.bits, IntKind.signed]
                exact Int.emod_eq_of_lt (Int.natCast_nonneg _) (by exact_mod_cast hpw)
              have htz := Lib.hid (fun W (h : TabAt W) => hPW ▸ tz_any e he W h)
              have HEX := Lib.hid (And.intro hex (hPW.trans hwt.symm))
              clear hwt hPW hex hgg hpw
              obtain ⟨W1, hW1⟩ : ∃ W1, W1 = wr.alloc (.cells #[.int .i64 t.id, .int .i64 t.weight, .slice t.A t.spans.length t.c] 27) := ⟨_, rfl⟩
              have hg1 : Hid (Below wr.heap.size wr W1) := Lib.hid (by rw [hW1]; exact (Grew.alloc _ _).b)
              have hbx : Hid (W1.heap[wr.heap.size]? = some (.cells #[.int .i64 t.id, .int .i64 t.weight, .slice t.A t.spans.length t.c] 27 (0, 0))) := Lib.hid (by rw [hW1]; exact blk_new _ _ _)
              have hbW : Hid (Below w.heap.size w W1) := Lib.hid (hW.out.trans (hg1.out.mono hW.out.size))
              go_upto_region 16 with (fail)
              rw [← hW1]
              clear hW1
              have htb : Hid (∀ W, Below W1.heap.size W1 W → TabAt W) := Lib.hid fun W h => (HTab.out.below hbW.out).below h
              have hcl : Hid (∀ W, Below W1.heap.size W1 W → W.cell? ⟨wr.heap.size, 1, none⟩ = some (.int .i64 t.weight) ∧ W.heap[wr.heap.size]? = some (.cells #[.int .i64 t.id, .int .i64 t.weight, .slice t.A t.spans.length t.c] 27 (0, 0)) ∧ W.heap[w.heap.size]? = some (.cells #[.slice p.A p.rules.length p.c, .int .i64 p.d] 24 (0, 0))) := Lib.hid fun W h => ⟨cell_blk (blk_keep h hbx.out) 1 rfl, blk_keep h hbx.out, blk_keep h (blk_keep hg1.out hP.out)⟩
              have hmax : Hid (∀ W : World, True) := Lib.hid (fun _ => trivial)
              refine wp_region_quiet (C := Below W1.heap.size W1) (by kernel_rfl) (by kernel_rfl) (below_drew _) ?_
              refine wpQuiet_step (fun K hK => ?_)
              go_simp
              (refine ⟨_, fun _ _ => rfl, hK _ ?_⟩; clear hK K)
              refine wpQuiet_step (fun K hK => ?_)
              go_simp
              (refine ⟨_, fun W' hW' => (by rw [(hcl.out W' hW').1]; exact ⟨rfl, rfl⟩), hK _ ?_⟩; clear hK K)
              refine wpQuiet_step (fun K hK => ?_)
              go_simp
              (refine ⟨_, fun _ _ => rfl, hK _ ?_⟩; clear hK K)
              refine wpQuiet_step (fun K hK => ?_)
              go_simp
              (refine ⟨_, fun W' hW' => (htz.out W' (htb.out W' hW')).mono (fun e w' h => ⟨h.1, by rw [h.2]; exact hW'⟩), hK _ ?_⟩; clear hK K)
              refine wpQuiet_step (fun K hK => ?_)
              refine quiet_load rfl 24 (.tmp 3) rfl w.heap.size 0 rfl [.slice p.A p.rules.length p.c, .int .i64 p.d] _ (fun W hW' => rangeAt_blk (hcl.out W hW').2.2) Tryz.underlying24 rfl (by kernel_rfl) (hK _ ?_)
              clear hK K
              refine wpQuiet_step (fun K hK => ?_)
              refine quiet_load rfl 27 (.tmp 14) rfl wr.heap.size 0 rfl [.int .i64 t.id, .int .i64 t.weight, .slice t.A t.spans.length t.c] _ (fun W hW' => rangeAt_blk (hcl.out W hW').2.1) Tryz.underlying27 rfl (by kernel_rfl) (hK _ ?_)
              clear hK K
              refine wpQuiet_step (fun K hK => ?_)
              go_simp
              (refine ⟨_, fun W' hW' => (hgv.out W' (hbW.out.trans (hW'.mono hbW.out.size))).mono (fun e w' h => ⟨h.1, hW'.trans (h.2.mono hW'.size)⟩), hK _ ?_⟩; clear hK K)
              refine wpQuiet_step (fun K hK => ?_)
              go_simp
              obtain ⟨E, hE⟩ : ∃ E : Nat, E = max e g := ⟨_, rfl⟩
              have hE10 : E ≤ 10 := by omega
              (refine ⟨.int .i64 (E : Int), fun _ _ => (by rw [hE, show (max (e : Int) (g : Int)) = ((max e g : Nat) : Int) by omega]), hK _ ?_⟩; clear hK K)
              have hEX : Hid (expX n p t = E) := Lib.hid (HEX.out.1.trans hE.symm)
              have HW := Lib.hid HEX.out.2
              clear hE HEX hg he
              refine wpQuiet_step (fun K hK => ?_)
              go_simp
              (refine ⟨_, fun _ _ => rfl, hK _ ?_⟩; clear hK K)
              refine wpQuiet_nil ?_
              intro W2 hW2
              have hg2 : Hid (Below wr.heap.size wr W2) := Lib.hid (hg1.out.trans (hW2.mono hg1.out.size))
              have hb2 : Hid (Below w.heap.size w W2) := Lib.hid (hW.out.trans (hg2.out.mono hW.out.size))
              have hbx2 : Hid (W2.heap[wr.heap.size]? = some (.cells #[.int .i64 t.id, .int .i64 t.weight, .slice t.A t.spans.length t.c] 27 (0, 0))) := Lib.hid (hcl.out W2 hW2).2.1
              have hP2 : Hid (W2.heap[w.heap.size]? = some (.cells #[.slice p.A p.rules.length p.c, .int .i64 p.d] 24 (0, 0))) := Lib.hid (hcl.out W2 hW2).2.2
              have hpw2 : IntKind.i64.wrap (2 ^ E) = 2 ^ E := pow_wrapI E hE10
              have hkp : keepB n p s t = kp t.id s E := by unfold keepB; rw [hEX.out]
              have hR2 := Lib.hid (hR.out.below hg2.out)
              have hlt6 := Lib.hid (fun b (hb : Value.ownBlock u6 = some b) => hR.out.r.lt b hb)
              have hlt7 := Lib.hid (fun b (hb : Value.ownBlock u7 = some b) => hR.out.s.lt b hb)
              clear hcl htb hmax htz hgv hbx hbW hg1 hW2 hR hP hcv
              have y0 : W2.cell? ⟨wr.heap.size, 0, none⟩ = some (.int .i64 t.id) := cell_blk hbx2.out 0 rfl
              go_wp2_with fail
              (with_reducible refine (keep_any _ _ _ hs1 hs2 hE10 _).mono ?_)
              rintro _ W3 ⟨rfl, nq, rfl⟩
              have hg3 : Hid (Below wr.heap.size wr (W2.drewN nq)) := Lib.hid (hg2.out.trans ((below_drewN0 W2 nq).mono hg2.out.size))
              have hb3 : Hid (Below w.heap.size w (W2.drewN nq)) := Lib.hid (hW.out.trans (hg3.out.mono hW.out.size))
              have hbx3 := Lib.hid (blk_keep (below_drewN0 W2 nq) hbx2.out)
              have hP3 := Lib.hid (blk_keep (below_drewN0 W2 nq) hP2.out)
              have hR3 := Lib.hid (hR2.out.below (below_drewN0 W2 nq))
              have hgw := hb3.out.size
              have hgw1 := blk_lt hP3.out
              clear hg2 hb2 hbx2 hP2 hR2 y0
              generalize W2.drewN nq = W3 at *
              clear W2
              cases hk : kp t.id s E with
              | true =>
                have hkk := hkp.trans hk
                clear hkp hk
                go_wp2_with fail
                have hs6 := Lib.hid hR3.out.r
                refine wp_region_held_drew (S := fun W => W.heap[wr.heap.size]? = some (.cells #[.int .i64 t.id, .int .i64 t.weight, .slice t.A t.spans.length t.c] 27 (0, 0))) (by kernel_rfl) (blk_keep (below_drew _) hbx3.out) (fun hHeld => ?_)
                refine take_at (i := 0) (v := ?_) rfl (by kernel_rfl) (by kernel_rfl) (by kernel_rfl) (fun _ _ _ h => h) (Or.inl ⟨by rfl, ?_⟩) hHeld ?_
                rotate_left
                · intro W hSw; go_simp; try with_reducible rfl
                try simp only [Act.put, List.setIfInBounds_toArray, List.set_cons_zero, List.set_cons_succ]
                refine take_at (i := 1) rfl (by kernel_rfl) (by kernel_rfl) (by kernel_rfl) (fun _ _ _ h => h) (yieldsIf_load_mid (by rfl) 27 (.tmp 14) rfl wr.heap.size 0 rfl [.int .i64 t.id, .int .i64 t.weight, .slice t.A t.spans.length t.c] _ (fun W hW' => rangeAt_blk hW') Tryz.underlying27 rfl (by kernel_rfl)) hHeld ?_
                try simp only [Act.put, List.setIfInBounds_toArray, List.set_cons_zero, List.set_cons_succ]
                refine take_at (i := 2) (v := ?_) rfl (by kernel_rfl) (by kernel_rfl) (by kernel_rfl) (fun _ _ _ h => h) (Or.inl ⟨by rfl, ?_⟩) hHeld ?_
                rotate_left
                · intro W hSw; go_simp; try with_reducible rfl
                try simp only [Act.put, List.setIfInBounds_toArray, List.set_cons_zero, List.set_cons_succ]
                refine take_at (i := 3) (v := ?_) rfl (by kernel_rfl) (by kernel_rfl) (by kernel_rfl) (fun _ _ _ h => h) (Or.inl ⟨by rfl, ?_⟩) hHeld ?_
                rotate_left
                · intro W hSw; go_simp; try with_reducible rfl
                try simp only [Act.put, List.setIfInBounds_toArray, List.set_cons_zero, List.set_cons_succ]
                refine wpAnyH_one 4 (by kernel_rfl) rfl (by rfl) (fun K hK => ?_)
                go_simp
                (with_reducible refine (hcpy.out _ _ (hb3.out.trans ((below_drew W3).mono hgw))).mono ?_)
                rintro e5 W5 ⟨A5, c5, M5, rfl, hM5, hI5, hO5, hA5, hB5⟩
                have hB5' : Hid (Below W3.heap.size W3 W5) := Lib.hid ((below_drew W3).trans hB5)
                have hl5 : M5.length = t.spans.length := by have := congrArg List.length hM5; simpa using this
                have hY := Lib.hid (copied_own (id := t.id) (wt := 2 ^ E) (c := c5) hM5 hI5 hO5 hA5 (by rw [hl5]; have := hTL.out.1.len; exact this) hTL.out.1.txt)
                have hM5' := Lib.hid hM5
                clear hM5 hI5 hO5 hA5 hB5
                refine hK _ _ (blk_keep hB5'.out hbx3.out) ?_
                clear hK K
                refine wpAnyH_one 5 (by kernel_rfl) rfl (by rfl) (fun K hK => ?_)
                go_simp
                refine hK _ _ (blk_keep (below_alloc _ _) (blk_keep hB5'.out hbx3.out)) ?_
                clear hK K
                try simp only [Act.put, List.setIfInBounds_toArray, List.set_cons_zero, List.set_cons_succ]
                refine wpAnyH_one 6 (by kernel_rfl) rfl (by rfl) (fun K hK => ?_)
                obtain ⟨i0, z0, hi, hz, hsz, hby, hzs⟩ := infoSz_spec infoT
                have hR5 := Lib.hid (hR3.out.below hB5'.out)
                have hsz5 := hB5'.out.size
                refine wp_append_any (.tmp 58) (.tmp 63) 42 rfl (w.heap.size + 1) 27 i0 z0 3 Tryz.underlying42 hi hz hsz hby hzs (by decide) u6 M.length (cellsT M) rfl (hR5.out.r.alloc _) (some ⟨W5.heap.size, 0, none⟩) 1 1 [.int .i64 t.id, .int .i64 (2 ^ E), .slice A5 t.spans.length c5] rfl rfl (fun h => by cases h) (fun q hq => by cases hq; exact cells_new _ _ _) (by intro v hv; simp only [List.mem_cons, List.not_mem_nil, or_false] at hv; rcases hv with rfl | rfl | rfl <;> rfl) (by omega) (by simp; omega) ?_
                intro v' W6 hown hgr hat
                have hS6 : Hid (Two (w.heap.size + 1) W6 v' u7 (M ++ [TraceD.mk t.id (2 ^ E) A5 c5 M5]) N) := Lib.hid (hR3.out.snoc hgw1 (hB5'.out.alloc hsz5 _) (hY.out.below (below_alloc _ _)) (by simpa [TraceD.cells, hl5] using hown) hgr (by simpa using hat))
                have hbl := Lib.hid ((hb3.out.trans ((hB5'.out.alloc hsz5 _).mono hgw)).grown hgr (by simp; omega) (fun b hb => by have := (hlt6.out b hb).1; omega))
                have hP6 : Hid (W6.heap[w.heap.size]? = some (.cells #[.slice p.A p.rules.length p.c, .int .i64 p.d] 24 (0, 0))) := Lib.hid ((hgr.block _ (by simp; omega) (fun e => by have := (hlt6.out _ e.symm).1; omega)).trans (blk_keep (below_alloc _ _) (blk_keep hB5'.out hP3.out)))
                have hx6 : W6.heap[wr.heap.size]? = some (.cells #[.int .i64 t.id, .int .i64 t.weight, .slice t.A t.spans.length t.c] 27 (0, 0)) := (hgr.block _ (by have := blk_lt hbx3.out; simp; omega) (fun e => by have := (hlt6.out _ e.symm).2; omega)).trans (blk_keep (below_alloc _ _) (blk_keep hB5'.out hbx3.out))
                refine hK _ _ hx6 ?_
                clear hK K
                try simp only [Act.put, List.setIfInBounds_toArray, List.set_cons_zero, List.set_cons_succ]
                refine wpAnyH_one 7 (by kernel_rfl) rfl (by rfl) (fun K hK => ?_)
                go_simp
                refine hK _ _ hx6 ?_
                clear hK K
                refine wpAnyH_done (by kernel_rfl) ?_ _
                have hm6 : Hid ((M ++ [TraceD.mk t.id (2 ^ E) A5 c5 M5]).map TraceD.bare = keptX n p s (L.take (j + 1))) := Lib.hid (by
                  rw [hkT.out, if_pos hkk, List.map_append, hKM.out]
                  unfold keptT
                  rw [hEX.out, ← hM5'.out]
                  rfl)
                have hn6 : Hid (N.map TraceD.bare = goneX n p s (L.take (j + 1))) := Lib.hid (by
                  rw [hnT.out, if_pos hkk, hKN.out, List.append_nil])
                clear hown hgr hat hx6
                try simp only [Act.put, List.setIfInBounds_toArray, List.set_cons_zero, List.set_cons_succ]
                go_wp2_with fail
                exact ⟨⟨j + 1, _, N, by omega, by go_num, by simp; omega, by omega, hS6, hm6, hn6, hbl, hP6⟩, by simp [intOf]; omega⟩
              | false =>
                have hkk := hkp.trans hk
                clear hkp hk
                have y0 : W3.cell? ⟨wr.heap.size, 0, none⟩ = some (.int .i64 t.id) := cell_blk hbx3.out 0 rfl
                have y1 : W3.cell? ⟨wr.heap.size, 1, none⟩ = some (.int .i64 t.weight) := cell_blk hbx3.out 1 rfl
                have y2 : W3.cell? ⟨wr.heap.size, 2, none⟩ = some (.slice t.A t.spans.length t.c) := cell_blk hbx3.out 2 rfl
                obtain ⟨i0, z0, hi, hz, hsz, hby, hzs⟩ := infoSz_spec infoT
                have hi := Lib.hid hi
                have hz := Lib.hid hz
                go_wp2_with (first
                  | (go_at_call 30; (with_reducible refine (hcpy.out _ _ hb3.out).mono ?_); rintro e5 W5 ⟨A5, c5, M5, rfl, hM5, hI5, hO5, hA5, hB5⟩; have hB5' := Lib.hid hB5; have hl5 : M5.length = t.spans.length := (by have := congrArg List.length hM5; simpa using this); have hY := Lib.hid (copied_own (id := t.id) (wt := t.weight) (c := c5) hM5 hI5 hO5 hA5 (by rw [hl5]; have := hTL.out.1.len; exact this) hTL.out.1.txt); have hM5' := Lib.hid hM5; have hsz5 := hB5.size; have hR5 := Lib.hid (hR3.out.below hB5); clear hM5 hI5 hO5 hA5 hB5 y0 y1 y2)
                  | (at_builtin; refine wpList_append_own_at _ rfl (.tmp 65) (.tmp 70) 42 rfl (w.heap.size + 1) 27 i0 z0 3 i0.bytes Tryz.underlying42 hi.out hz.out hsz rfl hzs (by decide) u7 N.length (cellsT N) rfl (hR5.out.s.alloc _) ⟨W5.heap.size, 0, none⟩ 1 1 [.int .i64 t.id, .int .i64 t.weight, .slice A5 t.spans.length c5] rfl rfl (cells_new _ _ _) (by intro v hv; simp only [List.mem_cons, List.not_mem_nil, or_false] at hv; rcases hv with rfl | rfl | rfl <;> rfl) (by unfold maxLen; omega) (Nat.le_trans (Nat.mul_le_mul (show N.length + 1 ≤ 1001 by omega) hby) (by decide)) (by simp; omega) ?_; intro v' W6 hown hgr hnil hat; have HW := Lib.hid hown; have HG := Lib.hid hgr; have HA := Lib.hid hat; clear hown hgr hnil hat))
                have hS6 : Hid (Two (w.heap.size + 1) W6 u6 v' M (N ++ [TraceD.mk t.id t.weight A5 c5 M5])) := Lib.hid (Two.swap (hR3.out.swap.snoc hgw1 (hB5'.out.alloc hsz5 _) (hY.out.below (below_alloc _ _)) (by simpa [TraceD.cells, hl5] using HW.out) HG.out (by simpa using HA.out)))
                have hbl := Lib.hid ((hb3.out.trans ((hB5'.out.alloc hsz5 _).mono hgw)).grown HG.out (by simp; omega) (fun b hb => by have := (hlt7.out b hb).1; omega))
                have hP6 : Hid (W6.heap[w.heap.size]? = some (.cells #[.slice p.A p.rules.length p.c, .int .i64 p.d] 24 (0, 0))) := Lib.hid ((HG.out.block _ (by simp; omega) (fun e => by have := (hlt7.out _ e.symm).1; omega)).trans (blk_keep (below_alloc _ _) (blk_keep hB5'.out hP3.out)))
                have hm6 : Hid (M.map TraceD.bare = keptX n p s (L.take (j + 1))) := Lib.hid (by
                  rw [hkT.out, if_neg (by rw [hkk]; decide), hKM.out, List.append_nil])
                have hn6 : Hid ((N ++ [TraceD.mk t.id t.weight A5 c5 M5]).map TraceD.bare = goneX n p s (L.take (j + 1))) := Lib.hid (by
                  rw [hnT.out, if_neg (by rw [hkk]; decide), List.map_append, hKN.out]
                  unfold TraceD.bare
                  rw [← hM5'.out]
                  rfl)
                exact ⟨⟨j + 1, M, _, by omega, by go_num, by omega, by simp; omega, hS6, hm6, hn6, hbl, hP6⟩, by simp [intOf]; omega⟩
            · obtain rfl : j = L.length := by omega
              have hlt2 : decide (L.length < L.length) = false := decide_eq_false hlt
              go_wp2_with fail
              go_ret3
              refine ⟨fun h => absurd hx0.out h, fun _ => ⟨_, _, M, N, rfl, hR.out.mono (Nat.le_succ _), by rw [hKM.out, List.take_length], by rw [hKN.out, List.take_length]⟩, hW.out⟩
  · have h1' : (polErr n p != 0) = true := by rw [bne_iff_ne]; exact h1
    have hx : Hid (sampleErr n p s L = polErr n p) := Lib.hid (if_pos h1)
    have h1 := Lib.hid h1
    go_enter Tryz.func13, Tryz.ntmps13
    go_wp2_with (first
      | (go_at_call 14; (with_reducible refine (hc1.out _ hB.out).mono ?_); rintro e w1 ⟨rfl, k1⟩; have b1 := Lib.hid (hB.out.trans (k1.mono hB.out.size)); clear k1))
    go_ret3
    exact SampleP.bad hx.out h1.out b1.out
end Go.Proofs.YtnddlpfmagdbfaaGreatDoor
/- Plain law: what a policy gives does not depend on addresses. -/
namespace Go.Proofs.YtnddlpfmagdbfaaGreatDoor
open Go Go.Proofs Go.RowKit Go.Shelf Go.Lib Go.Sort
set_option linter.unusedVariables false
set_option linter.unusedSimpArgs false
theorem bare_bare (x : SpanD) : x.bare.bare = x.bare := rfl
theorem cmpX_bare2 (x y : SpanD) : cmpX x.bare y.bare = cmpX x y := rfl
theorem pickI_map {α β : Type} (f : α → β) (k : Nat → Bool) : ∀ (L : List α) (i : Nat), pickI k i (L.map f) = (pickI k i L).map f
  | [], _ => rfl
  | x :: l, i => by
    simp only [List.map_cons, pickI]
    rw [pickI_map f k l (i + 1)]
    split <;> rfl
theorem newB_map (L : List SpanD) : newB (L.map SpanD.bare) = newB L := by
  funext i
  cases i with
  | zero => rfl
  | succ k =>
    simp only [newB, List.getElem?_map]
    cases L[k + 1]? with
    | none => rfl
    | some y =>
      cases L[k]? with
      | none => rfl
      | some x => rfl
theorem lastB_map (L : List SpanD) : lastB (L.map SpanD.bare) = lastB L := by
  funext i
  simp only [lastB, List.getElem?_map]
  cases L[i]? with
  | none => rfl
  | some y =>
    cases L[i + 1]? with
    | none => rfl
    | some x => rfl
theorem sortX_map (L : List SpanD) : sortX (L.map SpanD.bare) = (sortX L).map SpanD.bare := by
  unfold sortX
  by_cases h : 0 < L.length
  · rw [dif_pos h, dif_pos (by rw [List.length_map]; exact h)]
    have key : ∀ (m : Nat) (hm : m = L.length) (g : Fin m → SpanD) (hg : ∀ i, g i = (L[(i.cast hm)]).bare) (h0 : 0 < m),
        (letI : Inhabited (Fin m) := ⟨⟨0, h0⟩⟩; (pdq (ltOf fun i j : Fin m => cmpX (g i) (g j)) (Array.ofFn id) 0 m (Lib.bitLen m) true true).toList.map g) = ((permX L h).toList.map fun i => L[i]).map SpanD.bare := by
      intro m hm g hg h0
      subst hm
      have : g = fun i => (L[i]).bare := funext hg
      subst this
      rw [List.map_map]
      rfl
    exact key (L.map SpanD.bare).length (List.length_map _) (fun i => (L.map SpanD.bare)[i]) (fun i => by simp) (by rw [List.length_map]; exact h)
  · rw [dif_neg h, dif_neg (by rw [List.length_map]; exact h)]
    rfl
theorem winX_map (L : List SpanD) : winX (L.map SpanD.bare) = (winX L).map SpanD.bare := by
  have hs : setX (L.map SpanD.bare) = (setX L).map SpanD.bare := by
    unfold setX compX
    rw [sortX_map, newB_map, pickI_map]
  unfold winX
  rw [hs, lastB_map, pickI_map]
theorem givenX_bare {n : Nat} {p : PolD} {t u : TraceD} (h : t.spans.map SpanD.bare = u.spans.map SpanD.bare) : givenX n p t = givenX n p u := by
  have hw : (winX t.spans).map SpanD.bare = (winX u.spans).map SpanD.bare := by rw [← winX_map, ← winX_map, h]
  unfold givenX
  congr 1
  funext q
  exact any_bare hw n q
end Go.Proofs.YtnddlpfmagdbfaaGreatDoor
/- Plain law: sampling traces without addresses, once and once more. -/
namespace Go.Proofs.YtnddlpfmagdbfaaGreatDoor
open Go Go.Proofs Go.RowKit
set_option linter.unusedVariables false
set_option linter.unusedSimpArgs false
abbrev BT := Int × Int × List SpanD
/-- A trace without addresses as a trace. -/
def ofB (z : BT) : TraceD := ⟨z.1, z.2.1, none, 0, z.2.2⟩
def givB (n : Nat) (p : PolD) (z : BT) : Nat := (givenX n p (ofB z)).toNat
def expB (n : Nat) (p : PolD) (z : BT) : Nat := max (tzX z.2.1) (givB n p z)
def keeps (n : Nat) (p : PolD) (s : Int) (z : BT) : Bool := kp z.1 s (expB n p z)
def outB (n : Nat) (p : PolD) (z : BT) : BT := (z.1, 2 ^ expB n p z, z.2.2)
/-- What is kept of a list of traces, and what is not. -/
def stepK (n : Nat) (p : PolD) (s : Int) (L : List BT) : List BT := (L.filter (keeps n p s)).map (outB n p)
def stepG (n : Nat) (p : PolD) (s : Int) (L : List BT) : List BT := L.filter fun z => !keeps n p s z
theorem given_bare (n : Nat) (p : PolD) (t : TraceD) : givenX n p t = givenX n p (ofB t.bare) := givenX_bare (by
  show t.spans.map SpanD.bare = (t.spans.map SpanD.bare).map SpanD.bare
  rw [List.map_map]
  rfl)
theorem exp_bare (n : Nat) (p : PolD) (t : TraceD) : expX n p t = expB n p t.bare := by
  unfold expX expB givB
  rw [given_bare]
  rfl
theorem keptX_bare (n : Nat) (p : PolD) (s : Int) (L : List TraceD) : keptX n p s L = stepK n p s (L.map TraceD.bare) := by
  unfold keptX stepK
  rw [List.filter_map, List.map_map]
  congr 1
  · funext t
    show keptT n p t = outB n p t.bare
    unfold keptT outB
    rw [exp_bare]
    rfl
  · congr 1
    funext t
    show keepB n p s t = keeps n p s t.bare
    unfold keepB keeps
    rw [exp_bare]
    rfl
theorem goneX_bare (n : Nat) (p : PolD) (s : Int) (L : List TraceD) : goneX n p s L = stepG n p s (L.map TraceD.bare) := by
  unfold goneX stepG
  rw [List.filter_map]
  congr 1
  congr 1
  funext t
  show (!keepB n p s t) = !keeps n p s t.bare
  unfold keepB keeps
  rw [exp_bare]
  rfl
theorem step_length (n : Nat) (p : PolD) (s : Int) (L : List BT) : (stepK n p s L).length + (stepG n p s L).length = L.length := by
  unfold stepK stepG
  rw [List.length_map]
  induction L with
  | nil => rfl
  | cons z l ih =>
    by_cases h : keeps n p s z = true
    · rw [List.filter_cons_of_pos h, List.filter_cons_of_neg (by simp [h])]
      simp only [List.length_cons]
      omega
    · rw [List.filter_cons_of_neg h, List.filter_cons_of_pos (by simp [h])]
      simp only [List.length_cons]
      omega
theorem tz_out (n : Nat) (p : PolD) (z : BT) : tzX (outB n p z).2.1 = expB n p z := by
  show tzX (2 ^ expB n p z) = _
  have : ((2 : Int) ^ expB n p z) = ((2 ^ expB n p z : Nat) : Int) := by simp
  rw [this, tzX_pow]
theorem exp_out (n m : Nat) (p r : PolD) (z : BT) : expB m r (outB n p z) = max (expB n p z) (givB m r z) := by
  show max (tzX (outB n p z).2.1) (givB m r (outB n p z)) = _
  rw [tz_out]
  have : givB m r (outB n p z) = givB m r z := congrArg Int.toNat (givenX_bare rfl)
  rw [this]
theorem kp_mono {id s : Int} {a b : Nat} (h : a ≤ b) (k : kp id s b = true) : kp id s a = true := by
  unfold kp at k ⊢
  have : (2 : Int) ^ (10 - b) ≤ 2 ^ (10 - a) := by
    have := Nat.pow_le_pow_right (show 0 < 2 by decide) (show 10 - b ≤ 10 - a by omega)
    exact_mod_cast this
  simp only [decide_eq_true_eq] at k ⊢
  omega
/-- To sample by two policies one behind the other. -/
theorem step_step (n m : Nat) (p r : PolD) (s : Int) (L : List BT) : stepK m r s (stepK n p s L) = (L.filter fun z => kp z.1 s (max (max (tzX z.2.1) (givB n p z)) (givB m r z))).map fun z => (z.1, 2 ^ max (max (tzX z.2.1) (givB n p z)) (givB m r z), z.2.2) := by
  unfold stepK
  rw [List.filter_map, List.map_map, List.filter_filter]
  have hk : ∀ z, (keeps m r s ∘ outB n p) z = kp z.1 s (max (max (tzX z.2.1) (givB n p z)) (givB m r z)) := fun z => by
    show kp z.1 s (expB m r (outB n p z)) = _
    rw [exp_out]
    rfl
  congr 1
  · funext z
    show outB m r (outB n p z) = _
    show (z.1, 2 ^ expB m r (outB n p z), z.2.2) = _
    rw [exp_out]
    rfl
  · congr 1
    funext z
    rw [hk]
    cases hb : kp z.1 s (max (max (tzX z.2.1) (givB n p z)) (givB m r z)) with
    | false => rfl
    | true =>
      rw [Bool.true_and]
      exact kp_mono (Nat.le_max_left _ _) hb
theorem step_comm (n m : Nat) (p r : PolD) (s : Int) (L : List BT) : stepK m r s (stepK n p s L) = stepK n p s (stepK m r s L) := by
  rw [step_step, step_step]
  have : ∀ z : BT, max (max (tzX z.2.1) (givB n p z)) (givB m r z) = max (max (tzX z.2.1) (givB m r z)) (givB n p z) := fun z => by omega
  simp only [this]
theorem step_twice (n m : Nat) (p r : PolD) (s : Int) (L : List BT) (h : ∀ z ∈ L, givB m r z ≤ expB n p z) : stepK m r s (stepK n p s L) = stepK n p s L := by
  rw [step_step]
  have hm : ∀ z ∈ L, max (max (tzX z.2.1) (givB n p z)) (givB m r z) = expB n p z := fun z hz => by
    have := h z hz
    unfold expB at this ⊢
    omega
  unfold stepK
  have h1 : (L.filter fun z => kp z.1 s (max (max (tzX z.2.1) (givB n p z)) (givB m r z))) = L.filter (keeps n p s) := List.filter_congr fun z hz => by
    rw [hm z hz]
    rfl
  rw [h1]
  refine List.map_congr_left fun z hz => ?_
  rw [hm z (List.mem_filter.1 hz).1]
  rfl
theorem step_none (n : Nat) (p : PolD) (s : Int) (L : List BT) : stepG n p s (stepK n p s L) = [] := by
  have h1 := step_length n p s (stepK n p s L)
  rw [step_twice n n p p s L fun z _ => by unfold expB; omega] at h1
  exact List.length_eq_zero_iff.1 (by omega)
/-- Is a trace without addresses in order. -/
def okB (z : BT) : Prop := traceErr (ofB z) = 0
theorem firstErr_map {α β : Type} (f : β → Int) (g : α → β) : ∀ L : List α, firstErr f (L.map g) = firstErr (fun x => f (g x)) L
  | [] => rfl
  | x :: l => by
    simp only [List.map_cons, firstErr]
    rw [firstErr_map f g l]
theorem traceErr_bare (t : TraceD) : traceErr t = traceErr (ofB t.bare) := by
  unfold traceErr
  have h1 : firstErr (memErr (ofB t.bare).id) (ofB t.bare).spans = firstErr (memErr t.id) t.spans := by
    show firstErr (memErr t.id) (t.spans.map SpanD.bare) = _
    rw [firstErr_map]
    rfl
  rw [h1]
  rfl
theorem okB_out {n : Nat} {p : PolD} (hp : polErr n p = 0) {z : BT} (h : okB z) : okB (outB n p z) := by
  unfold okB at h ⊢
  obtain ⟨e, g, he, hg, hw, hgg, hex, _⟩ := expX_range (n := n) (p := p) hp h
  have hz := traceErr_zero h
  obtain ⟨⟨i0, i1, _⟩, hs⟩ := hz
  have hE : expB n p z = max e g := by
    show expX n p (ofB z) = _
    exact hex
  unfold traceErr
  rw [if_pos]
  · refine firstErr_none _ _ fun m hm => ?_
    obtain ⟨h1, h2⟩ := hs (ofB z).spans[m] (List.getElem_mem hm)
    show memErr z.1 (ofB z).spans[m] = 0
    unfold memErr
    rw [if_neg (by rw [h1]; simp), if_neg (by rw [h2]; simp [ofB])]
  · refine ⟨i0, i1, ?_⟩
    show 1 ≤ (2 : Int) ^ expB n p z ∧ (2 : Int) ^ expB n p z ≤ 1024 ∧ Go.bits .and .i64 ((2 : Int) ^ expB n p z) ((2 : Int) ^ expB n p z - 1) = 0
    rw [hE]
    have hk : max e g ≤ 10 := by omega
    generalize max e g = k at hk
    obtain rfl | rfl | rfl | rfl | rfl | rfl | rfl | rfl | rfl | rfl | rfl : k = 0 ∨ k = 1 ∨ k = 2 ∨ k = 3 ∨ k = 4 ∨ k = 5 ∨ k = 6 ∨ k = 7 ∨ k = 8 ∨ k = 9 ∨ k = 10 := by omega
    all_goals decide
theorem okB_step {n : Nat} {p : PolD} {s : Int} (hp : polErr n p = 0) {L : List BT} (h : ∀ z ∈ L, okB z) : ∀ z ∈ stepK n p s L, okB z := by
  intro z hz
  obtain ⟨y, hy, rfl⟩ := List.mem_map.1 hz
  exact okB_out hp (h y (List.mem_filter.1 hy).1)
end Go.Proofs.YtnddlpfmagdbfaaGreatDoor
/- Contract: the law's same, where two lists of traces are alike but for addresses. -/
namespace Go.Proofs.YtnddlpfmagdbfaaGreatDoor
open Go Go.Proofs Go.RowKit
set_option linter.unusedVariables false
set_option linter.unusedSimpArgs false
theorem cmpX_bare {x y : SpanD} (h : x.bare = y.bare) : (cmpX x y == 0) = true := by
  have h1 : cmpX x y = cmpX x.bare y.bare := rfl
  rw [h1, h, good_cmpX.refl]
  rfl
set_option maxHeartbeats 8000000 in
set_option maxRecDepth 20000 in
theorem same_any (A B : Option Addr) (c e : Nat) (L M : List TraceD) (w : World) (hL : TracesIn w A L) (hM : TracesIn w B M) (hT : ∀ t ∈ L, t.Lies w) (hU : ∀ t ∈ M, t.Lies w) (h : L.map TraceD.bare = M.map TraceD.bare) (hl : L.length ≤ 100000) :
    Calls Tryz.prog 21 #[.slice A L.length c, .slice B M.length e] w fun e w' => e = .returned (.bool true) ∧ Below w.heap.size w w' := by
  have hn : M.length = L.length := by have := congrArg List.length h; simpa using this.symm
  have HE := Lib.hid (fun i (h1 : i < L.length) (h2 : i < M.length) => (by
    have : (L.map TraceD.bare)[i]? = (M.map TraceD.bare)[i]? := by rw [h]
    rw [List.getElem?_map, List.getElem?_map, List.getElem?_eq_getElem h1, List.getElem?_eq_getElem h2] at this
    exact Option.some.inj this : L[i].bare = M[i].bare))
  have HL := Lib.hid hL
  have HM := Lib.hid hM
  have HT := Lib.hid hT
  have HU := Lib.hid hU
  have HN := Lib.hid hn
  rw [hn]
  clear hL hM hT hU h hn
  obtain ⟨n, hn⟩ : ∃ n, n = L.length := ⟨_, rfl⟩
  have HLn := Lib.hid hn
  rw [← hn] at hl ⊢
  clear hn
  go_enter Tryz.func21, Tryz.ntmps21
  go_wp2_with fail
  go_loopw [5] (fun i wr => ∃ m : Nat, m ≤ n ∧ i = .int .i64 (m : Int) ∧ Hid (Below w.heap.size w wr)) (fun i _ => n - (intOf i).toNat)
  case atStart => exact ⟨0, by omega, rfl, Lib.hid (Below.refl _ _)⟩
  case round =>
    obtain ⟨m, hm, rfl, hW⟩ := hrel
    by_cases hlt : m < n
    · have hlt2 : decide (m < n) = true := decide_eq_true hlt
      have h1 : m < L.length := by have := HLn.out; omega
      have h2 : m < M.length := by have := HLn.out; have := HN.out; omega
      have HC1 := Lib.hid (fun W (k : Below w.heap.size w W) => traces_cells (HL.out.below k) h1)
      have HC2 := Lib.hid (fun W (k : Below w.heap.size w W) => traces_cells (HM.out.below k) h2)
      have HT1 := Lib.hid (HT.out _ (List.getElem_mem h1))
      have HU1 := Lib.hid (HU.out _ (List.getElem_mem h2))
      have hbb := HE.out m h1 h2
      generalize L[m] = t at *
      generalize M[m] = u at *
      obtain ⟨id, wt, A1, c1, s1⟩ := t
      obtain ⟨id', wt', A2, c2, s2⟩ := u
      obtain ⟨rfl, hbb⟩ := Prod.mk.inj hbb
      obtain ⟨rfl, hbb⟩ := Prod.mk.inj hbb
      have hls : s2.length = s1.length := by have := congrArg List.length hbb; simpa using this.symm
      have HBB := Lib.hid hbb
      simp only [hls] at HC1 HC2
      have HLS := Lib.hid hls
      clear hbb hls
      obtain ⟨n1, hn1⟩ : ∃ k, k = s1.length := ⟨_, rfl⟩
      simp only [← hn1] at HC1 HC2
      have HN1 := Lib.hid hn1
      have hn1s : n1 ≤ 100000 := by rw [hn1]; exact HT1.out.len
      clear hn1
      obtain ⟨b1, o1, rfl, f0, f1, f2⟩ := HC1.out wr hW.out
      obtain ⟨b2, o2, rfl, g0, g1, g2⟩ := HC2.out wr hW.out
      go_upto_region 6 with (fail)
      go_quiet (fail)
      have HW1 := Lib.hid (hW.out.trans ((below_drewN0 wr nq).mono hW.out.size))
      clear f0 f1 f2 g0 g1 g2
      generalize wr.drewN nq = W1 at *
      clear hW
      go_wp2_with fail
      go_loopw [6] (fun i wr' => ∃ k : Nat, k ≤ n1 ∧ i = .int .i64 (k : Int) ∧ Hid (Below w.heap.size w wr')) (fun i _ => n1 - (intOf i).toNat)
      case atStart => exact ⟨0, by omega, rfl, HW1⟩
      case round =>
        obtain ⟨wo, rfl⟩ : ∃ x, x = W1 := ⟨_, rfl⟩
        obtain ⟨k, hk, rfl, hW⟩ := hrel
        obtain ⟨_, _, ee, f0, f1, f2⟩ := HC1.out _ hW.out
        cases ee
        obtain ⟨_, _, ee, g0, g1, g2⟩ := HC2.out _ hW.out
        cases ee
        by_cases hkt : k < n1
        · have hkt2 : decide (k < n1) = true := decide_eq_true hkt
          have k1 : k < s1.length := by have := HN1.out; omega
          have k2 : k < s2.length := by have := HLS.out; omega
          obtain ⟨b3, o3, hA1, hx⟩ := HT1.out.at_ k k1
          obtain ⟨b4, o4, hA2, hy⟩ := HU1.out.at_ k k2
          obtain rfl : A1 = some ⟨b3, o3, none⟩ := hA1
          obtain rfl : A2 = some ⟨b4, o4, none⟩ := hA2
          have HX := Lib.hid hx
          have HY := Lib.hid hy
          have HXH := Lib.hid (HT1.out.held _ (List.getElem_mem k1))
          have HYH := Lib.hid (HU1.out.held _ (List.getElem_mem k2))
          have HEQ : Hid ((cmpX s1[k] s2[k] == 0) = true) := Lib.hid (cmpX_bare (by
            have : (s1.map SpanD.bare)[k]? = (s2.map SpanD.bare)[k]? := by rw [HBB.out]
            rw [List.getElem?_map, List.getElem?_map, List.getElem?_eq_getElem k1, List.getElem?_eq_getElem k2] at this
            exact Option.some.inj this))
          clear hx hy
          simp only [TraceD.spans] at HX HY HXH HYH
          generalize s1[k] = x at *
          generalize s2[k] = y at *
          go_upto_region 11 with (fail)
          obtain ⟨d, hd, hd'⟩ := rowX
          clear f0 f1 f2 g0 g1 g2
          refine wp_region_quiet (C := Below w.heap.size w) (by kernel_rfl) (by kernel_rfl) (hW.out.trans ((below_drew _).mono hW.out.size)) ?_
          refine wpQuiet_step (fun K hK => ?_)
          go_simp
          (refine ⟨_, fun _ _ => rfl, hK _ ?_⟩; clear hK K)
          refine wpQuiet_step (fun K hK => ?_)
          go_simp
          (refine ⟨_, fun _ _ => rfl, hK _ ?_⟩; clear hK K)
          refine wpQuiet_step (fun K hK => ?_)
          go_simp
          (refine ⟨_, fun _ _ => rfl, hK _ ?_⟩; clear hK K)
          refine wpQuiet_step (fun K hK => ?_)
          go_simp
          (refine ⟨_, fun _ _ => rfl, hK _ ?_⟩; clear hK K)
          refine wpQuiet_step (fun K hK => ?_)
          go_simp
          (refine ⟨_, fun W' hW' => (by obtain ⟨_, _, ee, _, _, ff⟩ := HC1.out W' hW'; cases ee; rw [ff]; exact ⟨rfl, rfl⟩), hK _ ?_⟩; clear hK K)
          refine wpQuiet_step (fun K hK => ?_)
          go_simp
          (refine ⟨_, fun _ _ => rfl, hK _ ?_⟩; clear hK K)
          refine wpQuiet_step (fun K hK => ?_)
          go_simp
          (refine ⟨_, fun _ _ => rfl, hK _ ?_⟩; clear hK K)
          refine wpQuiet_step (fun K hK => ?_)
          refine quiet_load rfl 73 (.tmp 73) rfl b3 _ rfl x.cells d (fun W hW' => rangeAt_below HX.out (rangeAt_lt HX.out (by rw [cells_length]; omega)) hW') hd hd' (by kernel_rfl) (hK _ ?_)
          clear hK K
          refine wpQuiet_step (fun K hK => ?_)
          go_simp
          (refine ⟨_, fun _ _ => rfl, hK _ ?_⟩; clear hK K)
          refine wpQuiet_step (fun K hK => ?_)
          go_simp
          (refine ⟨_, fun _ _ => rfl, hK _ ?_⟩; clear hK K)
          refine wpQuiet_step (fun K hK => ?_)
          go_simp
          (refine ⟨_, fun _ _ => rfl, hK _ ?_⟩; clear hK K)
          refine wpQuiet_step (fun K hK => ?_)
          go_simp
          (refine ⟨_, fun _ _ => rfl, hK _ ?_⟩; clear hK K)
          refine wpQuiet_step (fun K hK => ?_)
          go_simp
          (refine ⟨_, fun W' hW' => (by obtain ⟨_, _, ee, _, _, ff⟩ := HC2.out W' hW'; cases ee; rw [ff]; exact ⟨rfl, rfl⟩), hK _ ?_⟩; clear hK K)
          refine wpQuiet_step (fun K hK => ?_)
          go_simp
          (refine ⟨_, fun _ _ => rfl, hK _ ?_⟩; clear hK K)
          refine wpQuiet_step (fun K hK => ?_)
          go_simp
          (refine ⟨_, fun _ _ => rfl, hK _ ?_⟩; clear hK K)
          refine wpQuiet_step (fun K hK => ?_)
          refine quiet_load rfl 73 (.tmp 81) rfl b4 _ rfl y.cells d (fun W hW' => rangeAt_below HY.out (rangeAt_lt HY.out (by rw [cells_length]; omega)) hW') hd hd' (by kernel_rfl) (hK _ ?_)
          clear hK K
          refine wpQuiet_step (fun K hK => ?_)
          go_simp
          (refine ⟨_, fun W' hW' => (eqX_any x y W' (HXH.out.keeps W' hW') (HYH.out.keeps W' hW')).mono (fun e w' h => ⟨h.1, hW'.trans (h.2.b.mono hW'.size)⟩), hK _ ?_⟩; clear hK K)
          rw [HEQ.out]
          refine wpQuiet_step (fun K hK => ?_)
          go_simp
          (refine ⟨_, fun _ _ => rfl, hK _ ?_⟩; clear hK K)
          refine wpQuiet_nil ?_
          intro W3 hW3
          have HW3 := Lib.hid hW3
          clear hW3
          go_wp2_with fail
          exact ⟨⟨k + 1, by omega, by go_num, HW3⟩, by simp [intOf]; omega⟩
        · obtain rfl : k = n1 := by omega
          have hkt2 : decide (k < k) = false := decide_eq_false hkt
          go_wp2_with fail
          exact ⟨⟨m + 1, by omega, by go_num, hW⟩, by simp [intOf]; omega⟩
    · obtain rfl : m = n := by omega
      have hlt2 : decide (m < m) = false := decide_eq_false hlt
      go_wp2_with fail
      go_ret
      exact ⟨rfl, hW.out⟩
end Go.Proofs.YtnddlpfmagdbfaaGreatDoor
/- The contracts of a described policy and of Sample, packed for the laws. -/
namespace Go.Proofs.YtnddlpfmagdbfaaGreatDoor.Sto
open Go Go.Ev Go.Proofs Go.RowKit
set_option linter.unusedVariables false
set_option linter.unusedSimpArgs false
theorem flat_get {α : Type} {cells : α → List Value} {k : Nat} (hl : ∀ x, (cells x).length = k) : ∀ {L : List α} {j i : Nat} (hj : j < L.length), i < k → (L.flatMap cells)[j * k + i]? = (cells L[j])[i]?
  | x :: L, 0, i, _, hi => by
    rw [List.flatMap_cons, Nat.zero_mul, Nat.zero_add, List.getElem?_append_left (by rw [hl]; exact hi)]
    rfl
  | x :: L, j + 1, i, hj, hi => by
    have h : (j + 1) * k = j * k + k := Nat.succ_mul j k
    rw [List.flatMap_cons, List.getElem?_append_right (by rw [hl]; omega), hl, show (j + 1) * k + i - k = j * k + i by omega, flat_get hl (by simpa using hj) hi]
    rfl
theorem row_range {α : Type} {cells : α → List Value} {k : Nat} (hl : ∀ x, (cells x).length = k) {W : World} {B : Nat} {e : TypeId} {v : Value} {M : List α} (h : W.ownsRow B e k v M.length (M.flatMap cells)) :
    ∃ A c, v = .slice A M.length c ∧ (A = none → M = []) ∧ ∀ j (hj : j < M.length), ∃ b o, A = some ⟨b, o, none⟩ ∧ W.rangeAt b (o + j * k) (cells M[j]) := by
  rcases h.2 with ⟨h0, h1⟩ | ⟨g, cap, cur, hv, hb, hg, h1, h2, h3, h4⟩
  · have : M = [] := List.length_eq_zero_iff.1 h1
    subst this
    exact ⟨none, 0, h0, fun _ => rfl, fun j hj => absurd hj (Nat.not_lt_zero _)⟩
  · refine ⟨_, cap, hv, by simp, fun j hj => ⟨g, 0, rfl, fun i u hu => ?_⟩⟩
    have hi : i < k := by
      have := (List.getElem?_eq_some_iff.1 hu).1
      rwa [hl] at this
    have h5 : (M.flatMap cells)[j * k + i]? = some u := (flat_get hl hj hi).trans hu
    have hlt : j * k + i < M.length * k := by
      have : (j + 1) * k ≤ M.length * k := Nat.mul_le_mul_right k (by omega)
      rw [Nat.succ_mul] at this
      omega
    rw [← h4, List.getElem?_take_of_lt hlt] at h5
    refine cell_blk hg (0 + j * k + i) ?_
    rw [Nat.zero_add, ← Array.getElem?_toList]
    exact h5
/-- A described policy, made. -/
def PolOK (L : List (Int × Int)) (d : Int) (w : World) (p : PolD) : Prop := p.Lies 5 w ∧ polErr 5 p = 0 ∧ (∀ q ∈ p.rules, PredStr 5 q.p) ∧ SamePol 5 p (policyX L d)
theorem PolOK.below {L : List (Int × Int)} {d : Int} {w w' : World} {p : PolD} (h : PolOK L d w p) (k : Below w.heap.size w w') : PolOK L d w' p := ⟨h.1.below k, h.2⟩
theorem policy_ok (A : Option Addr) (L : List (Int × Int)) (c : Nat) (d : Int) (hd : isU8 d) (hl : L.length ≤ 9223372036854775807) (w : World) (hA : PairsAt w A L) :
    Calls Tryz.prog 19 #[.agg #[.slice A L.length c, .int .u8 d]] w fun e w' => (∃ p : PolD, e = .returned (.agg p.cells.toArray) ∧ PolOK L d w' p) ∧ Below w.heap.size w w' := by
  refine (policy_any A L c d hd hl w hA).mono ?_
  rintro e w' ⟨⟨v, M, rfl, hR, hM, hV⟩, hb⟩
  obtain ⟨B, c', rfl, hn, hr⟩ := row_range (cells := RuleD.cells) (fun _ => rfl) hR.row
  unfold isU8 at hd
  have hP : ∀ j (h : j < L.length), isU8 L[j].1 ∧ isU8 L[j].2 := fun j h => by
    obtain ⟨_, _, _, _, h1, h2⟩ := hA j h
    exact ⟨h1, h2⟩
  refine ⟨⟨⟨B, c', M, d % 11⟩, rfl, ⟨⟨rules_of hr, by show M.length ≤ _; omega, fun q hq => ?_⟩, rules_ok hM (by omega) hP hV, fun q hq => (hR.own q hq).str, ?_⟩⟩, hb⟩
  · obtain ⟨lo, hi, _, _, h3, _⟩ := (hR.own q hq).blk
    exact (h3 w' fun _ _ _ => rfl).lie
  · refine ⟨?_, rfl, fun j h h' => ?_⟩
    · show M.length = ((L.take 3).map ruleX).length
      rw [List.length_map, List.length_take]
      omega
    · have h1 : j < M.length := h
      obtain ⟨h2, h3⟩ := hV j h1 (by omega)
      have : (policyX L d).rules[j]'h' = ruleX L[j] := by simp [policyX]
      rw [this]
      exact ⟨h2, h3⟩
def goodB (z : BT) : Prop := okB z ∧ z.2.2.length ≤ 1000
/-- A trace lies in what is there by now. -/
def TrIn (W : World) (t : TraceD) : Prop := t.Lies W ∧ ∀ b, t.Uses b → b < W.heap.size
theorem TrIn.below {W W' : World} {t : TraceD} (h : TrIn W t) (k : Below W.heap.size W W') : TrIn W' t := ⟨h.1.below k, fun b hb => Nat.lt_of_lt_of_le (h.2 b hb) k.size⟩
theorem _root_.Go.Proofs.YtnddlpfmagdbfaaGreatDoor.TraceD.Own.in {lo : Nat} {W : World} {t : TraceD} (h : t.Own lo W) : TrIn W t := ⟨h.lies, fun b hb => (h.uses b hb).2⟩
/-- A list of traces lies there: without addresses it is Z. -/
def Lst (W : World) (v : Value) (Z : List BT) : Prop := ∃ A c L, v = .slice A (List.length (α := TraceD) L) c ∧ TracesIn W A L ∧ (∀ t ∈ L, TrIn W t) ∧ L.map TraceD.bare = Z ∧ L.length ≤ 1000 ∧ ∀ z ∈ Z, goodB z
theorem Lst.below {W W' : World} {v : Value} {Z : List BT} (h : Lst W v Z) (k : Below W.heap.size W W') : Lst W' v Z :=
  let ⟨A, c, L, h1, h2, h3, h4⟩ := h
  ⟨A, c, L, h1, h2.below k, fun t ht => (h3 t ht).below k, h4⟩
theorem Lst.two {lo : Nat} {W : World} {v u : Value} {M N : List TraceD} (h : Two lo W v u M N) {Z : List BT} (hZ : M.map TraceD.bare = Z) (hl : Z.length ≤ 1000) (hg : ∀ z ∈ Z, goodB z) : Lst W v Z := by
  obtain ⟨A, c, rfl, h1, h2, _⟩ := h.slice
  exact ⟨A, c, M, rfl, h1, fun t ht => (h.m t ht).1.in, hZ, by rw [← hZ, List.length_map] at hl; exact hl, hg⟩
theorem good_step {p : PolD} {s : Int} (hp : polErr 5 p = 0) {Z : List BT} (h : ∀ z ∈ Z, goodB z) : ∀ z ∈ stepK 5 p s Z, goodB z := fun z hz => by
  refine ⟨okB_step hp (fun y hy => (h y hy).1) z hz, ?_⟩
  obtain ⟨y, hy, rfl⟩ := List.mem_map.1 hz
  exact (h y (List.mem_filter.1 hy).1).2
/-- Sample at a policy and traces in order: two rows of copies. -/
theorem sample_two (p : PolD) (s : Int) (v : Value) (Z : List BT) (w : World) (hp : p.Lies 5 w) (hp0 : polErr 5 p = 0) (hstr : ∀ q ∈ p.rules, PredStr 5 q.p) (hs0 : 0 ≤ s) (hs1 : s < 1024) (hv : Lst w v Z) (hTab : TabAt w) :
    Calls Tryz.prog 13 #[.agg p.cells.toArray, .int .i64 s, v] w fun e w' => (∃ x y M N, e = .returned (.tuple #[x, y, .int .i64 0]) ∧ Two w.heap.size w' x y M N ∧ M.map TraceD.bare = stepK 5 p s Z ∧ N.map TraceD.bare = stepG 5 p s Z ∧ Z.length ≤ 1000 ∧ ∀ z ∈ Z, goodB z) ∧ Below w.heap.size w w' := by
  obtain ⟨A, c, L, rfl, h1, h2, rfl, h3, h4⟩ := hv
  have hg : ∀ t ∈ L, goodB t.bare := fun t ht => h4 _ (List.mem_map_of_mem ht)
  refine (sample_any 5 p s A c L w hp hstr h1 (fun t ht => ⟨(h2 t ht).1, by have := (hg t ht).2; simpa [TraceD.bare] using this⟩) h3 hTab).mono ?_
  rintro e w' ⟨-, h5, h6⟩
  have h0 : sampleErr 5 p s L = 0 := by
    unfold sampleErr
    rw [if_neg (by rw [hp0]; simp), if_neg (by omega)]
    exact firstErr_none _ _ fun m hm => (traceErr_bare L[m]).trans (hg _ (List.getElem_mem hm)).1
  obtain ⟨x, y, M, N, rfl, hT, hM, hN⟩ := h5 h0
  exact ⟨⟨x, y, M, N, rfl, hT, hM.trans (keptX_bare 5 p s L), hN.trans (goneX_bare 5 p s L), by rw [List.length_map]; exact h3, h4⟩, h6⟩
/-- Sample at a policy and traces in order. -/
theorem sample_ok (p : PolD) (s : Int) (v : Value) (Z : List BT) (w : World) (hp : p.Lies 5 w) (hp0 : polErr 5 p = 0) (hstr : ∀ q ∈ p.rules, PredStr 5 q.p) (hs0 : 0 ≤ s) (hs1 : s < 1024) (hv : Lst w v Z) (hTab : TabAt w) :
    Calls Tryz.prog 13 #[.agg p.cells.toArray, .int .i64 s, v] w fun e w' => (∃ x y, e = .returned (.tuple #[x, y, .int .i64 0]) ∧ Lst w' x (stepK 5 p s Z) ∧ Lst w' y (stepG 5 p s Z)) ∧ Below w.heap.size w w' := by
  refine (sample_two p s v Z w hp hp0 hstr hs0 hs1 hv hTab).mono ?_
  rintro e w' ⟨⟨x, y, M, N, rfl, hT, hM, hN, h3, h4⟩, h6⟩
  have hlen := step_length 5 p s Z
  exact ⟨⟨x, y, rfl, Lst.two hT hM (by omega) (good_step hp0 h4), Lst.two hT.swap hN (by omega) fun z hz => h4 z (List.mem_filter.1 hz).1⟩, h6⟩
theorem same_ok (u v : Value) (Z : List BT) (w : World) (hu : Lst w u Z) (hv : Lst w v Z) : Calls Tryz.prog 21 #[u, v] w fun e w' => e = .returned (.bool true) ∧ Below w.heap.size w w' := by
  obtain ⟨A, c, L, rfl, h1, h2, h3, h4, _⟩ := hu
  obtain ⟨B, d, M, rfl, k1, k2, k3, k4, _⟩ := hv
  exact same_any A B c d L M w h1 k1 (fun t ht => (h2 t ht).1) (fun t ht => (k2 t ht).1) (h3.trans k3.symm) (by omega)
theorem Lst.length {W : World} {v : Value} {Z : List BT} (h : Lst W v Z) : ∃ A c, v = .slice A Z.length c := by
  obtain ⟨A, c, L, rfl, _, _, h3, _⟩ := h
  exact ⟨A, c, by rw [← h3, List.length_map]⟩
/-- The traces of a story in order. -/
theorem traces_ok (a : Option Addr) (ts : List TreeD) (c : Nat) (o0 o1 o2 o3 : Int) (b : Option Addr) (m d : Nat) (q : Int) (hq : isU8 q) (hoo : isI8 o0 ∧ isI8 o1 ∧ isI8 o2 ∧ isI8 o3) (w : World) (ht : TreesAt w a ts) (hts : TreesOk ts) :
    Calls Tryz.prog 22 #[.agg #[.slice a ts.length c, .int .i8 o0, .int .i8 o1, .int .i8 o2, .int .i8 o3, .slice b m d, .int .u8 q]] w fun e w' => (∃ v, e = .returned v ∧ Lst w' v (tracesX ts o0 o1 o2 o3 q)) ∧ Below w.heap.size w w' := by
  refine (traces_any a ts c o0 o1 o2 o3 b m d q hq hoo w ht (fun j hj => (hts.2 j hj).2.2.1) hts.1).mono ?_
  rintro e w' ⟨⟨v, tds, rfl, hO, hB, hl⟩, hb⟩
  obtain ⟨A, c', rfl, hn, hr⟩ := row_range (cells := TraceD.cells) (fun _ => rfl) hO.1
  refine ⟨⟨_, rfl, A, c', tds, rfl, hr, fun t ht => (hO.2 t ht).1.in, hB, by omega, fun z hz => ?_⟩, hb⟩
  have hz' := hz
  rw [← hB] at hz'
  obtain ⟨t, ht', rfl⟩ := List.mem_map.1 hz'
  refine ⟨?_, ?_⟩
  · unfold okB
    rw [← traceErr_bare]
    exact (trace_ok hts hz).1
  · obtain ⟨k, hk, _, e⟩ := traces_mem _ hz
    rw [e]
    show (traceX ts[k] o0 o1 o2 o3 q k).length ≤ 1000
    rw [traceX_length]
    have := (hts.2 k hk).2.2.1
    omega
end Go.Proofs.YtnddlpfmagdbfaaGreatDoor.Sto
/- The self-test and the table of math/bits, from what the row lays. -/
namespace Go.Proofs.YtnddlpfmagdbfaaGreatDoor
open Go Go.Ev Go.Proofs Go.RowKit
set_option linter.unusedVariables false
theorem gl_tab {w : World} {ty : Nat → TypeId} (h : laidG w ty gl) : TabAt w := ⟨_, h (1, tabV.toList) (by
  have h2 : gl = [(1, tab64.map fun z => Value.int .u8 z)] := by kernel_rfl
  rw [h2]
  exact List.mem_cons_self)⟩
theorem known_at {w : World} {ty : Nat → TypeId} (h : laidG w ty gl) (W : World) (k : Below w.heap.size w W) : Calls Tryz.prog 8 #[] W fun e w' => e = .returned (.bool true) ∧ Below W.heap.size W w' := known_calls W ty (laidG_below2 h k)
end Go.Proofs.YtnddlpfmagdbfaaGreatDoor
/- What the laws' arguments hold; policies that are alike. -/
namespace Go.Proofs.YtnddlpfmagdbfaaGreatDoor.Sto
open Go Go.Ev Go.Proofs Go.RowKit
set_option linter.unusedVariables false
set_option linter.unusedSimpArgs false
/-- What a story's argument holds. -/
structure StoryArg (w : World) (a : Option Addr) (ts : List TreeD) (o0 o1 o2 o3 : Int) (m : Nat) (q : Int) : Prop where
  at_ : TreesAt w a ts
  len : ts.length ≤ maxLen
  syn : m ≤ maxLen
  cl : ∀ j (hj : j < ts.length), ts[j].cs.length ≤ maxLen
  q : isU8 q
  o : isI8 o0 ∧ isI8 o1 ∧ isI8 o2 ∧ isI8 o3
theorem StoryArg.ok {w : World} {a : Option Addr} {ts : List TreeD} {o0 o1 o2 o3 : Int} {m : Nat} {q : Int} (h : StoryArg w a ts o0 o1 o2 o3 m q) (h1 : ts.length ≤ 3) (h2 : ∀ j (hj : j < ts.length), ts[j].cs.length ≤ 8) : TreesOk ts := by
  refine ⟨h1, fun k hk => ?_⟩
  obtain ⟨_, _, _, _, _, hc, h3, h4⟩ := h.at_ k hk
  exact ⟨h3, h4, h2 k hk, fun i hi => let ⟨_, _, _, h5⟩ := hc i hi; h5⟩
/-- What a plan's argument holds. -/
structure PlanArg (w : World) (A : Option Addr) (L : List (Int × Int)) (d : Int) : Prop where
  at_ : PairsAt w A L
  len : L.length ≤ maxLen
  d : isU8 d
theorem givB_same {p r x : PolD} (h : SamePol 5 p x) (k : SamePol 5 r x) (z : BT) : givB 5 p z = givB 5 r z := by
  unfold givB
  rw [givenX_same h, givenX_same k]
theorem stepK_same {p r x : PolD} (h : SamePol 5 p x) (k : SamePol 5 r x) {s : Int} {Z : List BT} : stepK 5 p s Z = stepK 5 r s Z := by
  have h1 : keeps 5 p s = keeps 5 r s := funext fun z => by unfold keeps expB; rw [givB_same h k]
  have h2 : outB 5 p = outB 5 r := funext fun z => by unfold outB expB; rw [givB_same h k]
  unfold stepK
  rw [h1, h2]
theorem stepG_same {p r x : PolD} (h : SamePol 5 p x) (k : SamePol 5 r x) {s : Int} {Z : List BT} : stepG 5 p s Z = stepG 5 r s Z := by
  have h1 : keeps 5 p s = keeps 5 r s := funext fun z => by unfold keeps expB; rw [givB_same h k]
  unfold stepG
  rw [h1]
end Go.Proofs.YtnddlpfmagdbfaaGreatDoor.Sto
/- Plain law: the weights with which a trace is kept add up to 2^10 over all seeds. -/
namespace Go.Proofs.YtnddlpfmagdbfaaGreatDoor.Sto
open Go Go.Ev Go.Proofs Go.RowKit
set_option linter.unusedVariables false
set_option linter.unusedSimpArgs false
theorem stepK_append (n : Nat) (p : PolD) (s : Int) (L M : List BT) : stepK n p s (L ++ M) = stepK n p s L ++ stepK n p s M := by
  unfold stepK
  rw [List.filter_append, List.map_append]
/-- The traces of a story have different ids. -/
theorem tracesN_ids {ts : List TreeD} {o0 o1 o2 o3 q : Int} (hl : ts.length ≤ 3) : ∀ n, ((tracesN ts o0 o1 o2 o3 q n).map (·.1)).Nodup
  | 0 => List.nodup_nil
  | n + 1 => by
    have ih := tracesN_ids (o0 := o0) (o1 := o1) (o2 := o2) (o3 := o3) (q := q) hl n
    by_cases hn : n < ts.length
    · by_cases h0 : ts[n].cs.length = 0
      · rw [tracesN_none hn h0]
        exact ih
      · rw [tracesN_succ]
        unfold stepTr
        rw [List.getElem?_eq_getElem hn]
        simp only [if_neg h0]
        unfold insX
        generalize posX _ _ _ = k
        have hp : ((tracesN ts o0 o1 o2 o3 q n).take k ++ [(tidX ts[n] n, 1, traceX ts[n] o0 o1 o2 o3 q n)] ++ (tracesN ts o0 o1 o2 o3 q n).drop k).Perm ((tidX ts[n] n, 1, traceX ts[n] o0 o1 o2 o3 q n) :: tracesN ts o0 o1 o2 o3 q n) := by
          rw [List.append_assoc, List.singleton_append]
          refine List.perm_middle.trans ?_
          rw [List.take_append_drop]
        refine (hp.map (·.1)).nodup_iff.2 ?_
        rw [List.map_cons, List.nodup_cons]
        refine ⟨fun hm => ?_, ih⟩
        obtain ⟨z, hz, e⟩ := List.mem_map.1 hm
        obtain ⟨j, hj, hjn, rfl⟩ := traces_mem n hz
        simp only [tidX] at e
        omega
    · rw [tracesN_succ]
      unfold stepTr
      rw [List.getElem?_eq_none (by omega)]
      exact ih
/-- The weights of the entries with an id. -/
def tot : List BT → Int → Int
  | [], _ => 0
  | z :: l, id => (if z.1 = id then z.2.1 else 0) + tot l id
theorem tot_append (id : Int) : ∀ (L M : List BT), tot (L ++ M) id = tot L id + tot M id
  | [], M => by simp [tot]
  | z :: l, M => by
    simp only [List.cons_append, tot]
    rw [tot_append id l M]
    omega
theorem tot_none {id : Int} : ∀ {L : List BT}, (∀ z ∈ L, z.1 ≠ id) → tot L id = 0
  | [], _ => rfl
  | z :: l, h => by
    simp only [tot]
    rw [if_neg (h z List.mem_cons_self), tot_none fun y hy => h y (List.mem_cons_of_mem _ hy)]
    rfl
theorem tot_snoc {L : List BT} {j : Nat} (h : j < L.length) (id : Int) : tot (L.take (j + 1)) id = tot (L.take j) id + if L[j].1 = id then L[j].2.1 else 0 := by
  rw [List.take_add_one, List.getElem?_eq_getElem h, tot_append]
  simp [tot]
theorem tot_range (id : Int) : ∀ {L : List BT}, (∀ z ∈ L, 1 ≤ z.2.1 ∧ z.2.1 ≤ 1024) → 0 ≤ tot L id ∧ tot L id ≤ 1024 * (L.length : Int)
  | [], _ => by simp [tot]
  | z :: l, h => by
    have ih := tot_range id fun y hy => h y (List.mem_cons_of_mem _ hy)
    have hw := h z List.mem_cons_self
    simp only [tot, List.length_cons]
    split <;> omega
theorem step_weights {p : PolD} {s : Int} {L : List BT} (hE : ∀ z ∈ L, expB 5 p z ≤ 10) : ∀ y ∈ stepK 5 p s L, 1 ≤ y.2.1 ∧ y.2.1 ≤ 1024 := fun y hy => by
  obtain ⟨x, hx, rfl⟩ := List.mem_map.1 hy
  have h := hE x (List.mem_filter.1 hx).1
  show 1 ≤ (2 : Int) ^ expB 5 p x ∧ (2 : Int) ^ expB 5 p x ≤ 1024
  generalize expB 5 p x = E at h
  obtain rfl | rfl | rfl | rfl | rfl | rfl | rfl | rfl | rfl | rfl | rfl : E = 0 ∨ E = 1 ∨ E = 2 ∨ E = 3 ∨ E = 4 ∨ E = 5 ∨ E = 6 ∨ E = 7 ∨ E = 8 ∨ E = 9 ∨ E = 10 := by omega
  all_goals decide
/-- The weights over the first seeds. -/
def totS (p : PolD) (Z : List BT) (id : Int) : Nat → Int
  | 0 => 0
  | s + 1 => totS p Z id s + tot (stepK 5 p (s : Int) Z) id
theorem totS_range {p : PolD} {Z : List BT} (hE : ∀ z ∈ Z, expB 5 p z ≤ 10) (hl : Z.length ≤ 1000) (id : Int) : ∀ s, 0 ≤ totS p Z id s ∧ totS p Z id s ≤ 1024000 * (s : Int)
  | 0 => by simp [totS]
  | s + 1 => by
    have ih := totS_range hE hl id s
    have h1 := tot_range id (step_weights (s := (s : Int)) hE)
    have h2 := step_length 5 p (s : Int) Z
    simp only [totS]
    omega
/-- How many of the first numbers fall into the first m, behind a turn by a. -/
def cnt (a m : Nat) : Nat → Nat
  | 0 => 0
  | n + 1 => cnt a m n + if (a + n) % 1024 < m then 1 else 0
theorem cnt_eq {a m : Nat} (ha : a < 1024) (hm : m ≤ 1024) : ∀ n, n ≤ 1024 → cnt a m n = (min m (a + n) - min m a) + min m (a + n - 1024)
  | 0, _ => by simp [cnt]; omega
  | n + 1, h => by
    simp only [cnt]
    rw [cnt_eq ha hm n (by omega)]
    split <;> omega
theorem pow_two_mul (E : Nat) (h : E ≤ 10) : (2 : Int) ^ E * (2 ^ (10 - E) : Nat) = 1024 := by
  obtain rfl | rfl | rfl | rfl | rfl | rfl | rfl | rfl | rfl | rfl | rfl : E = 0 ∨ E = 1 ∨ E = 2 ∨ E = 3 ∨ E = 4 ∨ E = 5 ∨ E = 6 ∨ E = 7 ∨ E = 8 ∨ E = 9 ∨ E = 10 := by omega
  all_goals decide
theorem ids_split {A B : List BT} {z : BT} (h : ((A ++ z :: B).map (·.1)).Nodup) : (∀ y ∈ A, y.1 ≠ z.1) ∧ ∀ y ∈ B, y.1 ≠ z.1 := by
  rw [List.map_append, List.map_cons, List.nodup_append] at h
  obtain ⟨_, h2, h3⟩ := h
  rw [List.nodup_cons] at h2
  exact ⟨fun y hy => h3 _ (List.mem_map_of_mem hy) _ List.mem_cons_self, fun y hy e => h2.1 (e ▸ List.mem_map_of_mem hy)⟩
theorem step_ids {p : PolD} {s : Int} {L : List BT} {id : Int} (h : ∀ y ∈ L, y.1 ≠ id) : ∀ y ∈ stepK 5 p s L, y.1 ≠ id := fun y hy => by
  obtain ⟨x, hx, rfl⟩ := List.mem_map.1 hy
  exact h x (List.mem_filter.1 hx).1
theorem tot_one {p : PolD} {s : Int} {Z : List BT} {z : BT} (hn : (Z.map (·.1)).Nodup) (hz : z ∈ Z) : tot (stepK 5 p s Z) z.1 = if kp z.1 s (expB 5 p z) = true then 2 ^ expB 5 p z else 0 := by
  obtain ⟨A, B, rfl⟩ := List.append_of_mem hz
  obtain ⟨hA, hB⟩ := ids_split hn
  rw [show A ++ z :: B = A ++ ([z] ++ B) from rfl, stepK_append, stepK_append, tot_append, tot_append, tot_none (step_ids hA), tot_none (step_ids hB)]
  unfold stepK
  by_cases h : keeps 5 p s z = true
  · rw [List.filter_cons_of_pos h, if_pos (show kp z.1 s (expB 5 p z) = true from h)]
    simp [tot, outB]
  · rw [List.filter_cons_of_neg h, if_neg (show ¬ kp z.1 s (expB 5 p z) = true from h)]
    simp [tot]
theorem totS_one {p : PolD} {Z : List BT} {z : BT} (hn : (Z.map (·.1)).Nodup) (hz : z ∈ Z) (hE : expB 5 p z ≤ 10) : ∀ s, totS p Z z.1 s = 2 ^ expB 5 p z * (cnt (hs z.1 % 1024).toNat (2 ^ (10 - expB 5 p z)) s : Int)
  | 0 => by simp [totS, cnt]
  | s + 1 => by
    obtain ⟨h0, h1⟩ := hs_lt z.1
    simp only [totS, cnt]
    rw [totS_one hn hz hE s, tot_one hn hz]
    have hk : kp z.1 (s : Int) (expB 5 p z) = true ↔ ((hs z.1 % 1024).toNat + s) % 1024 < 2 ^ (10 - expB 5 p z) := by
      unfold kp
      rw [decide_eq_true_eq]
      have e : (hs z.1 + (s : Int)) % 1024 = ((((hs z.1 % 1024).toNat + s) % 1024 : Nat) : Int) := by omega
      have e2 : (2 : Int) ^ (10 - expB 5 p z) = ((2 ^ (10 - expB 5 p z) : Nat) : Int) := (Int.natCast_pow 2 _).symm
      rw [e, e2]
      exact Int.ofNat_lt
    by_cases h : kp z.1 (s : Int) (expB 5 p z) = true
    · rw [if_pos h, if_pos (hk.1 h)]
      push_cast
      rw [Int.mul_add, Int.mul_one]
    · rw [if_neg h, if_neg (fun h' => h (hk.2 h'))]
      push_cast
      rw [Int.mul_add, Int.mul_zero]
/-- Over all seeds. -/
theorem totS_all {p : PolD} {Z : List BT} {z : BT} (hn : (Z.map (·.1)).Nodup) (hz : z ∈ Z) (hE : expB 5 p z ≤ 10) : totS p Z z.1 1024 = 1024 := by
  have hm : 2 ^ (10 - expB 5 p z) ≤ 1024 := by
    calc 2 ^ (10 - expB 5 p z) ≤ 2 ^ 10 := Nat.pow_le_pow_right (by decide) (by omega)
      _ = 1024 := by decide
  rw [totS_one hn hz hE, cnt_eq (by omega) hm 1024 (Nat.le_refl _)]
  have e : (min (2 ^ (10 - expB 5 p z)) ((hs z.1 % 1024).toNat + 1024) - min (2 ^ (10 - expB 5 p z)) (hs z.1 % 1024).toNat) + min (2 ^ (10 - expB 5 p z)) ((hs z.1 % 1024).toNat + 1024 - 1024) = 2 ^ (10 - expB 5 p z) := by omega
  rw [e]
  exact pow_two_mul _ hE
/-- The exponent of a trace of weight 1, under a described policy. -/
theorem expB_one {L : List (Int × Int)} {d : Int} {z : BT} (h : z.2.1 = 1) : expB 5 (policyX L d) z ≤ 10 := by
  have h1 : givenX 5 (policyX L d) (ofB z) ≤ 10 := by
    unfold givenX
    rcases firstX_mem (fun q => (winX (ofB z).spans).any (holdsX 5 q)) (policyX L d).d (policyX L d).rules with e | ⟨q, hq, e⟩
    · rw [e]
      show d % 11 ≤ 10
      omega
    · rw [e]
      obtain ⟨x, _, rfl⟩ := List.mem_map.1 hq
      show x.2 % 11 ≤ 10
      omega
  unfold expB givB
  rw [h]
  have : tzX 1 = 0 := by decide
  omega
theorem stepK_x {p x : PolD} (h : SamePol 5 p x) {s : Int} {Z : List BT} : stepK 5 p s Z = stepK 5 x s Z := by
  have h0 : ∀ z, givB 5 p z = givB 5 x z := fun z => by unfold givB; rw [givenX_same h]
  have h1 : keeps 5 p s = keeps 5 x s := funext fun z => by unfold keeps expB; rw [h0]
  have h2 : outB 5 p = outB 5 x := funext fun z => by unfold outB expB; rw [h0]
  unfold stepK
  rw [h1, h2]
/-- The ids and weights of a list. -/
theorem Lst.two_cells {W : World} {A : Option Addr} {n c : Nat} {Z : List BT} (h : Lst W (.slice A n c) Z) {j : Nat} (hj : j < Z.length) : ∃ b o, A = some ⟨b, o, none⟩ ∧ W.cell? ⟨b, o + j * 3, none⟩ = some (.int .i64 Z[j].1) ∧ W.cell? ⟨b, o + j * 3 + 1, none⟩ = some (.int .i64 Z[j].2.1) := by
  obtain ⟨A', c', L, e, h1, h2, rfl, _⟩ := h
  cases e
  rw [List.length_map] at hj
  obtain ⟨b, o, e, f0, f1, _⟩ := traces_cells h1 hj
  rw [List.getElem_map]
  exact ⟨b, o, e, f0, f1⟩
section
open Go.Maps
theorem keyedI : Keyed Tryz.prog 3 := int_keyed Tryz.underlying3
theorem zeroI (w : World) : (zeroValue 3).run Tryz.prog w = .ok (.int .i64 0) w := by kernel_rfl
/-- A map of ints that gives F. -/
def MapAt (W : World) (B n : Nat) (F : Int → Int) : Prop := ∃ D : DataW Unit, W.ownsMap Tryz.prog 3 (plainElem Tryz.prog 3) B n D ∧ ∀ id, (Lit.int .i64 id).wf = true → D.atKey (.int .i64 id) (.lit (.int .i64 0)) = .lit (.int .i64 (F id))
theorem MapAt.made (W : World) : MapAt (W.alloc (.map #[] 0)) W.heap.size 0 fun _ => 0 := ⟨_, World.ownsMap_made _ _ _ _, fun _ _ => rfl⟩
theorem MapAt.kept {W W' : World} {B n : Nat} {F : Int → Int} (h : MapAt W B n F) (k : Below W.heap.size W W') : MapAt W' B n F := by
  obtain ⟨D, h1, h2⟩ := h
  exact ⟨D, h1.kept (row := none) ⟨k.os, k.tape, k.output, k.size, fun i hi _ => k.block i hi⟩ (by simp), h2⟩
theorem MapAt.lt {W : World} {B n : Nat} {F : Int → Int} (h : MapAt W B n F) : B < W.heap.size := let ⟨_, h1, _⟩ := h; h1.lt
theorem MapAt.look {W : World} {B n : Nat} {F : Int → Int} (h : MapAt W B n F) (x : Int) (hx : (Lit.int .i64 x).wf = true) : (Instr.lookup 68 (.map (some B)) (.int .i64 x) false).run Tryz.prog W = .ok (.int .i64 (F x)) W := by
  obtain ⟨D, h1, h2⟩ := h
  obtain ⟨c, hrun, hat, _⟩ := h1.lookup_int keyedI Tryz.underlying68 Tryz.underlying3 (zeroI W) (keyOf_int_mk Tryz.underlying3 hx)
  have h3 := (Lit.int.inj (DataW.lit.inj (hat.symm.trans (h2 x hx)))).2
  rw [hrun, h3]
theorem MapAt.put {W : World} {B n : Nat} {F : Int → Int} {D : DataW Unit} {W0 : World} (h : W0.ownsMap Tryz.prog 3 (plainElem Tryz.prog 3) B n D) (hF : ∀ id, (Lit.int .i64 id).wf = true → D.atKey (.int .i64 id) (.lit (.int .i64 0)) = .lit (.int .i64 (F id))) {x y : Int} (hx : (Lit.int .i64 x).wf = true)
    (h1 : W.ownsMap Tryz.prog 3 (plainElem Tryz.prog 3) B (n + 1) (D.put (.int .i64 x) (.lit (.int .i64 y)))) : MapAt W B (n + 1) fun id => if id = x then y else F id := by
  refine ⟨_, h1, fun id hid => ?_⟩
  show _ = DataW.lit (.int .i64 (if id = x then y else F id))
  by_cases e : id = x
  · subst e
    rw [if_pos rfl]
    obtain ⟨es, clock, _, _, _, hD⟩ := h
    exact atKey_put_same ⟨_, hD⟩ (keyedI.key (keyOf_int_mk Tryz.underlying3 hx)) _ _
  · rw [if_neg e, atKey_put_other (fun h => e (Lit.int.inj h).2)]
    exact hF id hid
end
theorem quiet_lookup {P : Program} {ops : Array Oper} {C : World → Prop} {o : Oper} {a : Act} {K : Act → Prop} (hw : Region.wanted o (yielded ops a.tmps) = true) (t : TypeId) (m x : Operand) (ho : o.op = .lookup t m x false) (mv key v : Value) (hm : a.eval m = mv) (hx : a.eval x = key)
    (hrun : ∀ W, C W → (Instr.lookup t mv key false).run P W = .ok v W) (hk : K (a.put o.dst v)) :
    if Region.wanted o (yielded ops a.tmps) then o.quiet P a C K else K (a.put o.dst undef) := by
  rw [if_pos hw]
  refine ⟨_, fun W hW => ?_, hk⟩
  unfold Oper.quietAt execOp
  simp only [ho, hm, hx, Sem.run_bind, Sem.run_pure, hrun W hW, Result.andThen_ok]
  exact ⟨rfl, rfl⟩
theorem wf_i64 {x : Int} (h0 : -9223372036854775808 ≤ x) (h1 : x < 9223372036854775808) : (Lit.int .i64 x).wf = true := by
  simp [Lit.wf, IntKind.min, IntKind.max, IntKind.signed, IntKind.bits]
  omega
end Go.Proofs.YtnddlpfmagdbfaaGreatDoor.Sto
/- A story and four numbers, as the laws' arguments lie there; a seed out of two numbers. -/
namespace Go.Proofs.YtnddlpfmagdbfaaGreatDoor.Sto
open Go Go.Ev Go.Proofs Go.RowKit
set_option linter.unusedVariables false
set_option linter.unusedSimpArgs false
/-- The story and the four numbers lie there. -/
def FourS (g : Nat) (a : Option Addr) (n c : Nat) (o0 o1 o2 o3 : Int) (b : Option Addr) (m d : Nat) (q : Int) (h : Nat) (n0 n1 n2 n3 : Int) (W : World) : Prop := W.heap[g]? = some (.cells #[.slice a n c, .int .i8 o0, .int .i8 o1, .int .i8 o2, .int .i8 o3, .slice b m d, .int .u8 q] 52 (0, 0)) ∧ W.cell? ⟨h, 0, none⟩ = some (.int .u8 n0) ∧ W.cell? ⟨h, 1, none⟩ = some (.int .u8 n1) ∧ W.cell? ⟨h, 2, none⟩ = some (.int .u8 n2) ∧ W.cell? ⟨h, 3, none⟩ = some (.int .u8 n3)
theorem FourS.below {g : Nat} {a : Option Addr} {n c : Nat} {o0 o1 o2 o3 : Int} {b : Option Addr} {m d : Nat} {q : Int} {h : Nat} {n0 n1 n2 n3 : Int} {W W' : World} (k : FourS g a n c o0 o1 o2 o3 b m d q h n0 n1 n2 n3 W) (hb : Below W.heap.size W W') : FourS g a n c o0 o1 o2 o3 b m d q h n0 n1 n2 n3 W' :=
  have f : ∀ {p : Addr} {v : Value}, W.cell? p = some v → W'.cell? p = some v := fun hc => (hb.cell (World.block_lt_of_cell? W _ hc)).trans hc
  ⟨blk_keep hb k.1, f k.2.1, f k.2.2.1, f k.2.2.2.1, f k.2.2.2.2⟩
theorem wrap_small (x : Int) (h0 : -9223372036854775808 ≤ x) (h1 : x < 9223372036854775808) : IntKind.i64.wrap x = x := by
  unfold IntKind.wrap
  simp [IntKind.bits, IntKind.signed]
  omega
/-- A seed out of two numbers. -/
def seedW (x y : Int) : Int := IntKind.i64.wrap (IntKind.i64.wrap (4 * IntKind.i64.wrap x) + (IntKind.i64.wrap y).tmod 4)
theorem seedW_range {x y : Int} (hx : isU8 x) (hy : isU8 y) : 0 ≤ seedW x y ∧ seedW x y < 1024 := by
  obtain ⟨h0, h1⟩ := hx
  obtain ⟨h2, h3⟩ := hy
  unfold seedW
  rw [wrap_small x (by omega) (by omega), wrap_small y (by omega) (by omega), wrap_small (4 * x) (by omega) (by omega), Int.tmod_eq_emod_of_nonneg h2, wrap_small _ (by omega) (by omega)]
  omega
end Go.Proofs.YtnddlpfmagdbfaaGreatDoor.Sto
/- The walk of the law SamplingExpects. -/
namespace Go.Proofs.YtnddlpfmagdbfaaGreatDoor.Sto
open Go Go.Ev Go.Proofs Go.RowKit
set_option linter.unusedVariables false
set_option linter.unusedSimpArgs false
set_option maxHeartbeats 8000000 in
set_option maxRecDepth 20000 in
theorem expects_walk (a : Option Addr) (ts : List TreeD) (c : Nat) (o0 o1 o2 o3 : Int) (b : Option Addr) (m d : Nat) (q : Int) (A : Option Addr) (L : List (Int × Int)) (cA : Nat) (dA : Int) (w : World) (ty : Nat → TypeId) (hl : laidG w ty gl) (hs : StoryArg w a ts o0 o1 o2 o3 m q) (hA : PlanArg w A L dA) :
    Calls Tryz.prog 6 #[.agg #[.slice a ts.length c, .int .i8 o0, .int .i8 o1, .int .i8 o2, .int .i8 o3, .slice b m d, .int .u8 q], .agg #[.slice A L.length cA, .int .u8 dA]] w fun e w' => e = .returned (.bool true) ∧ Below w.heap.size w w' := by
  have HL := Lib.hid hl
  have HS := Lib.hid hs
  have HA := Lib.hid hA
  have hmm := @run_makeMap Tryz.prog
  obtain ⟨W0, hW0⟩ : ∃ W0, W0 = (w.alloc (.cells #[.slice a ts.length c, .int .i8 o0, .int .i8 o1, .int .i8 o2, .int .i8 o3, .slice b m d, .int .u8 q] 52)).alloc (.cells #[.slice A L.length cA, .int .u8 dA] 55) := ⟨_, rfl⟩
  have hB0 : Hid (Below w.heap.size w W0) := Lib.hid (by rw [hW0]; exact ((Below.refl _ w).alloc (Nat.le_refl _) _).alloc (by simp) _)
  have hfs : Hid (StoryB W0 w.heap.size a ts.length c o0 o1 o2 o3 b m d q) := Lib.hid (by rw [hW0]; exact (Grew.alloc _ _).blk (blk_new _ _ _))
  have hpb : Hid (W0.heap[w.heap.size + 1]? = some (.cells #[.slice A L.length cA, .int .u8 dA] 55 (0, 0))) := Lib.hid (by rw [hW0]; exact blk_new' _ _ _ _ (by simp))
  clear hl hs hA
  go_enter Tryz.func6, Tryz.ntmps6
  go_wp2_with fail
  rw [← hW0]
  clear hW0
  (with_reducible refine (known_at HL.out _ hB0.out).mono ?_)
  rintro e w1 ⟨rfl, hb1⟩
  have hB1 := Lib.hid (hB0.out.trans (hb1.mono hB0.out.size))
  have hp1 := Lib.hid (blk_keep hb1 hpb.out)
  have hf1 := Lib.hid (show StoryB w1 w.heap.size a ts.length c o0 o1 o2 o3 b m d q from blk_keep hb1 hfs.out)
  clear hb1 hpb hfs hB0
  obtain ⟨b0, b1, b2, b3, b4, b5, b6, _⟩ := StoryB.cells hf1.out
  go_wp2_with fail
  (with_reducible refine (short_any _ _ _ _ _ _ _ _ _ _ _ _ (HS.out.at_.below hB1.out) HS.out.len HS.out.syn HS.out.cl).mono ?_)
  rintro e w2 ⟨⟨r, rfl, hr⟩, hb2⟩
  have hB2 := Lib.hid (hB1.out.trans (hb2.mono hB1.out.size))
  have hp2 := Lib.hid (blk_keep hb2 hp1.out)
  have hf2 := Lib.hid (show StoryB w2 w.heap.size a ts.length c o0 o1 o2 o3 b m d q from blk_keep hb2 hf1.out)
  clear hb2 hp1 hf1 b0 b1 b2 b3 b4 b5 b6
  cases r with
  | false =>
    clear hr
    go_wp2_with fail
    (with_reducible refine (known_at HL.out _ hB2.out).mono ?_)
    rintro e w3 ⟨rfl, hb3⟩
    have hB3 := Lib.hid (hB2.out.trans (hb3.mono hB2.out.size))
    go_wp2_with fail
    go_ret
    exact ⟨rfl, hB3.out⟩
  | true =>
    obtain ⟨h1, _, h2⟩ := hr rfl
    have HT := Lib.hid (HS.out.ok h1 h2)
    have HID := Lib.hid (tracesN_ids (ts := ts) (o0 := o0) (o1 := o1) (o2 := o2) (o3 := o3) (q := q) h1 ts.length)
    have HW1 := Lib.hid (show ∀ z ∈ tracesX ts o0 o1 o2 o3 q, z.2.1 = 1 from fun z hz => by
      obtain ⟨_, _, _, rfl⟩ := traces_mem _ hz
      rfl)
    clear hr h1 h2
    obtain ⟨b0, b1, b2, b3, b4, b5, b6, _⟩ := StoryB.cells hf2.out
    go_wp2_with fail
    (with_reducible refine (traces_ok _ _ _ _ _ _ _ _ _ _ _ HS.out.q HS.out.o _ (HS.out.at_.below hB2.out) HT.out).mono ?_)
    rintro e w3 ⟨⟨vl, rfl, hl3⟩, hb3⟩
    have k_l := Lib.hid hl3
    have hB3 := Lib.hid (hB2.out.trans (hb3.mono hB2.out.size))
    have hp3 := Lib.hid (blk_keep hb3 hp2.out)
    clear hl3 hb3 hp2 hf2 b0 b1 b2 b3 b4 b5 b6 hB2
    obtain ⟨Z0, hZ0⟩ : ∃ Z, Z = tracesX ts o0 o1 o2 o3 q := ⟨_, rfl⟩
    rw [← hZ0] at k_l HW1
    have HID := Lib.hid (show (Z0.map (·.1)).Nodup by rw [hZ0]; exact HID.out)
    clear hZ0
    obtain ⟨aL, cL, rfl⟩ := k_l.out.length
    have hZl : Z0.length ≤ 1000 := by
      obtain ⟨_, _, _, _, _, _, h1, h2, _⟩ := k_l.out
      rw [← h1, List.length_map]
      exact h2
    have HE := Lib.hid (fun z hz => expB_one (L := L) (d := dA) (HW1.out z hz))
    have HZL := Lib.hid hZl
    have HGD := Lib.hid (show ∀ z ∈ Z0, goodB z by obtain ⟨_, _, _, _, _, _, _, _, h⟩ := k_l.out; exact h)
    obtain ⟨px, hpx⟩ : ∃ p, p = policyX L dA := ⟨_, rfl⟩
    rw [← hpx] at HE
    have HPX := Lib.hid hpx
    clear hpx
    go_wp2_with fail
    go_loopw [7] (fun i wr => ∃ (s n : Nat), s ≤ 1024 ∧ i = .int .i64 (s : Int) ∧ n ≤ 1000 * s ∧ Hid (MapAt wr w3.heap.size n fun id => totS px Z0 id s) ∧ Hid (Below w3.heap.size w3 wr)) (fun i _ => 1024 - (intOf i).toNat)
    case atStart => exact ⟨0, 0, by omega, rfl, by omega, Lib.hid (MapAt.made w3), Lib.hid (below_alloc _ _)⟩
    case round =>
      obtain ⟨s, n, hs, rfl, hn, hM, hW⟩ := hrel
      have hBr := Lib.hid (hB3.out.trans (hW.out.mono hB3.out.size))
      have hpr := Lib.hid (blk_keep hW.out hp3.out)
      have k_r := Lib.hid (k_l.out.below hW.out)
      by_cases hlt : s < 1024
      · have hlt2 : decide ((s : Int) < 1024) = true := decide_eq_true (by omega)
        have c0 := cell_blk hpr.out 0 rfl
        have c1 := cell_blk hpr.out 1 rfl
        go_wp2_with fail
        (with_reducible refine (policy_ok _ _ _ _ HA.out.d HA.out.len _ (HA.out.at_.below hBr.out)).mono ?_)
        rintro e W2 ⟨⟨p2, rfl, qa, qb, qc, qd⟩, hb⟩
        have QA2 := Lib.hid qa
        have QB2 := Lib.hid qb
        have QC2 := Lib.hid qc
        have QD2 := Lib.hid qd
        have hB2 := Lib.hid (hBr.out.trans (hb.mono hBr.out.size))
        have hW2 := Lib.hid (hW.out.trans (hb.mono hW.out.size))
        have hM2 := Lib.hid (hM.out.kept hb)
        have k_r := Lib.hid (k_r.out.below hb)
        clear qa qb qc qd hb c0 c1 hBr hpr hW hM
        go_wp2_with fail
        (with_reducible refine (sample_two p2 _ _ _ _ QA2.out QB2.out QC2.out (by omega) (by omega) k_r.out ((gl_tab HL.out).below hB2.out)).mono ?_)
        rintro e W3 ⟨⟨x, y, M, N, rfl, hT, hx, hy, _, _⟩, hb⟩
        have hW3 := Lib.hid (hW2.out.trans (hb.mono hW2.out.size))
        have hM3 := Lib.hid (hM2.out.kept hb)
        rw [stepK_x QD2.out, ← HPX.out] at hx
        obtain ⟨Ny, cy, rfl, _⟩ := row_forms3 hT.s
        have k_x := Lib.hid (show W3.ownsRow (w3.heap.size + 1) 27 3 x M.length (cellsT M) from row_mono hT.r hM2.out.lt)
        obtain ⟨ax, cx, rfl, hax⟩ := row_forms3 hT.r
        have HMK := Lib.hid hx
        have hlk := step_length 5 px (s : Int) Z0
        rw [← hx, List.length_map] at hlk
        clear hT hy hb hB2 hW2 hM2 k_r QA2 QB2 QC2 QD2
        obtain ⟨K, hK⟩ : ∃ K, K = stepK 5 px (s : Int) Z0 := ⟨_, rfl⟩
        have HKW := Lib.hid (show ∀ y ∈ K, 1 ≤ y.2.1 ∧ y.2.1 ≤ 1024 by rw [hK]; exact step_weights HE.out)
        have HKI := Lib.hid (show ∀ y ∈ K, (Lit.int .i64 y.1).wf = true by
          rw [hK]
          intro y hy
          obtain ⟨z, hz, rfl⟩ := List.mem_map.1 hy
          obtain ⟨⟨h1, h2, _⟩, _⟩ := traceErr_zero (show traceErr (ofB z) = 0 from (HGD.out z (List.mem_filter.1 hz).1).1)
          have h1' : 1 ≤ z.1 := h1
          have h2' : z.1 ≤ 1099511627776 := h2
          exact wf_i64 (show -9223372036854775808 ≤ z.1 by omega) (show z.1 < 9223372036854775808 by omega))
        have HKG := Lib.hid (show ∀ id, totS px Z0 id (s + 1) = totS px Z0 id s + tot K id from fun id => by rw [hK]; rfl)
        rw [← hK] at HMK
        clear hK hx
        obtain ⟨nk, hnk⟩ : ∃ k, k = M.length := ⟨_, rfl⟩
        have HNK := Lib.hid (show K.length = nk by rw [← HMK.out, List.length_map, hnk])
        have HNM := Lib.hid hnk.symm
        rw [← hnk] at k_x hlk hax ⊢
        have hnk1 : nk ≤ 1000 := by omega
        clear hnk hlk
        go_wp2_with fail
        go_loopw [11] (fun i wr' => ∃ (k n2 : Nat), k ≤ nk ∧ i = .int .i64 (k : Int) ∧ n2 ≤ 1000 * s + k ∧ Hid (MapAt wr' w3.heap.size n2 fun id => totS px Z0 id s + tot (K.take k) id) ∧ Hid (Below w3.heap.size w3 wr') ∧ Hid (wr'.ownsRow (w3.heap.size + 1) 27 3 (.slice ax nk cx) nk (cellsT M))) (fun i _ => nk - (intOf i).toNat)
        case atStart => exact ⟨0, n, by omega, rfl, by omega, Lib.hid (by simpa [tot] using hM3.out), hW3, k_x⟩
        case round =>
          clear hW3 hM3 k_x
          obtain ⟨wo, rfl⟩ : ∃ x, x = W3 := ⟨_, rfl⟩
          obtain ⟨k, n2, hk, rfl, hn2, hM, hW, hX⟩ := hrel
          by_cases hkt : k < nk
          · have hkt2 : decide (k < nk) = true := decide_eq_true hkt
            have hkl : k < K.length := by rw [HNK.out]; exact hkt
            have hkm : k < M.length := by rw [HNM.out]; exact hkt
            obtain ⟨g, rfl, _, _⟩ := hax.resolve_left (fun h => by omega)
            have f0 := (hX.out.cellAt (k * 3) (by omega)).trans (cellsT_get (i := 0) hkm (by decide))
            have f1 := (hX.out.cellAt (k * 3 + 1) (by omega)).trans (cellsT_get (i := 1) hkm (by decide))
            have hwk := HKW.out _ (List.getElem_mem hkl)
            have hwi := Lib.hid (HKI.out _ (List.getElem_mem hkl))
            have htt := Lib.hid (fun id => tot_snoc hkl id)
            have hmk : M[k].bare = K[k] := by
              have h1 : (M.map TraceD.bare)[k]? = K[k]? := by rw [HMK.out]
              rw [List.getElem?_map, List.getElem?_eq_getElem hkm, List.getElem?_eq_getElem hkl] at h1
              exact Option.some.inj h1
            rw [← hmk] at hwk hwi htt
            clear hmk
            generalize M[k] = t at *
            obtain ⟨X, Wt, At, ct, st⟩ := t
            have hwk1 : 1 ≤ Wt := hwk.1
            have hwk2 : Wt ≤ 1024 := hwk.2
            replace f0 : wr.cell? ⟨g, k * 3, none⟩ = some (.int .i64 X) := f0
            replace f1 : wr.cell? ⟨g, k * 3 + 1, none⟩ = some (.int .i64 Wt) := f1
            have r1 := totS_range HE.out HZL.out X s
            have r2 := tot_range X (L := K.take k) (fun y hy => HKW.out y (List.mem_of_mem_take hy))
            rw [List.length_take, Nat.min_eq_left (by omega)] at r2
            obtain ⟨F, hF⟩ : ∃ F, F = totS px Z0 X s + tot (K.take k) X := ⟨_, rfl⟩
            have hF0 : 0 ≤ F := by omega
            have hF1 : F ≤ 2000000000 := by omega
            have HF := Lib.hid hF
            have hww : IntKind.i64.wrap (F + Wt) = F + Wt := wrap_small _ (by omega) (by omega)
            have hMd := hM.out.kept (below_drew wr)
            have HLK := Lib.hid (hMd.look X hwi.out)
            rw [← hF] at HLK
            have HC0 := Lib.hid (show ∀ W, W = wr.drew → W.cell? ⟨g, k * 3, none⟩ = some (.int .i64 X) from fun W h => by subst h; exact f0)
            have HC1 := Lib.hid (show ∀ W, W = wr.drew → W.cell? ⟨g, k * 3 + 1, none⟩ = some (.int .i64 Wt) from fun W h => by subst h; exact f1)
            have HMd := Lib.hid hMd
            clear hwk r1 r2 hF hMd hM
            go_upto_region 14 with (fail)
            refine wp_region_quiet_tail (C := fun W => W = wr.drew) 19 (by kernel_rfl) (by kernel_rfl) rfl ?_
            simp only [List.take_succ_cons, List.take_zero, List.drop_succ_cons, List.drop_zero]
            iterate 12
              refine wpQuiet_step (fun K hK => ?_)
              go_simp
              first
                | (refine hK _ ?_; clear hK K)
                | (refine ⟨_, by (first | rw [HC0.out _ rfl] | rw [HC1.out _ rfl]); exact ⟨rfl, rfl⟩, hK _ ?_⟩; clear hK K)
                | (refine ⟨_, fun _ _ => rfl, hK _ ?_⟩; clear hK K)
                | (refine ⟨_, fun W' hW' => (by rw [HC0.out W' hW']; exact ⟨rfl, rfl⟩), hK _ ?_⟩; clear hK K)
            refine wpQuiet_step (fun K hK => ?_)
            refine quiet_lookup (by rfl) 68 (.tmp 51) (.tmp 56) rfl (.map (some w3.heap.size)) (.int .i64 X) (.int .i64 F) rfl rfl (fun W hW => by subst hW; exact HLK.out) (hK _ ?_)
            clear hK K
            iterate 6
              refine wpQuiet_step (fun K hK => ?_)
              go_simp
              first
                | (refine hK _ ?_; clear hK K)
                | (refine ⟨_, by (first | rw [HC0.out _ rfl] | rw [HC1.out _ rfl]); exact ⟨rfl, rfl⟩, hK _ ?_⟩; clear hK K)
                | (refine ⟨_, fun _ _ => rfl, hK _ ?_⟩; clear hK K)
                | (refine ⟨_, fun W' hW' => (by rw [HC1.out W' hW']; exact ⟨rfl, rfl⟩), hK _ ?_⟩; clear hK K)
            refine wpQuiet_nil ?_
            intro W5 hW5
            subst hW5
            obtain ⟨D, hown, hD⟩ := HMd.out
            have HD := Lib.hid hD
            have HOW := Lib.hid hown
            have hWF : (Lit.int .i64 (F + Wt)).wf = true := wf_i64 (by omega) (by omega)
            clear hD hown
            refine wpList_mapUpdate_own _ rfl (.tmp 45) (.tmp 50) (.tmp 63) 68 rfl 3 3 keyedI Tryz.underlying68 _ w3.heap.size n2 D rfl HOW.out (by unfold maxLen; omega) (.int .i64 X) (.int .i64 (F + Wt)) (.int .i64 X) rfl rfl (Maps.keyOf_int_mk Tryz.underlying3 hwi.out) _ [] (plainElem_int Tryz.underlying3 hWF) ?_
            intro W6 hown1 hgrow1
            have hM6 := Lib.hid (MapAt.put HOW.out HD.out hwi.out hown1)
            have hMn : Hid (MapAt W6 w3.heap.size (n2 + 1) fun id => totS px Z0 id s + tot (K.take (k + 1)) id) := Lib.hid (by
              obtain ⟨D', h1, h2⟩ := hM6.out
              refine ⟨D', h1, fun id hid => (h2 id hid).trans ?_⟩
              congr 2
              show (if id = X then F + Wt else totS px Z0 id s + tot (K.take k) id) = totS px Z0 id s + tot (K.take (k + 1)) id
              rw [htt.out id]
              show _ = totS px Z0 id s + (tot (K.take k) id + if X = id then Wt else 0)
              by_cases e : id = X
              · rw [if_pos e, if_pos e.symm, HF.out, e]
                omega
              · rw [if_neg e, if_neg (fun h => e h.symm)]
                omega)
            have hWn := Lib.hid ((hW.out.trans ((below_drew wr).mono hW.out.size)).grown hgrow1 hW.out.size (fun k hk => by cases hk; exact Nat.le_refl _))
            have hXn := Lib.hid ((show wr.drew.ownsRow (w3.heap.size + 1) 27 3 (.slice (some ⟨g, 0, none⟩) nk cx) nk (cellsT M) from hX.out).kept hgrow1 (.inr (fun e => by have h1 := (hX.out.lt _ e).1; omega)))
            clear hown1 hgrow1
            go_wp2_with fail
            exact ⟨⟨k + 1, n2 + 1, by omega, by go_num, by omega, hMn, hWn, hXn⟩, by simp [intOf]; omega⟩
          · obtain rfl : k = nk := by omega
            have hkt2 : decide (k < k) = false := decide_eq_false hkt
            have hMn : Hid (MapAt wr w3.heap.size n2 fun id => totS px Z0 id (s + 1)) := Lib.hid (by
              have h := hM.out
              rw [List.take_of_length_le (by rw [HNK.out]; exact Nat.le_refl _)] at h
              simp only [HKG.out]
              exact h)
            clear hM
            go_wp2_with fail
            exact ⟨⟨s + 1, n2, by omega, by go_num, by omega, hMn, hW⟩, by simp [intOf]; omega⟩
      · obtain rfl : s = 1024 := by omega
        clear hpr
        go_wp2_with fail
        go_loopw [12] (fun i wr' => ∃ (k : Nat), k ≤ Z0.length ∧ i = .int .i64 (k : Int) ∧ Hid (MapAt wr' w3.heap.size n fun id => totS px Z0 id 1024) ∧ Hid (Below w3.heap.size w3 wr')) (fun i _ => Z0.length - (intOf i).toNat)
        case atStart => exact ⟨0, by omega, rfl, hM, hW⟩
        case round =>
          clear hM hW hBr k_r
          obtain ⟨wo, rfl⟩ : ∃ x, x = wr := ⟨_, rfl⟩
          obtain ⟨k, hk, rfl, hM, hW⟩ := hrel
          by_cases hkt : k < Z0.length
          · have hkt2 : decide (k < Z0.length) = true := decide_eq_true hkt
            have k_r := k_l.out.below hW.out
            obtain ⟨b1, o1, rfl, f0, f1⟩ := k_r.two_cells hkt
            have hz := List.getElem_mem hkt
            have hF := totS_all HID.out hz (HE.out _ hz)
            obtain ⟨⟨h1, h2, _⟩, _⟩ := traceErr_zero (show traceErr (ofB Z0[k]) = 0 from (HGD.out _ hz).1)
            have h1' : 1 ≤ Z0[k].1 := h1
            have h2' : Z0[k].1 ≤ 1099511627776 := h2
            have hlk := hM.out.look Z0[k].1 (wf_i64 (by omega) (by omega))
            rw [hF] at hlk
            clear k_r f1 hz hF h1 h2 h1' h2'
            generalize Z0[k].1 = X at *
            go_wp2_with fail
            exact ⟨⟨k + 1, by omega, by go_num, hM, hW⟩, by simp [intOf]; omega⟩
          · obtain rfl : k = Z0.length := by omega
            have hkt2 : decide (Z0.length < Z0.length) = false := decide_eq_false hkt
            have hBz := Lib.hid (hB3.out.trans (hW.out.mono hB3.out.size))
            go_wp2_with fail
            go_ret
            exact ⟨rfl, hBz.out⟩
end Go.Proofs.YtnddlpfmagdbfaaGreatDoor.Sto
