/- Further part 1 of the proof: contracts. Contract: the policy that is described; A plan, opened out of its reading; Plain law: the policy that is described is in order; Contract: sampling.Sample; Plain law: what a policy gives does not depend on addresses; Plain law: sampling traces without addresses, once and once more; Contract: the law's same, where two lists of traces are alike but for addresses; The contracts of a described policy and of Sample, packed for the laws; The self-test and the table of math/bits, from what the row lays; What the laws' arguments hold; policies that are alike; A story and four numbers, as the laws' argu. -/
import Derived.Test.YtnddlpfmagdbfaaGreatDoorMSamplesd
import Derived.Test.YtnddlpfmagdbfaaGreatDoorMSamplesc
import Derived.Test.YtnddlpfmagdbfaaGreatDoorMSamplesa
import Derived.Test.YtnddlpfmagdbfaaGreatDoorMSamplesb
/- Contract: the policy that is described. -/
namespace Go.Proofs.YtnddlpfmagdbfaaGreatDoor.Sto
open Go Go.Ev Go.Proofs Go.RowKit
set_option linter.unusedVariables false
set_option linter.unusedSimpArgs false
/-- The pairs of a plan lie there. -/
def PairsAt (W : World) (A : Option Addr) (L : List (Int × Int)) : Prop := ∀ j (h : j < L.length), ∃ ad, A = some ad ∧ W.cell? (ad.add (j * 2)) = some (.int .u8 L[j].1) ∧ W.cell? ⟨(ad.add (j * 2)).block, (ad.add (j * 2)).off + 1, none⟩ = some (.int .u8 L[j].2) ∧ isU8 L[j].1 ∧ isU8 L[j].2
theorem cell_keep {W W' : World} {p : Addr} {v : Value} (h : W.cell? p = some v) (k : Below W.heap.size W W') : W'.cell? p = some v := (k.cell (World.block_lt_of_cell? W _ h)).trans h
theorem PairsAt.below {W W' : World} {A : Option Addr} {L : List (Int × Int)} (h : PairsAt W A L) (k : Below W.heap.size W W') : PairsAt W' A L := fun j hj =>
  let ⟨ad, e, h0, h1, h2⟩ := h j hj
  ⟨ad, e, cell_keep h0 k, cell_keep h1 k, h2⟩
def ruleX (q : Int × Int) : RuleD := ⟨whereX q.1.toNat, q.2 % 11⟩
/-- The policy that is described, without addresses. -/
def policyX (L : List (Int × Int)) (d : Int) : PolD := ⟨none, 0, (L.take 3).map ruleX, d % 11⟩
/-- A rule that needs the blocks of an interval. -/
structure RuleOwn (B : Nat) (W : World) (o : Option Nat) (q : RuleD) : Prop where
  blk : ∃ lo hi, B ≤ lo ∧ hi ≤ W.heap.size ∧ (∀ W', (∀ b, lo ≤ b → b < hi → W'.heap[b]? = W.heap[b]?) → PredOK 5 W' q.p) ∧ (∀ r, o = some r → r < lo ∨ hi ≤ r)
  str : PredStr 5 q.p
def cellsR (M : List RuleD) : List Value := M.flatMap RuleD.cells
/-- A row of rules that has been made since a block. -/
structure RulesX (B : Nat) (W : World) (v : Value) (M : List RuleD) : Prop where
  row : W.ownsRow B 36 8 v M.length (cellsR M)
  own : ∀ q ∈ M, RuleOwn B W v.ownBlock q
theorem row_agree {W W' : World} {base : Nat} {e : TypeId} {size : Nat} {v : Value} {k : Nat} {xs : List Value} (h : W.ownsRow base e size v k xs) (hk : ∀ b, base ≤ b → b < W.heap.size → W'.heap[b]? = W.heap[b]?) : W'.ownsRow base e size v k xs := by
  refine ⟨h.1, ?_⟩
  rcases h.2 with h0 | ⟨g, cap, cur, h1, h2, h3, h4⟩
  · exact .inl h0
  · exact .inr ⟨g, cap, cur, h1, h2, (hk g h2 (blk_lt h3)).trans h3, h4⟩
theorem RulesX.agree {B : Nat} {W W' : World} {v : Value} {M : List RuleD} (h : RulesX B W v M) (hk : ∀ b, B ≤ b → b < W.heap.size → W'.heap[b]? = W.heap[b]?) (hs : W.heap.size ≤ W'.heap.size) : RulesX B W' v M :=
  ⟨row_agree h.row hk, fun q hq => ⟨let ⟨lo, hi, h1, h2, h3, h4⟩ := (h.own q hq).blk; ⟨lo, hi, h1, Nat.le_trans h2 hs, fun W2 k2 => h3 W2 fun b b1 b2 => (k2 b b1 b2).trans (hk b (by omega) (by omega)), h4⟩, (h.own q hq).str⟩⟩
theorem RulesX.below {B : Nat} {W W' : World} {v : Value} {M : List RuleD} (h : RulesX B W v M) (k : Below W.heap.size W W') : RulesX B W' v M := h.agree (fun b _ hb => k.block b hb) k.size
theorem RulesX.snoc {B : Nat} {W W1 W2 : World} {v v' : Value} {M : List RuleD} {q : RuleD} (h : RulesX B W v M) (hB : B ≤ W.heap.size) (hb : Below W.heap.size W W1) {lo hi : Nat} (h1 : W.heap.size ≤ lo) (h2 : hi ≤ W1.heap.size) (h3 : ∀ W', (∀ b, lo ≤ b → b < hi → W'.heap[b]? = W1.heap[b]?) → PredOK 5 W' q.p) (h4 : PredStr 5 q.p)
    (hr : W2.ownsRow B 36 8 v' (M.length + 1) (cellsR M ++ q.cells)) (hg : W1.grownBy W2 v.ownBlock) (hat : v'.ownBlock = v.ownBlock ∨ v'.ownBlock = some W1.heap.size) : RulesX B W2 v' (M ++ [q]) := by
  refine ⟨by rw [List.length_append, List.length_singleton, cellsR, List.flatMap_append, List.flatMap_singleton]; exact hr, fun x hx => ?_⟩
  have hv : ∀ r, v.ownBlock = some r → r < W.heap.size := fun r hr' => (h.row.lt r hr').2
  rcases List.mem_append.1 hx with hx | hx
  · obtain ⟨⟨lo', hi', a1, a2, a3, a4⟩, a5⟩ := h.own x hx
    refine ⟨⟨lo', hi', a1, by have := hb.size; have := hg.size; omega, fun W' hW' => a3 W' fun b b1 b2 => ?_, fun r hr' => ?_⟩, a5⟩
    · rw [hW' b b1 b2, hg.block b (by have := hb.size; omega) (fun e => by have := a4 b e.symm; omega), hb.block b (by omega)]
    · rcases hat with e | e
      · exact a4 r (e.symm.trans hr')
      · have := hb.size; rw [e] at hr'; cases hr'; omega
  · obtain rfl := List.mem_singleton.1 hx
    refine ⟨⟨lo, hi, by omega, by have := hg.size; omega, fun W' hW' => h3 W' fun b b1 b2 => ?_, fun r hr' => ?_⟩, h4⟩
    · rw [hW' b b1 b2, hg.block b (by omega) (fun e => by have := hv b e.symm; omega)]
    · rcases hat with e | e
      · have := hv r (e.symm.trans hr'); omega
      · rw [e] at hr'; cases hr'; omega
theorem RulesX.mono {B B' : Nat} {W : World} {v : Value} {M : List RuleD} (h : RulesX B W v M) (k : B' ≤ B) : RulesX B' W v M :=
  ⟨row_mono h.row k, fun q hq => ⟨let ⟨lo, hi, h1, h2⟩ := (h.own q hq).blk; ⟨lo, hi, Nat.le_trans k h1, h2⟩, (h.own q hq).str⟩⟩
/-- What stands while a rule is put to the row. -/
def PolS (w0 : World) (g : Nat) (ad : Addr) (j : Nat) (n c : Nat) (x y : Int) (W : World) : Prop := Below (g + 1 + 1) w0 W ∧ W.cell? ⟨g, 0, none⟩ = some (.slice (some ad) n c) ∧ W.cell? (ad.add (j * 2)) = some (.int .u8 x) ∧ W.cell? ⟨(ad.add (j * 2)).block, (ad.add (j * 2)).off + 1, none⟩ = some (.int .u8 y)
/-- What stands while the rule's region is on its way. -/
def PolI (w0 : World) (g : Nat) (ad : Addr) (j n c x : Nat) (y d e : Int) (a3 : Option Addr) (c3 : Nat) (M : List RuleD) (A : Act) (L : Nat → Prop) (a' : Act) (W : World) : Prop :=
  PolS w0 g ad j n c x y W ∧ ∃ (p : PredD) (lo hi : Nat) (x22 x29 x38 x39 x40 x41 : Value), a' = ((((((A.put (some 22) x22).put (some 29) x29).put (some 38) x38).put (some 39) x39).put (some 40) x40).put (some 41) x41) ∧
    (L 17 → L 8) ∧ (L 18 → L 17) ∧ (L 19 → L 18 ∧ L 1) ∧ (L 21 → L 19 ∧ L 20) ∧ (L 20 → x41 = .pointer (some ⟨g + 1 + 1, 0, none⟩)) ∧
    (¬ L 19 → Below w0.heap.size w0 W) ∧ (g + 1 + 1 < W.heap.size) ∧
    (¬ L 21 → W.heap[g + 1 + 1]? = some (.cells #[.slice a3 M.length c3, .int .i64 d] 24 (0, 0))) ∧
    (L 1 → x22 = .slice a3 M.length c3) ∧
    (L 8 → x29 = .agg p.cells.toArray ∧ w0.heap.size ≤ lo ∧ hi ≤ W.heap.size ∧ (∀ W', (∀ b, lo ≤ b → b < hi → W'.heap[b]? = W.heap[b]?) → PredOK 5 W' p) ∧ PredStr 5 p ∧ SameP 5 p (whereX x)) ∧
    (L 17 → x38 = .agg (RuleD.mk p e).cells.toArray) ∧
    (L 18 → ¬ L 19 → ∃ g', x39 = .slice (some ⟨g', 0, none⟩) 1 1 ∧ W.heap[g']? = some (.cells (RuleD.mk p e).cells.toArray 36 (0, 0))) ∧
    (L 19 → RulesX (g + 3) W x40 (M ++ [⟨p, e⟩])) ∧
    (L 21 → W.heap[g + 1 + 1]? = some (.cells #[x40, .int .i64 d] 24 (0, 0)))
theorem infoR : infoSz 8 (Tryz.prog.info? 36) = true := by kernel_rfl
set_option maxRecDepth 20000 in
set_option maxHeartbeats 8000000 in
theorem policy_any (A : Option Addr) (L : List (Int × Int)) (c : Nat) (d : Int) (hd : isU8 d) (hl : L.length ≤ 9223372036854775807) (w : World) (hA : PairsAt w A L) :
    Calls Tryz.prog 19 #[.agg #[.slice A L.length c, .int .u8 d]] w fun e w' => (∃ v M, e = .returned (.agg #[v, .int .i64 (d % 11)]) ∧ RulesX w.heap.size w' v M ∧ M.length = min L.length 3 ∧ (∀ j (h : j < M.length) (h' : j < L.length), M[j].e = L[j].2 % 11 ∧ SameP 5 M[j].p (whereX L[j].1.toNat))) ∧ Below w.heap.size w w' := by
  obtain ⟨t3, z3, ht3, ht3z, ht3s, ht3b, ht3c⟩ := infoSz_spec infoR
  have HA := Lib.hid hA
  unfold isU8 at hd
  obtain ⟨hd0, hd4⟩ := hd
  have hd2 : 0 ≤ d % 11 := by omega
  have hd3 : d % 11 < 11 := by omega
  clear hA
  go_enter Tryz.func19, Tryz.ntmps19
  go_wp2_with fail
  go_loopw [4] (fun i wr => ∃ (j : Nat) (v : Value) (M : List RuleD), j ≤ L.length ∧ j ≤ 3 ∧ i = .int .i64 j ∧ M.length = j ∧ Hid (RulesX (w.heap.size + 3) wr v M) ∧ Hid (∀ k (h : k < M.length) (h' : k < L.length), M[k].e = L[k].2 % 11 ∧ SameP 5 M[k].p (whereX L[k].1.toNat)) ∧ Hid (Below w.heap.size w wr) ∧ Hid (wr.heap[w.heap.size]? = some (.cells #[.slice A L.length c, .int .u8 d] 55 (0, 0))) ∧ Hid (wr.heap[w.heap.size + 1 + 1]? = some (.cells #[v, .int .i64 (d % 11)] 24 (0, 0))) ∧ Hid (wr.heap[w.heap.size + 1]? = some (.cells #[.slice none 0 0, .int .i64 0] 24 (0, 0))) ) (fun i _ => 3 - (intOf i).toNat)
  case atStart =>
    exact ⟨0, .slice none 0 0, [], by omega, by omega, rfl, rfl, Lib.hid ⟨World.ownsRow_nil _ _ _ _, by simp⟩, Lib.hid (fun k h => absurd h (Nat.not_lt_zero _)), Lib.hid (((Grew.alloc _ _).trans (Grew.alloc _ _)).trans (Grew.alloc _ _)).b, Lib.hid ((Grew.alloc _ _).blk ((Grew.alloc _ _).blk (blk_new _ _ _))), Lib.hid (blk_new' _ _ _ _ (by simp)), Lib.hid ((Grew.alloc _ _).blk (blk_new' _ _ _ _ (by simp)))⟩
  case round =>
    obtain ⟨j, v, M, hj, hj3, rfl, hM, HR, HV, HB, HP, HQ, HZ⟩ := hrel
    have hnv : M.length = min L.length 3 → Hid (M.length = min L.length 3) := fun h => Lib.hid h
    obtain ⟨a3, c3, rfl, _⟩ := row_forms HR.out.row
    have b0 := cell_blk HP.out 0 rfl
    have b1 := cell_blk HP.out 1 rfl
    have q0 := cell_blk HQ.out 0 rfl
    have q1 := cell_blk HQ.out 1 rfl
    have qf := fun i => frozen_blk HQ.out i
    have z0 := cell_blk HZ.out 0 rfl
    have z1 := cell_blk HZ.out 1 rfl
    have zf := fun i => frozen_blk HZ.out i
    have HE : Hid (M.length = min L.length 3 → ((wr.setCell ⟨w.heap.size + 1, 0, none⟩ (.slice a3 M.length c3)).setCell ⟨w.heap.size + 1, 1, none⟩ (.int .i64 (d % 11))).heap[w.heap.size + 1]? = some (.cells #[.slice a3 M.length c3, .int .i64 (d % 11)] 24 (0, 0)) ∧ (∃ v M', (Ending.returned (.agg #[.slice a3 M.length c3, .int .i64 (d % 11)])) = .returned (.agg #[v, .int .i64 (d % 11)]) ∧ RulesX w.heap.size ((wr.setCell ⟨w.heap.size + 1, 0, none⟩ (.slice a3 M.length c3)).setCell ⟨w.heap.size + 1, 1, none⟩ (.int .i64 (d % 11))) v M' ∧ M'.length = min L.length 3 ∧ (∀ j (h : j < M'.length) (h' : j < L.length), M'[j].e = L[j].2 % 11 ∧ SameP 5 M'[j].p (whereX L[j].1.toNat))) ∧ Below w.heap.size w ((wr.setCell ⟨w.heap.size + 1, 0, none⟩ (.slice a3 M.length c3)).setCell ⟨w.heap.size + 1, 1, none⟩ (.int .i64 (d % 11)))) := Lib.hid fun hm =>
      ⟨heap_setCell_same _ _ 1 _ _ _ (heap_setCell_same _ _ 0 _ _ _ HZ.out), ⟨_, M, rfl, (HR.out.agree (fun b h1 h2 => by rw [heap_setCell_other _ _ _ _ (by show b ≠ w.heap.size + 1; omega), heap_setCell_other _ _ _ _ (by show b ≠ w.heap.size + 1; omega)]) (by simp)).mono (by omega), hm, HV.out⟩, (HB.out.setCell (by show w.heap.size ≤ w.heap.size + 1; omega) _).setCell (by show w.heap.size ≤ w.heap.size + 1; omega) _⟩
    by_cases hlt : j < L.length
    · by_cases h3 : j < 3
      · subst hM
        obtain ⟨ad, rfl, p0, p1, p2, p3⟩ := HA.out.below HB.out M.length hlt
        have HAL : Hid ((ad.add (M.length * 2)).block < w.heap.size ∧ (ad.add (M.length * 2)).block < w.heap.size) := Lib.hid (let ⟨ad', e, k0, _⟩ := HA.out M.length hlt; by cases e; exact ⟨World.block_lt_of_cell? w _ k0, World.block_lt_of_cell? w _ k0⟩)
        go_upto_region 5 with (fail)
        obtain ⟨x, y, hxy⟩ : ∃ x y, L[M.length] = (x, y) := ⟨_, _, rfl⟩
        rw [hxy] at p0 p1 p2 p3
        have HXY := Lib.hid hxy
        clear hxy
        simp only at p0 p1 p2 p3
        unfold isU8 at p2 p3
        obtain ⟨x, rfl⟩ : ∃ n : Nat, x = n := ⟨x.toNat, by omega⟩
        have HXX : Hid (L[M.length].2 % 11 = y % 11 ∧ L[M.length].1.toNat = x) := Lib.hid (by rw [HXY.out]; exact ⟨rfl, rfl⟩)
        have hx : x ≤ 255 := by omega
        have hy0 : 0 ≤ y := by omega
        have hy1 : y < 256 := by omega
        have hy2 : 0 ≤ y % 11 := by omega
        have hy3 : y % 11 < 11 := by omega
        refine wp_region_held_drew (S := (fun W => PolS wr w.heap.size ad M.length L.length c x y W)) (by kernel_rfl) ⟨(below_drew _).mono (by have := blk_lt HQ.out; omega), b0, p0, p1⟩ (fun hHeld => ?_)
        refine take_at (i := 0) (v := ?_) rfl (by kernel_rfl) (by kernel_rfl) (by kernel_rfl) (fun _ _ _ h => h) (Or.inl ⟨by rfl, ?_⟩) hHeld ?_
        rotate_left
        · intro W hSw; (try dsimp only at hSw); unfold PolS at hSw; go_simp; try with_reducible rfl
        try simp only [Act.put, List.setIfInBounds_toArray, List.set_cons_zero, List.set_cons_succ]
        refine take_at (i := 2) (v := ?_) rfl (by kernel_rfl) (by kernel_rfl) (by kernel_rfl) (fun _ _ _ h => h) (Or.inl ⟨by rfl, ?_⟩) hHeld ?_
        rotate_left
        · intro W hSw; (try dsimp only at hSw); unfold PolS at hSw; go_simp; try with_reducible rfl
        try simp only [Act.put, List.setIfInBounds_toArray, List.set_cons_zero, List.set_cons_succ]
        refine take_at (i := 3) (v := ?_) rfl (by kernel_rfl) (by kernel_rfl) (by kernel_rfl) (fun _ _ _ h => h) (Or.inl ⟨by rfl, ?_⟩) hHeld ?_
        rotate_left
        · intro W hSw; (try dsimp only at hSw); unfold PolS at hSw; go_simp; try with_reducible rfl
        try simp only [Act.put, List.setIfInBounds_toArray, List.set_cons_zero, List.set_cons_succ]
        refine take_at (i := 4) (v := ?_) rfl (by kernel_rfl) (by kernel_rfl) (by kernel_rfl) (fun _ _ _ h => h) (Or.inl ⟨by rfl, ?_⟩) hHeld ?_
        rotate_left
        · intro W hSw; (try dsimp only at hSw); unfold PolS at hSw; go_simp; try with_reducible rfl
        try simp only [Act.put, List.setIfInBounds_toArray, List.set_cons_zero, List.set_cons_succ]
        refine take_at (i := 5) (v := ?_) rfl (by kernel_rfl) (by kernel_rfl) (by kernel_rfl) (fun _ _ _ h => h) (Or.inl ⟨by rfl, ?_⟩) hHeld ?_
        rotate_left
        · intro W hSw; (try dsimp only at hSw); unfold PolS at hSw; go_simp; try with_reducible rfl
        try simp only [Act.put, List.setIfInBounds_toArray, List.set_cons_zero, List.set_cons_succ]
        refine take_at (i := 6) (v := ?_) rfl (by kernel_rfl) (by kernel_rfl) (by kernel_rfl) (fun _ _ _ h => h) (Or.inl ⟨by rfl, ?_⟩) hHeld ?_
        rotate_left
        · intro W hSw; (try dsimp only at hSw); unfold PolS at hSw; go_simp; try with_reducible rfl
        try simp only [Act.put, List.setIfInBounds_toArray, List.set_cons_zero, List.set_cons_succ]
        refine take_at (i := 7) (v := ?_) rfl (by kernel_rfl) (by kernel_rfl) (by kernel_rfl) (fun _ _ _ h => h) (Or.inl ⟨by rfl, ?_⟩) hHeld ?_
        rotate_left
        · intro W hSw; (try dsimp only at hSw); unfold PolS at hSw; go_simp; try with_reducible rfl
        try simp only [Act.put, List.setIfInBounds_toArray, List.set_cons_zero, List.set_cons_succ]
        refine take_at (i := 9) (v := ?_) rfl (by kernel_rfl) (by kernel_rfl) (by kernel_rfl) (fun _ _ _ h => h) (Or.inl ⟨by rfl, ?_⟩) hHeld ?_
        rotate_left
        · intro W hSw; (try dsimp only at hSw); unfold PolS at hSw; go_simp; try with_reducible rfl
        try simp only [Act.put, List.setIfInBounds_toArray, List.set_cons_zero, List.set_cons_succ]
        refine take_at (i := 10) (v := ?_) rfl (by kernel_rfl) (by kernel_rfl) (by kernel_rfl) (fun _ _ _ h => h) (Or.inl ⟨by rfl, ?_⟩) hHeld ?_
        rotate_left
        · intro W hSw; (try dsimp only at hSw); unfold PolS at hSw; go_simp; try with_reducible rfl
        try simp only [Act.put, List.setIfInBounds_toArray, List.set_cons_zero, List.set_cons_succ]
        refine take_at (i := 11) (v := ?_) rfl (by kernel_rfl) (by kernel_rfl) (by kernel_rfl) (fun _ _ _ h => h) (Or.inl ⟨by rfl, ?_⟩) hHeld ?_
        rotate_left
        · intro W hSw; (try dsimp only at hSw); unfold PolS at hSw; go_simp; try with_reducible rfl
        try simp only [Act.put, List.setIfInBounds_toArray, List.set_cons_zero, List.set_cons_succ]
        refine take_at (i := 12) (v := ?_) rfl (by kernel_rfl) (by kernel_rfl) (by kernel_rfl) (fun _ _ _ h => h) (Or.inl ⟨by rfl, ?_⟩) hHeld ?_
        rotate_left
        · intro W hSw; (try dsimp only at hSw); unfold PolS at hSw; go_simp; try with_reducible rfl
        try simp only [Act.put, List.setIfInBounds_toArray, List.set_cons_zero, List.set_cons_succ]
        refine take_at (i := 13) (v := ?_) rfl (by kernel_rfl) (by kernel_rfl) (by kernel_rfl) (fun _ _ _ h => h) (Or.inl ⟨by rfl, ?_⟩) hHeld ?_
        rotate_left
        · intro W hSw; (try dsimp only at hSw); unfold PolS at hSw; go_simp; try with_reducible rfl
        try simp only [Act.put, List.setIfInBounds_toArray, List.set_cons_zero, List.set_cons_succ]
        refine take_at (i := 14) (v := ?_) rfl (by kernel_rfl) (by kernel_rfl) (by kernel_rfl) (fun _ _ _ h => h) (Or.inl ⟨by rfl, ?_⟩) hHeld ?_
        rotate_left
        · intro W hSw; (try dsimp only at hSw); unfold PolS at hSw; go_simp; try with_reducible rfl
        try simp only [Act.put, List.setIfInBounds_toArray, List.set_cons_zero, List.set_cons_succ]
        refine take_at (i := 15) (v := ?_) rfl (by kernel_rfl) (by kernel_rfl) (by kernel_rfl) (fun _ _ _ h => h) (Or.inl ⟨by rfl, ?_⟩) hHeld ?_
        rotate_left
        · intro W hSw; (try dsimp only at hSw); unfold PolS at hSw; go_simp; try with_reducible rfl
        try simp only [Act.put, List.setIfInBounds_toArray, List.set_cons_zero, List.set_cons_succ]
        refine take_at (i := 16) (v := ?_) rfl (by kernel_rfl) (by kernel_rfl) (by kernel_rfl) (fun _ _ _ h => h) (Or.inl ⟨by rfl, ?_⟩) hHeld ?_
        rotate_left
        · intro W hSw; (try dsimp only at hSw); unfold PolS at hSw; go_simp; try with_reducible rfl
        try simp only [Act.put, List.setIfInBounds_toArray, List.set_cons_zero, List.set_cons_succ]
        have hye : IntKind.i64.wrap (y.tmod 11) = y % 11 := by
          rw [Int.tmod_eq_emod_of_nonneg hy0]
          simp [IntKind.wrap, IntKind.bits, IntKind.signed]
          omega
        have hye2 : y.tmod 11 = y % 11 := Int.tmod_eq_emod_of_nonneg hy0
        rw [hye, hye2]
        clear hye hye2
        have hdt : decide ((M.length : Int) < 3) = true := decide_eq_true (by omega)
        rw [hdt]
        clear hdt
        have hgL : w.heap.size + 1 + 1 < wr.heap.size := blk_lt HQ.out
        have HPS : Hid (∀ W, Below (w.heap.size + 1 + 1) wr W → PolS wr w.heap.size ad M.length L.length c x y W) := Lib.hid fun W h => ⟨h, (h.cell (by show w.heap.size < w.heap.size + 1 + 1; omega)).trans b0, (h.cell (by have := HAL.out.1; omega)).trans p0, (h.cell (by have := HAL.out.2; show (ad.add (M.length * 2)).block < w.heap.size + 1 + 1; omega)).trans p1⟩
        clear b0 b1 q0 q1 qf z0 z1 zf p0 p1
        refine wpAnyH_rest [1, 8, 17, 18, 19, 20, 21] (PolI wr w.heap.size ad M.length L.length c x y (d % 11) (y % 11) a3 c3 M) (by kernel_rfl) rfl (by kernel_rfl) (by kernel_rfl) (by kernel_rfl) ?_ (fun _ _ _ h => h.1) ?_ ?_
        · intro L0 hL
          have g : ∀ k ∈ [1, 8, 17, 18, 19, 20, 21], L0 k → False := fun k hk h => hL k hk h
          refine ⟨hHeld, whereX 0, 0, 0, ?x22, ?x29, ?x38, ?x39, ?x40, ?x41, ?eq, fun h => (g 17 (by simp) h).elim, fun h => (g 18 (by simp) h).elim, fun h => (g 19 (by simp) h).elim, fun h => (g 21 (by simp) h).elim, fun h => (g 20 (by simp) h).elim, fun _ => below_drew _, hgL, fun _ => blk_keep (below_drew _) HQ.out, fun h => (g 1 (by simp) h).elim, fun h => (g 8 (by simp) h).elim, fun h => (g 17 (by simp) h).elim, fun h => (g 18 (by simp) h).elim, fun h => (g 19 (by simp) h).elim, fun h => (g 21 (by simp) h).elim⟩
          case eq =>
            simp only [Act.put, List.setIfInBounds_toArray, List.set_cons_zero, List.set_cons_succ]
            try rfl
        · intro i0 hi0
          simp only [List.mem_cons, List.not_mem_nil, or_false] at hi0
          rcases hi0 with rfl | rfl | rfl | rfl | rfl | rfl | rfl
          · intro L0 A W o hI ho hn hd
            obtain rfl := Option.some.inj (show some _ = some o from nth_of ho)
            obtain ⟨hS, p, lo, hi, x22, x29, x38, x39, x40, x41, rfl, h17, h18, h19, h21, h20, hBw, hsz, hbx, hA, hBq, hC, hD, hE, hF⟩ := hI
            simp only [Act.put, List.setIfInBounds_toArray, List.set_cons_zero, List.set_cons_succ]
            refine wpOp_step (nth_at rfl) (fun K hK => ?_)
            rw [if_pos (by rfl)]
            have n19 : ¬ L0 19 := fun h => hn (h19 h).2
            have n21 : ¬ L0 21 := fun h => n19 (h21 h).1
            have q9 := cell_blk (hbx n21) 0 rfl
            go_simp
            refine hK _ _ ⟨hS, p, lo, hi, .slice a3 M.length c3, x29, x38, x39, x40, x41, ?_, fun h => .inl (h17 (h.resolve_right (by decide))), fun h => .inl (h18 (h.resolve_right (by decide))), fun h => absurd (h.resolve_right (by decide)) n19, fun h => absurd (h.resolve_right (by decide)) n21, fun h => h20 (h.resolve_right (by decide)), fun _ => hBw n19, hsz, fun _ => hbx n21, fun _ => rfl, fun h => hBq (h.resolve_right (by decide)), fun h => hC (h.resolve_right (by decide)), fun h _ => hD (h.resolve_right (by decide)) n19, fun h => absurd (h.resolve_right (by decide)) n19, fun h => absurd (h.resolve_right (by decide)) n21⟩
            simp only [Act.put, List.setIfInBounds_toArray, List.set_cons_zero, List.set_cons_succ]
          · intro L0 A W o hI ho hn hd
            obtain rfl := Option.some.inj (show some _ = some o from nth_of ho)
            obtain ⟨hS, p, lo, hi, x22, x29, x38, x39, x40, x41, rfl, h17, h18, h19, h21, h20, hBw, hsz, hbx, hA, hBq, hC, hD, hE, hF⟩ := hI
            simp only [Act.put, List.setIfInBounds_toArray, List.set_cons_zero, List.set_cons_succ]
            refine wpOp_step (nth_at rfl) (fun K hK => ?_)
            rw [if_pos (by rfl)]
            have n17 : ¬ L0 17 := fun h => hn (h17 h)
            have n18 : ¬ L0 18 := fun h => n17 (h18 h)
            have n19 : ¬ L0 19 := fun h => n18 (h19 h).1
            have n21 : ¬ L0 21 := fun h => n19 (h21 h).1
            go_simp
            (with_reducible refine (where_any 4 x hx (by omega) _).mono ?_)
            rintro e w' ⟨p', rfl, hs', hok', hstr', hbb⟩
            have hb0 := hBw n19
            refine hK _ _ ⟨HPS.out _ (below_on hS.1 hbb (by omega)), p', W.heap.size, w'.heap.size, x22, .agg p'.cells.toArray, x38, x39, x40, x41, ?_, fun h => absurd (h.resolve_right (by decide)) n17, fun h => absurd (h.resolve_right (by decide)) n18, fun h => absurd (h.resolve_right (by decide)) n19, fun h => absurd (h.resolve_right (by decide)) n21, fun h => h20 (h.resolve_right (by decide)), fun _ => hb0.trans (hbb.mono hb0.size), by have := hbb.size; omega, fun _ => blk_keep hbb (hbx n21), fun h => hA (h.resolve_right (by decide)), fun _ => ⟨rfl, hb0.size, Nat.le_refl _, hok', hstr', hs'⟩, fun h => absurd (h.resolve_right (by decide)) n17, fun h => absurd (h.resolve_right (by decide)) n18, fun h => absurd (h.resolve_right (by decide)) n19, fun h => absurd (h.resolve_right (by decide)) n21⟩
            simp only [Act.put, List.setIfInBounds_toArray, List.set_cons_zero, List.set_cons_succ]
          · intro L0 A W o hI ho hn hd
            obtain rfl := Option.some.inj (show some _ = some o from nth_of ho)
            obtain ⟨hS, p, lo, hi, x22, x29, x38, x39, x40, x41, rfl, h17, h18, h19, h21, h20, hBw, hsz, hbx, hA, hBq, hC, hD, hE, hF⟩ := hI
            simp only [Act.put, List.setIfInBounds_toArray, List.set_cons_zero, List.set_cons_succ]
            refine wpOp_step (nth_at rfl) (fun K hK => ?_)
            rw [if_pos (by rfl)]
            have l8 : L0 8 := hd { on := 8, ground := Ground.data } (by simp) rfl (by simp)
            have n18 : ¬ L0 18 := fun h => hn (h18 h)
            have n19 : ¬ L0 19 := fun h => n18 (h19 h).1
            have n21 : ¬ L0 21 := fun h => n19 (h21 h).1
            obtain ⟨rfl, r1, r2, r3, r4, r5⟩ := hBq l8
            obtain ⟨tt, pA, pc, pl⟩ := p
            unfold PredD.cells
            simp only [PredD.t, PredD.A, PredD.c, PredD.args]
            go_simp
            refine hK _ _ ⟨hS, .mk tt pA pc pl, lo, hi, x22, _, _, x39, x40, x41, ?_, fun _ => .inl l8, fun h => absurd (h.resolve_right (by decide)) n18, fun h => absurd (h.resolve_right (by decide)) n19, fun h => absurd (h.resolve_right (by decide)) n21, fun h => h20 (h.resolve_right (by decide)), fun _ => hBw n19, hsz, fun _ => hbx n21, fun h => hA (h.resolve_right (by decide)), fun _ => ⟨rfl, r1, r2, r3, r4, r5⟩, fun _ => rfl, fun h => absurd (h.resolve_right (by decide)) n18, fun h => absurd (h.resolve_right (by decide)) n19, fun h => absurd (h.resolve_right (by decide)) n21⟩
            simp only [Act.put, List.setIfInBounds_toArray, List.set_cons_zero, List.set_cons_succ]
            rfl
          · intro L0 A W o hI ho hn hd
            obtain rfl := Option.some.inj (show some _ = some o from nth_of ho)
            obtain ⟨hS, p, lo, hi, x22, x29, x38, x39, x40, x41, rfl, h17, h18, h19, h21, h20, hBw, hsz, hbx, hA, hBq, hC, hD, hE, hF⟩ := hI
            simp only [Act.put, List.setIfInBounds_toArray, List.set_cons_zero, List.set_cons_succ]
            refine wpOp_step (nth_at rfl) (fun K hK => ?_)
            rw [if_pos (by rfl)]
            have l17 : L0 17 := hd { on := 17, ground := Ground.data } (by simp) rfl (by simp)
            have n19 : ¬ L0 19 := fun h => hn (h19 h).1
            have n21 : ¬ L0 21 := fun h => n19 (h21 h).1
            have hb0 := hBw n19
            obtain rfl := hC l17
            obtain ⟨rfl, r1, r2, r3, r4, r5⟩ := hBq (h17 l17)
            obtain ⟨tt, pA, pc, pl⟩ := p
            unfold PredD.cells RuleD.cells
            simp only [PredD.t, PredD.A, PredD.c, PredD.args]
            go_simp
            refine hK _ _ ⟨HPS.out _ (below_on hS.1 (below_alloc _ _) (by omega)), .mk tt pA pc pl, lo, hi, x22, _, _, .slice (some ⟨W.heap.size, 0, none⟩) 1 1, x40, x41, ?_, fun _ => .inl (h17 l17), fun _ => .inl l17, fun h => absurd (h.resolve_right (by decide)) n19, fun h => absurd (h.resolve_right (by decide)) n21, fun h => h20 (h.resolve_right (by decide)), fun _ => hb0.trans ((below_alloc _ _).mono hb0.size), by simp; omega, fun _ => blk_keep (below_alloc _ _) (hbx n21), fun h => hA (h.resolve_right (by decide)), fun _ => ⟨rfl, r1, by simp; omega, fun W' hW' => r3 W' fun b b1 b2 => (hW' b b1 b2).trans ((below_alloc _ _).block b (by omega)), r4, r5⟩, fun _ => rfl, fun _ _ => ⟨W.heap.size, rfl, blk_new _ _ _⟩, fun h => absurd (h.resolve_right (by decide)) n19, fun h => absurd (h.resolve_right (by decide)) n21⟩
            simp only [Act.put, List.setIfInBounds_toArray, List.set_cons_zero, List.set_cons_succ]
            rfl
          · intro L0 A W o hI ho hn hd
            obtain rfl := Option.some.inj (show some _ = some o from nth_of ho)
            obtain ⟨hS, p, lo, hi, x22, x29, x38, x39, x40, x41, rfl, h17, h18, h19, h21, h20, hBw, hsz, hbx, hA, hBq, hC, hD, hE, hF⟩ := hI
            simp only [Act.put, List.setIfInBounds_toArray, List.set_cons_zero, List.set_cons_succ]
            refine wpOp_step (nth_at rfl) (fun K hK => ?_)
            rw [if_pos (by rfl)]
            have l18 : L0 18 := hd { on := 18, ground := Ground.data } (by simp) rfl (by simp)
            have l1 : L0 1 := hd { on := 1, ground := Ground.data } (by simp) rfl (by simp)
            have n21 : ¬ L0 21 := fun h => hn (h21 h).1
            have hb0 := hBw hn
            have l17 := h18 l18
            have l8 := h17 l17
            obtain rfl := hA l1
            obtain ⟨g', rfl, hg'⟩ := hD l18 hn
            obtain ⟨_, r1, r2, r3, r4, r5⟩ := hBq l8
            have hrow := (HR.out.below hb0).row
            refine wp_append_any (.tmp 22) (.tmp 39) 22 rfl (w.heap.size + 3) 36 t3 z3 8 Tryz.underlying22 ht3 ht3z ht3s ht3b ht3c (by decide) (.slice a3 M.length c3) M.length (cellsR M) rfl hrow (some ⟨g', 0, none⟩) 1 1 (RuleD.mk p (y % 11)).cells rfl rfl (fun h => by cases h) (fun q hq => by cases hq; exact World.news_of_block hg') (by simp [RuleD.cells, Value.oneCell']) (by omega) (by omega) ?_
            intro v' w1 hown hgr hat
            have hbw : Below (w.heap.size + 1 + 1) wr w1 := below_grown hS.1 hgr (fun i hi => by have := (hrow.lt i hi).1; omega) (by omega)
            have hgs := hgr.size
            have hne : (Value.slice a3 M.length c3).ownBlock ≠ some (w.heap.size + 1 + 1) := fun e => by have := (hrow.lt _ e).1; omega
            refine hK _ w1 ⟨HPS.out _ hbw, p, lo, hi, .slice a3 M.length c3, x29, x38, .slice (some ⟨g', 0, none⟩) 1 1, v', x41, ?_, fun h => .inl (h17 (h.resolve_right (by decide))), fun h => .inl (h18 (h.resolve_right (by decide))), fun _ => ⟨.inl l18, .inl l1⟩, fun h => absurd (h.resolve_right (by decide)) n21, fun h => h20 (h.resolve_right (by decide)), fun h => absurd (.inr rfl) h, by omega, fun _ => blk_grown hgr (hbx n21) hne, fun _ => rfl, fun _ => ⟨(hBq l8).1, r1, by omega, fun W' hW' => r3 W' fun b b1 b2 => (hW' b b1 b2).trans (hgr.block b (by omega) (fun e => by have := (HR.out.row.lt b e.symm).2; omega)), r4, r5⟩, fun h => hC (h.resolve_right (by decide)), fun _ h => absurd (.inr rfl) h, fun _ => HR.out.snoc (by have := blk_lt HQ.out; omega) hb0 r1 r2 r3 r4 hown hgr hat, fun h => absurd (h.resolve_right (by decide)) n21⟩
            simp only [Act.put, List.setIfInBounds_toArray, List.set_cons_zero, List.set_cons_succ]
          · intro L0 A W o hI ho hn hd
            obtain rfl := Option.some.inj (show some _ = some o from nth_of ho)
            obtain ⟨hS, p, lo, hi, x22, x29, x38, x39, x40, x41, rfl, h17, h18, h19, h21, h20, hBw, hsz, hbx, hA, hBq, hC, hD, hE, hF⟩ := hI
            simp only [Act.put, List.setIfInBounds_toArray, List.set_cons_zero, List.set_cons_succ]
            refine wpOp_step (nth_at rfl) (fun K hK => ?_)
            rw [if_pos (by rfl)]
            have n21 : ¬ L0 21 := fun h => hn (h21 h).2
            go_simp
            refine hK _ _ ⟨hS, p, lo, hi, x22, x29, x38, x39, x40, .pointer (some ⟨w.heap.size + 1 + 1, 0, none⟩), ?_, fun h => .inl (h17 (h.resolve_right (by decide))), fun h => .inl (h18 (h.resolve_right (by decide))), fun h => ⟨.inl (h19 (h.resolve_right (by decide))).1, .inl (h19 (h.resolve_right (by decide))).2⟩, fun h => absurd (h.resolve_right (by decide)) n21, fun _ => rfl, fun h => hBw fun h' => h (.inl h'), hsz, fun _ => hbx n21, fun h => hA (h.resolve_right (by decide)), fun h => hBq (h.resolve_right (by decide)), fun h => hC (h.resolve_right (by decide)), fun h h' => hD (h.resolve_right (by decide)) fun h'' => h' (.inl h''), fun h => hE (h.resolve_right (by decide)), fun h => absurd (h.resolve_right (by decide)) n21⟩
            simp only [Act.put, List.setIfInBounds_toArray, List.set_cons_zero, List.set_cons_succ]
          · intro L0 A W o hI ho hn hd
            obtain rfl := Option.some.inj (show some _ = some o from nth_of ho)
            obtain ⟨hS, p, lo, hi, x22, x29, x38, x39, x40, x41, rfl, h17, h18, h19, h21, h20, hBw, hsz, hbx, hA, hBq, hC, hD, hE, hF⟩ := hI
            simp only [Act.put, List.setIfInBounds_toArray, List.set_cons_zero, List.set_cons_succ]
            refine wpOp_step (nth_at rfl) (fun K hK => ?_)
            rw [if_pos (by rfl)]
            have l19 : L0 19 := hd { on := 19, ground := Ground.data } (by simp) rfl (by simp)
            have l20 : L0 20 := hd { on := 20, ground := Ground.data } (by simp) rfl (by simp)
            obtain rfl := h20 l20
            have hr9 := hE l19
            have q9 := cell_blk (hbx hn) 0 rfl
            have qf := fun i => frozen_blk (hbx hn) i
            obtain ⟨a4, c4, rfl, _⟩ := row_forms hr9.row
            have hll : (M ++ [RuleD.mk p (y % 11)]).length = M.length + 1 := by simp
            rw [hll] at hr9 ⊢
            go_simp
            have hb9 : Below (w.heap.size + 1 + 1) wr (W.setCell ⟨w.heap.size + 1 + 1, 0, none⟩ (.slice a4 (M.length + 1) c4)) := hS.1.setCell (Nat.le_refl _) _
            refine hK _ _ ⟨HPS.out _ hb9, p, lo, hi, x22, x29, x38, x39, _, _, ?_, fun h => .inl (h17 (h.resolve_right (by decide))), fun h => .inl (h18 (h.resolve_right (by decide))), fun h => ⟨.inl (h19 (h.resolve_right (by decide))).1, .inl (h19 (h.resolve_right (by decide))).2⟩, fun _ => ⟨.inl l19, .inl l20⟩, fun _ => rfl, fun h => absurd (.inl l19) h, by simp; omega, fun h => absurd (.inr rfl) h, fun h => hA (h.resolve_right (by decide)), fun h => let ⟨r0, r1, r2, r3, r4, r5⟩ := hBq (h.resolve_right (by decide)); ⟨r0, r1, by simpa using r2, fun W' hW' => r3 W' fun b b1 b2 => (hW' b b1 b2).trans (heap_setCell_other _ _ _ _ (by show b ≠ w.heap.size + 1 + 1; have := blk_lt HQ.out; omega)), r4, r5⟩, fun h => hC (h.resolve_right (by decide)), fun _ h => absurd (.inl l19) h, fun _ => hr9.agree (fun b b1 b2 => heap_setCell_other _ _ _ _ (by show b ≠ w.heap.size + 1 + 1; omega)) (by simp), fun _ => heap_setCell_same _ _ 0 _ _ _ (hbx hn)⟩
            simp only [Act.put, List.setIfInBounds_toArray, List.set_cons_zero, List.set_cons_succ]
        · intro L0 A W9 hI ha
          obtain ⟨hS, p, lo, hi, x22, x29, x38, x39, x40, x41, rfl, -, -, -, -, -, -, hsz, -, -, hBq, -, -, hE, hF⟩ := hI
          have HR9 := Lib.hid (hE (ha 19 (by simp)))
          have HQ9 := Lib.hid (hF (ha 21 (by simp)))
          obtain ⟨-, -, -, -, -, r5⟩ := hBq (ha 8 (by simp))
          have hb := hS.1
          have HB9 := Lib.hid (HB.out.trans (hb.mono (by omega)))
          have HP9 := Lib.hid ((hb.block _ (by omega)).trans HP.out)
          have HZ9 := Lib.hid ((hb.block _ (by omega)).trans HZ.out)
          have HV9 : Hid (∀ k (h : k < (M ++ [RuleD.mk p (y % 11)]).length) (h' : k < L.length), (M ++ [RuleD.mk p (y % 11)])[k].e = L[k].2 % 11 ∧ SameP 5 (M ++ [RuleD.mk p (y % 11)])[k].p (whereX L[k].1.toNat)) := Lib.hid fun k h h' => by
            by_cases e : k < M.length
            · rw [List.getElem_append_left e]
              exact HV.out k e h'
            · rw [List.length_append, List.length_singleton] at h
              obtain rfl : k = M.length := by omega
              rw [List.getElem_append_right (Nat.le_refl _)]
              simp only [Nat.sub_self, List.getElem_singleton]
              rw [HXX.out.1, HXX.out.2]
              exact ⟨rfl, r5⟩
          clear hS hBq hE hF ha hHeld HPS r5 hb
          simp only [Act.put, List.setIfInBounds_toArray, List.set_cons_zero, List.set_cons_succ]
          go_wp2_with fail
          exact ⟨⟨M.length + 1, x40, M ++ [⟨p, y % 11⟩], by omega, by omega, by go_num, by simp, HR9, HV9, HB9, HP9, HQ9, HZ9⟩, by simp [intOf]; omega⟩
      · obtain rfl : j = 3 := by omega
        obtain ⟨he1, he2⟩ := HE.out (by omega)
        have HE1 := Lib.hid he1
        have HE2 := Lib.hid he2
        clear he1 he2
        go_wp2_with fail
        rw [hM] at HE1 HE2
        exact ret_blk HE1.out rfl rfl Tryz.underlying24 rfl (by kernel_rfl) rfl HE2.out
    · obtain rfl : j = L.length := by omega
      obtain ⟨he1, he2⟩ := HE.out (by omega)
      have HE1 := Lib.hid he1
      have HE2 := Lib.hid he2
      clear he1 he2
      go_wp2_with fail
      rw [hM] at HE1 HE2
      exact ret_blk HE1.out rfl rfl Tryz.underlying24 rfl (by kernel_rfl) rfl HE2.out
end Go.Proofs.YtnddlpfmagdbfaaGreatDoor.Sto
/- A plan, opened out of its reading. -/
namespace Go.Proofs.YtnddlpfmagdbfaaGreatDoor.Sto
open Go Go.Ev Go.Proofs Go.RowKit Go.ChangeShapes Go.WideShapes Go.Deep
set_option linter.unusedVariables false
set_option linter.unusedSimpArgs false
def cellsQ (x : Int × Int) : List Value := [.int .u8 x.1, .int .u8 x.2]
section
variable {H : Type} {enc : TypeId × Value → H} {w : World} {base : Nat} {spare : Nat → Bool} {held : Bool}
theorem open_pair {fuel : Nat} {cs : List Value} {x : DataW H × List MemPlace} (h : DataW.trod enc Tryz.prog w base spare held fuel 89 cs = some x) : ∃ r : Int × Int, cs = cellsQ r ∧ (isU8 r.1 ∧ isU8 r.2) := by
  have c5 : Tryz.prog.cellsOf 5 = 1 := by kernel_rfl
  obtain ⟨zs, k2, _, _, hl2, hxl2, hf2⟩ := DataW.trod_array Tryz.underlying89 h
  have c89 : Tryz.prog.cellsOf 89 = 2 := by kernel_rfl
  rw [c89] at hl2
  obtain ⟨v0, v1, rfl⟩ := list_2 hl2
  obtain ⟨z0, z1, rfl⟩ := list_2 hxl2
  have i0 := hf2 0 (by decide)
  have i1 := hf2 1 (by decide)
  simp [c5] at i0 i1
  obtain ⟨n0, e0, _, w0⟩ := DataW.trod_int Tryz.underlying5 i0
  obtain ⟨n1, e1, _, w1⟩ := DataW.trod_int Tryz.underlying5 i1
  simp only [List.cons.injEq, and_true] at e0 e1
  exact ⟨(n0, n1), by rw [e0, e1]; rfl, lit_u8 w0, lit_u8 w1⟩
theorem pairs_at {A : Option Addr} {L : List (Int × Int)} (hg : ∀ x ∈ L, isU8 x.1 ∧ isU8 x.2) (h : ∀ j (hj : j < L.length), ∃ b o, A = some ⟨b, o, none⟩ ∧ w.rangeAt b (o + j * 2) (cellsQ L[j])) : PairsAt w A L := fun j hj => by
  obtain ⟨b, o, e, hr⟩ := h j hj
  refine ⟨⟨b, o, none⟩, e, ?_, ?_, hg _ (List.getElem_mem hj)⟩
  · rw [add_spotless]
    exact hr 0 _ rfl
  · rw [add_spotless]
    exact hr 1 _ rfl
set_option maxRecDepth 100000 in
/-- A plan's cells. -/
theorem open_planC {fuel : Nat} {cs : List Value} {x : DataW H × List MemPlace} (h : DataW.trod enc Tryz.prog w base spare held fuel 55 cs = some x) :
    ∃ A L c d, cs = [.slice A (List.length (α := Int × Int) L) c, .int .u8 d] ∧ PairsAt w A L ∧ L.length ≤ maxLen ∧ isU8 d := by
  obtain ⟨ys, k, _, _, hl, hxl, hf⟩ := DataW.trod_struct Tryz.underlying55 h
  have c0 : Tryz.prog.cellsOf 55 = 2 := by kernel_rfl
  have c53 : Tryz.prog.cellsOf 53 = 1 := by kernel_rfl
  have c89 : Tryz.prog.cellsOf 89 = 2 := by kernel_rfl
  have c5 : Tryz.prog.cellsOf 5 = 1 := by kernel_rfl
  rw [c0] at hl
  have hxl : ys.length = 2 := hxl
  obtain ⟨v0, v1, rfl⟩ := list_2 hl
  obtain ⟨y0, y1, rfl⟩ := list_2 hxl
  have g0 := hf 0 _ rfl
  have g1 := hf 1 _ rfl
  simp [c53, c5] at g0 g1
  obtain ⟨A, L, c, rfl, hL, hg, _, hr⟩ := open_row (k := 2) (by decide) Tryz.underlying53 c89 cellsQ (fun x => isU8 x.1 ∧ isU8 x.2) (fun _ => rfl) (fun h => open_pair h) g0
  obtain ⟨d, e1, _, w1⟩ := DataW.trod_int Tryz.underlying5 g1
  simp only [List.cons.injEq, and_true] at e1
  exact ⟨A, L, c, d, by rw [e1], pairs_at hg hr, hL, lit_u8 w1⟩
set_option maxRecDepth 100000 in
/-- A plan's value. -/
theorem open_plan {r : Reach} {b2 : Nat} {v : Value} {dd : DataW H} {p : List MemPlace} (hv : Value.okWide Tryz.prog w r b2 55 v) (h : DataW.Trod enc Tryz.prog w base spare held 55 v dd p) :
    ∃ A L c d, v = .agg #[.slice A (List.length (α := Int × Int) L) c, .int .u8 d] ∧ PairsAt w A L ∧ L.length ≤ maxLen ∧ isU8 d := by
  simp only [Value.okWide, Tryz.underlying55] at hv
  obtain ⟨cs, rfl, _⟩ := hv
  obtain ⟨m, hm⟩ := h
  obtain ⟨l⟩ := cs
  simp only [Value.cells] at hm
  obtain ⟨A, L, c, d, rfl, h1⟩ := open_planC hm
  exact ⟨A, L, c, d, rfl, h1⟩
set_option maxRecDepth 100000 in
/-- The value of two plans. -/
theorem open_plan2 {r : Reach} {b2 : Nat} {v : Value} {dd : DataW H} {p : List MemPlace} (hv : Value.okWide Tryz.prog w r b2 65 v) (h : DataW.Trod enc Tryz.prog w base spare held 65 v dd p) :
    ∃ A L c d B M e f, v = .agg #[.slice A (List.length (α := Int × Int) L) c, .int .u8 d, .slice B (List.length (α := Int × Int) M) e, .int .u8 f] ∧ (PairsAt w A L ∧ L.length ≤ maxLen ∧ isU8 d) ∧ (PairsAt w B M ∧ M.length ≤ maxLen ∧ isU8 f) := by
  simp only [Value.okWide, Tryz.underlying65] at hv
  obtain ⟨cs, rfl, _⟩ := hv
  obtain ⟨m, hm⟩ := h
  obtain ⟨l⟩ := cs
  simp only [Value.cells] at hm
  have c55 : Tryz.prog.cellsOf 55 = 2 := by kernel_rfl
  have c65 : Tryz.prog.cellsOf 65 = 4 := by kernel_rfl
  obtain ⟨zs, k2, _, _, hl2, hxl2, hf2⟩ := DataW.trod_array Tryz.underlying65 hm
  rw [c65] at hl2
  obtain ⟨v0, v1, v2, v3, rfl⟩ := list_4 hl2
  obtain ⟨z0, z1, rfl⟩ := list_2 hxl2
  have i0 := hf2 0 (by decide)
  have i1 := hf2 1 (by decide)
  simp [c55] at i0 i1
  obtain ⟨A, L, c, d, e0, h1⟩ := open_planC i0
  obtain ⟨B, M, e, f, e1, h2⟩ := open_planC i1
  simp only [List.cons.injEq, and_true] at e0 e1
  obtain ⟨rfl, rfl⟩ := e0
  obtain ⟨rfl, rfl⟩ := e1
  exact ⟨A, L, c, d, B, M, e, f, rfl, h1, h2⟩
end
end Go.Proofs.YtnddlpfmagdbfaaGreatDoor.Sto
/- Plain law: the policy that is described is in order. -/
namespace Go.Proofs.YtnddlpfmagdbfaaGreatDoor.Sto
open Go Go.Ev Go.Proofs Go.RowKit
set_option linter.unusedVariables false
set_option linter.unusedSimpArgs false
theorem where_ok : ((List.range 256).all fun n => decide (predErr 5 (whereX n) = 0)) = true := by kernel_rfl
theorem visitsL_same {n : Nat} {f : PredD → Nat → Int × Nat} (hf : ∀ p q c, SameP n p q → f p c = f q c) : ∀ (L M : List PredD) (c : Nat), L.length = M.length → (∀ j (h : j < L.length) (h' : j < M.length), SameP n L[j] M[j]) → visitsL f L c = visitsL f M c
  | [], [], _, _, _ => rfl
  | p :: L, q :: M, c, hl, h => by
    have h0 : SameP n p q := h 0 (by simp) (by simp)
    unfold visitsL
    rw [hf p q c h0]
    split
    · rfl
    · exact visitsL_same hf L M _ (by simpa using hl) fun j h1 h2 => by
        have := h (j + 1) (by simp; omega) (by simp; omega)
        simpa using this
  | [], _ :: _, _, hl, _ => by simp at hl
  | _ :: _, [], _, hl, _ => by simp at hl
theorem visitX_same : ∀ (n : Nat) (p q : PredD) (lv : Int) (c : Nat), SameP n p q → visitX n p lv c = visitX n q lv c
  | 0, _, _, _, _, _ => rfl
  | n + 1, p, q, lv, c, h => by
    obtain ⟨h1, h2, h3⟩ := h
    unfold visitX
    have hn : nodeP p = nodeP q := by unfold nodeP; rw [h1, h2]
    rw [hn, visitsL_same (n := n) (fun a b c h => visitX_same n a b (lv + 1) c h) p.args q.args _ h2 h3]
theorem predErr_same {n : Nat} {p q : PredD} (h : SameP n p q) : predErr n p = predErr n q := by
  unfold predErr
  rw [visitX_same n p q 1 0 h]
theorem rules_ok {M : List RuleD} {L : List (Int × Int)} {d : Int} {A : Option Addr} {c : Nat} (hl : M.length = min L.length 3) (hd : 0 ≤ d ∧ d ≤ 10) (hL : ∀ j (h : j < L.length), isU8 L[j].1 ∧ isU8 L[j].2) (h : ∀ j (h : j < M.length) (h' : j < L.length), M[j].e = L[j].2 % 11 ∧ SameP 5 M[j].p (whereX L[j].1.toNat)) : polErr 5 ⟨A, c, M, d⟩ = 0 := by
  unfold polErr
  rw [if_neg (by show ¬ 16 < M.length; omega)]
  have h0 : firstErr (ruleErr 5) M = 0 := firstErr_none _ _ fun m hm => by
    obtain ⟨h1, h2⟩ := h m hm (by omega)
    obtain ⟨u1, u2⟩ := hL m (by omega)
    unfold isU8 at u1 u2
    have hp : predErr 5 M[m].p = 0 := by
      rw [predErr_same h2]
      exact of_decide_eq_true (List.all_eq_true.1 where_ok _ (List.mem_range.2 (by omega)))
    unfold ruleErr
    rw [if_neg (by rw [hp]; simp), if_neg (by rw [h1]; omega)]
  rw [if_neg (by show ¬ firstErr (ruleErr 5) M ≠ 0; rw [h0]; simp), if_neg (by show ¬ (d < 0 ∨ 10 < d); omega)]
end Go.Proofs.YtnddlpfmagdbfaaGreatDoor.Sto
/- Contract: sampling.Sample. -/
namespace Go.Proofs.YtnddlpfmagdbfaaGreatDoor
open Go Go.Proofs Go.RowKit
set_option linter.unusedVariables false
set_option linter.unusedSimpArgs false
theorem infoT : infoSz 3 (Tryz.prog.info? 27) = true := by kernel_rfl
theorem pow_wrapI (k : Nat) (h : k ≤ 10) : IntKind.i64.wrap (2 ^ k) = 2 ^ k := by
  have hk : k = 0 ∨ k = 1 ∨ k = 2 ∨ k = 3 ∨ k = 4 ∨ k = 5 ∨ k = 6 ∨ k = 7 ∨ k = 8 ∨ k = 9 ∨ k = 10 := by omega
  rcases hk with rfl | rfl | rfl | rfl | rfl | rfl | rfl | rfl | rfl | rfl | rfl <;> decide
theorem below_drewN0 (w : World) (n : Nat) : Below w.heap.size w (w.drewN n) := ⟨rfl, rfl, rfl, Nat.le_refl _, fun _ _ => rfl⟩
def tzX (w : Int) : Nat := w.toNat.log2
theorem tzX_pow (e : Nat) : tzX ((2 ^ e : Nat) : Int) = e := by unfold tzX; rw [Int.toNat_natCast, Nat.log2_two_pow]
/-- The exponent with which a trace is kept. -/
def expX (n : Nat) (p : PolD) (t : TraceD) : Nat := max (tzX t.weight) (givenX n p t).toNat
def keepB (n : Nat) (p : PolD) (s : Int) (t : TraceD) : Bool := kp t.id s (expX n p t)
def keptT (n : Nat) (p : PolD) (t : TraceD) : Int × Int × List SpanD := (t.id, 2 ^ expX n p t, t.spans.map SpanD.bare)
/-- The traces that are kept, and the others. -/
def keptX (n : Nat) (p : PolD) (s : Int) (L : List TraceD) : List (Int × Int × List SpanD) := (L.filter (keepB n p s)).map (keptT n p)
def goneX (n : Nat) (p : PolD) (s : Int) (L : List TraceD) : List (Int × Int × List SpanD) := (L.filter fun t => !keepB n p s t).map TraceD.bare
theorem keptX_take {n : Nat} {p : PolD} {s : Int} {L : List TraceD} {j : Nat} (h : j < L.length) : keptX n p s (L.take (j + 1)) = keptX n p s (L.take j) ++ (if keepB n p s L[j] = true then [keptT n p L[j]] else []) := by
  unfold keptX
  rw [take_succ_get h, List.filter_append, List.map_append]
  congr 1
  by_cases hk : keepB n p s L[j] = true
  · rw [List.filter_cons_of_pos hk, if_pos hk]; rfl
  · rw [List.filter_cons_of_neg hk, if_neg hk]; rfl
theorem goneX_take {n : Nat} {p : PolD} {s : Int} {L : List TraceD} {j : Nat} (h : j < L.length) : goneX n p s (L.take (j + 1)) = goneX n p s (L.take j) ++ (if keepB n p s L[j] = true then [] else [L[j].bare]) := by
  unfold goneX
  rw [take_succ_get h, List.filter_append, List.map_append]
  congr 1
  by_cases hk : keepB n p s L[j] = true
  · rw [List.filter_cons_of_neg (by simp [hk]), if_pos hk]; rfl
  · rw [List.filter_cons_of_pos (by simp [hk]), if_neg hk]; rfl
theorem firstX_mem (f : PredD → Bool) (d : Int) : ∀ L : List RuleD, firstX f d L = d ∨ ∃ q ∈ L, firstX f d L = q.e
  | [] => .inl rfl
  | q :: l => by
    unfold firstX
    split
    · exact .inr ⟨q, List.mem_cons_self, rfl⟩
    · rcases firstX_mem f d l with h | ⟨r, hr, h⟩
      · exact .inl h
      · exact .inr ⟨r, List.mem_cons_of_mem _ hr, h⟩
/-- A policy in order gives exponents from 0 to 10. -/
theorem givenX_range {n : Nat} {p : PolD} (h : polErr n p = 0) (t : TraceD) : 0 ≤ givenX n p t ∧ givenX n p t ≤ 10 := by
  unfold polErr at h
  split at h
  · cases h
  · split at h
    · contradiction
    · rename_i h1
      split at h
      · cases h
      · rename_i h2
        simp only [ne_eq, Decidable.not_not] at h1
        rcases firstX_mem (fun q => (winX t.spans).any (holdsX n q)) p.d p.rules with e | ⟨q, hq, e⟩
        · unfold givenX; rw [e]; omega
        · unfold givenX; rw [e]
          have h3 := firstErr_zero h1 q hq
          unfold ruleErr at h3
          split at h3
          · contradiction
          · split at h3
            · cases h3
            · omega
theorem expX_range {n : Nat} {p : PolD} (h : polErr n p = 0) {t : TraceD} (k : traceErr t = 0) : ∃ e g : Nat, e ≤ 10 ∧ g ≤ 10 ∧ t.weight = ((2 ^ e : Nat) : Int) ∧ givenX n p t = (g : Int) ∧ expX n p t = max e g ∧ (2 ^ e : Nat) < 18446744073709551616 := by
  obtain ⟨⟨_, _, h3, h4, h5⟩, _⟩ := traceErr_zero k
  obtain ⟨e, he, hw⟩ := pow_of_ok _ h3 h4 h5
  obtain ⟨g0, g1⟩ := givenX_range h t
  refine ⟨e, (givenX n p t).toNat, he, by omega, hw, by omega, by unfold expX; rw [hw, tzX_pow], ?_⟩
  calc 2 ^ e ≤ 2 ^ 10 := Nat.pow_le_pow_right (by decide) he
    _ < _ := by decide
theorem rangeAt_blk {W : World} {g : Nat} {cs : List Value} {t : TypeId} {f : Nat × Nat} (h : W.heap[g]? = some (.cells cs.toArray t f)) : W.rangeAt g 0 cs := fun j v hv => by
  rw [Nat.zero_add]
  exact cell_blk h j (by simpa using hv)
/-- The error of Sample. -/
def sampleErr (n : Nat) (p : PolD) (s : Int) (L : List TraceD) : Int := if polErr n p ≠ 0 then polErr n p else if s < 0 ∨ 1024 ≤ s then 2 else firstErr traceErr L
theorem traces_cells {W : World} {A : Option Addr} {L : List TraceD} (h : TracesIn W A L) {j : Nat} (hj : j < L.length) : ∃ b o, A = some ⟨b, o, none⟩ ∧ W.cell? ⟨b, o + j * 3, none⟩ = some (.int .i64 L[j].id) ∧ W.cell? ⟨b, o + j * 3 + 1, none⟩ = some (.int .i64 L[j].weight) ∧ W.cell? ⟨b, o + j * 3 + 2, none⟩ = some (.slice L[j].A L[j].spans.length L[j].c) := by
  obtain ⟨b, o, h1, h2⟩ := h j hj
  exact ⟨b, o, h1, h2 0 _ rfl, h2 1 _ rfl, h2 2 _ rfl⟩
def SampleP (n : Nat) (p : PolD) (s : Int) (L : List TraceD) (w : World) (e : Ending) (w' : World) : Prop :=
  (sampleErr n p s L ≠ 0 → e = .returned (.tuple #[.slice none 0 0, .slice none 0 0, .int .i64 (sampleErr n p s L)])) ∧
  (sampleErr n p s L = 0 → ∃ v u M N, e = .returned (.tuple #[v, u, .int .i64 0]) ∧ Two w.heap.size w' v u M N ∧ M.map TraceD.bare = keptX n p s L ∧ N.map TraceD.bare = goneX n p s L) ∧ Below w.heap.size w w'
theorem SampleP.bad {n : Nat} {p : PolD} {s : Int} {L : List TraceD} {w w' : World} {x : Int} (hx : sampleErr n p s L = x) (h0 : x ≠ 0) (hb : Below w.heap.size w w') : SampleP n p s L w (.returned (.tuple #[.slice none 0 0, .slice none 0 0, .int .i64 x])) w' :=
  ⟨fun _ => by rw [hx], fun h => absurd (hx.symm.trans h) h0, hb⟩
set_option maxHeartbeats 8000000 in
set_option maxRecDepth 20000 in
theorem sample_any (n : Nat) (p : PolD) (s : Int) (A : Option Addr) (c : Nat) (L : List TraceD) (w : World) (hp : p.Lies n w) (hstr : ∀ q ∈ p.rules, PredStr n q.p) (hL : TracesIn w A L) (hT : ∀ t ∈ L, t.Lies w ∧ t.spans.length ≤ 1000) (hlen : L.length ≤ 1000) (hTab : TabAt w) :
    Calls Tryz.prog 13 #[.agg p.cells.toArray, .int .i64 s, .slice A L.length c] w (SampleP n p s L w) := by
  have hB := Lib.hid ((Below.refl _ w).alloc (Nat.le_refl _) (.cells p.cells.toArray 24))
  have hPB := Lib.hid (blk_new w p.cells.toArray 24)
  have hc1 := Lib.hid (fun W (h : Below w.heap.size w W) => polCheck_any n p W (hp.below h) hstr)
  have hc2 := Lib.hid (fun t (ht : t ∈ L) W (h : Below w.heap.size w W) => traceCheck_any t W ((hT t ht).1.below h))
  have hc3 := Lib.hid (fun (hp0 : polErr n p = 0) t (ht : t ∈ L) (h0 : traceErr t = 0) W (h : Below w.heap.size w W) => given_any n p t W ((hp.held_ok hp0).below h) (((hT t ht).1.held_ok h0).below h))
  have HL := Lib.hid hL
  have HT := Lib.hid hT
  have HTab := Lib.hid hTab
  clear hp hstr hL hT hTab
  unfold PolD.cells at hB hPB hc1 hc3 ⊢
  by_cases h1 : polErr n p = 0
  · have h1' : (polErr n p != 0) = false := by rw [h1]; rfl
    have H1 := Lib.hid h1
    clear h1
    by_cases hs : s < 0 ∨ 1024 ≤ s
    · have hx : Hid (sampleErr n p s L = 2) := Lib.hid (by unfold sampleErr; rw [if_neg (by rw [H1.out]; simp), if_pos hs])
      by_cases hs0 : s < 0
      · have d1 : decide (s < 0) = true := decide_eq_true hs0
        clear hs
        go_enter Tryz.func13, Tryz.ntmps13
        go_wp2_with (first
          | (go_at_call 14; (with_reducible refine (hc1.out _ hB.out).mono ?_); rintro e w1 ⟨rfl, k1⟩; have b1 := Lib.hid (hB.out.trans (k1.mono hB.out.size)); clear k1))
        go_ret3
        exact SampleP.bad hx.out (by decide) b1.out
      · have d1 : decide (s < 0) = false := decide_eq_false hs0
        have d2 : decide (1024 ≤ s) = true := decide_eq_true (by omega)
        clear hs
        go_enter Tryz.func13, Tryz.ntmps13
        go_wp2_with (first
          | (go_at_call 14; (with_reducible refine (hc1.out _ hB.out).mono ?_); rintro e w1 ⟨rfl, k1⟩; have b1 := Lib.hid (hB.out.trans (k1.mono hB.out.size)); clear k1))
        go_ret3
        exact SampleP.bad hx.out (by decide) b1.out
    · have hx : Hid (sampleErr n p s L = firstErr traceErr L) := Lib.hid (by unfold sampleErr; rw [if_neg (by rw [H1.out]; simp), if_neg hs])
      have d1 : decide (s < 0) = false := decide_eq_false (by omega)
      have d2 : decide (1024 ≤ s) = false := decide_eq_false (by omega)
      have hs1 : 0 ≤ s := by omega
      have hs2 : s < 1024 := by omega
      clear hs
      go_enter Tryz.func13, Tryz.ntmps13
      go_wp2_with (first
        | (go_at_call 14; (with_reducible refine (hc1.out _ hB.out).mono ?_); rintro e w1 ⟨rfl, k1⟩; have b1 := Lib.hid (hB.out.trans (k1.mono hB.out.size)); have hP1 := Lib.hid (blk_keep k1 hPB.out); clear k1))
      go_loopw [6, 7, 11, 12, 29] (fun v u a b i wr => ∃ j : Nat, v = .slice none 0 0 ∧ u = .slice none 0 0 ∧ j ≤ L.length ∧ i = .int .i64 j ∧ Hid (∀ m (hm : m < j) (h : m < L.length), traceErr L[m] = 0) ∧ Hid (Below w.heap.size w wr) ∧ Hid (wr.heap[w.heap.size]? = some (.cells #[.slice p.A p.rules.length p.c, .int .i64 p.d] 24 (0, 0)))) (fun _ _ _ _ i _ => L.length - (intOf i).toNat)
      case atStart => exact ⟨0, rfl, rfl, by omega, rfl, Lib.hid (fun m hm => by omega), b1, hP1⟩
      case round =>
        clear hP1 b1
        obtain ⟨j, rfl, rfl, hj, rfl, hG, hW, hP⟩ := hrel
        by_cases hlt : j < L.length
        · have hlt2 : decide (j < L.length) = true := decide_eq_true hlt
          obtain ⟨b, o, rfl, f0, f1, f2⟩ := traces_cells (HL.out.below hW.out) hlt
          have hck := Lib.hid (hc2.out _ (List.getElem_mem hlt))
          have hstep := Lib.hid (fun (h : traceErr L[j] = 0) m (hm : m < j + 1) (h' : m < L.length) => (by
            by_cases e : m = j
            · subst e; exact h
            · exact hG.out m (by omega) h' : traceErr L[m] = 0))
          have hfin : Hid (traceErr L[j] ≠ 0 → firstErr traceErr L = traceErr L[j]) := Lib.hid (fun h => firstErr_at traceErr L j hlt h (fun m hm => hG.out m hm (by omega)))
          generalize L[j] = t at *
          have hB1 := Lib.hid (hW.out.alloc hW.out.size (.cells t.cells.toArray 27))
          have hg1 := Lib.hid (Grew.alloc wr (.cells t.cells.toArray 27)).b
          unfold TraceD.cells at hck hB1 hg1
          by_cases he : traceErr t = 0
          · have he2 : (traceErr t != 0) = false := by rw [he]; rfl
            have hst := Lib.hid (hstep.out he)
            clear hstep hfin he
            go_wp2_with (first
              | (go_at_call 15; (with_reducible refine (hck.out _ hB1.out).mono ?_); rintro e' w3 ⟨rfl, k3⟩; have b3 := Lib.hid (hB1.out.trans (k3.mono hB1.out.size)); have P3 := Lib.hid (blk_keep k3 (blk_keep hg1.out hP.out)); clear k3))
            exact ⟨⟨j + 1, rfl, rfl, by omega, by go_num, hst, b3, P3⟩, by simp [intOf]; omega⟩
          · have he2 : (traceErr t != 0) = true := by rw [bne_iff_ne]; exact he
            have hst := Lib.hid (hfin.out he)
            have he := Lib.hid he
            clear hstep hfin
            go_wp2_with (first
              | (go_at_call 15; (with_reducible refine (hck.out _ hB1.out).mono ?_); rintro e' w3 ⟨rfl, k3⟩; have b3 := Lib.hid (hB1.out.trans (k3.mono hB1.out.size)); clear k3))
            go_ret3
            exact SampleP.bad (hx.out.trans hst.out) he.out b3.out
        · obtain rfl : j = L.length := by omega
          have hlt2 : decide (L.length < L.length) = false := decide_eq_false hlt
          have hx0 : Hid (sampleErr n p s L = 0) := Lib.hid (hx.out.trans (firstErr_none _ _ (fun m hm => hG.out m hm hm)))
          clear hx
          go_wp2_with fail
          go_loopw [6, 7, 14, 15, 41] (fun v u x y i wr => ∃ (j : Nat) (M N : List TraceD), j ≤ L.length ∧ i = .int .i64 j ∧ M.length ≤ j ∧ N.length ≤ j ∧ Hid (Two (w.heap.size + 1) wr v u M N) ∧ Hid (M.map TraceD.bare = keptX n p s (L.take j)) ∧ Hid (N.map TraceD.bare = goneX n p s (L.take j)) ∧ Hid (Below w.heap.size w wr) ∧ Hid (wr.heap[w.heap.size]? = some (.cells #[.slice p.A p.rules.length p.c, .int .i64 p.d] 24 (0, 0)))) (fun _ _ _ _ i _ => L.length - (intOf i).toNat)
          case atStart => exact ⟨0, [], [], by omega, rfl, by simp, by simp, Lib.hid (Two.nil _ _), Lib.hid rfl, Lib.hid rfl, hW, hP⟩
          case round =>
            clear hW hP
            obtain ⟨j, M, N, hj, rfl, hM, hN, hR, hKM, hKN, hW, hP⟩ := hrel
            by_cases hlt : j < L.length
            · have hlt2 : decide (j < L.length) = true := decide_eq_true hlt
              obtain ⟨b, o, rfl, f0, f1, f2⟩ := traces_cells (HL.out.below hW.out) hlt
              have ht0 := hG.out j hlt hlt
              have hgv := Lib.hid (hc3.out H1.out _ (List.getElem_mem hlt) ht0)
              have hTL := Lib.hid (HT.out _ (List.getElem_mem hlt))
              have hOK := Lib.hid (traceErr_zero ht0)
              obtain ⟨e, g, he, hg, hwt, hgg, hex, hpw⟩ := expX_range (n := n) (p := p) H1.out ht0
              have hkT := Lib.hid (keptX_take (n := n) (p := p) (s := s) hlt)
              have hnT := Lib.hid (goneX_take (n := n) (p := p) (s := s) hlt)
              generalize L[j] = t at *
              clear ht0
              rw [hgg] at hgv
              have hcpy := Lib.hid (fun wt W (h : Below w.heap.size w W) => copyT_any t wt W (hTL.out.1.below h).at_ (fun e => hTL.out.1.nil e) (hTL.out.1.below h).held (fun x hx => ⟨hTL.out.1.sound x hx, by have := spanErr_small (hOK.out.2 x hx).1; omega, by have := spanErr_small (hOK.out.2 x hx).1; omega⟩) hTL.out.2)
              unfold TraceD.cells at hgv hcpy
              obtain ⟨PW, hPW⟩ : ∃ PW : Int, PW = ((2 ^ e : Nat) : Int) := ⟨_, rfl⟩
              have hcv : IntKind.u64.wrap t.weight = PW := by
                rw [hPW, hwt]
                simp only [IntKind.wrap, IntKind.bits, IntKind.signed]
                exact Int.emod_eq_of_lt (Int.natCast_nonneg _) (by exact_mod_cast hpw)
              have htz := Lib.hid (fun W (h : TabAt W) => hPW ▸ tz_any e he W h)
              have HEX := Lib.hid (And.intro hex (hPW.trans hwt.symm))
              clear hwt hPW hex hgg hpw
              obtain ⟨W1, hW1⟩ : ∃ W1, W1 = wr.alloc (.cells #[.int .i64 t.id, .int .i64 t.weight, .slice t.A t.spans.length t.c] 27) := ⟨_, rfl⟩
              have hg1 : Hid (Below wr.heap.size wr W1) := Lib.hid (by rw [hW1]; exact (Grew.alloc _ _).b)
              have hbx : Hid (W1.heap[wr.heap.size]? = some (.cells #[.int .i64 t.id, .int .i64 t.weight, .slice t.A t.spans.length t.c] 27 (0, 0))) := Lib.hid (by rw [hW1]; exact blk_new _ _ _)
              have hbW : Hid (Below w.heap.size w W1) := Lib.hid (hW.out.trans (hg1.out.mono hW.out.size))
              go_upto_region 16 with (fail)
              rw [← hW1]
              clear hW1
              have htb : Hid (∀ W, Below W1.heap.size W1 W → TabAt W) := Lib.hid fun W h => (HTab.out.below hbW.out).below h
              have hcl : Hid (∀ W, Below W1.heap.size W1 W → W.cell? ⟨wr.heap.size, 1, none⟩ = some (.int .i64 t.weight) ∧ W.heap[wr.heap.size]? = some (.cells #[.int .i64 t.id, .int .i64 t.weight, .slice t.A t.spans.length t.c] 27 (0, 0)) ∧ W.heap[w.heap.size]? = some (.cells #[.slice p.A p.rules.length p.c, .int .i64 p.d] 24 (0, 0))) := Lib.hid fun W h => ⟨cell_blk (blk_keep h hbx.out) 1 rfl, blk_keep h hbx.out, blk_keep h (blk_keep hg1.out hP.out)⟩
              have hmax : Hid (∀ W : World, True) := Lib.hid (fun _ => trivial)
              refine wp_region_quiet (C := Below W1.heap.size W1) (by kernel_rfl) (by kernel_rfl) (below_drew _) ?_
              refine wpQuiet_step (fun K hK => ?_)
              go_simp
              (refine ⟨_, fun _ _ => rfl, hK _ ?_⟩; clear hK K)
              refine wpQuiet_step (fun K hK => ?_)
              go_simp
              (refine ⟨_, fun W' hW' => (by rw [(hcl.out W' hW').1]; exact ⟨rfl, rfl⟩), hK _ ?_⟩; clear hK K)
              refine wpQuiet_step (fun K hK => ?_)
              go_simp
              (refine ⟨_, fun _ _ => rfl, hK _ ?_⟩; clear hK K)
              refine wpQuiet_step (fun K hK => ?_)
              go_simp
              (refine ⟨_, fun W' hW' => (htz.out W' (htb.out W' hW')).mono (fun e w' h => ⟨h.1, by rw [h.2]; exact hW'⟩), hK _ ?_⟩; clear hK K)
              refine wpQuiet_step (fun K hK => ?_)
              refine quiet_load rfl 24 (.tmp 3) rfl w.heap.size 0 rfl [.slice p.A p.rules.length p.c, .int .i64 p.d] _ (fun W hW' => rangeAt_blk (hcl.out W hW').2.2) Tryz.underlying24 rfl (by kernel_rfl) (hK _ ?_)
              clear hK K
              refine wpQuiet_step (fun K hK => ?_)
              refine quiet_load rfl 27 (.tmp 14) rfl wr.heap.size 0 rfl [.int .i64 t.id, .int .i64 t.weight, .slice t.A t.spans.length t.c] _ (fun W hW' => rangeAt_blk (hcl.out W hW').2.1) Tryz.underlying27 rfl (by kernel_rfl) (hK _ ?_)
              clear hK K
              refine wpQuiet_step (fun K hK => ?_)
              go_simp
              (refine ⟨_, fun W' hW' => (hgv.out W' (hbW.out.trans (hW'.mono hbW.out.size))).mono (fun e w' h => ⟨h.1, hW'.trans (h.2.mono hW'.size)⟩), hK _ ?_⟩; clear hK K)
              refine wpQuiet_step (fun K hK => ?_)
              go_simp
              obtain ⟨E, hE⟩ : ∃ E : Nat, E = max e g := ⟨_, rfl⟩
              have hE10 : E ≤ 10 := by omega
              (refine ⟨.int .i64 (E : Int), fun _ _ => (by rw [hE, show (max (e : Int) (g : Int)) = ((max e g : Nat) : Int) by omega]), hK _ ?_⟩; clear hK K)
              have hEX : Hid (expX n p t = E) := Lib.hid (HEX.out.1.trans hE.symm)
              have HW := Lib.hid HEX.out.2
              clear hE HEX hg he
              refine wpQuiet_step (fun K hK => ?_)
              go_simp
              (refine ⟨_, fun _ _ => rfl, hK _ ?_⟩; clear hK K)
              refine wpQuiet_nil ?_
              intro W2 hW2
              have hg2 : Hid (Below wr.heap.size wr W2) := Lib.hid (hg1.out.trans (hW2.mono hg1.out.size))
              have hb2 : Hid (Below w.heap.size w W2) := Lib.hid (hW.out.trans (hg2.out.mono hW.out.size))
              have hbx2 : Hid (W2.heap[wr.heap.size]? = some (.cells #[.int .i64 t.id, .int .i64 t.weight, .slice t.A t.spans.length t.c] 27 (0, 0))) := Lib.hid (hcl.out W2 hW2).2.1
              have hP2 : Hid (W2.heap[w.heap.size]? = some (.cells #[.slice p.A p.rules.length p.c, .int .i64 p.d] 24 (0, 0))) := Lib.hid (hcl.out W2 hW2).2.2
              have hpw2 : IntKind.i64.wrap (2 ^ E) = 2 ^ E := pow_wrapI E hE10
              have hkp : keepB n p s t = kp t.id s E := by unfold keepB; rw [hEX.out]
              have hR2 := Lib.hid (hR.out.below hg2.out)
              have hlt6 := Lib.hid (fun b (hb : Value.ownBlock u6 = some b) => hR.out.r.lt b hb)
              have hlt7 := Lib.hid (fun b (hb : Value.ownBlock u7 = some b) => hR.out.s.lt b hb)
              clear hcl htb hmax htz hgv hbx hbW hg1 hW2 hR hP hcv
              have y0 : W2.cell? ⟨wr.heap.size, 0, none⟩ = some (.int .i64 t.id) := cell_blk hbx2.out 0 rfl
              go_wp2_with fail
              (with_reducible refine (keep_any _ _ _ hs1 hs2 hE10 _).mono ?_)
              rintro _ W3 ⟨rfl, nq, rfl⟩
              have hg3 : Hid (Below wr.heap.size wr (W2.drewN nq)) := Lib.hid (hg2.out.trans ((below_drewN0 W2 nq).mono hg2.out.size))
              have hb3 : Hid (Below w.heap.size w (W2.drewN nq)) := Lib.hid (hW.out.trans (hg3.out.mono hW.out.size))
              have hbx3 := Lib.hid (blk_keep (below_drewN0 W2 nq) hbx2.out)
              have hP3 := Lib.hid (blk_keep (below_drewN0 W2 nq) hP2.out)
              have hR3 := Lib.hid (hR2.out.below (below_drewN0 W2 nq))
              have hgw := hb3.out.size
              have hgw1 := blk_lt hP3.out
              clear hg2 hb2 hbx2 hP2 hR2 y0
              generalize W2.drewN nq = W3 at *
              clear W2
              cases hk : kp t.id s E with
              | true =>
                have hkk := hkp.trans hk
                clear hkp hk
                go_wp2_with fail
                have hs6 := Lib.hid hR3.out.r
                refine wp_region_held_drew (S := fun W => W.heap[wr.heap.size]? = some (.cells #[.int .i64 t.id, .int .i64 t.weight, .slice t.A t.spans.length t.c] 27 (0, 0))) (by kernel_rfl) (blk_keep (below_drew _) hbx3.out) (fun hHeld => ?_)
                refine take_at (i := 0) (v := ?_) rfl (by kernel_rfl) (by kernel_rfl) (by kernel_rfl) (fun _ _ _ h => h) (Or.inl ⟨by rfl, ?_⟩) hHeld ?_
                rotate_left
                · intro W hSw; go_simp; try with_reducible rfl
                try simp only [Act.put, List.setIfInBounds_toArray, List.set_cons_zero, List.set_cons_succ]
                refine take_at (i := 1) rfl (by kernel_rfl) (by kernel_rfl) (by kernel_rfl) (fun _ _ _ h => h) (yieldsIf_load_mid (by rfl) 27 (.tmp 14) rfl wr.heap.size 0 rfl [.int .i64 t.id, .int .i64 t.weight, .slice t.A t.spans.length t.c] _ (fun W hW' => rangeAt_blk hW') Tryz.underlying27 rfl (by kernel_rfl)) hHeld ?_
                try simp only [Act.put, List.setIfInBounds_toArray, List.set_cons_zero, List.set_cons_succ]
                refine take_at (i := 2) (v := ?_) rfl (by kernel_rfl) (by kernel_rfl) (by kernel_rfl) (fun _ _ _ h => h) (Or.inl ⟨by rfl, ?_⟩) hHeld ?_
                rotate_left
                · intro W hSw; go_simp; try with_reducible rfl
                try simp only [Act.put, List.setIfInBounds_toArray, List.set_cons_zero, List.set_cons_succ]
                refine take_at (i := 3) (v := ?_) rfl (by kernel_rfl) (by kernel_rfl) (by kernel_rfl) (fun _ _ _ h => h) (Or.inl ⟨by rfl, ?_⟩) hHeld ?_
                rotate_left
                · intro W hSw; go_simp; try with_reducible rfl
                try simp only [Act.put, List.setIfInBounds_toArray, List.set_cons_zero, List.set_cons_succ]
                refine wpAnyH_one 4 (by kernel_rfl) rfl (by rfl) (fun K hK => ?_)
                go_simp
                (with_reducible refine (hcpy.out _ _ (hb3.out.trans ((below_drew W3).mono hgw))).mono ?_)
                rintro e5 W5 ⟨A5, c5, M5, rfl, hM5, hI5, hO5, hA5, hB5⟩
                have hB5' : Hid (Below W3.heap.size W3 W5) := Lib.hid ((below_drew W3).trans hB5)
                have hl5 : M5.length = t.spans.length := by have := congrArg List.length hM5; simpa using this
                have hY := Lib.hid (copied_own (id := t.id) (wt := 2 ^ E) (c := c5) hM5 hI5 hO5 hA5 (by rw [hl5]; have := hTL.out.1.len; exact this) hTL.out.1.txt)
                have hM5' := Lib.hid hM5
                clear hM5 hI5 hO5 hA5 hB5
                refine hK _ _ (blk_keep hB5'.out hbx3.out) ?_
                clear hK K
                refine wpAnyH_one 5 (by kernel_rfl) rfl (by rfl) (fun K hK => ?_)
                go_simp
                refine hK _ _ (blk_keep (below_alloc _ _) (blk_keep hB5'.out hbx3.out)) ?_
                clear hK K
                try simp only [Act.put, List.setIfInBounds_toArray, List.set_cons_zero, List.set_cons_succ]
                refine wpAnyH_one 6 (by kernel_rfl) rfl (by rfl) (fun K hK => ?_)
                obtain ⟨i0, z0, hi, hz, hsz, hby, hzs⟩ := infoSz_spec infoT
                have hR5 := Lib.hid (hR3.out.below hB5'.out)
                have hsz5 := hB5'.out.size
                refine wp_append_any (.tmp 58) (.tmp 63) 42 rfl (w.heap.size + 1) 27 i0 z0 3 Tryz.underlying42 hi hz hsz hby hzs (by decide) u6 M.length (cellsT M) rfl (hR5.out.r.alloc _) (some ⟨W5.heap.size, 0, none⟩) 1 1 [.int .i64 t.id, .int .i64 (2 ^ E), .slice A5 t.spans.length c5] rfl rfl (fun h => by cases h) (fun q hq => by cases hq; exact cells_new _ _ _) (by intro v hv; simp only [List.mem_cons, List.not_mem_nil, or_false] at hv; rcases hv with rfl | rfl | rfl <;> rfl) (by omega) (by simp; omega) ?_
                intro v' W6 hown hgr hat
                have hS6 : Hid (Two (w.heap.size + 1) W6 v' u7 (M ++ [TraceD.mk t.id (2 ^ E) A5 c5 M5]) N) := Lib.hid (hR3.out.snoc hgw1 (hB5'.out.alloc hsz5 _) (hY.out.below (below_alloc _ _)) (by simpa [TraceD.cells, hl5] using hown) hgr (by simpa using hat))
                have hbl := Lib.hid ((hb3.out.trans ((hB5'.out.alloc hsz5 _).mono hgw)).grown hgr (by simp; omega) (fun b hb => by have := (hlt6.out b hb).1; omega))
                have hP6 : Hid (W6.heap[w.heap.size]? = some (.cells #[.slice p.A p.rules.length p.c, .int .i64 p.d] 24 (0, 0))) := Lib.hid ((hgr.block _ (by simp; omega) (fun e => by have := (hlt6.out _ e.symm).1; omega)).trans (blk_keep (below_alloc _ _) (blk_keep hB5'.out hP3.out)))
                have hx6 : W6.heap[wr.heap.size]? = some (.cells #[.int .i64 t.id, .int .i64 t.weight, .slice t.A t.spans.length t.c] 27 (0, 0)) := (hgr.block _ (by have := blk_lt hbx3.out; simp; omega) (fun e => by have := (hlt6.out _ e.symm).2; omega)).trans (blk_keep (below_alloc _ _) (blk_keep hB5'.out hbx3.out))
                refine hK _ _ hx6 ?_
                clear hK K
                try simp only [Act.put, List.setIfInBounds_toArray, List.set_cons_zero, List.set_cons_succ]
                refine wpAnyH_one 7 (by kernel_rfl) rfl (by rfl) (fun K hK => ?_)
                go_simp
                refine hK _ _ hx6 ?_
                clear hK K
                refine wpAnyH_done (by kernel_rfl) ?_ _
                have hm6 : Hid ((M ++ [TraceD.mk t.id (2 ^ E) A5 c5 M5]).map TraceD.bare = keptX n p s (L.take (j + 1))) := Lib.hid (by
                  rw [hkT.out, if_pos hkk, List.map_append, hKM.out]
                  unfold keptT
                  rw [hEX.out, ← hM5'.out]
                  rfl)
                have hn6 : Hid (N.map TraceD.bare = goneX n p s (L.take (j + 1))) := Lib.hid (by
                  rw [hnT.out, if_pos hkk, hKN.out, List.append_nil])
                clear hown hgr hat hx6
                try simp only [Act.put, List.setIfInBounds_toArray, List.set_cons_zero, List.set_cons_succ]
                go_wp2_with fail
                exact ⟨⟨j + 1, _, N, by omega, by go_num, by simp; omega, by omega, hS6, hm6, hn6, hbl, hP6⟩, by simp [intOf]; omega⟩
              | false =>
                have hkk := hkp.trans hk
                clear hkp hk
                have y0 : W3.cell? ⟨wr.heap.size, 0, none⟩ = some (.int .i64 t.id) := cell_blk hbx3.out 0 rfl
                have y1 : W3.cell? ⟨wr.heap.size, 1, none⟩ = some (.int .i64 t.weight) := cell_blk hbx3.out 1 rfl
                have y2 : W3.cell? ⟨wr.heap.size, 2, none⟩ = some (.slice t.A t.spans.length t.c) := cell_blk hbx3.out 2 rfl
                obtain ⟨i0, z0, hi, hz, hsz, hby, hzs⟩ := infoSz_spec infoT
                have hi := Lib.hid hi
                have hz := Lib.hid hz
                go_wp2_with (first
                  | (go_at_call 30; (with_reducible refine (hcpy.out _ _ hb3.out).mono ?_); rintro e5 W5 ⟨A5, c5, M5, rfl, hM5, hI5, hO5, hA5, hB5⟩; have hB5' := Lib.hid hB5; have hl5 : M5.length = t.spans.length := (by have := congrArg List.length hM5; simpa using this); have hY := Lib.hid (copied_own (id := t.id) (wt := t.weight) (c := c5) hM5 hI5 hO5 hA5 (by rw [hl5]; have := hTL.out.1.len; exact this) hTL.out.1.txt); have hM5' := Lib.hid hM5; have hsz5 := hB5.size; have hR5 := Lib.hid (hR3.out.below hB5); clear hM5 hI5 hO5 hA5 hB5 y0 y1 y2)
                  | (at_builtin; refine wpList_append_own_at _ rfl (.tmp 65) (.tmp 70) 42 rfl (w.heap.size + 1) 27 i0 z0 3 i0.bytes Tryz.underlying42 hi.out hz.out hsz rfl hzs (by decide) u7 N.length (cellsT N) rfl (hR5.out.s.alloc _) ⟨W5.heap.size, 0, none⟩ 1 1 [.int .i64 t.id, .int .i64 t.weight, .slice A5 t.spans.length c5] rfl rfl (cells_new _ _ _) (by intro v hv; simp only [List.mem_cons, List.not_mem_nil, or_false] at hv; rcases hv with rfl | rfl | rfl <;> rfl) (by unfold maxLen; omega) (Nat.le_trans (Nat.mul_le_mul (show N.length + 1 ≤ 1001 by omega) hby) (by decide)) (by simp; omega) ?_; intro v' W6 hown hgr hnil hat; have HW := Lib.hid hown; have HG := Lib.hid hgr; have HA := Lib.hid hat; clear hown hgr hnil hat))
                have hS6 : Hid (Two (w.heap.size + 1) W6 u6 v' M (N ++ [TraceD.mk t.id t.weight A5 c5 M5])) := Lib.hid (Two.swap (hR3.out.swap.snoc hgw1 (hB5'.out.alloc hsz5 _) (hY.out.below (below_alloc _ _)) (by simpa [TraceD.cells, hl5] using HW.out) HG.out (by simpa using HA.out)))
                have hbl := Lib.hid ((hb3.out.trans ((hB5'.out.alloc hsz5 _).mono hgw)).grown HG.out (by simp; omega) (fun b hb => by have := (hlt7.out b hb).1; omega))
                have hP6 : Hid (W6.heap[w.heap.size]? = some (.cells #[.slice p.A p.rules.length p.c, .int .i64 p.d] 24 (0, 0))) := Lib.hid ((HG.out.block _ (by simp; omega) (fun e => by have := (hlt7.out _ e.symm).1; omega)).trans (blk_keep (below_alloc _ _) (blk_keep hB5'.out hP3.out)))
                have hm6 : Hid (M.map TraceD.bare = keptX n p s (L.take (j + 1))) := Lib.hid (by
                  rw [hkT.out, if_neg (by rw [hkk]; decide), hKM.out, List.append_nil])
                have hn6 : Hid ((N ++ [TraceD.mk t.id t.weight A5 c5 M5]).map TraceD.bare = goneX n p s (L.take (j + 1))) := Lib.hid (by
                  rw [hnT.out, if_neg (by rw [hkk]; decide), List.map_append, hKN.out]
                  unfold TraceD.bare
                  rw [← hM5'.out]
                  rfl)
                exact ⟨⟨j + 1, M, _, by omega, by go_num, by omega, by simp; omega, hS6, hm6, hn6, hbl, hP6⟩, by simp [intOf]; omega⟩
            · obtain rfl : j = L.length := by omega
              have hlt2 : decide (L.length < L.length) = false := decide_eq_false hlt
              go_wp2_with fail
              go_ret3
              refine ⟨fun h => absurd hx0.out h, fun _ => ⟨_, _, M, N, rfl, hR.out.mono (Nat.le_succ _), by rw [hKM.out, List.take_length], by rw [hKN.out, List.take_length]⟩, hW.out⟩
  · have h1' : (polErr n p != 0) = true := by rw [bne_iff_ne]; exact h1
    have hx : Hid (sampleErr n p s L = polErr n p) := Lib.hid (if_pos h1)
    have h1 := Lib.hid h1
    go_enter Tryz.func13, Tryz.ntmps13
    go_wp2_with (first
      | (go_at_call 14; (with_reducible refine (hc1.out _ hB.out).mono ?_); rintro e w1 ⟨rfl, k1⟩; have b1 := Lib.hid (hB.out.trans (k1.mono hB.out.size)); clear k1))
    go_ret3
    exact SampleP.bad hx.out h1.out b1.out
end Go.Proofs.YtnddlpfmagdbfaaGreatDoor
/- Plain law: what a policy gives does not depend on addresses. -/
namespace Go.Proofs.YtnddlpfmagdbfaaGreatDoor
open Go Go.Proofs Go.RowKit Go.Shelf Go.Lib Go.Sort
set_option linter.unusedVariables false
set_option linter.unusedSimpArgs false
theorem bare_bare (x : SpanD) : x.bare.bare = x.bare := rfl
theorem cmpX_bare2 (x y : SpanD) : cmpX x.bare y.bare = cmpX x y := rfl
theorem pickI_map {α β : Type} (f : α → β) (k : Nat → Bool) : ∀ (L : List α) (i : Nat), pickI k i (L.map f) = (pickI k i L).map f
  | [], _ => rfl
  | x :: l, i => by
    simp only [List.map_cons, pickI]
    rw [pickI_map f k l (i + 1)]
    split <;> rfl
theorem newB_map (L : List SpanD) : newB (L.map SpanD.bare) = newB L := by
  funext i
  cases i with
  | zero => rfl
  | succ k =>
    simp only [newB, List.getElem?_map]
    cases L[k + 1]? with
    | none => rfl
    | some y =>
      cases L[k]? with
      | none => rfl
      | some x => rfl
theorem lastB_map (L : List SpanD) : lastB (L.map SpanD.bare) = lastB L := by
  funext i
  simp only [lastB, List.getElem?_map]
  cases L[i]? with
  | none => rfl
  | some y =>
    cases L[i + 1]? with
    | none => rfl
    | some x => rfl
theorem sortX_map (L : List SpanD) : sortX (L.map SpanD.bare) = (sortX L).map SpanD.bare := by
  unfold sortX
  by_cases h : 0 < L.length
  · rw [dif_pos h, dif_pos (by rw [List.length_map]; exact h)]
    have key : ∀ (m : Nat) (hm : m = L.length) (g : Fin m → SpanD) (hg : ∀ i, g i = (L[(i.cast hm)]).bare) (h0 : 0 < m),
        (letI : Inhabited (Fin m) := ⟨⟨0, h0⟩⟩; (pdq (ltOf fun i j : Fin m => cmpX (g i) (g j)) (Array.ofFn id) 0 m (Lib.bitLen m) true true).toList.map g) = ((permX L h).toList.map fun i => L[i]).map SpanD.bare := by
      intro m hm g hg h0
      subst hm
      have : g = fun i => (L[i]).bare := funext hg
      subst this
      rw [List.map_map]
      rfl
    exact key (L.map SpanD.bare).length (List.length_map _) (fun i => (L.map SpanD.bare)[i]) (fun i => by simp) (by rw [List.length_map]; exact h)
  · rw [dif_neg h, dif_neg (by rw [List.length_map]; exact h)]
    rfl
theorem winX_map (L : List SpanD) : winX (L.map SpanD.bare) = (winX L).map SpanD.bare := by
  have hs : setX (L.map SpanD.bare) = (setX L).map SpanD.bare := by
    unfold setX compX
    rw [sortX_map, newB_map, pickI_map]
  unfold winX
  rw [hs, lastB_map, pickI_map]
theorem givenX_bare {n : Nat} {p : PolD} {t u : TraceD} (h : t.spans.map SpanD.bare = u.spans.map SpanD.bare) : givenX n p t = givenX n p u := by
  have hw : (winX t.spans).map SpanD.bare = (winX u.spans).map SpanD.bare := by rw [← winX_map, ← winX_map, h]
  unfold givenX
  congr 1
  funext q
  exact any_bare hw n q
end Go.Proofs.YtnddlpfmagdbfaaGreatDoor
/- Plain law: sampling traces without addresses, once and once more. -/
namespace Go.Proofs.YtnddlpfmagdbfaaGreatDoor
open Go Go.Proofs Go.RowKit
set_option linter.unusedVariables false
set_option linter.unusedSimpArgs false
abbrev BT := Int × Int × List SpanD
/-- A trace without addresses as a trace. -/
def ofB (z : BT) : TraceD := ⟨z.1, z.2.1, none, 0, z.2.2⟩
def givB (n : Nat) (p : PolD) (z : BT) : Nat := (givenX n p (ofB z)).toNat
def expB (n : Nat) (p : PolD) (z : BT) : Nat := max (tzX z.2.1) (givB n p z)
def keeps (n : Nat) (p : PolD) (s : Int) (z : BT) : Bool := kp z.1 s (expB n p z)
def outB (n : Nat) (p : PolD) (z : BT) : BT := (z.1, 2 ^ expB n p z, z.2.2)
/-- What is kept of a list of traces, and what is not. -/
def stepK (n : Nat) (p : PolD) (s : Int) (L : List BT) : List BT := (L.filter (keeps n p s)).map (outB n p)
def stepG (n : Nat) (p : PolD) (s : Int) (L : List BT) : List BT := L.filter fun z => !keeps n p s z
theorem given_bare (n : Nat) (p : PolD) (t : TraceD) : givenX n p t = givenX n p (ofB t.bare) := givenX_bare (by
  show t.spans.map SpanD.bare = (t.spans.map SpanD.bare).map SpanD.bare
  rw [List.map_map]
  rfl)
theorem exp_bare (n : Nat) (p : PolD) (t : TraceD) : expX n p t = expB n p t.bare := by
  unfold expX expB givB
  rw [given_bare]
  rfl
theorem keptX_bare (n : Nat) (p : PolD) (s : Int) (L : List TraceD) : keptX n p s L = stepK n p s (L.map TraceD.bare) := by
  unfold keptX stepK
  rw [List.filter_map, List.map_map]
  congr 1
  · funext t
    show keptT n p t = outB n p t.bare
    unfold keptT outB
    rw [exp_bare]
    rfl
  · congr 1
    funext t
    show keepB n p s t = keeps n p s t.bare
    unfold keepB keeps
    rw [exp_bare]
    rfl
theorem goneX_bare (n : Nat) (p : PolD) (s : Int) (L : List TraceD) : goneX n p s L = stepG n p s (L.map TraceD.bare) := by
  unfold goneX stepG
  rw [List.filter_map]
  congr 1
  congr 1
  funext t
  show (!keepB n p s t) = !keeps n p s t.bare
  unfold keepB keeps
  rw [exp_bare]
  rfl
theorem step_length (n : Nat) (p : PolD) (s : Int) (L : List BT) : (stepK n p s L).length + (stepG n p s L).length = L.length := by
  unfold stepK stepG
  rw [List.length_map]
  induction L with
  | nil => rfl
  | cons z l ih =>
    by_cases h : keeps n p s z = true
    · rw [List.filter_cons_of_pos h, List.filter_cons_of_neg (by simp [h])]
      simp only [List.length_cons]
      omega
    · rw [List.filter_cons_of_neg h, List.filter_cons_of_pos (by simp [h])]
      simp only [List.length_cons]
      omega
theorem tz_out (n : Nat) (p : PolD) (z : BT) : tzX (outB n p z).2.1 = expB n p z := by
  show tzX (2 ^ expB n p z) = _
  have : ((2 : Int) ^ expB n p z) = ((2 ^ expB n p z : Nat) : Int) := by simp
  rw [this, tzX_pow]
theorem exp_out (n m : Nat) (p r : PolD) (z : BT) : expB m r (outB n p z) = max (expB n p z) (givB m r z) := by
  show max (tzX (outB n p z).2.1) (givB m r (outB n p z)) = _
  rw [tz_out]
  have : givB m r (outB n p z) = givB m r z := congrArg Int.toNat (givenX_bare rfl)
  rw [this]
theorem kp_mono {id s : Int} {a b : Nat} (h : a ≤ b) (k : kp id s b = true) : kp id s a = true := by
  unfold kp at k ⊢
  have : (2 : Int) ^ (10 - b) ≤ 2 ^ (10 - a) := by
    have := Nat.pow_le_pow_right (show 0 < 2 by decide) (show 10 - b ≤ 10 - a by omega)
    exact_mod_cast this
  simp only [decide_eq_true_eq] at k ⊢
  omega
/-- To sample by two policies one behind the other. -/
theorem step_step (n m : Nat) (p r : PolD) (s : Int) (L : List BT) : stepK m r s (stepK n p s L) = (L.filter fun z => kp z.1 s (max (max (tzX z.2.1) (givB n p z)) (givB m r z))).map fun z => (z.1, 2 ^ max (max (tzX z.2.1) (givB n p z)) (givB m r z), z.2.2) := by
  unfold stepK
  rw [List.filter_map, List.map_map, List.filter_filter]
  have hk : ∀ z, (keeps m r s ∘ outB n p) z = kp z.1 s (max (max (tzX z.2.1) (givB n p z)) (givB m r z)) := fun z => by
    show kp z.1 s (expB m r (outB n p z)) = _
    rw [exp_out]
    rfl
  congr 1
  · funext z
    show outB m r (outB n p z) = _
    show (z.1, 2 ^ expB m r (outB n p z), z.2.2) = _
    rw [exp_out]
    rfl
  · congr 1
    funext z
    rw [hk]
    cases hb : kp z.1 s (max (max (tzX z.2.1) (givB n p z)) (givB m r z)) with
    | false => rfl
    | true =>
      rw [Bool.true_and]
      exact kp_mono (Nat.le_max_left _ _) hb
theorem step_comm (n m : Nat) (p r : PolD) (s : Int) (L : List BT) : stepK m r s (stepK n p s L) = stepK n p s (stepK m r s L) := by
  rw [step_step, step_step]
  have : ∀ z : BT, max (max (tzX z.2.1) (givB n p z)) (givB m r z) = max (max (tzX z.2.1) (givB m r z)) (givB n p z) := fun z => by omega
  simp only [this]
theorem step_twice (n m : Nat) (p r : PolD) (s : Int) (L : List BT) (h : ∀ z ∈ L, givB m r z ≤ expB n p z) : stepK m r s (stepK n p s L) = stepK n p s L := by
  rw [step_step]
  have hm : ∀ z ∈ L, max (max (tzX z.2.1) (givB n p z)) (givB m r z) = expB n p z := fun z hz => by
    have := h z hz
    unfold expB at this ⊢
    omega
  unfold stepK
  have h1 : (L.filter fun z => kp z.1 s (max (max (tzX z.2.1) (givB n p z)) (givB m r z))) = L.filter (keeps n p s) := List.filter_congr fun z hz => by
    rw [hm z hz]
    rfl
  rw [h1]
  refine List.map_congr_left fun z hz => ?_
  rw [hm z (List.mem_filter.1 hz).1]
  rfl
theorem step_none (n : Nat) (p : PolD) (s : Int) (L : List BT) : stepG n p s (stepK n p s L) = [] := by
  have h1 := step_length n p s (stepK n p s L)
  rw [step_twice n n p p s L fun z _ => by unfold expB; omega] at h1
  exact List.length_eq_zero_iff.1 (by omega)
/-- Is a trace without addresses in order. -/
def okB (z : BT) : Prop := traceErr (ofB z) = 0
theorem firstErr_map {α β : Type} (f : β → Int) (g : α → β) : ∀ L : List α, firstErr f (L.map g) = firstErr (fun x => f (g x)) L
  | [] => rfl
  | x :: l => by
    simp only [List.map_cons, firstErr]
    rw [firstErr_map f g l]
theorem traceErr_bare (t : TraceD) : traceErr t = traceErr (ofB t.bare) := by
  unfold traceErr
  have h1 : firstErr (memErr (ofB t.bare).id) (ofB t.bare).spans = firstErr (memErr t.id) t.spans := by
    show firstErr (memErr t.id) (t.spans.map SpanD.bare) = _
    rw [firstErr_map]
    rfl
  rw [h1]
  rfl
theorem okB_out {n : Nat} {p : PolD} (hp : polErr n p = 0) {z : BT} (h : okB z) : okB (outB n p z) := by
  unfold okB at h ⊢
  obtain ⟨e, g, he, hg, hw, hgg, hex, _⟩ := expX_range (n := n) (p := p) hp h
  have hz := traceErr_zero h
  obtain ⟨⟨i0, i1, _⟩, hs⟩ := hz
  have hE : expB n p z = max e g := by
    show expX n p (ofB z) = _
    exact hex
  unfold traceErr
  rw [if_pos]
  · refine firstErr_none _ _ fun m hm => ?_
    obtain ⟨h1, h2⟩ := hs (ofB z).spans[m] (List.getElem_mem hm)
    show memErr z.1 (ofB z).spans[m] = 0
    unfold memErr
    rw [if_neg (by rw [h1]; simp), if_neg (by rw [h2]; simp [ofB])]
  · refine ⟨i0, i1, ?_⟩
    show 1 ≤ (2 : Int) ^ expB n p z ∧ (2 : Int) ^ expB n p z ≤ 1024 ∧ Go.bits .and .i64 ((2 : Int) ^ expB n p z) ((2 : Int) ^ expB n p z - 1) = 0
    rw [hE]
    have hk : max e g ≤ 10 := by omega
    generalize max e g = k at hk
    obtain rfl | rfl | rfl | rfl | rfl | rfl | rfl | rfl | rfl | rfl | rfl : k = 0 ∨ k = 1 ∨ k = 2 ∨ k = 3 ∨ k = 4 ∨ k = 5 ∨ k = 6 ∨ k = 7 ∨ k = 8 ∨ k = 9 ∨ k = 10 := by omega
    all_goals decide
theorem okB_step {n : Nat} {p : PolD} {s : Int} (hp : polErr n p = 0) {L : List BT} (h : ∀ z ∈ L, okB z) : ∀ z ∈ stepK n p s L, okB z := by
  intro z hz
  obtain ⟨y, hy, rfl⟩ := List.mem_map.1 hz
  exact okB_out hp (h y (List.mem_filter.1 hy).1)
end Go.Proofs.YtnddlpfmagdbfaaGreatDoor
/- Contract: the law's same, where two lists of traces are alike but for addresses. -/
namespace Go.Proofs.YtnddlpfmagdbfaaGreatDoor
open Go Go.Proofs Go.RowKit
set_option linter.unusedVariables false
set_option linter.unusedSimpArgs false
theorem cmpX_bare {x y : SpanD} (h : x.bare = y.bare) : (cmpX x y == 0) = true := by
  have h1 : cmpX x y = cmpX x.bare y.bare := rfl
  rw [h1, h, good_cmpX.refl]
  rfl
set_option maxHeartbeats 8000000 in
set_option maxRecDepth 20000 in
theorem same_any (A B : Option Addr) (c e : Nat) (L M : List TraceD) (w : World) (hL : TracesIn w A L) (hM : TracesIn w B M) (hT : ∀ t ∈ L, t.Lies w) (hU : ∀ t ∈ M, t.Lies w) (h : L.map TraceD.bare = M.map TraceD.bare) (hl : L.length ≤ 100000) :
    Calls Tryz.prog 21 #[.slice A L.length c, .slice B M.length e] w fun e w' => e = .returned (.bool true) ∧ Below w.heap.size w w' := by
  have hn : M.length = L.length := by have := congrArg List.length h; simpa using this.symm
  have HE := Lib.hid (fun i (h1 : i < L.length) (h2 : i < M.length) => (by
    have : (L.map TraceD.bare)[i]? = (M.map TraceD.bare)[i]? := by rw [h]
    rw [List.getElem?_map, List.getElem?_map, List.getElem?_eq_getElem h1, List.getElem?_eq_getElem h2] at this
    exact Option.some.inj this : L[i].bare = M[i].bare))
  have HL := Lib.hid hL
  have HM := Lib.hid hM
  have HT := Lib.hid hT
  have HU := Lib.hid hU
  have HN := Lib.hid hn
  rw [hn]
  clear hL hM hT hU h hn
  obtain ⟨n, hn⟩ : ∃ n, n = L.length := ⟨_, rfl⟩
  have HLn := Lib.hid hn
  rw [← hn] at hl ⊢
  clear hn
  go_enter Tryz.func21, Tryz.ntmps21
  go_wp2_with fail
  go_loopw [5] (fun i wr => ∃ m : Nat, m ≤ n ∧ i = .int .i64 (m : Int) ∧ Hid (Below w.heap.size w wr)) (fun i _ => n - (intOf i).toNat)
  case atStart => exact ⟨0, by omega, rfl, Lib.hid (Below.refl _ _)⟩
  case round =>
    obtain ⟨m, hm, rfl, hW⟩ := hrel
    by_cases hlt : m < n
    · have hlt2 : decide (m < n) = true := decide_eq_true hlt
      have h1 : m < L.length := by have := HLn.out; omega
      have h2 : m < M.length := by have := HLn.out; have := HN.out; omega
      have HC1 := Lib.hid (fun W (k : Below w.heap.size w W) => traces_cells (HL.out.below k) h1)
      have HC2 := Lib.hid (fun W (k : Below w.heap.size w W) => traces_cells (HM.out.below k) h2)
      have HT1 := Lib.hid (HT.out _ (List.getElem_mem h1))
      have HU1 := Lib.hid (HU.out _ (List.getElem_mem h2))
      have hbb := HE.out m h1 h2
      generalize L[m] = t at *
      generalize M[m] = u at *
      obtain ⟨id, wt, A1, c1, s1⟩ := t
      obtain ⟨id', wt', A2, c2, s2⟩ := u
      obtain ⟨rfl, hbb⟩ := Prod.mk.inj hbb
      obtain ⟨rfl, hbb⟩ := Prod.mk.inj hbb
      have hls : s2.length = s1.length := by have := congrArg List.length hbb; simpa using this.symm
      have HBB := Lib.hid hbb
      simp only [hls] at HC1 HC2
      have HLS := Lib.hid hls
      clear hbb hls
      obtain ⟨n1, hn1⟩ : ∃ k, k = s1.length := ⟨_, rfl⟩
      simp only [← hn1] at HC1 HC2
      have HN1 := Lib.hid hn1
      have hn1s : n1 ≤ 100000 := by rw [hn1]; exact HT1.out.len
      clear hn1
      obtain ⟨b1, o1, rfl, f0, f1, f2⟩ := HC1.out wr hW.out
      obtain ⟨b2, o2, rfl, g0, g1, g2⟩ := HC2.out wr hW.out
      go_upto_region 6 with (fail)
      go_quiet (fail)
      have HW1 := Lib.hid (hW.out.trans ((below_drewN0 wr nq).mono hW.out.size))
      clear f0 f1 f2 g0 g1 g2
      generalize wr.drewN nq = W1 at *
      clear hW
      go_wp2_with fail
      go_loopw [6] (fun i wr' => ∃ k : Nat, k ≤ n1 ∧ i = .int .i64 (k : Int) ∧ Hid (Below w.heap.size w wr')) (fun i _ => n1 - (intOf i).toNat)
      case atStart => exact ⟨0, by omega, rfl, HW1⟩
      case round =>
        obtain ⟨wo, rfl⟩ : ∃ x, x = W1 := ⟨_, rfl⟩
        obtain ⟨k, hk, rfl, hW⟩ := hrel
        obtain ⟨_, _, ee, f0, f1, f2⟩ := HC1.out _ hW.out
        cases ee
        obtain ⟨_, _, ee, g0, g1, g2⟩ := HC2.out _ hW.out
        cases ee
        by_cases hkt : k < n1
        · have hkt2 : decide (k < n1) = true := decide_eq_true hkt
          have k1 : k < s1.length := by have := HN1.out; omega
          have k2 : k < s2.length := by have := HLS.out; omega
          obtain ⟨b3, o3, hA1, hx⟩ := HT1.out.at_ k k1
          obtain ⟨b4, o4, hA2, hy⟩ := HU1.out.at_ k k2
          obtain rfl : A1 = some ⟨b3, o3, none⟩ := hA1
          obtain rfl : A2 = some ⟨b4, o4, none⟩ := hA2
          have HX := Lib.hid hx
          have HY := Lib.hid hy
          have HXH := Lib.hid (HT1.out.held _ (List.getElem_mem k1))
          have HYH := Lib.hid (HU1.out.held _ (List.getElem_mem k2))
          have HEQ : Hid ((cmpX s1[k] s2[k] == 0) = true) := Lib.hid (cmpX_bare (by
            have : (s1.map SpanD.bare)[k]? = (s2.map SpanD.bare)[k]? := by rw [HBB.out]
            rw [List.getElem?_map, List.getElem?_map, List.getElem?_eq_getElem k1, List.getElem?_eq_getElem k2] at this
            exact Option.some.inj this))
          clear hx hy
          simp only [TraceD.spans] at HX HY HXH HYH
          generalize s1[k] = x at *
          generalize s2[k] = y at *
          go_upto_region 11 with (fail)
          obtain ⟨d, hd, hd'⟩ := rowX
          clear f0 f1 f2 g0 g1 g2
          refine wp_region_quiet (C := Below w.heap.size w) (by kernel_rfl) (by kernel_rfl) (hW.out.trans ((below_drew _).mono hW.out.size)) ?_
          refine wpQuiet_step (fun K hK => ?_)
          go_simp
          (refine ⟨_, fun _ _ => rfl, hK _ ?_⟩; clear hK K)
          refine wpQuiet_step (fun K hK => ?_)
          go_simp
          (refine ⟨_, fun _ _ => rfl, hK _ ?_⟩; clear hK K)
          refine wpQuiet_step (fun K hK => ?_)
          go_simp
          (refine ⟨_, fun _ _ => rfl, hK _ ?_⟩; clear hK K)
          refine wpQuiet_step (fun K hK => ?_)
          go_simp
          (refine ⟨_, fun _ _ => rfl, hK _ ?_⟩; clear hK K)
          refine wpQuiet_step (fun K hK => ?_)
          go_simp
          (refine ⟨_, fun W' hW' => (by obtain ⟨_, _, ee, _, _, ff⟩ := HC1.out W' hW'; cases ee; rw [ff]; exact ⟨rfl, rfl⟩), hK _ ?_⟩; clear hK K)
          refine wpQuiet_step (fun K hK => ?_)
          go_simp
          (refine ⟨_, fun _ _ => rfl, hK _ ?_⟩; clear hK K)
          refine wpQuiet_step (fun K hK => ?_)
          go_simp
          (refine ⟨_, fun _ _ => rfl, hK _ ?_⟩; clear hK K)
          refine wpQuiet_step (fun K hK => ?_)
          refine quiet_load rfl 73 (.tmp 73) rfl b3 _ rfl x.cells d (fun W hW' => rangeAt_below HX.out (rangeAt_lt HX.out (by rw [cells_length]; omega)) hW') hd hd' (by kernel_rfl) (hK _ ?_)
          clear hK K
          refine wpQuiet_step (fun K hK => ?_)
          go_simp
          (refine ⟨_, fun _ _ => rfl, hK _ ?_⟩; clear hK K)
          refine wpQuiet_step (fun K hK => ?_)
          go_simp
          (refine ⟨_, fun _ _ => rfl, hK _ ?_⟩; clear hK K)
          refine wpQuiet_step (fun K hK => ?_)
          go_simp
          (refine ⟨_, fun _ _ => rfl, hK _ ?_⟩; clear hK K)
          refine wpQuiet_step (fun K hK => ?_)
          go_simp
          (refine ⟨_, fun _ _ => rfl, hK _ ?_⟩; clear hK K)
          refine wpQuiet_step (fun K hK => ?_)
          go_simp
          (refine ⟨_, fun W' hW' => (by obtain ⟨_, _, ee, _, _, ff⟩ := HC2.out W' hW'; cases ee; rw [ff]; exact ⟨rfl, rfl⟩), hK _ ?_⟩; clear hK K)
          refine wpQuiet_step (fun K hK => ?_)
          go_simp
          (refine ⟨_, fun _ _ => rfl, hK _ ?_⟩; clear hK K)
          refine wpQuiet_step (fun K hK => ?_)
          go_simp
          (refine ⟨_, fun _ _ => rfl, hK _ ?_⟩; clear hK K)
          refine wpQuiet_step (fun K hK => ?_)
          refine quiet_load rfl 73 (.tmp 81) rfl b4 _ rfl y.cells d (fun W hW' => rangeAt_below HY.out (rangeAt_lt HY.out (by rw [cells_length]; omega)) hW') hd hd' (by kernel_rfl) (hK _ ?_)
          clear hK K
          refine wpQuiet_step (fun K hK => ?_)
          go_simp
          (refine ⟨_, fun W' hW' => (eqX_any x y W' (HXH.out.keeps W' hW') (HYH.out.keeps W' hW')).mono (fun e w' h => ⟨h.1, hW'.trans (h.2.b.mono hW'.size)⟩), hK _ ?_⟩; clear hK K)
          rw [HEQ.out]
          refine wpQuiet_step (fun K hK => ?_)
          go_simp
          (refine ⟨_, fun _ _ => rfl, hK _ ?_⟩; clear hK K)
          refine wpQuiet_nil ?_
          intro W3 hW3
          have HW3 := Lib.hid hW3
          clear hW3
          go_wp2_with fail
          exact ⟨⟨k + 1, by omega, by go_num, HW3⟩, by simp [intOf]; omega⟩
        · obtain rfl : k = n1 := by omega
          have hkt2 : decide (k < k) = false := decide_eq_false hkt
          go_wp2_with fail
          exact ⟨⟨m + 1, by omega, by go_num, hW⟩, by simp [intOf]; omega⟩
    · obtain rfl : m = n := by omega
      have hlt2 : decide (m < m) = false := decide_eq_false hlt
      go_wp2_with fail
      go_ret
      exact ⟨rfl, hW.out⟩
end Go.Proofs.YtnddlpfmagdbfaaGreatDoor
/- The contracts of a described policy and of Sample, packed for the laws. -/
namespace Go.Proofs.YtnddlpfmagdbfaaGreatDoor.Sto
open Go Go.Ev Go.Proofs Go.RowKit
set_option linter.unusedVariables false
set_option linter.unusedSimpArgs false
theorem flat_get {α : Type} {cells : α → List Value} {k : Nat} (hl : ∀ x, (cells x).length = k) : ∀ {L : List α} {j i : Nat} (hj : j < L.length), i < k → (L.flatMap cells)[j * k + i]? = (cells L[j])[i]?
  | x :: L, 0, i, _, hi => by
    rw [List.flatMap_cons, Nat.zero_mul, Nat.zero_add, List.getElem?_append_left (by rw [hl]; exact hi)]
    rfl
  | x :: L, j + 1, i, hj, hi => by
    have h : (j + 1) * k = j * k + k := Nat.succ_mul j k
    rw [List.flatMap_cons, List.getElem?_append_right (by rw [hl]; omega), hl, show (j + 1) * k + i - k = j * k + i by omega, flat_get hl (by simpa using hj) hi]
    rfl
theorem row_range {α : Type} {cells : α → List Value} {k : Nat} (hl : ∀ x, (cells x).length = k) {W : World} {B : Nat} {e : TypeId} {v : Value} {M : List α} (h : W.ownsRow B e k v M.length (M.flatMap cells)) :
    ∃ A c, v = .slice A M.length c ∧ (A = none → M = []) ∧ ∀ j (hj : j < M.length), ∃ b o, A = some ⟨b, o, none⟩ ∧ W.rangeAt b (o + j * k) (cells M[j]) := by
  rcases h.2 with ⟨h0, h1⟩ | ⟨g, cap, cur, hv, hb, hg, h1, h2, h3, h4⟩
  · have : M = [] := List.length_eq_zero_iff.1 h1
    subst this
    exact ⟨none, 0, h0, fun _ => rfl, fun j hj => absurd hj (Nat.not_lt_zero _)⟩
  · refine ⟨_, cap, hv, by simp, fun j hj => ⟨g, 0, rfl, fun i u hu => ?_⟩⟩
    have hi : i < k := by
      have := (List.getElem?_eq_some_iff.1 hu).1
      rwa [hl] at this
    have h5 : (M.flatMap cells)[j * k + i]? = some u := (flat_get hl hj hi).trans hu
    have hlt : j * k + i < M.length * k := by
      have : (j + 1) * k ≤ M.length * k := Nat.mul_le_mul_right k (by omega)
      rw [Nat.succ_mul] at this
      omega
    rw [← h4, List.getElem?_take_of_lt hlt] at h5
    refine cell_blk hg (0 + j * k + i) ?_
    rw [Nat.zero_add, ← Array.getElem?_toList]
    exact h5
/-- A described policy, made. -/
def PolOK (L : List (Int × Int)) (d : Int) (w : World) (p : PolD) : Prop := p.Lies 5 w ∧ polErr 5 p = 0 ∧ (∀ q ∈ p.rules, PredStr 5 q.p) ∧ SamePol 5 p (policyX L d)
theorem PolOK.below {L : List (Int × Int)} {d : Int} {w w' : World} {p : PolD} (h : PolOK L d w p) (k : Below w.heap.size w w') : PolOK L d w' p := ⟨h.1.below k, h.2⟩
theorem policy_ok (A : Option Addr) (L : List (Int × Int)) (c : Nat) (d : Int) (hd : isU8 d) (hl : L.length ≤ 9223372036854775807) (w : World) (hA : PairsAt w A L) :
    Calls Tryz.prog 19 #[.agg #[.slice A L.length c, .int .u8 d]] w fun e w' => (∃ p : PolD, e = .returned (.agg p.cells.toArray) ∧ PolOK L d w' p) ∧ Below w.heap.size w w' := by
  refine (policy_any A L c d hd hl w hA).mono ?_
  rintro e w' ⟨⟨v, M, rfl, hR, hM, hV⟩, hb⟩
  obtain ⟨B, c', rfl, hn, hr⟩ := row_range (cells := RuleD.cells) (fun _ => rfl) hR.row
  unfold isU8 at hd
  have hP : ∀ j (h : j < L.length), isU8 L[j].1 ∧ isU8 L[j].2 := fun j h => by
    obtain ⟨_, _, _, _, h1, h2⟩ := hA j h
    exact ⟨h1, h2⟩
  refine ⟨⟨⟨B, c', M, d % 11⟩, rfl, ⟨⟨rules_of hr, by show M.length ≤ _; omega, fun q hq => ?_⟩, rules_ok hM (by omega) hP hV, fun q hq => (hR.own q hq).str, ?_⟩⟩, hb⟩
  · obtain ⟨lo, hi, _, _, h3, _⟩ := (hR.own q hq).blk
    exact (h3 w' fun _ _ _ => rfl).lie
  · refine ⟨?_, rfl, fun j h h' => ?_⟩
    · show M.length = ((L.take 3).map ruleX).length
      rw [List.length_map, List.length_take]
      omega
    · have h1 : j < M.length := h
      obtain ⟨h2, h3⟩ := hV j h1 (by omega)
      have : (policyX L d).rules[j]'h' = ruleX L[j] := by simp [policyX]
      rw [this]
      exact ⟨h2, h3⟩
def goodB (z : BT) : Prop := okB z ∧ z.2.2.length ≤ 1000
/-- A trace lies in what is there by now. -/
def TrIn (W : World) (t : TraceD) : Prop := t.Lies W ∧ ∀ b, t.Uses b → b < W.heap.size
theorem TrIn.below {W W' : World} {t : TraceD} (h : TrIn W t) (k : Below W.heap.size W W') : TrIn W' t := ⟨h.1.below k, fun b hb => Nat.lt_of_lt_of_le (h.2 b hb) k.size⟩
theorem _root_.Go.Proofs.YtnddlpfmagdbfaaGreatDoor.TraceD.Own.in {lo : Nat} {W : World} {t : TraceD} (h : t.Own lo W) : TrIn W t := ⟨h.lies, fun b hb => (h.uses b hb).2⟩
/-- A list of traces lies there: without addresses it is Z. -/
def Lst (W : World) (v : Value) (Z : List BT) : Prop := ∃ A c L, v = .slice A (List.length (α := TraceD) L) c ∧ TracesIn W A L ∧ (∀ t ∈ L, TrIn W t) ∧ L.map TraceD.bare = Z ∧ L.length ≤ 1000 ∧ ∀ z ∈ Z, goodB z
theorem Lst.below {W W' : World} {v : Value} {Z : List BT} (h : Lst W v Z) (k : Below W.heap.size W W') : Lst W' v Z :=
  let ⟨A, c, L, h1, h2, h3, h4⟩ := h
  ⟨A, c, L, h1, h2.below k, fun t ht => (h3 t ht).below k, h4⟩
theorem Lst.two {lo : Nat} {W : World} {v u : Value} {M N : List TraceD} (h : Two lo W v u M N) {Z : List BT} (hZ : M.map TraceD.bare = Z) (hl : Z.length ≤ 1000) (hg : ∀ z ∈ Z, goodB z) : Lst W v Z := by
  obtain ⟨A, c, rfl, h1, h2, _⟩ := h.slice
  exact ⟨A, c, M, rfl, h1, fun t ht => (h.m t ht).1.in, hZ, by rw [← hZ, List.length_map] at hl; exact hl, hg⟩
theorem good_step {p : PolD} {s : Int} (hp : polErr 5 p = 0) {Z : List BT} (h : ∀ z ∈ Z, goodB z) : ∀ z ∈ stepK 5 p s Z, goodB z := fun z hz => by
  refine ⟨okB_step hp (fun y hy => (h y hy).1) z hz, ?_⟩
  obtain ⟨y, hy, rfl⟩ := List.mem_map.1 hz
  exact (h y (List.mem_filter.1 hy).1).2
/-- Sample at a policy and traces in order: two rows of copies. -/
theorem sample_two (p : PolD) (s : Int) (v : Value) (Z : List BT) (w : World) (hp : p.Lies 5 w) (hp0 : polErr 5 p = 0) (hstr : ∀ q ∈ p.rules, PredStr 5 q.p) (hs0 : 0 ≤ s) (hs1 : s < 1024) (hv : Lst w v Z) (hTab : TabAt w) :
    Calls Tryz.prog 13 #[.agg p.cells.toArray, .int .i64 s, v] w fun e w' => (∃ x y M N, e = .returned (.tuple #[x, y, .int .i64 0]) ∧ Two w.heap.size w' x y M N ∧ M.map TraceD.bare = stepK 5 p s Z ∧ N.map TraceD.bare = stepG 5 p s Z ∧ Z.length ≤ 1000 ∧ ∀ z ∈ Z, goodB z) ∧ Below w.heap.size w w' := by
  obtain ⟨A, c, L, rfl, h1, h2, rfl, h3, h4⟩ := hv
  have hg : ∀ t ∈ L, goodB t.bare := fun t ht => h4 _ (List.mem_map_of_mem ht)
  refine (sample_any 5 p s A c L w hp hstr h1 (fun t ht => ⟨(h2 t ht).1, by have := (hg t ht).2; simpa [TraceD.bare] using this⟩) h3 hTab).mono ?_
  rintro e w' ⟨-, h5, h6⟩
  have h0 : sampleErr 5 p s L = 0 := by
    unfold sampleErr
    rw [if_neg (by rw [hp0]; simp), if_neg (by omega)]
    exact firstErr_none _ _ fun m hm => (traceErr_bare L[m]).trans (hg _ (List.getElem_mem hm)).1
  obtain ⟨x, y, M, N, rfl, hT, hM, hN⟩ := h5 h0
  exact ⟨⟨x, y, M, N, rfl, hT, hM.trans (keptX_bare 5 p s L), hN.trans (goneX_bare 5 p s L), by rw [List.length_map]; exact h3, h4⟩, h6⟩
/-- Sample at a policy and traces in order. -/
theorem sample_ok (p : PolD) (s : Int) (v : Value) (Z : List BT) (w : World) (hp : p.Lies 5 w) (hp0 : polErr 5 p = 0) (hstr : ∀ q ∈ p.rules, PredStr 5 q.p) (hs0 : 0 ≤ s) (hs1 : s < 1024) (hv : Lst w v Z) (hTab : TabAt w) :
    Calls Tryz.prog 13 #[.agg p.cells.toArray, .int .i64 s, v] w fun e w' => (∃ x y, e = .returned (.tuple #[x, y, .int .i64 0]) ∧ Lst w' x (stepK 5 p s Z) ∧ Lst w' y (stepG 5 p s Z)) ∧ Below w.heap.size w w' := by
  refine (sample_two p s v Z w hp hp0 hstr hs0 hs1 hv hTab).mono ?_
  rintro e w' ⟨⟨x, y, M, N, rfl, hT, hM, hN, h3, h4⟩, h6⟩
  have hlen := step_length 5 p s Z
  exact ⟨⟨x, y, rfl, Lst.two hT hM (by omega) (good_step hp0 h4), Lst.two hT.swap hN (by omega) fun z hz => h4 z (List.mem_filter.1 hz).1⟩, h6⟩
theorem same_ok (u v : Value) (Z : List BT) (w : World) (hu : Lst w u Z) (hv : Lst w v Z) : Calls Tryz.prog 21 #[u, v] w fun e w' => e = .returned (.bool true) ∧ Below w.heap.size w w' := by
  obtain ⟨A, c, L, rfl, h1, h2, h3, h4, _⟩ := hu
  obtain ⟨B, d, M, rfl, k1, k2, k3, k4, _⟩ := hv
  exact same_any A B c d L M w h1 k1 (fun t ht => (h2 t ht).1) (fun t ht => (k2 t ht).1) (h3.trans k3.symm) (by omega)
theorem Lst.length {W : World} {v : Value} {Z : List BT} (h : Lst W v Z) : ∃ A c, v = .slice A Z.length c := by
  obtain ⟨A, c, L, rfl, _, _, h3, _⟩ := h
  exact ⟨A, c, by rw [← h3, List.length_map]⟩
/-- The traces of a story in order. -/
theorem traces_ok (a : Option Addr) (ts : List TreeD) (c : Nat) (o0 o1 o2 o3 : Int) (b : Option Addr) (m d : Nat) (q : Int) (hq : isU8 q) (hoo : isI8 o0 ∧ isI8 o1 ∧ isI8 o2 ∧ isI8 o3) (w : World) (ht : TreesAt w a ts) (hts : TreesOk ts) :
    Calls Tryz.prog 22 #[.agg #[.slice a ts.length c, .int .i8 o0, .int .i8 o1, .int .i8 o2, .int .i8 o3, .slice b m d, .int .u8 q]] w fun e w' => (∃ v, e = .returned v ∧ Lst w' v (tracesX ts o0 o1 o2 o3 q)) ∧ Below w.heap.size w w' := by
  refine (traces_any a ts c o0 o1 o2 o3 b m d q hq hoo w ht (fun j hj => (hts.2 j hj).2.2.1) hts.1).mono ?_
  rintro e w' ⟨⟨v, tds, rfl, hO, hB, hl⟩, hb⟩
  obtain ⟨A, c', rfl, hn, hr⟩ := row_range (cells := TraceD.cells) (fun _ => rfl) hO.1
  refine ⟨⟨_, rfl, A, c', tds, rfl, hr, fun t ht => (hO.2 t ht).1.in, hB, by omega, fun z hz => ?_⟩, hb⟩
  have hz' := hz
  rw [← hB] at hz'
  obtain ⟨t, ht', rfl⟩ := List.mem_map.1 hz'
  refine ⟨?_, ?_⟩
  · unfold okB
    rw [← traceErr_bare]
    exact (trace_ok hts hz).1
  · obtain ⟨k, hk, _, e⟩ := traces_mem _ hz
    rw [e]
    show (traceX ts[k] o0 o1 o2 o3 q k).length ≤ 1000
    rw [traceX_length]
    have := (hts.2 k hk).2.2.1
    omega
end Go.Proofs.YtnddlpfmagdbfaaGreatDoor.Sto
/- The self-test and the table of math/bits, from what the row lays. -/
namespace Go.Proofs.YtnddlpfmagdbfaaGreatDoor
open Go Go.Ev Go.Proofs Go.RowKit
set_option linter.unusedVariables false
theorem gl_tab {w : World} {ty : Nat → TypeId} (h : laidG w ty gl) : TabAt w := ⟨_, h (1, tabV.toList) (by
  have h2 : gl = [(1, tab64.map fun z => Value.int .u8 z)] := by kernel_rfl
  rw [h2]
  exact List.mem_cons_self)⟩
theorem known_at {w : World} {ty : Nat → TypeId} (h : laidG w ty gl) (W : World) (k : Below w.heap.size w W) : Calls Tryz.prog 8 #[] W fun e w' => e = .returned (.bool true) ∧ Below W.heap.size W w' := known_calls W ty (laidG_below2 h k)
end Go.Proofs.YtnddlpfmagdbfaaGreatDoor
/- What the laws' arguments hold; policies that are alike. -/
namespace Go.Proofs.YtnddlpfmagdbfaaGreatDoor.Sto
open Go Go.Ev Go.Proofs Go.RowKit
set_option linter.unusedVariables false
set_option linter.unusedSimpArgs false
/-- What a story's argument holds. -/
structure StoryArg (w : World) (a : Option Addr) (ts : List TreeD) (o0 o1 o2 o3 : Int) (m : Nat) (q : Int) : Prop where
  at_ : TreesAt w a ts
  len : ts.length ≤ maxLen
  syn : m ≤ maxLen
  cl : ∀ j (hj : j < ts.length), ts[j].cs.length ≤ maxLen
  q : isU8 q
  o : isI8 o0 ∧ isI8 o1 ∧ isI8 o2 ∧ isI8 o3
theorem StoryArg.ok {w : World} {a : Option Addr} {ts : List TreeD} {o0 o1 o2 o3 : Int} {m : Nat} {q : Int} (h : StoryArg w a ts o0 o1 o2 o3 m q) (h1 : ts.length ≤ 3) (h2 : ∀ j (hj : j < ts.length), ts[j].cs.length ≤ 8) : TreesOk ts := by
  refine ⟨h1, fun k hk => ?_⟩
  obtain ⟨_, _, _, _, _, hc, h3, h4⟩ := h.at_ k hk
  exact ⟨h3, h4, h2 k hk, fun i hi => let ⟨_, _, _, h5⟩ := hc i hi; h5⟩
/-- What a plan's argument holds. -/
structure PlanArg (w : World) (A : Option Addr) (L : List (Int × Int)) (d : Int) : Prop where
  at_ : PairsAt w A L
  len : L.length ≤ maxLen
  d : isU8 d
theorem givB_same {p r x : PolD} (h : SamePol 5 p x) (k : SamePol 5 r x) (z : BT) : givB 5 p z = givB 5 r z := by
  unfold givB
  rw [givenX_same h, givenX_same k]
theorem stepK_same {p r x : PolD} (h : SamePol 5 p x) (k : SamePol 5 r x) {s : Int} {Z : List BT} : stepK 5 p s Z = stepK 5 r s Z := by
  have h1 : keeps 5 p s = keeps 5 r s := funext fun z => by unfold keeps expB; rw [givB_same h k]
  have h2 : outB 5 p = outB 5 r := funext fun z => by unfold outB expB; rw [givB_same h k]
  unfold stepK
  rw [h1, h2]
theorem stepG_same {p r x : PolD} (h : SamePol 5 p x) (k : SamePol 5 r x) {s : Int} {Z : List BT} : stepG 5 p s Z = stepG 5 r s Z := by
  have h1 : keeps 5 p s = keeps 5 r s := funext fun z => by unfold keeps expB; rw [givB_same h k]
  unfold stepG
  rw [h1]
end Go.Proofs.YtnddlpfmagdbfaaGreatDoor.Sto
/- A story and four numbers, as the laws' arguments lie there; a seed out of two numbers. -/
namespace Go.Proofs.YtnddlpfmagdbfaaGreatDoor.Sto
open Go Go.Ev Go.Proofs Go.RowKit
set_option linter.unusedVariables false
set_option linter.unusedSimpArgs false
/-- The story and the four numbers lie there. -/
def FourS (g : Nat) (a : Option Addr) (n c : Nat) (o0 o1 o2 o3 : Int) (b : Option Addr) (m d : Nat) (q : Int) (h : Nat) (n0 n1 n2 n3 : Int) (W : World) : Prop := W.heap[g]? = some (.cells #[.slice a n c, .int .i8 o0, .int .i8 o1, .int .i8 o2, .int .i8 o3, .slice b m d, .int .u8 q] 52 (0, 0)) ∧ W.cell? ⟨h, 0, none⟩ = some (.int .u8 n0) ∧ W.cell? ⟨h, 1, none⟩ = some (.int .u8 n1) ∧ W.cell? ⟨h, 2, none⟩ = some (.int .u8 n2) ∧ W.cell? ⟨h, 3, none⟩ = some (.int .u8 n3)
theorem FourS.below {g : Nat} {a : Option Addr} {n c : Nat} {o0 o1 o2 o3 : Int} {b : Option Addr} {m d : Nat} {q : Int} {h : Nat} {n0 n1 n2 n3 : Int} {W W' : World} (k : FourS g a n c o0 o1 o2 o3 b m d q h n0 n1 n2 n3 W) (hb : Below W.heap.size W W') : FourS g a n c o0 o1 o2 o3 b m d q h n0 n1 n2 n3 W' :=
  have f : ∀ {p : Addr} {v : Value}, W.cell? p = some v → W'.cell? p = some v := fun hc => (hb.cell (World.block_lt_of_cell? W _ hc)).trans hc
  ⟨blk_keep hb k.1, f k.2.1, f k.2.2.1, f k.2.2.2.1, f k.2.2.2.2⟩
theorem wrap_small (x : Int) (h0 : -9223372036854775808 ≤ x) (h1 : x < 9223372036854775808) : IntKind.i64.wrap x = x := by
  unfold IntKind.wrap
  simp [IntKind.bits, IntKind.signed]
  omega
/-- A seed out of two numbers. -/
def seedW (x y : Int) : Int := IntKind.i64.wrap (IntKind.i64.wrap (4 * IntKind.i64.wrap x) + (IntKind.i64.wrap y).tmod 4)
theorem seedW_range {x y : Int} (hx : isU8 x) (hy : isU8 y) : 0 ≤ seedW x y ∧ seedW x y < 1024 := by
  obtain ⟨h0, h1⟩ := hx
  obtain ⟨h2, h3⟩ := hy
  unfold seedW
  rw [wrap_small x (by omega) (by omega), wrap_small y (by omega) (by omega), wrap_small (4 * x) (by omega) (by omega), Int.tmod_eq_emod_of_nonneg h2, wrap_small _ (by omega) (by omega)]
  omega
end Go.Proofs.YtnddlpfmagdbfaaGreatDoor.Sto
/- Contract: the law's traces: the traces of a story, with weights. -/
namespace Go.Proofs.YtnddlpfmagdbfaaGreatDoor.Sto
open Go Go.Ev Go.Proofs Go.RowKit
set_option linter.unusedVariables false
set_option linter.unusedSimpArgs false
/-- The number that gives the weight of the trace with an index. -/
def wtX (x0 x1 x2 : Int) (i : Nat) : Int := if i % 3 = 0 then x0 else if i % 3 = 1 then x1 else x2
def wtE (x0 x1 x2 : Int) (i : Nat) : Nat := (wtX x0 x1 x2 i % 11).toNat
/-- Traces with weights. -/
def weighB (x0 x1 x2 : Int) (Z : List BT) : List BT := Z.mapIdx fun i z => (z.1, 2 ^ wtE x0 x1 x2 i, z.2.2)
theorem wtE_le (x0 x1 x2 : Int) (i : Nat) : wtE x0 x1 x2 i ≤ 10 := by unfold wtE; omega
theorem okB_pow {z : BT} (h : okB z) {k : Nat} (hk : k ≤ 10) : okB (z.1, 2 ^ k, z.2.2) := by
  unfold okB at h ⊢
  obtain ⟨⟨i0, i1, _⟩, hs⟩ := traceErr_zero h
  unfold traceErr
  rw [if_pos]
  · refine firstErr_none _ _ fun m hm => ?_
    obtain ⟨h1, h2⟩ := hs (ofB z).spans[m] (List.getElem_mem hm)
    show memErr z.1 (ofB z).spans[m] = 0
    unfold memErr
    rw [if_neg (by rw [h1]; simp), if_neg (by rw [h2]; simp [ofB])]
  · refine ⟨i0, i1, ?_⟩
    show 1 ≤ (2 : Int) ^ k ∧ (2 : Int) ^ k ≤ 1024 ∧ Go.bits .and .i64 ((2 : Int) ^ k) ((2 : Int) ^ k - 1) = 0
    obtain rfl | rfl | rfl | rfl | rfl | rfl | rfl | rfl | rfl | rfl | rfl : k = 0 ∨ k = 1 ∨ k = 2 ∨ k = 3 ∨ k = 4 ∨ k = 5 ∨ k = 6 ∨ k = 7 ∨ k = 8 ∨ k = 9 ∨ k = 10 := by omega
    all_goals decide
theorem good_weigh {x0 x1 x2 : Int} {Z : List BT} (h : ∀ z ∈ Z, goodB z) : ∀ z ∈ weighB x0 x1 x2 Z, goodB z := fun z hz => by
  obtain ⟨i, hi, rfl⟩ := List.mem_mapIdx.1 hz
  exact ⟨okB_pow (h _ (List.getElem_mem hi)).1 (wtE_le _ _ _ _), (h _ (List.getElem_mem hi)).2⟩
/-- A trace with another weight. -/
def _root_.Go.Proofs.YtnddlpfmagdbfaaGreatDoor.TraceD.wt (t : TraceD) (u : Int) : TraceD := ⟨t.id, u, t.A, t.c, t.spans⟩
theorem own_wt {lo : Nat} {W : World} {t : TraceD} (h : t.Own lo W) (u : Int) : (t.wt u).Own lo W := ⟨⟨h.lies.len, h.lies.at_, h.lies.held, h.lies.sound, h.lies.txt⟩, h.uses⟩
theorem own_setCell {lo : Nat} {W : World} {t : TraceD} (h : t.Own lo W) {g : Nat} (hg : ∀ b, t.Uses b → some b ≠ some g) (o : Nat) (v : Value) : t.Own lo (W.setCell ⟨g, o, none⟩ v) :=
  ⟨h.lies.same fun b hb => heap_setCell_other _ _ _ _ (fun e => hg b hb (by rw [e])), fun b hb => ⟨(h.uses b hb).1, by have := (h.uses b hb).2; simpa [World.setCell] using this⟩⟩
theorem flatT_set : ∀ (L : List TraceD) (j : Nat) (hj : j < L.length) (u : Int), (L.flatMap TraceD.cells).set (j * 3 + 1) (.int .i64 u) = (L.set j (L[j].wt u)).flatMap TraceD.cells
  | t :: L, 0, _, u => rfl
  | t :: L, j + 1, hj, u => by
    have h : (j + 1) * 3 + 1 = (j * 3 + 1) + 3 := by omega
    rw [List.flatMap_cons, List.set_append_right _ _ (by rw [cellsT_len]; omega), cellsT_len, h, Nat.add_sub_cancel, flatT_set L j (by simpa using hj) u]
    rfl
/-- The row behind a store of a weight. -/
theorem out_set {B lo g c n : Nat} {M : List TraceD} {W : World} (h : OutT B lo (.slice (some ⟨g, 0, none⟩) n c) M W) (hn : M.length = n) (j : Nat) (hj : j < M.length) (u : Int) :
    OutT B lo (.slice (some ⟨g, 0, none⟩) n c) (M.set j (M[j].wt u)) (W.setCell ⟨g, j * 3 + 1, none⟩ (.int .i64 u)) := by
  subst hn
  refine ⟨?_, fun t ht => ?_⟩
  · have h1 := (h.1.stored (j * 3 + 1) (.int .i64 u)).1
    rw [flatT_set M j hj u] at h1
    rw [List.length_set]
    exact h1
  · have h2 : t ∈ M ∨ t = M[j].wt u := by
      rcases List.mem_or_eq_of_mem_set ht with h | h
      · exact .inl h
      · exact .inr h
    rcases h2 with h2 | rfl
    · exact ⟨own_setCell (h.2 t h2).1 (h.2 t h2).2 _ _, (h.2 t h2).2⟩
    · have h3 := h.2 M[j] (List.getElem_mem hj)
      exact ⟨own_setCell (own_wt h3.1 u) h3.2 _ _, h3.2⟩
/-- So far the traces have their weights. -/
def WtAt (x0 x1 x2 : Int) (Z : List BT) (M : List TraceD) (j : Nat) : Prop := M.length = Z.length ∧ ∀ i (h : i < M.length) (h' : i < Z.length), M[i].bare = if i < j then (Z[i].1, 2 ^ wtE x0 x1 x2 i, Z[i].2.2) else Z[i]
theorem WtAt.zero {x0 x1 x2 : Int} {Z : List BT} {M : List TraceD} (h : M.map TraceD.bare = Z) : WtAt x0 x1 x2 Z M 0 := by
  subst h
  refine ⟨by simp, fun i h h' => ?_⟩
  rw [if_neg (by omega), List.getElem_map]
theorem WtAt.step {x0 x1 x2 : Int} {Z : List BT} {M : List TraceD} {j : Nat} (h : WtAt x0 x1 x2 Z M j) (hj : j < M.length) : WtAt x0 x1 x2 Z (M.set j (M[j].wt (2 ^ wtE x0 x1 x2 j))) (j + 1) := by
  refine ⟨by rw [List.length_set]; exact h.1, fun i hi hi' => ?_⟩
  rw [List.length_set] at hi
  rw [List.getElem_set]
  have hij := h.2 i hi hi'
  by_cases e : j = i
  · subst e
    rw [if_pos rfl, if_pos (by omega)]
    rw [if_neg (by omega)] at hij
    rw [← hij]
    rfl
  · rw [if_neg e, hij]
    by_cases hlt : i < j
    · rw [if_pos hlt, if_pos (by omega)]
    · rw [if_neg hlt, if_neg (by omega)]
theorem WtAt.fin {x0 x1 x2 : Int} {Z : List BT} {M : List TraceD} (h : WtAt x0 x1 x2 Z M M.length) : M.map TraceD.bare = weighB x0 x1 x2 Z := by
  refine List.ext_getElem (by unfold weighB; rw [List.length_map, List.length_mapIdx]; exact h.1) fun i h1 h2 => ?_
  unfold weighB at h2 ⊢
  rw [List.length_map] at h1
  rw [List.length_mapIdx] at h2
  rw [List.getElem_map, h.2 i h1 h2, if_pos h1, List.getElem_mapIdx]
theorem Lst.out {B lo : Nat} {v : Value} {M : List TraceD} {W : World} (h : OutT B lo v M W) {Z : List BT} (hZ : M.map TraceD.bare = Z) (hl : M.length ≤ 1000) (hg : ∀ z ∈ Z, goodB z) : Lst W v Z := by
  obtain ⟨A, c', rfl, hn, hr⟩ := row_range (cells := TraceD.cells) (fun _ => rfl) h.1
  exact ⟨A, c', M, rfl, hr, fun t ht => (h.2 t ht).1.in, hZ, hl, hg⟩
theorem tracesX_good {ts : List TreeD} {o0 o1 o2 o3 q : Int} (hts : TreesOk ts) {tds : List TraceD} (hB : tds.map TraceD.bare = tracesX ts o0 o1 o2 o3 q) : ∀ z ∈ tracesX ts o0 o1 o2 o3 q, goodB z := fun z hz => by
  have hz' := hz
  rw [← hB] at hz'
  obtain ⟨t, ht', rfl⟩ := List.mem_map.1 hz'
  refine ⟨?_, ?_⟩
  · unfold okB
    rw [← traceErr_bare]
    exact (trace_ok hts hz).1
  · obtain ⟨k, hk, _, e⟩ := traces_mem _ hz
    rw [e]
    show (traceX ts[k] o0 o1 o2 o3 q k).length ≤ 1000
    rw [traceX_length]
    have := (hts.2 k hk).2.2.1
    omega
theorem shl_wt (k : Nat) (h : k ≤ 10) : IntKind.i64.wrap (2 ^ k) = 2 ^ k := pow_wrapI k h
set_option maxHeartbeats 8000000 in
set_option maxRecDepth 20000 in
theorem tr24_any (a : Option Addr) (ts : List TreeD) (c : Nat) (o0 o1 o2 o3 : Int) (b : Option Addr) (m d : Nat) (q x0 x1 x2 : Int) (hx : isU8 x0 ∧ isU8 x1 ∧ isU8 x2) (hq : isU8 q) (hoo : isI8 o0 ∧ isI8 o1 ∧ isI8 o2 ∧ isI8 o3) (w : World) (ht : TreesAt w a ts) (hts : TreesOk ts) :
    Calls Tryz.prog 18 #[.agg #[.slice a ts.length c, .int .i8 o0, .int .i8 o1, .int .i8 o2, .int .i8 o3, .slice b m d, .int .u8 q], .agg #[.int .u8 x0, .int .u8 x1, .int .u8 x2]] w fun e w' => (∃ v M, e = .returned v ∧ OutT (w.heap.size + 2) w.heap.size v M w' ∧ M.map TraceD.bare = weighB x0 x1 x2 (tracesX ts o0 o1 o2 o3 q) ∧ M.length ≤ 3 ∧ ∀ z ∈ weighB x0 x1 x2 (tracesX ts o0 o1 o2 o3 q), goodB z) ∧ Below w.heap.size w w' := by
  obtain ⟨W0, hW0⟩ : ∃ W0, W0 = (w.alloc (.cells #[.slice a ts.length c, .int .i8 o0, .int .i8 o1, .int .i8 o2, .int .i8 o3, .slice b m d, .int .u8 q] 52)).alloc (.cells #[.int .u8 x0, .int .u8 x1, .int .u8 x2] 59) := ⟨_, rfl⟩
  have hB0 : Hid (Below w.heap.size w W0) := Lib.hid (by rw [hW0]; exact ((Below.refl _ w).alloc (Nat.le_refl _) _).alloc (by simp) _)
  have hpb : Hid (StoryB W0 w.heap.size a ts.length c o0 o1 o2 o3 b m d q) := Lib.hid (by rw [hW0]; exact (Grew.alloc _ _).blk (blk_new _ _ _))
  have htb : Hid (W0.heap[w.heap.size + 1]? = some (.cells #[.int .u8 x0, .int .u8 x1, .int .u8 x2] 59 (0, 0))) := Lib.hid (by rw [hW0]; exact blk_new' _ _ _ _ (by simp))
  have HT := Lib.hid ht
  have HG := Lib.hid (fun (tds : List TraceD) (h : tds.map TraceD.bare = tracesX ts o0 o1 o2 o3 q) => good_weigh (x0 := x0) (x1 := x1) (x2 := x2) (tracesX_good hts h))
  obtain ⟨hts1, hts2⟩ := hts
  have HTS := Lib.hid hts2
  have HOO := Lib.hid hoo
  clear ht hts2 hoo
  obtain ⟨⟨hx0, hx0'⟩, ⟨hx1, hx1'⟩, hx2, hx2'⟩ := hx
  go_enter Tryz.func18, Tryz.ntmps18
  go_wp2_with fail
  rw [← hW0]
  clear hW0
  obtain ⟨b0, b1, b2, b3, b4, b5, b6, _⟩ := StoryB.cells hpb.out
  go_wp2_with fail
  (with_reducible refine (traces_any _ _ _ _ _ _ _ _ _ _ _ hq HOO.out _ (HT.out.below hB0.out) (fun j hj => (HTS.out j hj).2.2.1) hts1).mono ?_)
  rintro e w1 ⟨⟨v, tds, rfl, hO, hZ, hl⟩, hb1⟩
  have hB1 := Lib.hid (hB0.out.trans (hb1.mono hB0.out.size))
  have ht1 := Lib.hid (blk_keep hb1 htb.out)
  have HO := Lib.hid (show OutT (w.heap.size + 2) w.heap.size v tds w1 from ⟨row_mono hO.1 (by have := blk_lt htb.out; omega), fun t ht => ⟨(hO.2 t ht).1.mono hB0.out.size, (hO.2 t ht).2⟩⟩)
  have HGG := Lib.hid (HG.out tds hZ)
  clear HG
  have HZ := Lib.hid (WtAt.zero (x0 := x0) (x1 := x1) (x2 := x2) hZ)
  clear b0 b1 b2 b3 b4 b5 b6 hb1 hpb htb hB0 hO hZ
  obtain ⟨n, hn⟩ : ∃ n, n = tds.length := ⟨_, rfl⟩
  obtain ⟨av, cv, rfl, hav⟩ := row_forms3 HO.out.1
  rw [← hn] at HO hav hl ⊢
  have hn' := hn.symm
  clear hn
  go_wp2_with fail
  go_loopw [6] (fun i wr => ∃ (j : Nat) (M : List TraceD), j ≤ n ∧ M.length = n ∧ i = .int .i64 (j : Int) ∧ Hid (Below w.heap.size w wr) ∧ Hid (wr.heap[w.heap.size + 1]? = some (.cells #[.int .u8 x0, .int .u8 x1, .int .u8 x2] 59 (0, 0))) ∧ Hid (OutT (w.heap.size + 2) w.heap.size (.slice av n cv) M wr) ∧ Hid (WtAt x0 x1 x2 (tracesX ts o0 o1 o2 o3 q) M j)) (fun i _ => n - (intOf i).toNat)
  case atStart => exact ⟨0, tds, by omega, hn', rfl, hB1, ht1, HO, HZ⟩
  case round =>
    clear hB1 ht1 HO HZ hn'
    obtain ⟨j, M, hj, hM, rfl, hB, hT, hO, hZ⟩ := hrel
    have hO' : OutT (w.heap.size + 2) w.heap.size (.slice av M.length cv) M wr := by rw [hM]; exact hO.out
    by_cases hlt : j < n
    · have hlt2 : decide (j < n) = true := decide_eq_true hlt
      obtain ⟨g, rfl, _, _⟩ : ∃ g, av = some ⟨g, 0, none⟩ ∧ n ≤ cv ∧ cv ≤ maxLen := by
        rcases hav with ⟨_, h0, _⟩ | h
        · omega
        · exact h
      have hgb := (hO'.1.lt g rfl).1
      have c0 := cell_blk hT.out 0 rfl
      have c1 := cell_blk hT.out 1 rfl
      have c2 := cell_blk hT.out 2 rfl
      have qf := fun i => hO'.1.frozenAt i
      have hjl : j < M.length := by omega
      have HM := Lib.hid (out_set hO.out hM j hjl (2 ^ wtE x0 x1 x2 j))
      have HZ2 := Lib.hid (hZ.out.step hjl)
      have hBn : Hid (Below w.heap.size w (wr.setCell ⟨g, j * 3 + 1, none⟩ (.int .i64 (2 ^ wtE x0 x1 x2 j)))) := Lib.hid (hB.out.setCell (by show w.heap.size ≤ g; omega) _)
      have hTn : Hid ((wr.setCell ⟨g, j * 3 + 1, none⟩ (.int .i64 (2 ^ wtE x0 x1 x2 j))).heap[w.heap.size + 1]? = some (.cells #[.int .u8 x0, .int .u8 x1, .int .u8 x2] 59 (0, 0))) := Lib.hid ((heap_setCell_other _ _ _ _ (by show w.heap.size + 1 ≠ g; omega)).trans hT.out)
      have q1 : wr.cell? ⟨g, j * 3 + 1, none⟩ = some (.int .i64 M[j].weight) := by
        have h2 := traces_cells (L := M) (A := some ⟨g, 0, none⟩) (W := wr) (fun k hk => ⟨g, 0, rfl, fun i u hu => by
          have hi : i < 3 := by
            have := (List.getElem?_eq_some_iff.1 hu).1
            rwa [cellsT_len] at this
          have h1 := hO'.1.cellAt (k * 3 + i) (by omega)
          rw [show 0 + k * 3 + i = k * 3 + i by omega, h1]
          exact (cellsT_get hk hi).trans hu⟩) hjl
        obtain ⟨_, _, e, _, h3, _⟩ := h2
        cases e
        rw [Nat.zero_add] at h3
        exact h3
      have hu0 : IntKind.u8.wrap 11 = 11 := rfl
      have hk := wtE_le x0 x1 x2 j
      have hpw := shl_wt _ hk
      clear hO hO' hZ hB hT
      rcases (show j = 0 ∨ j = 1 ∨ j = 2 by omega) with rfl | rfl | rfl
      · have he : x0 % 11 = ((wtE x0 x1 x2 0 : Nat) : Int) := by unfold wtE wtX; simp; omega
        generalize wtE x0 x1 x2 0 = k at *
        go_wp2_with fail
        exact ⟨⟨1, _, by omega, by rw [List.length_set]; exact hM, rfl, hBn, hTn, HM, HZ2⟩, by simp [intOf]; omega⟩
      · have he : x1 % 11 = ((wtE x0 x1 x2 1 : Nat) : Int) := by unfold wtE wtX; simp; omega
        generalize wtE x0 x1 x2 1 = k at *
        go_wp2_with fail
        exact ⟨⟨2, _, by omega, by rw [List.length_set]; exact hM, rfl, hBn, hTn, HM, HZ2⟩, by simp [intOf]; omega⟩
      · have he : x2 % 11 = ((wtE x0 x1 x2 2 : Nat) : Int) := by unfold wtE wtX; simp; omega
        generalize wtE x0 x1 x2 2 = k at *
        go_wp2_with fail
        exact ⟨⟨3, _, by omega, by rw [List.length_set]; exact hM, rfl, hBn, hTn, HM, HZ2⟩, by simp [intOf]; omega⟩
    · obtain rfl : j = n := by omega
      have hlt2 : decide (j < j) = false := decide_eq_false hlt
      go_wp2_with fail
      go_ret
      refine ⟨⟨_, M, rfl, ?_, WtAt.fin (by rw [hM]; exact hZ.out), by omega, HGG.out⟩, hB.out⟩
      exact hO.out
/-- The traces with weights, as a list. -/
theorem tr24_ok (a : Option Addr) (ts : List TreeD) (c : Nat) (o0 o1 o2 o3 : Int) (b : Option Addr) (m d : Nat) (q x0 x1 x2 : Int) (hx : isU8 x0 ∧ isU8 x1 ∧ isU8 x2) (hq : isU8 q) (hoo : isI8 o0 ∧ isI8 o1 ∧ isI8 o2 ∧ isI8 o3) (w : World) (ht : TreesAt w a ts) (hts : TreesOk ts) :
    Calls Tryz.prog 18 #[.agg #[.slice a ts.length c, .int .i8 o0, .int .i8 o1, .int .i8 o2, .int .i8 o3, .slice b m d, .int .u8 q], .agg #[.int .u8 x0, .int .u8 x1, .int .u8 x2]] w fun e w' => (∃ v, e = .returned v ∧ Lst w' v (weighB x0 x1 x2 (tracesX ts o0 o1 o2 o3 q))) ∧ Below w.heap.size w w' := by
  refine (tr24_any a ts c o0 o1 o2 o3 b m d q x0 x1 x2 hx hq hoo w ht hts).mono ?_
  rintro e w' ⟨⟨v, M, rfl, h1, h2, h3, h4⟩, hb⟩
  exact ⟨⟨v, rfl, Lst.out h1 h2 (by omega) h4⟩, hb⟩
end Go.Proofs.YtnddlpfmagdbfaaGreatDoor.Sto
/- Three rows of traces; plain law: sampling a part of a list, and a list in reverse order. -/
namespace Go.Proofs.YtnddlpfmagdbfaaGreatDoor.Sto
open Go Go.Ev Go.Proofs Go.RowKit
set_option linter.unusedVariables false
set_option linter.unusedSimpArgs false
theorem stepK_append (n : Nat) (p : PolD) (s : Int) (L M : List BT) : stepK n p s (L ++ M) = stepK n p s L ++ stepK n p s M := by
  unfold stepK
  rw [List.filter_append, List.map_append]
theorem stepG_append (n : Nat) (p : PolD) (s : Int) (L M : List BT) : stepG n p s (L ++ M) = stepG n p s L ++ stepG n p s M := by
  unfold stepG
  rw [List.filter_append]
theorem stepK_reverse (n : Nat) (p : PolD) (s : Int) (L : List BT) : stepK n p s L.reverse = (stepK n p s L).reverse := by
  unfold stepK
  rw [List.filter_reverse, List.map_reverse]
theorem stepG_reverse (n : Nat) (p : PolD) (s : Int) (L : List BT) : stepG n p s L.reverse = (stepG n p s L).reverse := by
  unfold stepG
  rw [List.filter_reverse]
theorem take_snoc {α : Type} {L : List α} {j : Nat} (h : j < L.length) : L.take (j + 1) = L.take j ++ [L[j]] := by rw [List.take_add_one, List.getElem?_eq_getElem h]; rfl
/-- A trace lies apart from a block. -/
def Off (t : TraceD) (r : Option Nat) : Prop := ∀ x, t.Uses x → some x ≠ r
/-- Three rows of traces, none of which lies in a row. -/
structure RowsR (lo : Nat) (W : World) (a b c : Value) (M N K : List TraceD) : Prop where
  ra : W.ownsRow lo 27 3 a M.length (M.flatMap TraceD.cells)
  rb : W.ownsRow lo 27 3 b N.length (N.flatMap TraceD.cells)
  rc : W.ownsRow lo 27 3 c K.length (K.flatMap TraceD.cells)
  ab : a.ownBlock = none ∨ a.ownBlock ≠ b.ownBlock
  bc : b.ownBlock = none ∨ b.ownBlock ≠ c.ownBlock
  ca : c.ownBlock = none ∨ c.ownBlock ≠ a.ownBlock
  m : ∀ t, t ∈ M ∨ t ∈ N ∨ t ∈ K → TrIn W t ∧ Off t a.ownBlock ∧ Off t b.ownBlock ∧ Off t c.ownBlock
theorem RowsR.nil (lo : Nat) (W : World) : RowsR lo W (.slice none 0 0) (.slice none 0 0) (.slice none 0 0) [] [] [] := ⟨World.ownsRow_nil _ _ _ _, World.ownsRow_nil _ _ _ _, World.ownsRow_nil _ _ _ _, .inl rfl, .inl rfl, .inl rfl, by simp⟩
theorem RowsR.rot {lo : Nat} {W : World} {a b c : Value} {M N K : List TraceD} (h : RowsR lo W a b c M N K) : RowsR lo W b c a N K M :=
  ⟨h.rb, h.rc, h.ra, h.bc, h.ca, h.ab, fun t ht => let ⟨h1, h2, h3, h4⟩ := h.m t (ht.elim (fun h => .inr (.inl h)) fun h => h.elim (fun h => .inr (.inr h)) .inl); ⟨h1, h3, h4, h2⟩⟩
theorem RowsR.below {lo : Nat} {W W' : World} {a b c : Value} {M N K : List TraceD} (h : RowsR lo W a b c M N K) (k : Below W.heap.size W W') : RowsR lo W' a b c M N K :=
  ⟨row_keep h.ra k, row_keep h.rb k, row_keep h.rc k, h.ab, h.bc, h.ca, fun t ht => ⟨(h.m t ht).1.below k, (h.m t ht).2⟩⟩
theorem TrIn.grown {W W' : World} {t : TraceD} {row : Option Nat} (h : TrIn W t) (k : W.grownBy W' row) (hr : Off t row) : TrIn W' t :=
  ⟨h.1.same fun b hb => k.block _ (h.2 b hb) (hr b hb), fun b hb => Nat.lt_of_lt_of_le (h.2 b hb) k.size⟩
/-- The first row with more. -/
theorem RowsR.snoc {lo : Nat} {W W1 W2 : World} {a b c a' : Value} {M N K Y : List TraceD} (h : RowsR lo W a b c M N K) (hb : Below W.heap.size W W1) (hY : ∀ t ∈ Y, TrIn W1 t ∧ Off t a.ownBlock ∧ Off t b.ownBlock ∧ Off t c.ownBlock)
    (hr : W2.ownsRow lo 27 3 a' (M.length + Y.length) (M.flatMap TraceD.cells ++ Y.flatMap TraceD.cells)) (hg : W1.grownBy W2 a.ownBlock) (hat : a'.ownBlock = a.ownBlock ∨ a'.ownBlock = some W1.heap.size) : RowsR lo W2 a' b c (M ++ Y) N K := by
  have hsz := hb.size
  have hlb : ∀ x, b.ownBlock = some x → x < W.heap.size := fun x hx => (h.rb.lt x hx).2
  have hlc : ∀ x, c.ownBlock = some x → x < W.heap.size := fun x hx => (h.rc.lt x hx).2
  have hkb : ∀ g, b.ownBlock = some g → W2.heap[g]? = W1.heap[g]? := fun g hg' => hg.block g (by have := hlb g hg'; omega) fun e => by
    rcases h.ab with h0 | h0
    · rw [h0] at e; cases e
    · exact h0 (e.symm.trans hg'.symm)
  have hkc : ∀ g, c.ownBlock = some g → W2.heap[g]? = W1.heap[g]? := fun g hg' => hg.block g (by have := hlc g hg'; omega) fun e => by
    rcases h.ca with h0 | h0
    · rw [h0] at hg'; cases hg'
    · exact h0 (hg'.trans e)
  have hnew : ∀ t : TraceD, TrIn W1 t → Off t a.ownBlock → Off t a'.ownBlock := fun t h1 h2 x hx e => by
    rcases hat with e' | e'
    · exact h2 x hx (e.trans e')
    · have h3 := h1.2 x hx
      have h4 := Option.some.inj (e.trans e')
      omega
  refine ⟨by rw [List.length_append, List.flatMap_append]; exact hr, row_same (row_keep h.rb hb) hkb, row_same (row_keep h.rc hb) hkc, ?_, h.bc, ?_, fun t ht => ?_⟩
  · rcases hat with e | e
    · rw [e]; exact h.ab
    · refine .inr fun e' => ?_
      have := hlb _ (e'.symm.trans e)
      omega
  · rcases hat with e | e
    · rw [e]; exact h.ca
    · refine .inr fun e' => ?_
      have := hlc _ (e'.trans e)
      omega
  · have hold : (t ∈ M ∨ t ∈ N ∨ t ∈ K) ∨ t ∈ Y := by
      rcases ht with ht | ht
      · rcases List.mem_append.1 ht with ht | ht
        · exact .inl (.inl ht)
        · exact .inr ht
      · exact .inl (.inr ht)
    have h1 : TrIn W1 t ∧ Off t a.ownBlock ∧ Off t b.ownBlock ∧ Off t c.ownBlock := by
      rcases hold with ht | ht
      · exact ⟨(h.m t ht).1.below hb, (h.m t ht).2⟩
      · exact hY t ht
    exact ⟨h1.1.grown hg h1.2.1, hnew t h1.1 h1.2.1, h1.2.2⟩
/-- A row as a list. -/
theorem RowsR.lst {lo : Nat} {W : World} {a b c : Value} {M N K : List TraceD} (h : RowsR lo W a b c M N K) {Z : List BT} (hZ : M.map TraceD.bare = Z) (hl : Z.length ≤ 1000) (hg : ∀ z ∈ Z, goodB z) : Lst W a Z := by
  obtain ⟨A, c', rfl, hn, hr⟩ := row_range (cells := TraceD.cells) (fun _ => rfl) h.ra
  exact ⟨A, c', M, rfl, hr, fun t ht => (h.m t (.inl ht)).1, hZ, by rw [← hZ, List.length_map] at hl; exact hl, hg⟩
/-- One trace of a row, as a list. -/
theorem Lst.one {B lo g c n : Nat} {M : List TraceD} {W : World} (h : OutT B lo (.slice (some ⟨g, 0, none⟩) n c) M W) (hn : M.length = n) {Z : List BT} (hZ : M.map TraceD.bare = Z) (hg : ∀ z ∈ Z, goodB z) (j : Nat) (hj : j < Z.length) (c' : Nat) :
    Lst W (.slice (some ⟨g, j * 3, none⟩) 1 c') [Z[j]] := by
  subst hZ
  subst hn
  rw [List.length_map] at hj
  refine ⟨some ⟨g, j * 3, none⟩, c', [M[j]], rfl, fun k hk => ⟨g, j * 3, rfl, fun i u hu => ?_⟩, fun t ht => ?_, by simp, by simp, fun z hz => ?_⟩
  · have hk0 : k = 0 := by simpa using hk
    subst hk0
    have hi : i < 3 := by
      have := (List.getElem?_eq_some_iff.1 hu).1
      rwa [cellsT_len] at this
    have h1 := h.1.cellAt (j * 3 + i) (by omega)
    rw [show j * 3 + 0 * 3 + i = j * 3 + i by omega, h1]
    exact (cellsT_get hj hi).trans hu
  · rw [List.mem_singleton.1 ht]
    exact (h.2 _ (List.getElem_mem hj)).1.in
  · rw [List.mem_singleton.1 hz]
    exact hg _ (List.getElem_mem _)
theorem wpList_append_any {P : Program} {w : World} {ops : Array Oper} {rest : List Oper} {o : Oper} {a : Act} {Q : Exit → Act → World → Prop} (hgd : o.guard = none) (s x : Operand) (t : TypeId)
    (ho : o.op = .call { callee := .builtin .append, args := #[s, x], argTypes := #[t, t] })
    (base : Nat) (e : TypeId) (i : TypeInfo) (z : Value) (size : Nat) (ht : P.underlying t = some (.slice e)) (hi : P.info? e = some i) (hz : i.zero = some z)
    (hsize : i.size = size) (hby : i.bytes ≤ 1000) (hzs : z.cells.size = size) (hsz : 0 < size)
    (v : Value) (n : Nat) (xs : List Value) (hs : a.eval s = v) (hown : w.ownsRow base e size v n xs)
    (ad : Option Addr) (m c : Nat) (news : List Value) (hx : a.eval x = .slice ad m c) (hl : news.length = m * size) (hnil : ad = none → m = 0 ∧ c = 0) (hnews : ∀ p, ad = some p → ∀ j u, news[j]? = some u → w.cell? (p.add j) = some u) (h1 : ∀ u ∈ news, u.oneCell' = true)
    (h63 : n + m ≤ 1000) (hbase : base ≤ w.heap.size)
    (h : ∀ v' w', w'.ownsRow base e size v' (n + m) (xs ++ news) → w.grownBy w' v.ownBlock → (v'.ownBlock = v.ownBlock ∨ v'.ownBlock = some w.heap.size) → wpList P ops Q rest (a.put o.dst v') w') : wpList P ops Q (o :: rest) a w :=
  wpList_plain hgd fun _ hK => wp_append_any s x t ho base e i z size ht hi hz hsize hby hzs hsz v n xs hs hown ad m c news hx hl hnil hnews h1 h63 hbase fun v' w' h2 h3 h5 => hK _ _ (h v' w' h2 h3 h5)
/-- The ids and weights of a list. -/
theorem Lst.cells {W : World} {A : Option Addr} {n c : Nat} {Z : List BT} (h : Lst W (.slice A n c) Z) {j : Nat} (hj : j < Z.length) : ∃ b o, A = some ⟨b, o, none⟩ ∧ W.cell? ⟨b, o + j * 3, none⟩ = some (.int .i64 Z[j].1) ∧ W.cell? ⟨b, o + j * 3 + 1, none⟩ = some (.int .i64 Z[j].2.1) := by
  obtain ⟨A', c', L, e, h1, h2, rfl, _⟩ := h
  cases e
  rw [List.length_map] at hj
  obtain ⟨b, o, e, f0, f1, _⟩ := traces_cells h1 hj
  rw [List.getElem_map]
  exact ⟨b, o, e, f0, f1⟩
/-- The ids and weights of a list and of one in reverse order. -/
theorem pair_cells {W : World} {A B : Option Addr} {n m c d : Nat} {Z : List BT} (hc : Lst W (.slice A n c) Z.reverse) (hy : Lst W (.slice B m d) Z) {k i : Nat} (hk : Z.length = k) (hi : i < k) : ∃ b o b' o' x y, A = some ⟨b, o, none⟩ ∧ B = some ⟨b', o', none⟩ ∧ W.cell? ⟨b, o + i * 3, none⟩ = some (.int .i64 x) ∧ W.cell? ⟨b, o + i * 3 + 1, none⟩ = some (.int .i64 y) ∧
    W.cell? ⟨b', o' + (k - 1 - i) * 3, none⟩ = some (.int .i64 x) ∧ W.cell? ⟨b', o' + (k - 1 - i) * 3 + 1, none⟩ = some (.int .i64 y) := by
  subst hk
  obtain ⟨b, o, e, f0, f1⟩ := hc.cells (j := i) (by rw [List.length_reverse]; exact hi)
  obtain ⟨b', o', e', g0, g1⟩ := hy.cells (j := Z.length - 1 - i) (by omega)
  rw [List.getElem_reverse] at f0 f1
  exact ⟨b, o, b', o', _, _, e, e', f0, f1, g0, g1⟩
/-- The cells of a trace of a row. -/
theorem OutT.cells {B lo g n c : Nat} {M : List TraceD} {W : World} (h : OutT B lo (.slice (some ⟨g, 0, none⟩) n c) M W) (hn : M.length = n) {k : Nat} (hk : k < M.length) : W.cell? ⟨g, k * 3, none⟩ = some (.int .i64 M[k].id) ∧ W.cell? ⟨g, k * 3 + 1, none⟩ = some (.int .i64 M[k].weight) ∧ W.cell? ⟨g, k * 3 + 2, none⟩ = some (.slice M[k].A M[k].spans.length M[k].c) := by
  subst hn
  have f : ∀ i v, i < 3 → M[k].cells[i]? = some v → W.cell? ⟨g, k * 3 + i, none⟩ = some v := fun i v hi hv => by
    have h1 := h.1.cellAt (k * 3 + i) (by omega)
    rw [h1]
    exact (cellsT_get hk hi).trans hv
  exact ⟨f 0 _ (by omega) rfl, f 1 _ (by omega) rfl, f 2 _ (by omega) rfl⟩
end Go.Proofs.YtnddlpfmagdbfaaGreatDoor.Sto
/- The walk of the law SamplingAlone. -/
namespace Go.Proofs.YtnddlpfmagdbfaaGreatDoor.Sto
open Go Go.Ev Go.Proofs Go.RowKit
set_option linter.unusedVariables false
set_option linter.unusedSimpArgs false
set_option maxHeartbeats 8000000 in
set_option maxRecDepth 20000 in
theorem alone_walk (a : Option Addr) (ts : List TreeD) (c : Nat) (o0 o1 o2 o3 : Int) (b : Option Addr) (m d : Nat) (q : Int) (A : Option Addr) (L : List (Int × Int)) (cA : Nat) (dA n0 n1 n2 n3 : Int) (w : World) (ty : Nat → TypeId) (hl : laidG w ty gl) (hs : StoryArg w a ts o0 o1 o2 o3 m q) (hA : PlanArg w A L dA) (hn : isU8 n0 ∧ isU8 n1 ∧ isU8 n2 ∧ isU8 n3) :
    Calls Tryz.prog 7 #[.agg #[.slice a ts.length c, .int .i8 o0, .int .i8 o1, .int .i8 o2, .int .i8 o3, .slice b m d, .int .u8 q], .agg #[.slice A L.length cA, .int .u8 dA], .agg #[.int .u8 n0, .int .u8 n1, .int .u8 n2, .int .u8 n3]] w fun e w' => e = .returned (.bool true) ∧ Below w.heap.size w w' := by
  have HL := Lib.hid hl
  have HS := Lib.hid hs
  have HA := Lib.hid hA
  have HN := Lib.hid hn
  obtain ⟨⟨hn0, hn0'⟩, ⟨hn1, hn1'⟩, ⟨hn2, hn2'⟩, hn3, hn3'⟩ := hn
  obtain ⟨W0, hW0⟩ : ∃ W0, W0 = ((w.alloc (.cells #[.slice a ts.length c, .int .i8 o0, .int .i8 o1, .int .i8 o2, .int .i8 o3, .slice b m d, .int .u8 q] 52)).alloc (.cells #[.slice A L.length cA, .int .u8 dA] 55)).alloc (.cells #[.int .u8 n0, .int .u8 n1, .int .u8 n2, .int .u8 n3] 56) := ⟨_, rfl⟩
  have hB0 : Hid (Below w.heap.size w W0) := Lib.hid (by rw [hW0]; exact (((Below.refl _ w).alloc (Nat.le_refl _) _).alloc (by simp) _).alloc (by simp; omega) _)
  have hpb : Hid (W0.heap[w.heap.size + 1]? = some (.cells #[.slice A L.length cA, .int .u8 dA] 55 (0, 0))) := Lib.hid (by rw [hW0]; exact (Grew.alloc _ _).blk (blk_new' _ _ _ _ (by simp)))
  have hfs : Hid (FourS w.heap.size a ts.length c o0 o1 o2 o3 b m d q (w.heap.size + 2) n0 n1 n2 n3 W0) := Lib.hid (by
    have h2 : W0.heap[w.heap.size + 2]? = some (.cells #[.int .u8 n0, .int .u8 n1, .int .u8 n2, .int .u8 n3] 56 (0, 0)) := by rw [hW0]; exact blk_new' _ _ _ _ (by simp)
    exact ⟨by rw [hW0]; exact ((Grew.alloc _ _).trans (Grew.alloc _ _)).blk (blk_new _ _ _), cell_blk h2 0 rfl, cell_blk h2 1 rfl, cell_blk h2 2 rfl, cell_blk h2 3 rfl⟩)
  clear hl hs hA
  go_enter Tryz.func7, Tryz.ntmps7
  go_wp2_with fail
  rw [← hW0]
  clear hW0
  (with_reducible refine (known_at HL.out _ hB0.out).mono ?_)
  rintro e w1 ⟨rfl, hb1⟩
  have hB1 := Lib.hid (hB0.out.trans (hb1.mono hB0.out.size))
  have hp1 := Lib.hid (blk_keep hb1 hpb.out)
  have hf1 := Lib.hid (hfs.out.below hb1)
  clear hb1 hpb hfs hB0
  obtain ⟨b0, b1, b2, b3, b4, b5, b6, _⟩ := StoryB.cells (show StoryB w1 w.heap.size a ts.length c o0 o1 o2 o3 b m d q from hf1.out.1)
  go_wp2_with fail
  (with_reducible refine (short_any _ _ _ _ _ _ _ _ _ _ _ _ (HS.out.at_.below hB1.out) HS.out.len HS.out.syn HS.out.cl).mono ?_)
  rintro e w2 ⟨⟨r, rfl, hr⟩, hb2⟩
  have hB2 := Lib.hid (hB1.out.trans (hb2.mono hB1.out.size))
  have hp2 := Lib.hid (blk_keep hb2 hp1.out)
  have hf2 := Lib.hid (hf1.out.below hb2)
  clear hb2 hp1 hf1 b0 b1 b2 b3 b4 b5 b6
  cases r with
  | false =>
    clear hr
    go_wp2_with fail
    (with_reducible refine (known_at HL.out _ hB2.out).mono ?_)
    rintro e w3 ⟨rfl, hb3⟩
    have hB3 := Lib.hid (hB2.out.trans (hb3.mono hB2.out.size))
    go_wp2_with fail
    go_ret
    exact ⟨rfl, hB3.out⟩
  | true =>
    obtain ⟨h1, _, h2⟩ := hr rfl
    have HT := Lib.hid (HS.out.ok h1 h2)
    clear hr h1 h2
    go_upto_region 3 with (fail)
    refine wp_region_held_drew (S := FourS w.heap.size a ts.length c o0 o1 o2 o3 b m d q (w.heap.size + 2) n0 n1 n2 n3) (by kernel_rfl) (hf2.out.below (below_drew _)) (fun hHeld => ?_)
    refine take_at (i := 0) rfl (by kernel_rfl) (by kernel_rfl) (by kernel_rfl) (fun _ _ _ h => h) (yieldsIf_load_mid (by rfl) 52 (.tmp 3) rfl w.heap.size 0 rfl [.slice a ts.length c, .int .i8 o0, .int .i8 o1, .int .i8 o2, .int .i8 o3, .slice b m d, .int .u8 q] _ (fun W hW' => rangeAt_blk hW'.1) Tryz.underlying52 rfl (by kernel_rfl)) hHeld ?_
    try simp only [Act.put, List.setIfInBounds_toArray, List.set_cons_zero, List.set_cons_succ]
    refine take_at (i := 1) (v := ?_) rfl (by kernel_rfl) (by kernel_rfl) (by kernel_rfl) (fun _ _ _ h => h) (Or.inl ⟨by rfl, ?_⟩) hHeld ?_
    rotate_left
    · intro W hSw; (try dsimp only at hSw); unfold FourS at hSw; go_simp; try with_reducible rfl
    try simp only [Act.put, List.setIfInBounds_toArray, List.set_cons_zero, List.set_cons_succ]
    refine take_at (i := 2) (v := ?_) rfl (by kernel_rfl) (by kernel_rfl) (by kernel_rfl) (fun _ _ _ h => h) (Or.inl ⟨by rfl, ?_⟩) hHeld ?_
    rotate_left
    · intro W hSw; (try dsimp only at hSw); unfold FourS at hSw; go_simp; try with_reducible rfl
    try simp only [Act.put, List.setIfInBounds_toArray, List.set_cons_zero, List.set_cons_succ]
    refine take_at (i := 3) (v := ?_) rfl (by kernel_rfl) (by kernel_rfl) (by kernel_rfl) (fun _ _ _ h => h) (Or.inl ⟨by rfl, ?_⟩) hHeld ?_
    rotate_left
    · intro W hSw; (try dsimp only at hSw); unfold FourS at hSw; go_simp; try with_reducible rfl
    try simp only [Act.put, List.setIfInBounds_toArray, List.set_cons_zero, List.set_cons_succ]
    refine take_at (i := 4) (v := ?_) rfl (by kernel_rfl) (by kernel_rfl) (by kernel_rfl) (fun _ _ _ h => h) (Or.inl ⟨by rfl, ?_⟩) hHeld ?_
    rotate_left
    · intro W hSw; (try dsimp only at hSw); unfold FourS at hSw; go_simp; try with_reducible rfl
    try simp only [Act.put, List.setIfInBounds_toArray, List.set_cons_zero, List.set_cons_succ]
    refine take_at (i := 5) (v := ?_) rfl (by kernel_rfl) (by kernel_rfl) (by kernel_rfl) (fun _ _ _ h => h) (Or.inl ⟨by rfl, ?_⟩) hHeld ?_
    rotate_left
    · intro W hSw; (try dsimp only at hSw); unfold FourS at hSw; go_simp; try with_reducible rfl
    try simp only [Act.put, List.setIfInBounds_toArray, List.set_cons_zero, List.set_cons_succ]
    refine take_at (i := 6) (v := ?_) rfl (by kernel_rfl) (by kernel_rfl) (by kernel_rfl) (fun _ _ _ h => h) (Or.inl ⟨by rfl, ?_⟩) hHeld ?_
    rotate_left
    · intro W hSw; (try dsimp only at hSw); unfold FourS at hSw; go_simp; try with_reducible rfl
    try simp only [Act.put, List.setIfInBounds_toArray, List.set_cons_zero, List.set_cons_succ]
    refine take_at (i := 7) (v := ?_) rfl (by kernel_rfl) (by kernel_rfl) (by kernel_rfl) (fun _ _ _ h => h) (Or.inl ⟨by rfl, ?_⟩) hHeld ?_
    rotate_left
    · intro W hSw; (try dsimp only at hSw); unfold FourS at hSw; go_simp; try with_reducible rfl
    try simp only [Act.put, List.setIfInBounds_toArray, List.set_cons_zero, List.set_cons_succ]
    refine take_at (i := 9) (v := ?_) rfl (by kernel_rfl) (by kernel_rfl) (by kernel_rfl) (fun _ _ _ h => h) (Or.inl ⟨by rfl, ?_⟩) hHeld ?_
    rotate_left
    · intro W hSw; (try dsimp only at hSw); unfold FourS at hSw; go_simp; try with_reducible rfl
    try simp only [Act.put, List.setIfInBounds_toArray, List.set_cons_zero, List.set_cons_succ]
    refine take_at (i := 10) (v := ?_) rfl (by kernel_rfl) (by kernel_rfl) (by kernel_rfl) (fun _ _ _ h => h) (Or.inl ⟨by rfl, ?_⟩) hHeld ?_
    rotate_left
    · intro W hSw; (try dsimp only at hSw); unfold FourS at hSw; go_simp; try with_reducible rfl
    try simp only [Act.put, List.setIfInBounds_toArray, List.set_cons_zero, List.set_cons_succ]
    refine take_at (i := 11) (v := ?_) rfl (by kernel_rfl) (by kernel_rfl) (by kernel_rfl) (fun _ _ _ h => h) (Or.inl ⟨by rfl, ?_⟩) hHeld ?_
    rotate_left
    · intro W hSw; (try dsimp only at hSw); unfold FourS at hSw; go_simp; try with_reducible rfl
    try simp only [Act.put, List.setIfInBounds_toArray, List.set_cons_zero, List.set_cons_succ]
    refine take_at (i := 12) (v := ?_) rfl (by kernel_rfl) (by kernel_rfl) (by kernel_rfl) (fun _ _ _ h => h) (Or.inl ⟨by rfl, ?_⟩) hHeld ?_
    rotate_left
    · intro W hSw; (try dsimp only at hSw); unfold FourS at hSw; go_simp; try with_reducible rfl
    try simp only [Act.put, List.setIfInBounds_toArray, List.set_cons_zero, List.set_cons_succ]
    have hBd := Lib.hid (hB2.out.trans ((below_drew w2).mono hB2.out.size))
    refine wpAnyH_one 8 (by kernel_rfl) rfl (by rfl) (fun K hK => ?_)
    go_simp
    (with_reducible refine (tr24_any _ _ _ _ _ _ _ _ _ _ _ _ _ _ ⟨HN.out.1, HN.out.2.1, HN.out.2.2.1⟩ HS.out.q HS.out.o _ (HS.out.at_.below hBd.out) HT.out).mono ?_)
    rintro e w3 ⟨⟨vl, tds, rfl, hO, hZ, hl3, hg3⟩, hb3⟩
    have hB3 := Lib.hid (hBd.out.trans (hb3.mono hBd.out.size))
    have hp3 := Lib.hid (blk_keep hb3 (blk_keep (below_drew w2) hp2.out))
    have hf3 := hHeld.below hb3
    have k_l := Lib.hid (Lst.out hO hZ (by omega) hg3)
    have HO3 := Lib.hid hO
    have HZ := Lib.hid hZ
    have HG := Lib.hid hg3
    have hlt0 : tds.length ≤ 3 := hl3
    clear hb3 hl3 hO hZ hg3
    refine hK _ _ hf3 ?_
    clear hK K
    try simp only [Act.put, List.setIfInBounds_toArray, List.set_cons_zero, List.set_cons_succ]
    refine wpAnyH_one 13 (by kernel_rfl) rfl (by rfl) (fun K hK => ?_)
    go_simp
    refine hK _ _ hf3 ?_
    clear hK K
    try simp only [Act.put, List.setIfInBounds_toArray, List.set_cons_zero, List.set_cons_succ]
    refine wpAnyH_one 14 (by kernel_rfl) rfl (by rfl) (fun K hK => ?_)
    go_simp
    refine hK _ _ hf3 ?_
    clear hK K
    refine wpAnyH_done (by kernel_rfl) ?_ _
    try simp only [Act.put, List.setIfInBounds_toArray, List.set_cons_zero, List.set_cons_succ]
    clear hf3 hHeld hf2 hp2 hB2 hBd
    obtain ⟨sd, hsd⟩ : ∃ sd, sd = IntKind.i64.wrap (4 * IntKind.i64.wrap n3) := ⟨_, rfl⟩
    have sd0 : 0 ≤ sd := by rw [hsd, wrap_small n3 (by omega) (by omega), wrap_small _ (by omega) (by omega)]; omega
    have sd1 : sd < 1024 := by rw [hsd, wrap_small n3 (by omega) (by omega), wrap_small _ (by omega) (by omega)]; omega
    rw [← hsd, wrap_small n3 (by omega) (by omega)]
    clear hsd
    obtain ⟨Z0, hZ0⟩ : ∃ Z, Z = weighB n0 n1 n2 (tracesX ts o0 o1 o2 o3 q) := ⟨_, rfl⟩
    rw [← hZ0] at k_l HZ HG
    clear hZ0
    obtain ⟨n, hn⟩ : ∃ n, n = tds.length := ⟨_, rfl⟩
    have hZl : Z0.length = n := by rw [← HZ.out, List.length_map, hn]
    obtain ⟨aL, cL, rfl, hav⟩ := row_forms3 HO3.out.1
    rw [← hn] at HO3 hav hlt0 k_l ⊢
    have hn' := Lib.hid hn.symm
    have HZL := Lib.hid hZl
    clear hn hZl
    have c0 := cell_blk hp3.out 0 rfl
    have c1 := cell_blk hp3.out 1 rfl
    go_wp2_with fail
    (with_reducible refine (policy_ok _ _ _ _ HA.out.d HA.out.len _ (HA.out.at_.below hB3.out)).mono ?_)
    rintro e w4 ⟨⟨p1, rfl, qa, qb, qc, qd⟩, hb⟩
    have QA1 := Lib.hid qa
    have QB1 := Lib.hid qb
    have QC1 := Lib.hid qc
    have QD1 := Lib.hid qd
    have hB4 := Lib.hid (hB3.out.trans (hb.mono hB3.out.size))
    have hp4 := Lib.hid (blk_keep hb hp3.out)
    have k_l := Lib.hid (k_l.out.below hb)
    have HO4 := Lib.hid (HO3.out.below hb)
    clear qa qb qc qd hb hB3 hp3 c0 c1 HO3
    go_wp2_with fail
    (with_reducible refine (sample_ok p1 _ _ _ _ QA1.out QB1.out QC1.out sd0 sd1 k_l.out ((gl_tab HL.out).below hB4.out)).mono ?_)
    rintro e w5 ⟨⟨x, y, rfl, hx, hy⟩, hb⟩
    have hB5 := Lib.hid (hB4.out.trans (hb.mono hB4.out.size))
    have hp5 := Lib.hid (blk_keep hb hp4.out)
    have k_y := Lib.hid hx
    have k_n := Lib.hid hy
    have HO5 := Lib.hid (HO4.out.below hb)
    obtain ⟨ay, cy, rfl⟩ := hx.length
    obtain ⟨an, cn, rfl⟩ := hy.length
    clear hx hy hb hB4 hp4 HO4 k_l
    have HOFF := Lib.hid (fun t (ht : t ∈ tds) => (HO5.out.2 t ht).1.in)
    go_wp2_with fail
    go_loopw [12, 13, 14, 15] (fun vk va vb i wr => ∃ (j : Nat) (M N K : List TraceD), j ≤ n ∧ i = .int .i64 (j : Int) ∧ Hid (RowsR w5.heap.size wr va vb vk M N K) ∧ Hid (M.map TraceD.bare = stepK 5 p1 sd (Z0.take j) ∧ N.map TraceD.bare = stepG 5 p1 sd (Z0.take j) ∧ K.map TraceD.bare = Z0.reverse.take j) ∧ Hid (Below w5.heap.size w5 wr)) (fun _ _ _ i _ => n - (intOf i).toNat)
    case atStart => exact ⟨0, [], [], [], by omega, rfl, Lib.hid (RowsR.nil _ _), Lib.hid ⟨rfl, rfl, rfl⟩, Lib.hid (Below.refl _ _)⟩
    case round =>
      obtain ⟨j, M, N, K, hj, rfl, hR, hV, hW⟩ := hrel
      have hp := Lib.hid (blk_keep hW.out hp5.out)
      have hBr := Lib.hid (hB5.out.trans (hW.out.mono hB5.out.size))
      have HOr := Lib.hid (HO5.out.below hW.out)
      by_cases hlt : j < n
      · have hlt2 : decide (j < n) = true := decide_eq_true hlt
        obtain ⟨g, rfl, hnc, hcm⟩ : ∃ g, aL = some ⟨g, 0, none⟩ ∧ n ≤ cL ∧ cL ≤ maxLen := by
          rcases hav with ⟨_, h0, _⟩ | h
          · omega
          · exact h
        have hcj : ¬ cL = j := by omega
        have hwj : IntKind.i64.wrap ((j : Int) + 1) = (j : Int) + 1 := wrap_small _ (by omega) (by omega)
        have hj1 : (0 : Int) ≤ (j : Int) + 1 := by omega
        have hj2 : (j : Int) + 1 ≤ (cL : Int) := by omega
        have hj3 : ((j : Int) + 1).toNat = j + 1 := by omega
        have hj4 : j + 1 - j = 1 := by omega
        go_upto_region 9 with (fail)
        refine wp_region_held_drew (S := fun W => W.heap[w.heap.size + 1]? = some (.cells #[.slice A L.length cA, .int .u8 dA] 55 (0, 0))) (by kernel_rfl) (blk_keep (below_drew _) hp.out) (fun hHeld => ?_)
        refine take_at (i := 0) rfl (by kernel_rfl) (by kernel_rfl) (by kernel_rfl) (fun _ _ _ h => h) (yieldsIf_load_mid (by rfl) 55 (.tmp 4) rfl (w.heap.size + 1) 0 rfl [.slice A L.length cA, .int .u8 dA] _ (fun W hW' => rangeAt_blk hW') Tryz.underlying55 rfl (by kernel_rfl)) hHeld ?_
        try simp only [Act.put, List.setIfInBounds_toArray, List.set_cons_zero, List.set_cons_succ]
        refine take_at (i := 2) (v := ?_) rfl (by kernel_rfl) (by kernel_rfl) (by kernel_rfl) (fun _ _ _ h => h) (Or.inl ⟨by rfl, ?_⟩) hHeld ?_
        rotate_left
        · intro W hSw; (try dsimp only at hSw); go_simp; try with_reducible rfl
        try simp only [Act.put, List.setIfInBounds_toArray, List.set_cons_zero, List.set_cons_succ]
        refine take_at (i := 3) (v := ?_) rfl (by kernel_rfl) (by kernel_rfl) (by kernel_rfl) (fun _ _ _ h => h) (Or.inl ⟨by rfl, ?_⟩) hHeld ?_
        rotate_left
        · intro W hSw; (try dsimp only at hSw); go_simp; try with_reducible rfl
        try simp only [Act.put, List.setIfInBounds_toArray, List.set_cons_zero, List.set_cons_succ]
        refine take_at (i := 4) (v := ?_) rfl (by kernel_rfl) (by kernel_rfl) (by kernel_rfl) (fun _ _ _ h => h) (Or.inl ⟨by rfl, ?_⟩) hHeld ?_
        rotate_left
        · intro W hSw; (try dsimp only at hSw); go_simp; try with_reducible rfl
        try simp only [Act.put, List.setIfInBounds_toArray, List.set_cons_zero, List.set_cons_succ]
        refine take_at (i := 5) (v := ?_) rfl (by kernel_rfl) (by kernel_rfl) (by kernel_rfl) (fun _ _ _ h => h) (Or.inl ⟨by rfl, ?_⟩) hHeld ?_
        rotate_left
        · intro W hSw; (try dsimp only at hSw); go_simp; try with_reducible rfl
        try simp only [Act.put, List.setIfInBounds_toArray, List.set_cons_zero, List.set_cons_succ]
        refine take_at (i := 6) (v := ?_) rfl (by kernel_rfl) (by kernel_rfl) (by kernel_rfl) (fun _ _ _ h => h) (Or.inl ⟨by rfl, ?_⟩) hHeld ?_
        rotate_left
        · intro W hSw; (try dsimp only at hSw); go_simp; try with_reducible rfl
        try simp only [Act.put, List.setIfInBounds_toArray, List.set_cons_zero, List.set_cons_succ]
        refine take_at (i := 7) (v := ?_) rfl (by kernel_rfl) (by kernel_rfl) (by kernel_rfl) (fun _ _ _ h => h) (Or.inl ⟨by rfl, ?_⟩) hHeld ?_
        rotate_left
        · intro W hSw; (try dsimp only at hSw); go_simp; try with_reducible rfl
        try simp only [Act.put, List.setIfInBounds_toArray, List.set_cons_zero, List.set_cons_succ]
        have hBd := Lib.hid (hBr.out.trans ((below_drew wr).mono hBr.out.size))
        have hWd := Lib.hid (hW.out.trans ((below_drew wr).mono hW.out.size))
        have hOd := Lib.hid (HOr.out.below (below_drew wr))
        have hRd := Lib.hid (hR.out.below (below_drew wr))
        have hlz : j < Z0.length := by rw [HZL.out]; exact hlt
        have k_1 := Lib.hid (Lst.one hOd.out hn'.out HZ.out HG.out j hlz (cL - j))
        refine wpAnyH_one 1 (by kernel_rfl) rfl (by rfl) (fun K hK => ?_)
        go_simp
        (with_reducible refine (policy_ok _ _ _ _ HA.out.d HA.out.len _ (HA.out.at_.below hBd.out)).mono ?_)
        rintro e W2 ⟨⟨p2, rfl, qa, qb, qc, qd⟩, hb⟩
        have QA2 := Lib.hid qa
        have QB2 := Lib.hid qb
        have QC2 := Lib.hid qc
        have QD2 := Lib.hid qd
        have hB2 := Lib.hid (hBd.out.trans (hb.mono hBd.out.size))
        have hW2 := Lib.hid (hWd.out.trans (hb.mono hWd.out.size))
        have k_1 := Lib.hid (k_1.out.below hb)
        have hR2 := Lib.hid (hRd.out.below hb)
        have hH2 := blk_keep hb hHeld
        clear qa qb qc qd hb
        refine hK _ _ hH2 ?_
        clear hK K
        try simp only [Act.put, List.setIfInBounds_toArray, List.set_cons_zero, List.set_cons_succ]
        refine wpAnyH_one 8 (by kernel_rfl) rfl (by rfl) (fun K hK => ?_)
        go_simp
        (with_reducible refine (sample_two p2 _ _ _ _ QA2.out QB2.out QC2.out sd0 sd1 k_1.out ((gl_tab HL.out).below hB2.out)).mono ?_)
        rintro e W3 ⟨⟨x, y, M1, N1, rfl, hT, hM1, hN1, _, _⟩, hb⟩
        have hB3 := Lib.hid (hB2.out.trans (hb.mono hB2.out.size))
        have hW3 := Lib.hid (hW2.out.trans (hb.mono hW2.out.size))
        have hT3 := Lib.hid hT
        have hR3 := Lib.hid (hR2.out.below hb)
        have hH3 := blk_keep hb hH2
        rw [stepK_same QD2.out QD1.out] at hM1
        rw [stepG_same QD2.out QD1.out] at hN1
        have hM3 := Lib.hid hM1
        have hN3 := Lib.hid hN1
        clear hb hT hM1 hN1
        refine hK _ _ hH3 ?_
        clear hK K
        try simp only [Act.put, List.setIfInBounds_toArray, List.set_cons_zero, List.set_cons_succ]
        refine wpAnyH_one 9 (by kernel_rfl) rfl (by rfl) (fun K hK => ?_)
        go_simp
        refine hK _ _ hH3 ?_
        clear hK K
        try simp only [Act.put, List.setIfInBounds_toArray, List.set_cons_zero, List.set_cons_succ]
        refine take_at (i := 10) (v := ?_) rfl (by kernel_rfl) (by kernel_rfl) (by kernel_rfl) (fun _ _ _ h => h) (Or.inl ⟨by rfl, ?_⟩) hH3 ?_
        rotate_left
        · intro W hSw; (try dsimp only at hSw); go_simp; try with_reducible rfl
        try simp only [Act.put, List.setIfInBounds_toArray, List.set_cons_zero, List.set_cons_succ]
        refine take_at (i := 11) (v := ?_) rfl (by kernel_rfl) (by kernel_rfl) (by kernel_rfl) (fun _ _ _ h => h) (Or.inl ⟨by rfl, ?_⟩) hH3 ?_
        rotate_left
        · intro W hSw; (try dsimp only at hSw); go_simp; try with_reducible rfl
        try simp only [Act.put, List.setIfInBounds_toArray, List.set_cons_zero, List.set_cons_succ]
        refine take_at (i := 12) (v := ?_) rfl (by kernel_rfl) (by kernel_rfl) (by kernel_rfl) (fun _ _ _ h => h) (Or.inl ⟨by rfl, ?_⟩) hH3 ?_
        rotate_left
        · intro W hSw; (try dsimp only at hSw); go_simp; try with_reducible rfl
        try simp only [Act.put, List.setIfInBounds_toArray, List.set_cons_zero, List.set_cons_succ]
        refine wpAnyH_one 13 (by kernel_rfl) rfl (by rfl) (fun K hK => ?_)
        go_simp
        refine hK _ _ hH3 ?_
        clear hK K
        try simp only [Act.put, List.setIfInBounds_toArray, List.set_cons_zero, List.set_cons_succ]
        refine wpAnyH_one 14 (by kernel_rfl) rfl (by rfl) (fun K hK => ?_)
        go_simp
        refine hK _ _ hH3 ?_
        clear hK K
        try simp only [Act.put, List.setIfInBounds_toArray, List.set_cons_zero, List.set_cons_succ]
        refine wpAnyH_one 15 (by kernel_rfl) rfl (by rfl) (fun K hK => ?_)
        go_simp
        refine hK _ _ hH3 ?_
        clear hK K
        try simp only [Act.put, List.setIfInBounds_toArray, List.set_cons_zero, List.set_cons_succ]
        refine wpAnyH_done (by kernel_rfl) ?_ _
        try simp only [Act.put, List.setIfInBounds_toArray, List.set_cons_zero, List.set_cons_succ]
        obtain ⟨Ax, cx, rfl, hfx⟩ := row_forms3 hT3.out.r
        obtain ⟨Ay, cy', rfl, hfy⟩ := row_forms3 hT3.out.s
        have hsz23 := hW3.out.size
        have hl1 := step_length 5 p1 sd [Z0[j]]
        have hl2 := step_length 5 p1 sd (Z0.take j)
        rw [← hM3.out, ← hN3.out] at hl1
        rw [← hV.out.1, ← hV.out.2.1] at hl2
        have hl3 := congrArg List.length hV.out.2.2
        simp only [List.length_map, List.length_cons, List.length_nil, List.length_take, List.length_reverse] at hl1 hl2 hl3
        have hlM : M.length ≤ 3 := by omega
        have hlN : N.length ≤ 3 := by omega
        have hlK : K.length ≤ 3 := by omega
        have hlM1 : M1.length ≤ 1 := by omega
        have hlN1 : N1.length ≤ 1 := by omega
        have HOF := Lib.hid (show ∀ t, t ∈ M1 ∨ t ∈ N1 → TrIn W3 t ∧ Off t u13.ownBlock ∧ Off t u14.ownBlock ∧ Off t u12.ownBlock from fun t ht => by
          have h1 : t.Own W2.heap.size W3 := ht.elim (fun h => (hT3.out.m t h).1) fun h => (hT3.out.n t h).1
          exact ⟨h1.in, fun x hx e => by have := (h1.uses x hx).1; have := (hR2.out.ra.lt _ e.symm).2; omega, fun x hx e => by have := (h1.uses x hx).1; have := (hR2.out.rb.lt _ e.symm).2; omega, fun x hx e => by have := (h1.uses x hx).1; have := (hR2.out.rc.lt _ e.symm).2; omega⟩)
        have HCX := Lib.hid (show ∀ p, Ax = some p → ∀ i u, (M1.flatMap TraceD.cells)[i]? = some u → W3.cell? (p.add i) = some u from fun p hp => by
          obtain ⟨g', rfl, _⟩ := hfx.resolve_left (fun h => by rw [hp] at h; cases h.1)
          cases hp
          exact hT3.out.r.cells rfl)
        have HCY := Lib.hid (show ∀ W', W3.grownBy W' u13.ownBlock → ∀ p, Ay = some p → ∀ i u, (N1.flatMap TraceD.cells)[i]? = some u → W'.cell? (p.add i) = some u from fun W' hg p hp i u hu => by
          obtain ⟨g', rfl, _⟩ := hfy.resolve_left (fun h => by rw [hp] at h; cases h.1)
          cases hp
          have h1 := hT3.out.s.cells rfl i u hu
          have h2 := hT3.out.s.lt g' rfl
          rw [add_spotless] at h1 ⊢
          exact (World.cell?_of_block (a := ⟨g', 0 + i, none⟩) (hg.block g' h2.2 (fun e => by have := (hR2.out.ra.lt _ e.symm).2; have := h2.1; omega))).trans h1)
        have HNX := Lib.hid (show Ax = none → M1.length = 0 ∧ cx = 0 from fun h => by rcases hfx with h' | ⟨_, h', _⟩; exact h'.2; rw [h] at h'; cases h')
        have HNY := Lib.hid (show Ay = none → N1.length = 0 ∧ cy' = 0 from fun h => by rcases hfy with h' | ⟨_, h', _⟩; exact h'.2; rw [h] at h'; cases h')
        have HLA := Lib.hid (hR3.out.ra.lt)
        have HLB := Lib.hid (hR3.out.rb.lt)
        have HLC := Lib.hid (hR3.out.rc.lt)
        obtain ⟨i0, z0, hi, hz, hsz, hby, hzs⟩ := infoSz_spec infoT
        have hi := Lib.hid hi
        have hz := Lib.hid hz
        clear hl1 hl2 hl3 hH2 hH3 hHeld hfx hfy
        go_upto_region 13 with (first
          | (at_builtin; refine wpList_append_any rfl (.tmp 74) (.tmp 75) 42 rfl w5.heap.size 27 i0 z0 3 Tryz.underlying42 hi.out hz.out hsz hby hzs (by decide) u13 M.length (M.flatMap TraceD.cells) rfl hR3.out.ra Ax M1.length cx (M1.flatMap TraceD.cells) rfl (flatT_length _) HNX.out HCX.out (flatT_one _) (by omega) (by omega) ?_; intro va' W6 hown hgr hat; have hS6 := Lib.hid (hR3.out.snoc (Below.refl _ _) (fun t ht => HOF.out t (.inl ht)) hown hgr hat); have hG6 := Lib.hid hgr; have hA6 := Lib.hid hat; have hsz6 := hgr.size; clear hown hgr hat)
          | (at_builtin; refine wpList_append_any rfl (.tmp 77) (.tmp 78) 42 rfl w5.heap.size 27 i0 z0 3 Tryz.underlying42 hi.out hz.out hsz hby hzs (by decide) u14 N.length (N.flatMap TraceD.cells) rfl hS6.out.rb Ay N1.length cy' (N1.flatMap TraceD.cells) rfl (flatT_length _) HNY.out (HCY.out _ hG6.out) (flatT_one _) (by omega) (by omega) ?_; intro vb' W7 hown hgr hat; have hS7 := Lib.hid ((hS6.out.rot.snoc (Below.refl _ _) (fun t ht => ⟨(HOF.out t (.inr ht)).1.grown hG6.out (HOF.out t (.inr ht)).2.1, (HOF.out t (.inr ht)).2.2.1, (HOF.out t (.inr ht)).2.2.2, fun x hx e => hA6.out.elim (fun e' => (HOF.out t (.inr ht)).2.1 x hx (e.trans e')) (fun e' => by have h1 := (HOF.out t (.inr ht)).1.2 x hx; have h2 := Option.some.inj (e.trans e'); omega)⟩) hown hgr hat).rot.rot); have hG7 := Lib.hid hgr; have hsz7 := hgr.size; clear hown hgr hat))
        have hw53 := hW3.out.size
        have hW7 := Lib.hid ((hW3.out.grown hG6.out hw53 (fun b hb => (HLA.out b hb).1)).grown hG7.out (by omega) (fun b hb => (HLB.out b hb).1))
        have hkn : n - 1 - j < tds.length := by rw [hn'.out]; omega
        have hO7 := Lib.hid (HO5.out.below hW7.out)
        obtain ⟨f0, f1, f2⟩ := OutT.cells hO7.out hn'.out hkn
        have HT7 := Lib.hid (HOFF.out _ (List.getElem_mem hkn))
        have hkz : n - 1 - j < Z0.length := by rw [HZL.out]; omega
        have HK7 := Lib.hid (show tds[n - 1 - j].bare = Z0[n - 1 - j] from by
          have h1 : (tds.map TraceD.bare)[n - 1 - j]? = Z0[n - 1 - j]? := by rw [HZ.out]
          rw [List.getElem?_map, List.getElem?_eq_getElem hkn, List.getElem?_eq_getElem hkz] at h1
          exact Option.some.inj h1)
        generalize tds[n - 1 - j] = t at *
        have hkn2 : n - 1 - j < n := by omega
        go_wp2_with (at_builtin; refine wpList_append_any rfl (.tmp 80) (.tmp 89) 42 rfl w5.heap.size 27 i0 z0 3 Tryz.underlying42 hi.out hz.out hsz hby hzs (by decide) u12 K.length (K.flatMap TraceD.cells) rfl (hS7.out.rc.alloc _) (some ⟨W7.heap.size, 0, none⟩) 1 1 [.int .i64 t.id, .int .i64 t.weight, .slice t.A t.spans.length t.c] rfl rfl (fun h => by cases h) (fun p hp => by cases hp; exact cells_new _ _ _) (by intro v hv; simp only [List.mem_cons, List.not_mem_nil, or_false] at hv; rcases hv with rfl | rfl | rfl <;> rfl) (by omega) (by simp; omega) ?_; intro vk' W8 hown hgr hat; have HW8 := Lib.hid hown; have HG8 := Lib.hid hgr; have HA8 := Lib.hid hat; clear hown hgr hat)
        have hsz7' := hW7.out.size
        have HT7' := Lib.hid ((HT7.out.below hW7.out).below (below_alloc W7 (.cells [Value.int .i64 t.id, .int .i64 t.weight, .slice t.A t.spans.length t.c].toArray 27)))
        have hS8 := Lib.hid ((hS7.out.rot.rot.snoc (below_alloc _ _) (Y := [t]) (fun t' ht => by
          rw [List.mem_singleton.1 ht]
          exact ⟨HT7'.out, fun x hx e => by have := HT7.out.2 x hx; have := (hS7.out.rc.lt _ e.symm).1; omega, fun x hx e => by have := HT7.out.2 x hx; have := (hS7.out.ra.lt _ e.symm).1; omega, fun x hx e => by have := HT7.out.2 x hx; have := (hS7.out.rb.lt _ e.symm).1; omega⟩) (by simpa [TraceD.cells] using HW8.out) HG8.out (by simpa using HA8.out)).rot)
        have hW8 := Lib.hid ((hW7.out.trans ((below_alloc W7 (.cells [Value.int .i64 t.id, .int .i64 t.weight, .slice t.A t.spans.length t.c].toArray 27)).mono hsz7')).grown HG8.out (by simp; omega) (fun b hb => (HLC.out b hb).1))
        have hV8 : Hid ((M ++ M1).map TraceD.bare = stepK 5 p1 sd (Z0.take (j + 1)) ∧ (N ++ N1).map TraceD.bare = stepG 5 p1 sd (Z0.take (j + 1)) ∧ (K ++ [t]).map TraceD.bare = Z0.reverse.take (j + 1)) := Lib.hid ⟨by
            rw [List.map_append, hV.out.1, hM3.out, ← stepK_append, ← take_snoc hlz], by
            rw [List.map_append, hV.out.2.1, hN3.out, ← stepG_append, ← take_snoc hlz], by
            have hr : j < Z0.reverse.length := by rw [List.length_reverse]; exact hlz
            rw [List.map_append, hV.out.2.2, take_snoc hr, List.getElem_reverse]
            show _ ++ [t.bare] = _
            rw [HK7.out]
            congr 2
            simp only [HZL.out]⟩
        exact ⟨⟨j + 1, _, _, _, by omega, by go_num, hS8, hV8, hW8⟩, by simp [intOf]; omega⟩
      · obtain rfl : j = n := by omega
        have hlt2 : decide (j < j) = false := decide_eq_false hlt
        obtain ⟨e1, e2, e3⟩ := hV.out
        rw [List.take_of_length_le (by rw [HZL.out]; exact Nat.le_refl _)] at e1 e2
        rw [List.take_of_length_le (by rw [List.length_reverse, HZL.out]; exact Nat.le_refl _)] at e3
        have hsl := step_length 5 p1 sd Z0
        rw [HZL.out] at hsl
        have hgK := good_step (p := p1) (s := sd) QB1.out HG.out
        have hgG : ∀ z ∈ stepG 5 p1 sd Z0, goodB z := fun z hz => HG.out z (List.mem_filter.1 hz).1
        have k_a := Lib.hid (hR.out.lst e1 (by omega) hgK)
        have k_b := Lib.hid (hR.out.rot.lst e2 (by omega) hgG)
        have k_k := Lib.hid (hR.out.rot.rot.lst e3 (by rw [List.length_reverse, HZL.out]; omega) (fun z hz => HG.out z (List.mem_reverse.1 hz)))
        have k_y := Lib.hid (k_y.out.below hW.out)
        have k_n := Lib.hid (k_n.out.below hW.out)
        clear hR hV hW e1 e2 e3 hgK hgG HOr
        have c0 := cell_blk hp.out 0 rfl
        have c1 := cell_blk hp.out 1 rfl
        go_wp2_with fail
        (with_reducible refine (policy_ok _ _ _ _ HA.out.d HA.out.len _ (HA.out.at_.below hBr.out)).mono ?_)
        rintro e W2 ⟨⟨p2, rfl, qa, qb, qc, qd⟩, hb⟩
        have QA2 := Lib.hid qa
        have QB2 := Lib.hid qb
        have QC2 := Lib.hid qc
        have QD2 := Lib.hid qd
        have hB2 := Lib.hid (hBr.out.trans (hb.mono hBr.out.size))
        have k_a := Lib.hid (k_a.out.below hb)
        have k_b := Lib.hid (k_b.out.below hb)
        have k_k := Lib.hid (k_k.out.below hb)
        have k_y := Lib.hid (k_y.out.below hb)
        have k_n := Lib.hid (k_n.out.below hb)
        clear qa qb qc qd hb hBr c0 c1 hp
        go_wp2_with fail
        (with_reducible refine (sample_ok p2 _ _ _ _ QA2.out QB2.out QC2.out sd0 sd1 k_k.out ((gl_tab HL.out).below hB2.out)).mono ?_)
        rintro e W3 ⟨⟨x, y, rfl, hx, hy⟩, hb⟩
        have hB3 := Lib.hid (hB2.out.trans (hb.mono hB2.out.size))
        rw [stepK_same QD2.out QD1.out, stepK_reverse] at hx
        rw [stepG_same QD2.out QD1.out, stepG_reverse] at hy
        obtain ⟨Ac, cc, rfl⟩ := hx.length
        obtain ⟨Ad, cd, rfl⟩ := hy.length
        rw [List.length_reverse, List.length_reverse]
        have k_c := Lib.hid hx
        rw [List.length_reverse] at hx hy
        have k_a := Lib.hid (k_a.out.below hb)
        have k_b := Lib.hid (k_b.out.below hb)
        have k_y := Lib.hid (k_y.out.below hb)
        have k_n := Lib.hid (k_n.out.below hb)
        clear hx hy hb hB2
        obtain ⟨nk, hnk⟩ : ∃ k, k = (stepK 5 p1 sd Z0).length := ⟨_, rfl⟩
        obtain ⟨ng, hng⟩ : ∃ k, k = (stepG 5 p1 sd Z0).length := ⟨_, rfl⟩
        rw [← hnk, ← hng] at hsl ⊢
        rw [List.length_reverse, ← hnk] at k_c
        rw [← hnk] at k_y
        rw [← hng] at k_n
        have hnk3 : nk ≤ 3 := by omega
        have HNK := Lib.hid hnk.symm
        clear hnk hng hsl
        go_wp2_with fail
        go_loopw [22] (fun i wr => ∃ l : Nat, l ≤ nk ∧ i = .int .i64 (l : Int) ∧ Hid (Below W3.heap.size W3 wr)) (fun i _ => nk - (intOf i).toNat)
        case atStart => exact ⟨0, by omega, rfl, Lib.hid (Below.refl _ _)⟩
        case round =>
          obtain ⟨l, hl, rfl, hW⟩ := hrel
          by_cases hlt : l < nk
          · have hlt2 : decide (l < nk) = true := decide_eq_true hlt
            obtain ⟨b1, o1, b2, o2, X, Y, rfl, rfl, f0, f1, g0, g1⟩ := pair_cells (k_c.out.below hW.out) (k_y.out.below hW.out) HNK.out hlt
            have hkn2 : nk - 1 - l < nk := by omega
            go_upto_region 20 with (fail)
            go_quiet (fail)
            have hW4 := Lib.hid (hW.out.trans ((below_drewN0 wr nq).mono hW.out.size))
            clear f0 f1 g0 g1
            generalize wr.drewN nq = W4 at *
            go_wp2_with fail
            exact ⟨⟨l + 1, by omega, by go_num, hW4⟩, by simp [intOf]; omega⟩
          · obtain rfl : l = nk := by omega
            have hlt2 : decide (l < l) = false := decide_eq_false hlt
            have hB4 := Lib.hid (hB3.out.trans (hW.out.mono hB3.out.size))
            have k_a := Lib.hid (k_a.out.below hW.out)
            have k_b := Lib.hid (k_b.out.below hW.out)
            have k_y := Lib.hid (k_y.out.below hW.out)
            have k_n := Lib.hid (k_n.out.below hW.out)
            go_wp2_with fail
            (with_reducible refine (same_ok _ _ _ _ k_a.out k_y.out).mono ?_)
            rintro e W5 ⟨rfl, hb⟩
            have hB5 := Lib.hid (hB4.out.trans (hb.mono hB4.out.size))
            have k_b := Lib.hid (k_b.out.below hb)
            have k_n := Lib.hid (k_n.out.below hb)
            clear hb
            go_wp2_with fail
            (with_reducible refine (same_ok _ _ _ _ k_b.out k_n.out).mono ?_)
            rintro e W6 ⟨rfl, hb⟩
            have hB6 := Lib.hid (hB5.out.trans (hb.mono hB5.out.size))
            clear hb
            go_wp2_with fail
            go_ret
            exact ⟨rfl, hB6.out⟩
end Go.Proofs.YtnddlpfmagdbfaaGreatDoor.Sto
/- Four bytes, opened out of their reading. -/
namespace Go.Proofs.YtnddlpfmagdbfaaGreatDoor.Sto
open Go Go.Ev Go.Proofs Go.RowKit Go.ChangeShapes Go.WideShapes Go.Deep
set_option linter.unusedVariables false
set_option linter.unusedSimpArgs false
set_option maxRecDepth 100000 in
theorem open_four {H : Type} {enc : TypeId × Value → H} {w : World} {base : Nat} {spare : Nat → Bool} {held : Bool} {r : Reach} {b2 : Nat} {v : Value} {dd : DataW H} {p : List MemPlace} (hv : Value.okWide Tryz.prog w r b2 56 v) (h : DataW.Trod enc Tryz.prog w base spare held 56 v dd p) :
    ∃ n0 n1 n2 n3, v = .agg #[.int .u8 n0, .int .u8 n1, .int .u8 n2, .int .u8 n3] ∧ isU8 n0 ∧ isU8 n1 ∧ isU8 n2 ∧ isU8 n3 := by
  simp only [Value.okWide, Tryz.underlying56] at hv
  obtain ⟨cs, rfl, _⟩ := hv
  obtain ⟨m, hm⟩ := h
  obtain ⟨l⟩ := cs
  simp only [Value.cells] at hm
  have c5 : Tryz.prog.cellsOf 5 = 1 := by kernel_rfl
  have c56 : Tryz.prog.cellsOf 56 = 4 := by kernel_rfl
  obtain ⟨zs, k2, _, _, hl2, hxl2, hf2⟩ := DataW.trod_array Tryz.underlying56 hm
  rw [c56] at hl2
  obtain ⟨v0, v1, v2, v3, rfl⟩ := list_4 hl2
  obtain ⟨z0, z1, z2, z3, rfl⟩ := list_4 hxl2
  have i0 := hf2 0 (by decide)
  have i1 := hf2 1 (by decide)
  have i2 := hf2 2 (by decide)
  have i3 := hf2 3 (by decide)
  simp [c5] at i0 i1 i2 i3
  obtain ⟨n0, e0, _, w0⟩ := DataW.trod_int Tryz.underlying5 i0
  obtain ⟨n1, e1, _, w1⟩ := DataW.trod_int Tryz.underlying5 i1
  obtain ⟨n2, e2, _, w2⟩ := DataW.trod_int Tryz.underlying5 i2
  obtain ⟨n3, e3, _, w3⟩ := DataW.trod_int Tryz.underlying5 i3
  simp only [List.cons.injEq, and_true] at e0 e1 e2 e3
  exact ⟨n0, n1, n2, n3, by rw [e0, e1, e2, e3], lit_u8 w0, lit_u8 w1, lit_u8 w2, lit_u8 w3⟩
end Go.Proofs.YtnddlpfmagdbfaaGreatDoor.Sto
