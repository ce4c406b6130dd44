/- Contract: the traces of a story. -/
import Derived.Test.YtmhmnbaoanennaaGreatDoorApp
namespace Go.Proofs.YtmhmnbaoanennaaGreatDoor
open Go Go.Ev Go.Proofs Go.RowKit
set_option linter.unusedVariables false
set_option linter.unusedSimpArgs false
structure TrD where
  id : Int
  a : Option Addr
  m : Nat
  c : Nat
def cellsT (t : TrD) : List Value := [.int .i64 t.id, .int .i64 1, .slice t.a t.m t.c]
/-- A row's slice, written out. -/
theorem row_forms3 {w : World} {base size n : Nat} {e : TypeId} {v : Value} {xs : List Value} (h : w.ownsRow base e size v n xs) : ∃ a c, v = .slice a n c ∧ ((a = none ∧ n = 0 ∧ c = 0) ∨ ∃ g, a = some ⟨g, 0, none⟩ ∧ n ≤ c ∧ c ≤ maxLen) := by
  rcases h.2 with ⟨rfl, rfl⟩ | ⟨g, cap, cur, rfl, hb, hg, hc, hm, _⟩
  · exact ⟨none, 0, rfl, .inl ⟨rfl, rfl, rfl⟩⟩
  · exact ⟨_, cap, rfl, .inr ⟨g, rfl, hc, hm⟩⟩
def OutT (B : Nat) (v : Value) (tds : List TrD) (W : World) : Prop := W.ownsRow B 70 3 v tds.length (tds.flatMap cellsT) ∧ ∀ t ∈ tds, SpansAt W t.a t.m t.c
theorem OutT.below {B : Nat} {v : Value} {tds : List TrD} {W W' : World} (h : OutT B v tds W) (k : Below W.heap.size W W') : OutT B v tds W' := ⟨row_below h.1 k, fun t ht => (h.2 t ht).below k⟩
theorem row_setCells {B : Nat} {e : TypeId} {size : Nat} {v : Value} {n : Nat} {xs : List Value} {g : Nat} (hne : v.ownBlock ≠ some g) : ∀ (vs : List Value) (o : Nat) (W : World), W.ownsRow B e size v n xs → (W.setCells g o vs).ownsRow B e size v n xs
  | [], _, _, h => h
  | u :: vs, o, W, h => by
    simp only [World.setCells]
    exact row_setCells hne vs (o + 1) _ (ownsRow_setCell_other h hne _)
theorem SpansAt.setCells {W : World} {a : Option Addr} {m c : Nat} (h : SpansAt W a m c) {g : Nat} {cs : Array Value} {f : Nat × Nat} (hg : W.heap[g]? = some (.cells cs 70 f)) (o : Nat) (vs : List Value) : SpansAt (W.setCells g o vs) a m c :=
  ⟨h.1, let ⟨news, h2, h3⟩ := h.2; ⟨news, row_setCells (row_ne h2 hg (by decide)) vs o W h2, h3⟩⟩
/-- What stands while a region of the round is on its way. -/
def TracesS (w0 : World) (g : Nat) (a : Option Addr) (n c : Nat) (o0 o1 o2 o3 : Int) (b : Option Addr) (m d : Nat) (q : Int) (W : World) : Prop := Below w0.heap.size w0 W ∧ W.cell? ⟨g, 0, none⟩ = some (.slice a n c) ∧ W.cell? ⟨g, 1, none⟩ = some (.int .i8 o0) ∧ W.cell? ⟨g, 2, none⟩ = some (.int .i8 o1) ∧ W.cell? ⟨g, 3, none⟩ = some (.int .i8 o2) ∧ W.cell? ⟨g, 4, none⟩ = some (.int .i8 o3) ∧ W.cell? ⟨g, 5, none⟩ = some (.slice b m d) ∧ W.cell? ⟨g, 6, none⟩ = some (.int .u8 q)
theorem TracesS.mk {w0 W : World} {g : Nat} {a : Option Addr} {n c : Nat} {o0 o1 o2 o3 : Int} {b : Option Addr} {m d : Nat} {q : Int} (h : Below w0.heap.size w0 W) (hs : StoryB w0 g a n c o0 o1 o2 o3 b m d q) : TracesS w0 g a n c o0 o1 o2 o3 b m d q W :=
  have hs' := (h.block _ (blk_lt hs)).trans hs
  let ⟨b0, b1, b2, b3, b4, b5, b6, _⟩ := StoryB.cells hs'
  ⟨h, b0, b1, b2, b3, b4, b5, b6⟩
def TracesI (w0 : World) (g : Nat) (a : Option Addr) (n c : Nat) (o0 o1 o2 o3 : Int) (b : Option Addr) (m d : Nat) (q : Int) (nn : Nat) (A : Act) (L : Nat → Prop) (a' : Act) (W : World) : Prop :=
  TracesS w0 g a n c o0 o1 o2 o3 b m d q W ∧ ∃ x24 x27 x28 x5 : Value, a' = (((A.put (some 24) x24).put (some 27) x27).put (some 28) x28).put (some 5) x5 ∧
    (L 5 → L 2) ∧ (L 6 → L 5) ∧ (L 8 → L 6 ∧ L 7) ∧ (L 2 → ∃ t, x24 = .int .i64 t) ∧ (L 5 → ∃ A' c', x27 = .slice A' nn c' ∧ SpansAt W A' nn c') ∧ (L 6 → x28 = .agg #[x24, .int .i64 1, x27]) ∧
    (L 7 → ∃ g' cs, x5 = .pointer (some ⟨g', 0, none⟩) ∧ w0.heap.size ≤ g' ∧ W.heap[g']? = some (.cells cs 70 (0, 0)) ∧ cs.size = 3 ∧ (L 8 → .agg cs = x28))
theorem cellsT_get : ∀ {tds : List TrD} {k : Nat} (h : k < tds.length), (tds.flatMap cellsT)[k * 3]? = some (.int .i64 tds[k].id)
  | t :: tds, 0, _ => rfl
  | t :: tds, k + 1, h => by
    rw [List.flatMap_cons, List.getElem?_append_right (by simp only [cellsT, List.length_cons, List.length_nil]; omega), show (k + 1) * 3 - (cellsT t).length = k * 3 from by simp only [cellsT, List.length_cons, List.length_nil]; omega]
    exact cellsT_get (by simpa using h)
theorem row_mono {w : World} {base base' : Nat} {e : TypeId} {size : Nat} {v : Value} {n : Nat} {xs : List Value} (h : w.ownsRow base e size v n xs) (hb : base' ≤ base) : w.ownsRow base' e size v n xs :=
  ⟨h.1, h.2.imp id fun ⟨g, cap, cur, h1, h2, h3⟩ => ⟨g, cap, cur, h1, Nat.le_trans hb h2, h3⟩⟩
theorem add_spotless (g o j : Nat) : (⟨g, o, none⟩ : Addr).add j = ⟨g, o + j, none⟩ := by
  unfold Addr.add; split <;> simp_all
theorem flatT_length : ∀ (tds : List TrD), (tds.flatMap cellsT).length = tds.length * 3
  | [] => rfl
  | t :: tds => by rw [List.flatMap_cons, List.length_append, flatT_length tds, List.length_cons]; simp only [cellsT, List.length_cons, List.length_nil]; omega
theorem flatT_one (tds : List TrD) : ∀ u ∈ tds.flatMap cellsT, u.oneCell' = true := by
  intro u hu
  obtain ⟨t, _, h⟩ := List.mem_flatMap.1 hu
  simp only [cellsT, List.mem_cons, List.not_mem_nil, or_false] at h
  rcases h with rfl | rfl | rfl <;> rfl
theorem flatT_split (tds : List TrD) (n : Nat) : tds.flatMap cellsT = (tds.take n).flatMap cellsT ++ (tds.drop n).flatMap cellsT := by
  rw [← List.flatMap_append, List.take_append_drop]
theorem out_take {B g c n : Nat} {tds : List TrD} {W : World} (h : OutT B (.slice (some ⟨g, 0, none⟩) tds.length c) tds W) : ∀ p, some (⟨g, 0, none⟩ : Addr) = some p → ∀ j u, ((tds.take n).flatMap cellsT)[j]? = some u → W.cell? (p.add j) = some u := by
  intro p hp j u hu
  obtain rfl := Option.some.inj hp
  have hj : j < ((tds.take n).flatMap cellsT).length := by
    rcases Nat.lt_or_ge j ((tds.take n).flatMap cellsT).length with h | h
    · exact h
    · rw [List.getElem?_eq_none h] at hu; cases hu
  refine h.1.cells rfl j u ?_
  rw [flatT_split tds n, List.getElem?_append_left hj]
  exact hu
theorem out_drop {B g c n : Nat} {tds : List TrD} {W : World} (h : OutT B (.slice (some ⟨g, 0, none⟩) tds.length c) tds W) (hc : tds.length ≤ c) (hn : n ≤ tds.length) : ∀ p, (if c = n then some (⟨g, 0, none⟩ : Addr) else some ⟨g, n * 3, none⟩) = some p → ∀ j u, ((tds.drop n).flatMap cellsT)[j]? = some u → W.cell? (p.add j) = some u := by
  intro p hp j u hu
  have hj : j < ((tds.drop n).flatMap cellsT).length := by
    rcases Nat.lt_or_ge j ((tds.drop n).flatMap cellsT).length with h | h
    · exact h
    · rw [List.getElem?_eq_none h] at hu; cases hu
  rw [flatT_length, List.length_drop] at hj
  rw [if_neg (by omega)] at hp
  obtain rfl := Option.some.inj hp
  have hl : ((tds.take n).flatMap cellsT).length = n * 3 := by rw [flatT_length, List.length_take, Nat.min_eq_left hn]
  have := h.1.cellAt (n * 3 + j) (by omega)
  rw [flatT_split tds n, List.getElem?_append_right (by omega), hl, show n * 3 + j - n * 3 = j by omega] at this
  rw [add_spotless]
  exact this.trans hu
/-- What stands while the row is put together anew. -/
def AppI (S : World → Prop) (B n k : Nat) (xs t ys : List Value) (A : Act) (L : Nat → Prop) (a' : Act) (W : World) : Prop :=
  S W ∧ ∃ x46 x50 x52 x53 x57 x3 : Value, a' = (((((A.put (some 46) x46).put (some 50) x50).put (some 52) x52).put (some 53) x53).put (some 57) x57).put (some 3) x3 ∧ B ≤ W.heap.size ∧
    (L 4 → L 0) ∧ (L 7 → L 4 ∧ L 6) ∧ (L 11 → L 7) ∧ (L 12 → L 11) ∧
    (L 0 → ¬ L 4 → W.ownsRow B 70 3 x46 0 []) ∧ (L 4 → ¬ L 7 → W.ownsRow B 70 3 x50 n xs) ∧
    (L 6 → ¬ L 7 → ∃ g, x52 = .slice (some ⟨g, 0, none⟩) 1 1 ∧ W.heap[g]? = some (.cells t.toArray 70 (0, 0)) ∧ (L 0 → ¬ L 4 → x46.ownBlock ≠ some g) ∧ (L 4 → x50.ownBlock ≠ some g)) ∧
    (L 7 → ¬ L 11 → W.ownsRow B 70 3 x53 (n + 1) (xs ++ t)) ∧ (L 11 → W.ownsRow B 70 3 x57 (n + 1 + k) (xs ++ t ++ ys)) ∧ (L 12 → x3 = x57)
theorem info70 : infoSz 3 (Tryz.prog.info? 70) = true := by kernel_rfl
set_option maxRecDepth 20000 in
set_option maxHeartbeats 8000000 in
theorem traces_any (a : Option Addr) (ts : List TreeD) (c : Nat) (o0 o1 o2 o3 : Int) (b : Option Addr) (m d : Nat) (q : Int) (hq : isU8 q) (w : World) (ht : TreesAt w a ts) (hcl : ∀ j (hj : j < ts.length), ts[j].cs.length ≤ 8) (hl : ts.length ≤ 3) :
    Calls Tryz.prog 101 #[.agg #[.slice a ts.length c, .int .i8 o0, .int .i8 o1, .int .i8 o2, .int .i8 o3, .slice b m d, .int .u8 q]] w fun e w' => (∃ v tds, e = .returned v ∧ OutT 0 v tds w' ∧ tds.length ≤ 3) ∧ Below w.heap.size w w' := by
  have HB0 := Lib.hid (below_alloc w (.cells #[.slice a ts.length c, .int .i8 o0, .int .i8 o1, .int .i8 o2, .int .i8 o3, .slice b m d, .int .u8 q] 53))
  have HS0 := Lib.hid (show StoryB (w.alloc (.cells #[.slice a ts.length c, .int .i8 o0, .int .i8 o1, .int .i8 o2, .int .i8 o3, .slice b m d, .int .u8 q] 53)) w.heap.size a ts.length c o0 o1 o2 o3 b m d q from heap_alloc_last _ _)
  have HT := Lib.hid ht
  have HC := Lib.hid hcl
  obtain ⟨t3, z3, ht3, ht3z, ht3s, ht3b, ht3c⟩ := infoSz_spec info70
  clear ht hcl
  go_enter Tryz.func101, Tryz.ntmps101
  go_wp2_with fail
  go_loopw [3, 4] (fun v3 i wr => ∃ (j : Nat) (tds : List TrD), j ≤ ts.length ∧ tds.length ≤ j ∧ i = .int .i64 j ∧ Hid (Below w.heap.size w wr) ∧ Hid (StoryB wr w.heap.size a ts.length c o0 o1 o2 o3 b m d q) ∧ Hid (OutT (w.heap.size + 1) v3 tds wr)) (fun _ i _ => ts.length - (intOf i).toNat)
  case atStart => exact ⟨0, [], by omega, by simp, rfl, HB0, HS0, Lib.hid ⟨World.ownsRow_nil _ _ _ _, by simp⟩⟩
  case round =>
    clear HB0 HS0
    obtain ⟨j, tds, hj, htl, rfl, HB, HS, HO⟩ := hrel
    obtain ⟨b0, b1, b2, b3, b4, b5, b6, z0⟩ := StoryB.cells HS.out
    have hform := row_forms3 HO.out.1
    obtain ⟨a3, c3, rfl, hform⟩ := hform
    by_cases hlt : j < ts.length
    · obtain ⟨ad, rfl, t0, t1, t2, htc, hs1, hs2⟩ := HT.out.below HB.out j hlt
      have hcj := HC.out j hlt
      clear htc hs1 hs2
      by_cases hc0 : ts[j].cs.length = 0
      · rw [hc0] at t2
        go_wp2_with fail
        exact ⟨⟨j + 1, tds, by omega, by omega, by go_num, HB, HS, HO⟩, by simp [intOf]; omega⟩
      · have hcp : (0 : Int) < (ts[j].cs.length : Int) := by omega
        have HTr := Lib.hid (fun (W : World) (h : Below wr.heap.size wr W) => HT.out.below (below_on HB.out h HB.out.size))
        go_upto_region 6 with (fail)
        generalize ((ts[j].cs.length : Int) == 0) = z21
        refine wp_region_held_drew (S := (fun W => TracesS wr w.heap.size (some ad) ts.length c o0 o1 o2 o3 b m d q W)) (by kernel_rfl) (TracesS.mk (below_drew _) HS.out) (fun hHeld => ?_)
        refine wpAnyH_take (i := 0) (oi := { dst := some 22, op := Op.load 53 (Operand.tmp 1), type := 53, pos := "world.go:131", after := #[], guard := none }) (v := ?_) rfl (by kernel_rfl) (by kernel_rfl) (by kernel_rfl) (fun _ _ _ h => h) (Or.inl ⟨by rfl, ?_⟩) hHeld ?_
        rotate_left
        · intro W hSw; (try dsimp only at hSw); unfold TracesS at hSw; go_simp; try with_reducible rfl
        try simp only [Act.put, List.setIfInBounds_toArray, List.set_cons_zero, List.set_cons_succ]
        refine wpAnyH_take (i := 1) (oi := { dst := some 23, op := Op.move (Operand.tmp 4), type := 3, pos := "world.go:131", after := #[], guard := none }) (v := ?_) rfl (by kernel_rfl) (by kernel_rfl) (by kernel_rfl) (fun _ _ _ h => h) (Or.inl ⟨by rfl, ?_⟩) hHeld ?_
        rotate_left
        · intro W hSw; (try dsimp only at hSw); unfold TracesS at hSw; go_simp; try with_reducible rfl
        try simp only [Act.put, List.setIfInBounds_toArray, List.set_cons_zero, List.set_cons_succ]
        refine wpAnyH_take (i := 3) (oi := { dst := some 25, op := Op.load 53 (Operand.tmp 1), type := 53, pos := "world.go:131", after := #[], guard := none }) (v := ?_) rfl (by kernel_rfl) (by kernel_rfl) (by kernel_rfl) (fun _ _ _ h => h) (Or.inl ⟨by rfl, ?_⟩) hHeld ?_
        rotate_left
        · intro W hSw; (try dsimp only at hSw); unfold TracesS at hSw; go_simp; try with_reducible rfl
        try simp only [Act.put, List.setIfInBounds_toArray, List.set_cons_zero, List.set_cons_succ]
        refine wpAnyH_take (i := 4) (oi := { dst := some 26, op := Op.move (Operand.tmp 4), type := 3, pos := "world.go:131", after := #[], guard := none }) (v := ?_) rfl (by kernel_rfl) (by kernel_rfl) (by kernel_rfl) (fun _ _ _ h => h) (Or.inl ⟨by rfl, ?_⟩) hHeld ?_
        rotate_left
        · intro W hSw; (try dsimp only at hSw); unfold TracesS at hSw; go_simp; try with_reducible rfl
        try simp only [Act.put, List.setIfInBounds_toArray, List.set_cons_zero, List.set_cons_succ]
        refine wpAnyH_rest [2, 5, 6, 7, 8] (TracesI wr w.heap.size (some ad) ts.length c o0 o1 o2 o3 b m d q ts[j].cs.length) (by kernel_rfl) rfl (by kernel_rfl) (by kernel_rfl) (by kernel_rfl) ?_ (fun _ _ _ h => h.1) ?_ ?_
        · intro L hL
          have g : ∀ k ∈ [2, 5, 6, 7, 8], L k → False := fun k hk h => hL k hk h
          refine ⟨hHeld, ?x24, ?x27, ?x28, ?x5, ?eq, fun h => (g 5 (by simp) h).elim, fun h => (g 6 (by simp) h).elim, fun h => (g 8 (by simp) h).elim, fun h => (g 2 (by simp) h).elim, fun h => (g 5 (by simp) h).elim, fun h => (g 6 (by simp) h).elim, fun h => (g 7 (by simp) h).elim⟩
          case eq =>
            simp only [Act.put, List.setIfInBounds_toArray, List.set_cons_zero, List.set_cons_succ]
            try rfl
        · intro i0 hi0
          simp only [List.mem_cons, List.not_mem_nil, or_false] at hi0
          rcases hi0 with rfl | rfl | rfl | rfl | rfl
          · intro L A W o hI ho hn hd
            obtain rfl : { dst := some 24, op := Op.call { callee := Callee.value (Operand.func 142), args := #[Operand.tmp 22, Operand.tmp 23], argTypes := #[53, 3] }, type := 3, pos := "world.go:131", after := #[{ on := 0, ground := Ground.data }, { on := 1, ground := Ground.data }], guard := none } = o := Option.some.inj ho
            obtain ⟨hS, x24, x27, x28, x5, rfl, h52, h65, h8, hA, hB, hC, hD⟩ := hI
            simp only [Act.put, List.setIfInBounds_toArray, List.set_cons_zero, List.set_cons_succ]
            refine wpOp_step (o := { dst := some 24, op := Op.call { callee := Callee.value (Operand.func 142), args := #[Operand.tmp 22, Operand.tmp 23], argTypes := #[53, 3] }, type := 3, pos := "world.go:131", after := #[{ on := 0, ground := Ground.data }, { on := 1, ground := Ground.data }], guard := none }) rfl (fun K hK => ?_)
            rw [if_pos (by rfl)]
            go_simp
            (with_reducible refine (traceId_any _ _ _ _ _ _ _ _ _ _ _ _ hlt _ ?tr).mono ?_)
            case tr => exact HTr.out _ hS.1
            rintro e w' ⟨⟨tid, rfl⟩, hbb⟩
            refine hK _ _ ⟨TracesS.mk (below_on hS.1 hbb hS.1.size) HS.out, .int .i64 tid, x27, x28, x5, ?_, fun h => absurd (h52 (h.resolve_right (by decide))) hn, fun h => absurd (h52 (h65 (h.resolve_right (by decide)))) hn, fun h => absurd (h52 (h65 (h8 (h.resolve_right (by decide))).1)) hn, fun _ => ⟨tid, rfl⟩, fun h => absurd (h52 (h.resolve_right (by decide))) hn, fun h => absurd (h52 (h65 (h.resolve_right (by decide)))) hn, fun h => ?_⟩
            · simp only [Act.put, List.setIfInBounds_toArray, List.set_cons_zero, List.set_cons_succ]
            · obtain ⟨g, cs, e1, e2, e3, e4, e5⟩ := hD (h.resolve_right (by decide))
              exact ⟨g, cs, e1, e2, blk_keep hbb e3, e4, fun h => absurd (h52 (h65 (h8 (h.resolve_right (by decide))).1)) hn⟩
          · intro L A W o hI ho hn hd
            obtain rfl : { dst := some 27, op := Op.call { callee := Callee.value (Operand.func 143), args := #[Operand.tmp 25, Operand.tmp 26, Operand.const (Value.bool false)], argTypes := #[53, 3, 4] }, type := 58, pos := "world.go:131", after := #[{ on := 3, ground := Ground.data }, { on := 4, ground := Ground.data }, { on := 2, ground := Ground.chain }], guard := none } = o := Option.some.inj ho
            obtain ⟨hS, x24, x27, x28, x5, rfl, h52, h65, h8, hA, hB, hC, hD⟩ := hI
            simp only [Act.put, List.setIfInBounds_toArray, List.set_cons_zero, List.set_cons_succ]
            refine wpOp_step (o := { dst := some 27, op := Op.call { callee := Callee.value (Operand.func 143), args := #[Operand.tmp 25, Operand.tmp 26, Operand.const (Value.bool false)], argTypes := #[53, 3, 4] }, type := 58, pos := "world.go:131", after := #[{ on := 3, ground := Ground.data }, { on := 4, ground := Ground.data }, { on := 2, ground := Ground.chain }], guard := none }) rfl (fun K hK => ?_)
            rw [if_pos (by rfl)]
            have l2 : L 2 := hd { on := 2, ground := Ground.chain } (by simp) rfl (by simp)
            go_simp
            refine (trace_any _ _ _ _ _ _ _ _ _ _ _ _ false hlt ?tl hq _ ?tr (fun i hi => HC.out i hi) (by omega)).mono ?_
            case tl => exact HC.out _ hlt
            case tr => exact HTr.out _ hS.1
            rintro e w' ⟨⟨A5, c5, rfl, hsp⟩, hbb⟩
            refine hK _ _ ⟨TracesS.mk (below_on hS.1 hbb hS.1.size) HS.out, x24, .slice A5 ts[j].cs.length c5, x28, x5, ?_, fun _ => .inl l2, fun h => absurd (h65 (h.resolve_right (by decide))) hn, fun h => absurd (h65 (h8 (h.resolve_right (by decide))).1) hn, fun h => hA (h.resolve_right (by decide)), fun _ => ⟨A5, c5, rfl, hsp⟩, fun h => absurd (h65 (h.resolve_right (by decide))) hn, fun h => ?_⟩
            · simp only [Act.put, List.setIfInBounds_toArray, List.set_cons_zero, List.set_cons_succ]
            · obtain ⟨g, cs, e1, e2, e3, e4, e5⟩ := hD (h.resolve_right (by decide))
              exact ⟨g, cs, e1, e2, blk_keep hbb e3, e4, fun h => absurd (h65 (h8 (h.resolve_right (by decide))).1) hn⟩
          · intro L A W o hI ho hn hd
            obtain rfl : { dst := some 28, op := Op.build 70 #[(0, Operand.tmp 24), (1, Operand.const (Value.int IntKind.i64 1)), (2, Operand.tmp 27)], type := 70, pos := "world.go:131", after := #[{ on := 2, ground := Ground.data }, { on := 5, ground := Ground.data }], guard := none } = o := Option.some.inj ho
            obtain ⟨hS, x24, x27, x28, x5, rfl, h52, h65, h8, hA, hB, hC, hD⟩ := hI
            simp only [Act.put, List.setIfInBounds_toArray, List.set_cons_zero, List.set_cons_succ]
            refine wpOp_step (o := { dst := some 28, op := Op.build 70 #[(0, Operand.tmp 24), (1, Operand.const (Value.int IntKind.i64 1)), (2, Operand.tmp 27)], type := 70, pos := "world.go:131", after := #[{ on := 2, ground := Ground.data }, { on := 5, ground := Ground.data }], guard := none }) rfl (fun K hK => ?_)
            rw [if_pos (by rfl)]
            have l5 : L 5 := hd { on := 5, ground := Ground.data } (by simp) rfl (by simp)
            obtain ⟨t, rfl⟩ := hA (h52 l5)
            obtain ⟨A5, c5, rfl, hsp⟩ := hB l5
            go_simp
            refine hK _ _ ⟨hS, .int .i64 t, .slice A5 ts[j].cs.length c5, _, x5, ?_, fun _ => .inl (h52 l5), fun _ => .inl l5, fun h => absurd (h8 (h.resolve_right (by decide))).1 hn, fun _ => ⟨t, rfl⟩, fun _ => ⟨A5, c5, rfl, hsp⟩, fun _ => rfl, fun h => ?_⟩
            · simp only [Act.put, List.setIfInBounds_toArray, List.set_cons_zero, List.set_cons_succ]
            · obtain ⟨g, cs, e1, e2, e3, e4, e5⟩ := hD (h.resolve_right (by decide))
              exact ⟨g, cs, e1, e2, e3, e4, fun h => absurd (h8 (h.resolve_right (by decide))).1 hn⟩
          · intro L A W o hI ho hn hd
            obtain rfl : { dst := some 5, op := Op.alloc 70, type := 0, pos := "world.go:131", after := #[], guard := none } = o := Option.some.inj ho
            obtain ⟨hS, x24, x27, x28, x5, rfl, h52, h65, h8, hA, hB, hC, hD⟩ := hI
            simp only [Act.put, List.setIfInBounds_toArray, List.set_cons_zero, List.set_cons_succ]
            refine wpOp_step (o := { dst := some 5, op := Op.alloc 70, type := 0, pos := "world.go:131", after := #[], guard := none }) rfl (fun K hK => ?_)
            rw [if_pos (by rfl)]
            go_simp
            refine hK _ _ ⟨TracesS.mk (below_on hS.1 (below_alloc _ _) hS.1.size) HS.out, x24, x27, x28, .pointer (some ⟨W.heap.size, 0, none⟩), ?_, fun h => .inl (h52 (h.resolve_right (by decide))), fun h => .inl (h65 (h.resolve_right (by decide))), fun h => absurd (h8 (h.resolve_right (by decide))).2 hn, fun h => hA (h.resolve_right (by decide)), fun h => ?_, fun h => hC (h.resolve_right (by decide)), fun _ => ⟨W.heap.size, _, rfl, hS.1.size, heap_alloc_last _ _, rfl, fun h => absurd (h8 (h.resolve_right (by decide))).2 hn⟩⟩
            · simp only [Act.put, List.setIfInBounds_toArray, List.set_cons_zero, List.set_cons_succ]
            · obtain ⟨A5, c5, e1, e2⟩ := hB (h.resolve_right (by decide))
              exact ⟨A5, c5, e1, e2.below (below_alloc _ _)⟩
          · intro L A W o hI ho hn hd
            obtain rfl : { dst := none, op := Op.store 70 (Operand.tmp 5) (Operand.tmp 28), type := 0, pos := "world.go:131", after := #[{ on := 7, ground := Ground.data }, { on := 6, ground := Ground.data }, { on := 5, ground := Ground.chain }, { on := 0, ground := Ground.phase }, { on := 1, ground := Ground.phase }, { on := 2, ground := Ground.phase }, { on := 3, ground := Ground.phase }, { on := 4, ground := Ground.phase }, { on := 5, ground := Ground.phase }, { on := 6, ground := Ground.phase }, { on := 7, ground := Ground.phase }], guard := none } = o := Option.some.inj ho
            obtain ⟨hS, x24, x27, x28, x5, rfl, h52, h65, h8, hA, hB, hC, hD⟩ := hI
            simp only [Act.put, List.setIfInBounds_toArray, List.set_cons_zero, List.set_cons_succ]
            refine wpOp_step (o := { dst := none, op := Op.store 70 (Operand.tmp 5) (Operand.tmp 28), type := 0, pos := "world.go:131", after := #[{ on := 7, ground := Ground.data }, { on := 6, ground := Ground.data }, { on := 5, ground := Ground.chain }, { on := 0, ground := Ground.phase }, { on := 1, ground := Ground.phase }, { on := 2, ground := Ground.phase }, { on := 3, ground := Ground.phase }, { on := 4, ground := Ground.phase }, { on := 5, ground := Ground.phase }, { on := 6, ground := Ground.phase }, { on := 7, ground := Ground.phase }], guard := none }) rfl (fun K hK => ?_)
            rw [if_pos (by rfl)]
            have l6 : L 6 := hd { on := 6, ground := Ground.data } (by simp) rfl (by simp)
            have l7 : L 7 := hd { on := 7, ground := Ground.data } (by simp) rfl (by simp)
            obtain ⟨t, rfl⟩ := hA (h52 (h65 l6))
            obtain ⟨A5, c5, rfl, hsp⟩ := hB (h65 l6)
            obtain rfl := hC l6
            obtain ⟨g, cs, rfl, e2, e3, e4, e5⟩ := hD l7
            refine wp_store_mid 70 (.tmp 5) (.tmp 28) rfl g 0 _ rfl rfl (there_blk e3 (by rw [e4]; rfl)) (by kernel_rfl) (by simp [Value.oneCell']) ?_
            refine hK _ _ ⟨TracesS.mk (below_setCells g e2 _ 0 _ hS.1) HS.out, .int .i64 t, .slice A5 ts[j].cs.length c5, _, .pointer (some ⟨g, 0, none⟩), ?_, fun _ => .inl (h52 (h65 l6)), fun _ => .inl (h65 l6), fun _ => ⟨.inl l6, .inl l7⟩, fun _ => ⟨t, rfl⟩, fun _ => ⟨A5, c5, rfl, hsp.setCells e3 _ _⟩, fun _ => rfl, fun _ => ⟨g, _, rfl, e2, blk_setCells g 70 _ 0 W cs e3 (by rw [e4]; rfl), rfl, fun _ => rfl⟩⟩
            simp only [Act.put, List.setIfInBounds_toArray, List.set_cons_zero, List.set_cons_succ]
        · intro L A W hI ha
          obtain ⟨hS, x24, x27, x28, x5, rfl, h52, h65, h8, hA, hB, hC, hD⟩ := hI
          obtain ⟨tid, rfl⟩ := hA (ha 2 (by simp))
          obtain ⟨A5, c5, rfl, hsp⟩ := hB (ha 5 (by simp))
          obtain rfl := hC (ha 6 (by simp))
          obtain ⟨gt, cs5, rfl, g2, g3, g4, g5⟩ := hD (ha 7 (by simp))
          obtain rfl := Value.agg.inj (g5 (ha 8 (by simp)))
          have HSp := Lib.hid hsp
          have HB1 := Lib.hid (below_on HB.out hS.1 HB.out.size)
          have HS1 := Lib.hid (show StoryB W w.heap.size (some ad) ts.length c o0 o1 o2 o3 b m d q from blk_keep hS.1 HS.out)
          have HO1 := Lib.hid (HO.out.below hS.1)
          have hg := blk_lt g3
          have HG := Lib.hid g3
          clear h52 h65 h8 hA hB hC hD ha hHeld hsp g3 g4 g5 hS HB HS HO HTr t0 t1 t2 b0 b1 b2 b3 b4 b5 b6 z0
          simp only [Act.put, List.setIfInBounds_toArray, List.set_cons_zero, List.set_cons_succ]
          go_wp2_with fail
          go_loopw [6] (fun i wr => ∃ n : Nat, n ≤ tds.length ∧ i = .int .i64 n ∧ Hid (Below W.heap.size W wr)) (fun i _ => (intOf i).toNat)
          case atStart => exact ⟨tds.length, Nat.le_refl _, rfl, Lib.hid (Below.refl _ _)⟩
          case round =>
            obtain ⟨n, hn, rfl, HW⟩ := hrel
            have y0 := cell_blk (blk_keep HW.out HG.out) 0 rfl
            by_cases hn0 : n = 0
            · subst hn0
              go_upto_region 8 with (fail)
              go_quiet (fail)
              have HW2 := Lib.hid (below_on HW.out (below_drewN0 _ nq) HW.out.size)
              generalize wr.drewN nq = W2 at *
              clear y0 HW
              go_upto_region 10 with (fail)
              have HO2 := Lib.hid (HO1.out.below HW2.out)
              have HG2 := Lib.hid (blk_keep HW2.out HG.out)
              rcases hform with ⟨rfl, hz2, rfl⟩ | ⟨g3, rfl, hc3, hm3⟩
              · try push_cast
                refine wp_region_held_drew (S := (fun W => Below W2.heap.size W2 W ∧ W.cell? ⟨gt, 0, none⟩ = some (.int .i64 tid) ∧ W.cell? ⟨gt, 1, none⟩ = some (.int .i64 1) ∧ W.cell? ⟨gt, 2, none⟩ = some (.slice A5 ts[j].cs.length c5))) (by kernel_rfl) ⟨below_drew _, cell_blk HG2.out 0 rfl, cell_blk HG2.out 1 rfl, cell_blk HG2.out 2 rfl⟩ (fun hHeld => ?_)
                refine wpAnyH_take (i := 1) (oi := { dst := some 47, op := Op.move (Operand.tmp 3), type := 67, pos := "world.go:136", after := #[], guard := none }) (v := ?_) rfl (by kernel_rfl) (by kernel_rfl) (by kernel_rfl) (fun _ _ _ h => h) (Or.inl ⟨by rfl, ?_⟩) hHeld ?_
                rotate_left
                · intro W hSw; (try dsimp only at hSw); go_simp; try with_reducible rfl
                try simp only [Act.put, List.setIfInBounds_toArray, List.set_cons_zero, List.set_cons_succ]
                refine wpAnyH_take (i := 2) (oi := { dst := some 48, op := Op.move (Operand.tmp 6), type := 3, pos := "world.go:136", after := #[], guard := none }) (v := ?_) rfl (by kernel_rfl) (by kernel_rfl) (by kernel_rfl) (fun _ _ _ h => h) (Or.inl ⟨by rfl, ?_⟩) hHeld ?_
                rotate_left
                · intro W hSw; (try dsimp only at hSw); go_simp; try with_reducible rfl
                try simp only [Act.put, List.setIfInBounds_toArray, List.set_cons_zero, List.set_cons_succ]
                refine wpAnyH_take (i := 3) (oi := { dst := some 49, op := Op.slice 67 (Operand.tmp 47) none (some (Operand.tmp 48)) none, type := 67, pos := "world.go:136", after := #[{ on := 1, ground := Ground.data }, { on := 2, ground := Ground.data }], guard := none }) (v := ?_) rfl (by kernel_rfl) (by kernel_rfl) (by kernel_rfl) (fun _ _ _ h => h) (Or.inl ⟨by rfl, ?_⟩) hHeld ?_
                rotate_left
                · intro W hSw; (try dsimp only at hSw); go_simp; try with_reducible rfl
                try simp only [Act.put, List.setIfInBounds_toArray, List.set_cons_zero, List.set_cons_succ]
                refine wpAnyH_take (i := 5) (oi := { dst := some 51, op := Op.load 70 (Operand.tmp 5), type := 70, pos := "world.go:136", after := #[], guard := none }) (v := ?_) rfl (by kernel_rfl) (by kernel_rfl) (by kernel_rfl) (fun _ _ _ h => h) (Or.inl ⟨by rfl, ?_⟩) hHeld ?_
                rotate_left
                · intro W hSw; (try dsimp only at hSw); go_simp; try with_reducible rfl
                try simp only [Act.put, List.setIfInBounds_toArray, List.set_cons_zero, List.set_cons_succ]
                refine wpAnyH_take (i := 8) (oi := { dst := some 54, op := Op.move (Operand.tmp 3), type := 67, pos := "world.go:136", after := #[], guard := none }) (v := ?_) rfl (by kernel_rfl) (by kernel_rfl) (by kernel_rfl) (fun _ _ _ h => h) (Or.inl ⟨by rfl, ?_⟩) hHeld ?_
                rotate_left
                · intro W hSw; (try dsimp only at hSw); go_simp; try with_reducible rfl
                try simp only [Act.put, List.setIfInBounds_toArray, List.set_cons_zero, List.set_cons_succ]
                refine wpAnyH_take (i := 9) (oi := { dst := some 55, op := Op.move (Operand.tmp 6), type := 3, pos := "world.go:136", after := #[], guard := none }) (v := ?_) rfl (by kernel_rfl) (by kernel_rfl) (by kernel_rfl) (fun _ _ _ h => h) (Or.inl ⟨by rfl, ?_⟩) hHeld ?_
                rotate_left
                · intro W hSw; (try dsimp only at hSw); go_simp; try with_reducible rfl
                try simp only [Act.put, List.setIfInBounds_toArray, List.set_cons_zero, List.set_cons_succ]
                refine wpAnyH_take (i := 10) (oi := { dst := some 56, op := Op.slice 67 (Operand.tmp 54) (some (Operand.tmp 55)) none none, type := 67, pos := "world.go:136", after := #[{ on := 8, ground := Ground.data }, { on := 9, ground := Ground.data }], guard := none }) (v := ?_) rfl (by kernel_rfl) (by kernel_rfl) (by kernel_rfl) (fun _ _ _ h => h) (Or.inl ⟨by rfl, ?_⟩) hHeld ?_
                rotate_left
                · intro W hSw; (try dsimp only at hSw); go_simp; try with_reducible rfl
                try simp only [Act.put, List.setIfInBounds_toArray, List.set_cons_zero, List.set_cons_succ]
                have HX := Lib.hid (fun (W : World) (h : Below W2.heap.size W2 W) (p : Addr) (hp : (none : Option Addr) = some p) (j' : Nat) (u : Value) (hu : ((tds.take 0).flatMap cellsT)[j']? = some u) => (show W.cell? (p.add j') = some u by cases hp))
                have HY := Lib.hid (fun (W : World) (h : Below W2.heap.size W2 W) (p : Addr) (hp : (none : Option Addr) = some p) (j' : Nat) (u : Value) (hu : ((tds.drop 0).flatMap cellsT)[j']? = some u) => (show W.cell? (p.add j') = some u by cases hp))
                have HSm := Lib.hid (fun (W : World) (h : Below W2.heap.size W2 W) => (show Below W2.heap.size W2 W ∧ W.cell? ⟨gt, 0, none⟩ = some (.int .i64 tid) ∧ W.cell? ⟨gt, 1, none⟩ = some (.int .i64 1) ∧ W.cell? ⟨gt, 2, none⟩ = some (.slice A5 ts[j].cs.length c5) from have hb := (h.block _ (blk_lt HG2.out)).trans HG2.out; ⟨h, cell_blk hb 0 rfl, cell_blk hb 1 rfl, cell_blk hb 2 rfl⟩))
                have hxl : ((tds.take (0)).flatMap cellsT).length = (0) * 3 := by rw [flatT_length, List.length_take, Nat.min_eq_left (by omega)]
                have hyl : ((tds.drop (0)).flatMap cellsT).length = (0) * 3 := by rw [flatT_length, List.length_drop] <;> first | rfl | omega
                have hm2 : (0) + (0) = tds.length := by omega
                have HM2 := Lib.hid hm2
                have hn3x : (0) ≤ 3 := by omega
                have hMM : (0) ≤ 3 := by omega
                clear hm2
                try clear hz2
                refine wpAnyH_rest [0, 4, 6, 7, 11, 12] (AppI (fun W => Below W2.heap.size W2 W ∧ W.cell? ⟨gt, 0, none⟩ = some (.int .i64 tid) ∧ W.cell? ⟨gt, 1, none⟩ = some (.int .i64 1) ∧ W.cell? ⟨gt, 2, none⟩ = some (.slice A5 ts[j].cs.length c5)) W2.heap.size (0) (0) ((tds.take (0)).flatMap cellsT) ([Value.int .i64 tid, .int .i64 1, .slice A5 ts[j].cs.length c5]) ((tds.drop (0)).flatMap cellsT)) (by kernel_rfl) rfl (by kernel_rfl) (by kernel_rfl) (by kernel_rfl) ?_ (fun _ _ _ h => h.1) ?_ ?_
                · intro L hL
                  have g : ∀ k ∈ [0, 4, 6, 7, 11, 12], L k → False := fun k hk h => hL k hk h
                  refine ⟨hHeld, ?x46n, ?x50n, ?x52n, ?x53n, ?x57n, ?x3n, ?eqn, hHeld.1.size, fun h => (g 4 (by simp) h).elim, fun h => (g 7 (by simp) h).elim, fun h => (g 11 (by simp) h).elim, fun h => (g 12 (by simp) h).elim, fun h => (g 0 (by simp) h).elim, fun h => (g 4 (by simp) h).elim, fun h => (g 6 (by simp) h).elim, fun h => (g 7 (by simp) h).elim, fun h => (g 11 (by simp) h).elim, fun h => (g 12 (by simp) h).elim⟩
                  case eqn =>
                    simp only [Act.put, List.setIfInBounds_toArray, List.set_cons_zero, List.set_cons_succ]
                    try rfl
                · intro i0 hi0
                  simp only [List.mem_cons, List.not_mem_nil, or_false] at hi0
                  rcases hi0 with rfl | rfl | rfl | rfl | rfl | rfl
                  · intro L A W o hI ho hn hd
                    obtain rfl : { dst := some 46, op := Op.buildSlice 67 0 #[], type := 67, pos := "world.go:136", after := #[], guard := none } = o := Option.some.inj ho
                    obtain ⟨hS, x46, x50, x52, x53, x57, x3, rfl, hsz, h4, h7, h11, h12, hA, hB, hC, hD, hE, hF⟩ := hI
                    simp only [Act.put, List.setIfInBounds_toArray, List.set_cons_zero, List.set_cons_succ]
                    refine wpOp_step (o := { dst := some 46, op := Op.buildSlice 67 0 #[], type := 67, pos := "world.go:136", after := #[], guard := none }) rfl (fun K hK => ?_)
                    rw [if_pos (by rfl)]
                    have n4 : ¬ L 4 := fun h => hn (h4 h)
                    go_simp
                    refine hK _ _ ⟨HSm.out _ (below_on hS.1 (below_alloc _ _) hS.1.size), .slice (some ⟨W.heap.size, 0, none⟩) 0 0, x50, x52, x53, x57, x3, ?_, by simp; omega, fun h => absurd (h.resolve_right (by decide)) n4, fun h => absurd (h7 (h.resolve_right (by decide))).1 n4, fun h => absurd (h7 (h11 (h.resolve_right (by decide)))).1 n4, fun h => absurd (h7 (h11 (h12 (h.resolve_right (by decide))))).1 n4, fun _ _ => World.ownsRow_made W #[] 0 hsz (Nat.zero_le _) rfl, fun h => absurd (h.resolve_right (by decide)) n4, fun h h' => ?_, fun h => absurd (h7 (h.resolve_right (by decide))).1 n4, fun h => absurd (h7 (h11 (h.resolve_right (by decide)))).1 n4, fun h => absurd (h7 (h11 (h12 (h.resolve_right (by decide))))).1 n4⟩
                    · simp only [Act.put, List.setIfInBounds_toArray, List.set_cons_zero, List.set_cons_succ]
                    · obtain ⟨g, e1, e2, e3, e4⟩ := hC (h.resolve_right (by decide)) (fun l => h' (.inl l))
                      refine ⟨g, e1, heap_alloc_old e2, fun _ _ he => ?_, fun h => absurd (h.resolve_right (by decide)) n4⟩
                      have := blk_lt e2
                      simp [Value.ownBlock] at he
                      omega
                  · intro L A W o hI ho hn hd
                    obtain rfl : { dst := some 50, op := Op.call { callee := Callee.builtin Builtin.append, args := #[Operand.tmp 46, Operand.tmp 49], argTypes := #[67, 67] }, type := 67, pos := "world.go:136", after := #[{ on := 0, ground := Ground.data }, { on := 3, ground := Ground.data }], guard := none } = o := Option.some.inj ho
                    obtain ⟨hS, x46, x50, x52, x53, x57, x3, rfl, hsz, h4, h7, h11, h12, hA, hB, hC, hD, hE, hF⟩ := hI
                    simp only [Act.put, List.setIfInBounds_toArray, List.set_cons_zero, List.set_cons_succ]
                    refine wpOp_step (o := { dst := some 50, op := Op.call { callee := Callee.builtin Builtin.append, args := #[Operand.tmp 46, Operand.tmp 49], argTypes := #[67, 67] }, type := 67, pos := "world.go:136", after := #[{ on := 0, ground := Ground.data }, { on := 3, ground := Ground.data }], guard := none }) rfl (fun K hK => ?_)
                    rw [if_pos (by rfl)]
                    have l0 : L 0 := hd { on := 0, ground := Ground.data } (by simp) rfl (by simp)
                    have n7 : ¬ L 7 := fun h => hn (h7 h).1
                    have o46 := hA l0 hn
                    refine wp_append_any (.tmp 46) (.tmp 49) 67 rfl W2.heap.size 70 t3 z3 3 Tryz.underlying67 ht3 ht3z ht3s ht3b ht3c (by decide) x46 0 [] rfl o46 (none) (0) (0) ((tds.take (0)).flatMap cellsT) rfl hxl (by intro h; first | exact ⟨rfl, rfl⟩ | cases h) (HX.out _ hS.1) (flatT_one _) (by omega) hsz ?_
                    intro v' w1 hown hgr hat
                    have hbw := below_grown hS.1 hgr (fun i hi => (o46.lt i hi).1) hS.1.size
                    have hgs := hgr.size
                    rw [Nat.zero_add, List.nil_append] at hown
                    refine hK _ _ ⟨HSm.out _ hbw, x46, v', x52, x53, x57, x3, ?_, by omega, fun _ => .inl l0, fun h => absurd (h.resolve_right (by decide)) n7, fun h => absurd (h11 (h.resolve_right (by decide))) n7, fun h => absurd (h11 (h12 (h.resolve_right (by decide)))) n7, fun _ h => absurd (.inr rfl) h, fun _ _ => hown, fun h _ => ?_, fun h => absurd (h.resolve_right (by decide)) n7, fun h => absurd (h11 (h.resolve_right (by decide))) n7, fun h => absurd (h11 (h12 (h.resolve_right (by decide)))) n7⟩
                    · simp only [Act.put, List.setIfInBounds_toArray, List.set_cons_zero, List.set_cons_succ]
                    · obtain ⟨g, e1, e2, e3, e4⟩ := hC (h.resolve_right (by decide)) n7
                      refine ⟨g, e1, blk_grown hgr e2 (e3 l0 hn), fun _ h => absurd (.inr rfl) h, fun _ he => ?_⟩
                      rcases hat with h | h
                      · exact e3 l0 hn (h.symm.trans he)
                      · have := blk_lt e2
                        have := Option.some.inj (h.symm.trans he)
                        omega
                  · intro L A W o hI ho hn hd
                    obtain rfl : { dst := some 52, op := Op.buildSlice 67 1 #[(0, Operand.tmp 51)], type := 67, pos := "world.go:136", after := #[{ on := 5, ground := Ground.data }], guard := none } = o := Option.some.inj ho
                    obtain ⟨hS, x46, x50, x52, x53, x57, x3, rfl, hsz, h4, h7, h11, h12, hA, hB, hC, hD, hE, hF⟩ := hI
                    simp only [Act.put, List.setIfInBounds_toArray, List.set_cons_zero, List.set_cons_succ]
                    refine wpOp_step (o := { dst := some 52, op := Op.buildSlice 67 1 #[(0, Operand.tmp 51)], type := 67, pos := "world.go:136", after := #[{ on := 5, ground := Ground.data }], guard := none }) rfl (fun K hK => ?_)
                    rw [if_pos (by rfl)]
                    have n7 : ¬ L 7 := fun h => hn (h7 h).2
                    go_simp
                    refine hK _ _ ⟨HSm.out _ (below_on hS.1 (below_alloc _ _) hS.1.size), x46, x50, .slice (some ⟨W.heap.size, 0, none⟩) 1 1, x53, x57, x3, ?_, by simp; omega, fun h => .inl (h4 (h.resolve_right (by decide))), fun h => absurd (h.resolve_right (by decide)) n7, fun h => absurd (h11 (h.resolve_right (by decide))) n7, fun h => absurd (h11 (h12 (h.resolve_right (by decide)))) n7, fun h h' => (hA (h.resolve_right (by decide)) (fun l => h' (.inl l))).alloc _, fun h _ => (hB (h.resolve_right (by decide)) n7).alloc _, fun _ _ => ⟨W.heap.size, rfl, heap_alloc_last _ _, fun h h' he => ?_, fun h he => ?_⟩, fun h => absurd (h.resolve_right (by decide)) n7, fun h => absurd (h11 (h.resolve_right (by decide))) n7, fun h => absurd (h11 (h12 (h.resolve_right (by decide)))) n7⟩
                    · simp only [Act.put, List.setIfInBounds_toArray, List.set_cons_zero, List.set_cons_succ]
                    · have := ((hA (h.resolve_right (by decide)) (fun l => h' (.inl l))).lt _ he).2
                      omega
                    · have := ((hB (h.resolve_right (by decide)) n7).lt _ he).2
                      omega
                  · intro L A W o hI ho hn hd
                    obtain rfl : { dst := some 53, op := Op.call { callee := Callee.builtin Builtin.append, args := #[Operand.tmp 50, Operand.tmp 52], argTypes := #[67, 67] }, type := 67, pos := "world.go:136", after := #[{ on := 4, ground := Ground.data }, { on := 6, ground := Ground.data }, { on := 4, ground := Ground.chain }], guard := none } = o := Option.some.inj ho
                    obtain ⟨hS, x46, x50, x52, x53, x57, x3, rfl, hsz, h4, h7, h11, h12, hA, hB, hC, hD, hE, hF⟩ := hI
                    simp only [Act.put, List.setIfInBounds_toArray, List.set_cons_zero, List.set_cons_succ]
                    refine wpOp_step (o := { dst := some 53, op := Op.call { callee := Callee.builtin Builtin.append, args := #[Operand.tmp 50, Operand.tmp 52], argTypes := #[67, 67] }, type := 67, pos := "world.go:136", after := #[{ on := 4, ground := Ground.data }, { on := 6, ground := Ground.data }, { on := 4, ground := Ground.chain }], guard := none }) rfl (fun K hK => ?_)
                    rw [if_pos (by rfl)]
                    have l4 : L 4 := hd { on := 4, ground := Ground.data } (by simp) rfl (by simp)
                    have l6 : L 6 := hd { on := 6, ground := Ground.data } (by simp) rfl (by simp)
                    have n11 : ¬ L 11 := fun h => hn (h11 h)
                    have o50 := hB l4 hn
                    obtain ⟨g, rfl, e2, e3, e4⟩ := hC l6 hn
                    refine wp_append_any (.tmp 50) (.tmp 52) 67 rfl W2.heap.size 70 t3 z3 3 Tryz.underlying67 ht3 ht3z ht3s ht3b ht3c (by decide) x50 (0) ((tds.take (0)).flatMap cellsT) rfl o50 (some ⟨g, 0, none⟩) 1 1 ([Value.int .i64 tid, .int .i64 1, .slice A5 ts[j].cs.length c5]) rfl rfl (fun h => by cases h) (fun p hp => by cases hp; exact World.news_of_block e2) (by simp [Value.oneCell']) (by omega) hsz ?_
                    intro v' w1 hown hgr hat
                    have hbw := below_grown hS.1 hgr (fun i hi => (o50.lt i hi).1) hS.1.size
                    have hgs := hgr.size
                    refine hK _ _ ⟨HSm.out _ hbw, x46, x50, .slice (some ⟨g, 0, none⟩) 1 1, v', x57, x3, ?_, by omega, fun h => .inl (h4 (h.resolve_right (by decide))), fun _ => ⟨.inl l4, .inl l6⟩, fun h => absurd (h.resolve_right (by decide)) n11, fun h => absurd (h12 (h.resolve_right (by decide))) n11, fun _ h => absurd (.inl l4) h, fun _ h => absurd (.inr rfl) h, fun _ h => absurd (.inr rfl) h, fun _ _ => hown, fun h => absurd (h.resolve_right (by decide)) n11, fun h => absurd (h12 (h.resolve_right (by decide))) n11⟩
                    simp only [Act.put, List.setIfInBounds_toArray, List.set_cons_zero, List.set_cons_succ]
                  · intro L A W o hI ho hn hd
                    obtain rfl : { dst := some 57, op := Op.call { callee := Callee.builtin Builtin.append, args := #[Operand.tmp 53, Operand.tmp 56], argTypes := #[67, 67] }, type := 67, pos := "world.go:136", after := #[{ on := 7, ground := Ground.data }, { on := 10, ground := Ground.data }, { on := 7, ground := Ground.chain }], guard := none } = o := Option.some.inj ho
                    obtain ⟨hS, x46, x50, x52, x53, x57, x3, rfl, hsz, h4, h7, h11, h12, hA, hB, hC, hD, hE, hF⟩ := hI
                    simp only [Act.put, List.setIfInBounds_toArray, List.set_cons_zero, List.set_cons_succ]
                    refine wpOp_step (o := { dst := some 57, op := Op.call { callee := Callee.builtin Builtin.append, args := #[Operand.tmp 53, Operand.tmp 56], argTypes := #[67, 67] }, type := 67, pos := "world.go:136", after := #[{ on := 7, ground := Ground.data }, { on := 10, ground := Ground.data }, { on := 7, ground := Ground.chain }], guard := none }) rfl (fun K hK => ?_)
                    rw [if_pos (by rfl)]
                    have l7 : L 7 := hd { on := 7, ground := Ground.data } (by simp) rfl (by simp)
                    have l4 := (h7 l7).1
                    have n12 : ¬ L 12 := fun h => hn (h12 h)
                    have o53 := hD l7 hn
                    refine wp_append_any (.tmp 53) (.tmp 56) 67 rfl W2.heap.size 70 t3 z3 3 Tryz.underlying67 ht3 ht3z ht3s ht3b ht3c (by decide) x53 (0 + 1) ((tds.take (0)).flatMap cellsT ++ [Value.int .i64 tid, .int .i64 1, .slice A5 ts[j].cs.length c5]) rfl o53 (none) (0) (0) ((tds.drop (0)).flatMap cellsT) rfl hyl (by intro h; first | exact ⟨rfl, rfl⟩ | (split at h <;> cases h) | cases h) (HY.out _ hS.1) (flatT_one _) (by omega) hsz ?_
                    intro v' w1 hown hgr hat
                    have hbw := below_grown hS.1 hgr (fun i hi => (o53.lt i hi).1) hS.1.size
                    have hgs := hgr.size
                    refine hK _ _ ⟨HSm.out _ hbw, x46, x50, x52, x53, v', x3, ?_, by omega, fun h => .inl (h4 (h.resolve_right (by decide))), fun _ => ⟨.inl l4, .inl (h7 l7).2⟩, fun _ => .inl l7, fun h => absurd (h.resolve_right (by decide)) n12, fun _ h => absurd (.inl l4) h, fun _ h => absurd (.inl l7) h, fun _ h => absurd (.inl l7) h, fun _ h => absurd (.inr rfl) h, fun _ => hown, fun h => absurd (h.resolve_right (by decide)) n12⟩
                    simp only [Act.put, List.setIfInBounds_toArray, List.set_cons_zero, List.set_cons_succ]
                  · intro L A W o hI ho hn hd
                    obtain rfl : { dst := some 3, op := Op.assign (Operand.tmp 57), type := 67, pos := "world.go:136", after := #[{ on := 11, ground := Ground.data }, { on := 11, ground := Ground.chain }, { on := 0, ground := Ground.phase }, { on := 1, ground := Ground.phase }, { on := 2, ground := Ground.phase }, { on := 3, ground := Ground.phase }, { on := 4, ground := Ground.phase }, { on := 5, ground := Ground.phase }, { on := 6, ground := Ground.phase }, { on := 7, ground := Ground.phase }, { on := 8, ground := Ground.phase }, { on := 9, ground := Ground.phase }, { on := 10, ground := Ground.phase }, { on := 11, ground := Ground.phase }], guard := none } = o := Option.some.inj ho
                    obtain ⟨hS, x46, x50, x52, x53, x57, x3, rfl, hsz, h4, h7, h11, h12, hA, hB, hC, hD, hE, hF⟩ := hI
                    simp only [Act.put, List.setIfInBounds_toArray, List.set_cons_zero, List.set_cons_succ]
                    refine wpOp_step (o := { dst := some 3, op := Op.assign (Operand.tmp 57), type := 67, pos := "world.go:136", after := #[{ on := 11, ground := Ground.data }, { on := 11, ground := Ground.chain }, { on := 0, ground := Ground.phase }, { on := 1, ground := Ground.phase }, { on := 2, ground := Ground.phase }, { on := 3, ground := Ground.phase }, { on := 4, ground := Ground.phase }, { on := 5, ground := Ground.phase }, { on := 6, ground := Ground.phase }, { on := 7, ground := Ground.phase }, { on := 8, ground := Ground.phase }, { on := 9, ground := Ground.phase }, { on := 10, ground := Ground.phase }, { on := 11, ground := Ground.phase }], guard := none }) rfl (fun K hK => ?_)
                    rw [if_pos (by rfl)]
                    have l11 : L 11 := hd { on := 11, ground := Ground.data } (by simp) rfl (by simp)
                    have l7 := h11 l11
                    have l4 := (h7 l7).1
                    go_simp
                    refine hK _ _ ⟨hS, x46, x50, x52, x53, x57, x57, ?_, hsz, fun h => .inl (h4 (h.resolve_right (by decide))), fun _ => ⟨.inl l4, .inl (h7 l7).2⟩, fun _ => .inl l7, fun _ => .inl l11, fun _ h => absurd (.inl l4) h, fun _ h => absurd (.inl l7) h, fun _ h => absurd (.inl l7) h, fun _ h => absurd (.inl l11) h, fun _ => hE l11, fun _ => rfl⟩
                    simp only [Act.put, List.setIfInBounds_toArray, List.set_cons_zero, List.set_cons_succ]
                · intro L A W9 hI ha
                  obtain ⟨hS, x46, x50, x52, x53, x57, x3, rfl, hsz, h4, h7, h11, h12, hA, hB, hC, hD, hE, hF⟩ := hI
                  obtain rfl := hF (ha 12 (by simp))
                  have hr := hE (ha 11 (by simp))
                  have hBW := hS.1
                  clear h4 h7 h11 h12 hA hB hC hD hE hF ha hHeld hS
                  have hm2 := HM2.out
                  have hl9 : (tds.take (0) ++ ([⟨tid, A5, ts[j].cs.length, c5⟩] : List TrD) ++ tds.drop (0)).length = (0) + 1 + (0) := by simp only [List.length_append, List.length_take, List.length_drop, List.length_cons, List.length_nil]; omega
                  have HO9 := Lib.hid (show OutT (w.heap.size + 1) x3 (tds.take (0) ++ ([⟨tid, A5, ts[j].cs.length, c5⟩] : List TrD) ++ tds.drop (0)) W9 from ⟨by
                    rw [hl9, List.flatMap_append, List.flatMap_append, List.flatMap_cons, List.flatMap_nil, List.append_nil]
                    exact row_mono hr (Nat.succ_le_of_lt (blk_lt (blk_keep HW2.out HS1.out))), fun t ht => by
                    simp only [List.mem_append, List.mem_cons, List.not_mem_nil, or_false] at ht
                    rcases ht with (ht | rfl) | ht
                    · exact (HO2.out.2 t (List.mem_of_mem_take ht)).below hBW
                    · exact (HSp.out.below HW2.out).below hBW
                    · exact (HO2.out.2 t (List.mem_of_mem_drop ht)).below hBW⟩)
                  have HB9 := Lib.hid (below_on (below_on HB1.out HW2.out HB1.out.size) hBW (below_on HB1.out HW2.out HB1.out.size).size)
                  have HS9 := Lib.hid (show StoryB W9 w.heap.size (some ad) ts.length c o0 o1 o2 o3 b m d q from blk_keep hBW (blk_keep HW2.out HS1.out))
                  clear hr hBW
                  simp only [Act.put, List.setIfInBounds_toArray, List.set_cons_zero, List.set_cons_succ]
                  go_wp2_with fail
                  exact ⟨⟨j + 1, _, by omega, by rw [hl9]; omega, by go_num, HB9, HS9, HO9⟩, by simp [intOf]; omega⟩
              · have hnl : (0 : Int) ≤ (tds.length : Int) := by omega
                have hn0' : (0 : Int) ≤ (0 : Int) := by omega
                have e2' : (tds.length : Int) ≤ (c3 : Int) := by omega
                have e3' : (0 : Int) ≤ (c3 : Int) := by omega
                try push_cast
                refine wp_region_held_drew (S := (fun W => Below W2.heap.size W2 W ∧ W.cell? ⟨gt, 0, none⟩ = some (.int .i64 tid) ∧ W.cell? ⟨gt, 1, none⟩ = some (.int .i64 1) ∧ W.cell? ⟨gt, 2, none⟩ = some (.slice A5 ts[j].cs.length c5))) (by kernel_rfl) ⟨below_drew _, cell_blk HG2.out 0 rfl, cell_blk HG2.out 1 rfl, cell_blk HG2.out 2 rfl⟩ (fun hHeld => ?_)
                refine wpAnyH_take (i := 1) (oi := { dst := some 47, op := Op.move (Operand.tmp 3), type := 67, pos := "world.go:136", after := #[], guard := none }) (v := ?_) rfl (by kernel_rfl) (by kernel_rfl) (by kernel_rfl) (fun _ _ _ h => h) (Or.inl ⟨by rfl, ?_⟩) hHeld ?_
                rotate_left
                · intro W hSw; (try dsimp only at hSw); go_simp; try with_reducible rfl
                try simp only [Act.put, List.setIfInBounds_toArray, List.set_cons_zero, List.set_cons_succ]
                refine wpAnyH_take (i := 2) (oi := { dst := some 48, op := Op.move (Operand.tmp 6), type := 3, pos := "world.go:136", after := #[], guard := none }) (v := ?_) rfl (by kernel_rfl) (by kernel_rfl) (by kernel_rfl) (fun _ _ _ h => h) (Or.inl ⟨by rfl, ?_⟩) hHeld ?_
                rotate_left
                · intro W hSw; (try dsimp only at hSw); go_simp; try with_reducible rfl
                try simp only [Act.put, List.setIfInBounds_toArray, List.set_cons_zero, List.set_cons_succ]
                refine wpAnyH_take (i := 3) (oi := { dst := some 49, op := Op.slice 67 (Operand.tmp 47) none (some (Operand.tmp 48)) none, type := 67, pos := "world.go:136", after := #[{ on := 1, ground := Ground.data }, { on := 2, ground := Ground.data }], guard := none }) (v := ?_) rfl (by kernel_rfl) (by kernel_rfl) (by kernel_rfl) (fun _ _ _ h => h) (Or.inl ⟨by rfl, ?_⟩) hHeld ?_
                rotate_left
                · intro W hSw; (try dsimp only at hSw); go_simp; try with_reducible rfl
                try simp only [Act.put, List.setIfInBounds_toArray, List.set_cons_zero, List.set_cons_succ]
                refine wpAnyH_take (i := 5) (oi := { dst := some 51, op := Op.load 70 (Operand.tmp 5), type := 70, pos := "world.go:136", after := #[], guard := none }) (v := ?_) rfl (by kernel_rfl) (by kernel_rfl) (by kernel_rfl) (fun _ _ _ h => h) (Or.inl ⟨by rfl, ?_⟩) hHeld ?_
                rotate_left
                · intro W hSw; (try dsimp only at hSw); go_simp; try with_reducible rfl
                try simp only [Act.put, List.setIfInBounds_toArray, List.set_cons_zero, List.set_cons_succ]
                refine wpAnyH_take (i := 8) (oi := { dst := some 54, op := Op.move (Operand.tmp 3), type := 67, pos := "world.go:136", after := #[], guard := none }) (v := ?_) rfl (by kernel_rfl) (by kernel_rfl) (by kernel_rfl) (fun _ _ _ h => h) (Or.inl ⟨by rfl, ?_⟩) hHeld ?_
                rotate_left
                · intro W hSw; (try dsimp only at hSw); go_simp; try with_reducible rfl
                try simp only [Act.put, List.setIfInBounds_toArray, List.set_cons_zero, List.set_cons_succ]
                refine wpAnyH_take (i := 9) (oi := { dst := some 55, op := Op.move (Operand.tmp 6), type := 3, pos := "world.go:136", after := #[], guard := none }) (v := ?_) rfl (by kernel_rfl) (by kernel_rfl) (by kernel_rfl) (fun _ _ _ h => h) (Or.inl ⟨by rfl, ?_⟩) hHeld ?_
                rotate_left
                · intro W hSw; (try dsimp only at hSw); go_simp; try with_reducible rfl
                try simp only [Act.put, List.setIfInBounds_toArray, List.set_cons_zero, List.set_cons_succ]
                refine wpAnyH_take (i := 10) (oi := { dst := some 56, op := Op.slice 67 (Operand.tmp 54) (some (Operand.tmp 55)) none none, type := 67, pos := "world.go:136", after := #[{ on := 8, ground := Ground.data }, { on := 9, ground := Ground.data }], guard := none }) (v := ?_) rfl (by kernel_rfl) (by kernel_rfl) (by kernel_rfl) (fun _ _ _ h => h) (Or.inl ⟨by rfl, ?_⟩) hHeld ?_
                rotate_left
                · intro W hSw; (try dsimp only at hSw); go_simp; try with_reducible rfl
                try simp only [Act.put, List.setIfInBounds_toArray, List.set_cons_zero, List.set_cons_succ]
                have HX := Lib.hid (fun (W : World) (h : Below W2.heap.size W2 W) => out_take (n := 0) (HO2.out.below h))
                have HY := Lib.hid (fun (W : World) (h : Below W2.heap.size W2 W) => fun p hp j u hu => out_take (n := tds.length) (HO2.out.below h) p hp j u (by rw [List.take_length]; exact hu))
                have HSm := Lib.hid (fun (W : World) (h : Below W2.heap.size W2 W) => (show Below W2.heap.size W2 W ∧ W.cell? ⟨gt, 0, none⟩ = some (.int .i64 tid) ∧ W.cell? ⟨gt, 1, none⟩ = some (.int .i64 1) ∧ W.cell? ⟨gt, 2, none⟩ = some (.slice A5 ts[j].cs.length c5) from have hb := (h.block _ (blk_lt HG2.out)).trans HG2.out; ⟨h, cell_blk hb 0 rfl, cell_blk hb 1 rfl, cell_blk hb 2 rfl⟩))
                have hxl : ((tds.take (0)).flatMap cellsT).length = (0) * 3 := by rw [flatT_length, List.length_take, Nat.min_eq_left (by omega)]
                have hyl : ((tds.drop (0)).flatMap cellsT).length = (tds.length) * 3 := by rw [flatT_length, List.length_drop] <;> first | rfl | omega
                have hm2 : (0) + (tds.length) = tds.length := by omega
                have HM2 := Lib.hid hm2
                have hn3x : (0) ≤ 3 := by omega
                have hMM : (tds.length) ≤ 3 := by omega
                clear hm2
                try clear hz2
                refine wpAnyH_rest [0, 4, 6, 7, 11, 12] (AppI (fun W => Below W2.heap.size W2 W ∧ W.cell? ⟨gt, 0, none⟩ = some (.int .i64 tid) ∧ W.cell? ⟨gt, 1, none⟩ = some (.int .i64 1) ∧ W.cell? ⟨gt, 2, none⟩ = some (.slice A5 ts[j].cs.length c5)) W2.heap.size (0) (tds.length) ((tds.take (0)).flatMap cellsT) ([Value.int .i64 tid, .int .i64 1, .slice A5 ts[j].cs.length c5]) ((tds.drop (0)).flatMap cellsT)) (by kernel_rfl) rfl (by kernel_rfl) (by kernel_rfl) (by kernel_rfl) ?_ (fun _ _ _ h => h.1) ?_ ?_
                · intro L hL
                  have g : ∀ k ∈ [0, 4, 6, 7, 11, 12], L k → False := fun k hk h => hL k hk h
                  refine ⟨hHeld, ?x46s, ?x50s, ?x52s, ?x53s, ?x57s, ?x3s, ?eqs, hHeld.1.size, fun h => (g 4 (by simp) h).elim, fun h => (g 7 (by simp) h).elim, fun h => (g 11 (by simp) h).elim, fun h => (g 12 (by simp) h).elim, fun h => (g 0 (by simp) h).elim, fun h => (g 4 (by simp) h).elim, fun h => (g 6 (by simp) h).elim, fun h => (g 7 (by simp) h).elim, fun h => (g 11 (by simp) h).elim, fun h => (g 12 (by simp) h).elim⟩
                  case eqs =>
                    simp only [Act.put, List.setIfInBounds_toArray, List.set_cons_zero, List.set_cons_succ]
                    try rfl
                · intro i0 hi0
                  simp only [List.mem_cons, List.not_mem_nil, or_false] at hi0
                  rcases hi0 with rfl | rfl | rfl | rfl | rfl | rfl
                  · intro L A W o hI ho hn hd
                    obtain rfl : { dst := some 46, op := Op.buildSlice 67 0 #[], type := 67, pos := "world.go:136", after := #[], guard := none } = o := Option.some.inj ho
                    obtain ⟨hS, x46, x50, x52, x53, x57, x3, rfl, hsz, h4, h7, h11, h12, hA, hB, hC, hD, hE, hF⟩ := hI
                    simp only [Act.put, List.setIfInBounds_toArray, List.set_cons_zero, List.set_cons_succ]
                    refine wpOp_step (o := { dst := some 46, op := Op.buildSlice 67 0 #[], type := 67, pos := "world.go:136", after := #[], guard := none }) rfl (fun K hK => ?_)
                    rw [if_pos (by rfl)]
                    have n4 : ¬ L 4 := fun h => hn (h4 h)
                    go_simp
                    refine hK _ _ ⟨HSm.out _ (below_on hS.1 (below_alloc _ _) hS.1.size), .slice (some ⟨W.heap.size, 0, none⟩) 0 0, x50, x52, x53, x57, x3, ?_, by simp; omega, fun h => absurd (h.resolve_right (by decide)) n4, fun h => absurd (h7 (h.resolve_right (by decide))).1 n4, fun h => absurd (h7 (h11 (h.resolve_right (by decide)))).1 n4, fun h => absurd (h7 (h11 (h12 (h.resolve_right (by decide))))).1 n4, fun _ _ => World.ownsRow_made W #[] 0 hsz (Nat.zero_le _) rfl, fun h => absurd (h.resolve_right (by decide)) n4, fun h h' => ?_, fun h => absurd (h7 (h.resolve_right (by decide))).1 n4, fun h => absurd (h7 (h11 (h.resolve_right (by decide)))).1 n4, fun h => absurd (h7 (h11 (h12 (h.resolve_right (by decide))))).1 n4⟩
                    · simp only [Act.put, List.setIfInBounds_toArray, List.set_cons_zero, List.set_cons_succ]
                    · obtain ⟨g, e1, e2, e3, e4⟩ := hC (h.resolve_right (by decide)) (fun l => h' (.inl l))
                      refine ⟨g, e1, heap_alloc_old e2, fun _ _ he => ?_, fun h => absurd (h.resolve_right (by decide)) n4⟩
                      have := blk_lt e2
                      simp [Value.ownBlock] at he
                      omega
                  · intro L A W o hI ho hn hd
                    obtain rfl : { dst := some 50, op := Op.call { callee := Callee.builtin Builtin.append, args := #[Operand.tmp 46, Operand.tmp 49], argTypes := #[67, 67] }, type := 67, pos := "world.go:136", after := #[{ on := 0, ground := Ground.data }, { on := 3, ground := Ground.data }], guard := none } = o := Option.some.inj ho
                    obtain ⟨hS, x46, x50, x52, x53, x57, x3, rfl, hsz, h4, h7, h11, h12, hA, hB, hC, hD, hE, hF⟩ := hI
                    simp only [Act.put, List.setIfInBounds_toArray, List.set_cons_zero, List.set_cons_succ]
                    refine wpOp_step (o := { dst := some 50, op := Op.call { callee := Callee.builtin Builtin.append, args := #[Operand.tmp 46, Operand.tmp 49], argTypes := #[67, 67] }, type := 67, pos := "world.go:136", after := #[{ on := 0, ground := Ground.data }, { on := 3, ground := Ground.data }], guard := none }) rfl (fun K hK => ?_)
                    rw [if_pos (by rfl)]
                    have l0 : L 0 := hd { on := 0, ground := Ground.data } (by simp) rfl (by simp)
                    have n7 : ¬ L 7 := fun h => hn (h7 h).1
                    have o46 := hA l0 hn
                    refine wp_append_any (.tmp 46) (.tmp 49) 67 rfl W2.heap.size 70 t3 z3 3 Tryz.underlying67 ht3 ht3z ht3s ht3b ht3c (by decide) x46 0 [] rfl o46 (some ⟨g3, 0, none⟩) (0) (c3) ((tds.take (0)).flatMap cellsT) rfl hxl (by intro h; first | exact ⟨rfl, rfl⟩ | cases h) (HX.out _ hS.1) (flatT_one _) (by omega) hsz ?_
                    intro v' w1 hown hgr hat
                    have hbw := below_grown hS.1 hgr (fun i hi => (o46.lt i hi).1) hS.1.size
                    have hgs := hgr.size
                    rw [Nat.zero_add, List.nil_append] at hown
                    refine hK _ _ ⟨HSm.out _ hbw, x46, v', x52, x53, x57, x3, ?_, by omega, fun _ => .inl l0, fun h => absurd (h.resolve_right (by decide)) n7, fun h => absurd (h11 (h.resolve_right (by decide))) n7, fun h => absurd (h11 (h12 (h.resolve_right (by decide)))) n7, fun _ h => absurd (.inr rfl) h, fun _ _ => hown, fun h _ => ?_, fun h => absurd (h.resolve_right (by decide)) n7, fun h => absurd (h11 (h.resolve_right (by decide))) n7, fun h => absurd (h11 (h12 (h.resolve_right (by decide)))) n7⟩
                    · simp only [Act.put, List.setIfInBounds_toArray, List.set_cons_zero, List.set_cons_succ]
                    · obtain ⟨g, e1, e2, e3, e4⟩ := hC (h.resolve_right (by decide)) n7
                      refine ⟨g, e1, blk_grown hgr e2 (e3 l0 hn), fun _ h => absurd (.inr rfl) h, fun _ he => ?_⟩
                      rcases hat with h | h
                      · exact e3 l0 hn (h.symm.trans he)
                      · have := blk_lt e2
                        have := Option.some.inj (h.symm.trans he)
                        omega
                  · intro L A W o hI ho hn hd
                    obtain rfl : { dst := some 52, op := Op.buildSlice 67 1 #[(0, Operand.tmp 51)], type := 67, pos := "world.go:136", after := #[{ on := 5, ground := Ground.data }], guard := none } = o := Option.some.inj ho
                    obtain ⟨hS, x46, x50, x52, x53, x57, x3, rfl, hsz, h4, h7, h11, h12, hA, hB, hC, hD, hE, hF⟩ := hI
                    simp only [Act.put, List.setIfInBounds_toArray, List.set_cons_zero, List.set_cons_succ]
                    refine wpOp_step (o := { dst := some 52, op := Op.buildSlice 67 1 #[(0, Operand.tmp 51)], type := 67, pos := "world.go:136", after := #[{ on := 5, ground := Ground.data }], guard := none }) rfl (fun K hK => ?_)
                    rw [if_pos (by rfl)]
                    have n7 : ¬ L 7 := fun h => hn (h7 h).2
                    go_simp
                    refine hK _ _ ⟨HSm.out _ (below_on hS.1 (below_alloc _ _) hS.1.size), x46, x50, .slice (some ⟨W.heap.size, 0, none⟩) 1 1, x53, x57, x3, ?_, by simp; omega, fun h => .inl (h4 (h.resolve_right (by decide))), fun h => absurd (h.resolve_right (by decide)) n7, fun h => absurd (h11 (h.resolve_right (by decide))) n7, fun h => absurd (h11 (h12 (h.resolve_right (by decide)))) n7, fun h h' => (hA (h.resolve_right (by decide)) (fun l => h' (.inl l))).alloc _, fun h _ => (hB (h.resolve_right (by decide)) n7).alloc _, fun _ _ => ⟨W.heap.size, rfl, heap_alloc_last _ _, fun h h' he => ?_, fun h he => ?_⟩, fun h => absurd (h.resolve_right (by decide)) n7, fun h => absurd (h11 (h.resolve_right (by decide))) n7, fun h => absurd (h11 (h12 (h.resolve_right (by decide)))) n7⟩
                    · simp only [Act.put, List.setIfInBounds_toArray, List.set_cons_zero, List.set_cons_succ]
                    · have := ((hA (h.resolve_right (by decide)) (fun l => h' (.inl l))).lt _ he).2
                      omega
                    · have := ((hB (h.resolve_right (by decide)) n7).lt _ he).2
                      omega
                  · intro L A W o hI ho hn hd
                    obtain rfl : { dst := some 53, op := Op.call { callee := Callee.builtin Builtin.append, args := #[Operand.tmp 50, Operand.tmp 52], argTypes := #[67, 67] }, type := 67, pos := "world.go:136", after := #[{ on := 4, ground := Ground.data }, { on := 6, ground := Ground.data }, { on := 4, ground := Ground.chain }], guard := none } = o := Option.some.inj ho
                    obtain ⟨hS, x46, x50, x52, x53, x57, x3, rfl, hsz, h4, h7, h11, h12, hA, hB, hC, hD, hE, hF⟩ := hI
                    simp only [Act.put, List.setIfInBounds_toArray, List.set_cons_zero, List.set_cons_succ]
                    refine wpOp_step (o := { dst := some 53, op := Op.call { callee := Callee.builtin Builtin.append, args := #[Operand.tmp 50, Operand.tmp 52], argTypes := #[67, 67] }, type := 67, pos := "world.go:136", after := #[{ on := 4, ground := Ground.data }, { on := 6, ground := Ground.data }, { on := 4, ground := Ground.chain }], guard := none }) rfl (fun K hK => ?_)
                    rw [if_pos (by rfl)]
                    have l4 : L 4 := hd { on := 4, ground := Ground.data } (by simp) rfl (by simp)
                    have l6 : L 6 := hd { on := 6, ground := Ground.data } (by simp) rfl (by simp)
                    have n11 : ¬ L 11 := fun h => hn (h11 h)
                    have o50 := hB l4 hn
                    obtain ⟨g, rfl, e2, e3, e4⟩ := hC l6 hn
                    refine wp_append_any (.tmp 50) (.tmp 52) 67 rfl W2.heap.size 70 t3 z3 3 Tryz.underlying67 ht3 ht3z ht3s ht3b ht3c (by decide) x50 (0) ((tds.take (0)).flatMap cellsT) rfl o50 (some ⟨g, 0, none⟩) 1 1 ([Value.int .i64 tid, .int .i64 1, .slice A5 ts[j].cs.length c5]) rfl rfl (fun h => by cases h) (fun p hp => by cases hp; exact World.news_of_block e2) (by simp [Value.oneCell']) (by omega) hsz ?_
                    intro v' w1 hown hgr hat
                    have hbw := below_grown hS.1 hgr (fun i hi => (o50.lt i hi).1) hS.1.size
                    have hgs := hgr.size
                    refine hK _ _ ⟨HSm.out _ hbw, x46, x50, .slice (some ⟨g, 0, none⟩) 1 1, v', x57, x3, ?_, by omega, fun h => .inl (h4 (h.resolve_right (by decide))), fun _ => ⟨.inl l4, .inl l6⟩, fun h => absurd (h.resolve_right (by decide)) n11, fun h => absurd (h12 (h.resolve_right (by decide))) n11, fun _ h => absurd (.inl l4) h, fun _ h => absurd (.inr rfl) h, fun _ h => absurd (.inr rfl) h, fun _ _ => hown, fun h => absurd (h.resolve_right (by decide)) n11, fun h => absurd (h12 (h.resolve_right (by decide))) n11⟩
                    simp only [Act.put, List.setIfInBounds_toArray, List.set_cons_zero, List.set_cons_succ]
                  · intro L A W o hI ho hn hd
                    obtain rfl : { dst := some 57, op := Op.call { callee := Callee.builtin Builtin.append, args := #[Operand.tmp 53, Operand.tmp 56], argTypes := #[67, 67] }, type := 67, pos := "world.go:136", after := #[{ on := 7, ground := Ground.data }, { on := 10, ground := Ground.data }, { on := 7, ground := Ground.chain }], guard := none } = o := Option.some.inj ho
                    obtain ⟨hS, x46, x50, x52, x53, x57, x3, rfl, hsz, h4, h7, h11, h12, hA, hB, hC, hD, hE, hF⟩ := hI
                    simp only [Act.put, List.setIfInBounds_toArray, List.set_cons_zero, List.set_cons_succ]
                    refine wpOp_step (o := { dst := some 57, op := Op.call { callee := Callee.builtin Builtin.append, args := #[Operand.tmp 53, Operand.tmp 56], argTypes := #[67, 67] }, type := 67, pos := "world.go:136", after := #[{ on := 7, ground := Ground.data }, { on := 10, ground := Ground.data }, { on := 7, ground := Ground.chain }], guard := none }) rfl (fun K hK => ?_)
                    rw [if_pos (by rfl)]
                    have l7 : L 7 := hd { on := 7, ground := Ground.data } (by simp) rfl (by simp)
                    have l4 := (h7 l7).1
                    have n12 : ¬ L 12 := fun h => hn (h12 h)
                    have o53 := hD l7 hn
                    refine wp_append_any (.tmp 53) (.tmp 56) 67 rfl W2.heap.size 70 t3 z3 3 Tryz.underlying67 ht3 ht3z ht3s ht3b ht3c (by decide) x53 (0 + 1) ((tds.take (0)).flatMap cellsT ++ [Value.int .i64 tid, .int .i64 1, .slice A5 ts[j].cs.length c5]) rfl o53 (some ⟨g3, 0, none⟩) (tds.length) (c3) ((tds.drop (0)).flatMap cellsT) rfl hyl (by intro h; first | exact ⟨rfl, rfl⟩ | (split at h <;> cases h) | cases h) (HY.out _ hS.1) (flatT_one _) (by omega) hsz ?_
                    intro v' w1 hown hgr hat
                    have hbw := below_grown hS.1 hgr (fun i hi => (o53.lt i hi).1) hS.1.size
                    have hgs := hgr.size
                    refine hK _ _ ⟨HSm.out _ hbw, x46, x50, x52, x53, v', x3, ?_, by omega, fun h => .inl (h4 (h.resolve_right (by decide))), fun _ => ⟨.inl l4, .inl (h7 l7).2⟩, fun _ => .inl l7, fun h => absurd (h.resolve_right (by decide)) n12, fun _ h => absurd (.inl l4) h, fun _ h => absurd (.inl l7) h, fun _ h => absurd (.inl l7) h, fun _ h => absurd (.inr rfl) h, fun _ => hown, fun h => absurd (h.resolve_right (by decide)) n12⟩
                    simp only [Act.put, List.setIfInBounds_toArray, List.set_cons_zero, List.set_cons_succ]
                  · intro L A W o hI ho hn hd
                    obtain rfl : { dst := some 3, op := Op.assign (Operand.tmp 57), type := 67, pos := "world.go:136", after := #[{ on := 11, ground := Ground.data }, { on := 11, ground := Ground.chain }, { on := 0, ground := Ground.phase }, { on := 1, ground := Ground.phase }, { on := 2, ground := Ground.phase }, { on := 3, ground := Ground.phase }, { on := 4, ground := Ground.phase }, { on := 5, ground := Ground.phase }, { on := 6, ground := Ground.phase }, { on := 7, ground := Ground.phase }, { on := 8, ground := Ground.phase }, { on := 9, ground := Ground.phase }, { on := 10, ground := Ground.phase }, { on := 11, ground := Ground.phase }], guard := none } = o := Option.some.inj ho
                    obtain ⟨hS, x46, x50, x52, x53, x57, x3, rfl, hsz, h4, h7, h11, h12, hA, hB, hC, hD, hE, hF⟩ := hI
                    simp only [Act.put, List.setIfInBounds_toArray, List.set_cons_zero, List.set_cons_succ]
                    refine wpOp_step (o := { dst := some 3, op := Op.assign (Operand.tmp 57), type := 67, pos := "world.go:136", after := #[{ on := 11, ground := Ground.data }, { on := 11, ground := Ground.chain }, { on := 0, ground := Ground.phase }, { on := 1, ground := Ground.phase }, { on := 2, ground := Ground.phase }, { on := 3, ground := Ground.phase }, { on := 4, ground := Ground.phase }, { on := 5, ground := Ground.phase }, { on := 6, ground := Ground.phase }, { on := 7, ground := Ground.phase }, { on := 8, ground := Ground.phase }, { on := 9, ground := Ground.phase }, { on := 10, ground := Ground.phase }, { on := 11, ground := Ground.phase }], guard := none }) rfl (fun K hK => ?_)
                    rw [if_pos (by rfl)]
                    have l11 : L 11 := hd { on := 11, ground := Ground.data } (by simp) rfl (by simp)
                    have l7 := h11 l11
                    have l4 := (h7 l7).1
                    go_simp
                    refine hK _ _ ⟨hS, x46, x50, x52, x53, x57, x57, ?_, hsz, fun h => .inl (h4 (h.resolve_right (by decide))), fun _ => ⟨.inl l4, .inl (h7 l7).2⟩, fun _ => .inl l7, fun _ => .inl l11, fun _ h => absurd (.inl l4) h, fun _ h => absurd (.inl l7) h, fun _ h => absurd (.inl l7) h, fun _ h => absurd (.inl l11) h, fun _ => hE l11, fun _ => rfl⟩
                    simp only [Act.put, List.setIfInBounds_toArray, List.set_cons_zero, List.set_cons_succ]
                · intro L A W9 hI ha
                  obtain ⟨hS, x46, x50, x52, x53, x57, x3, rfl, hsz, h4, h7, h11, h12, hA, hB, hC, hD, hE, hF⟩ := hI
                  obtain rfl := hF (ha 12 (by simp))
                  have hr := hE (ha 11 (by simp))
                  have hBW := hS.1
                  clear h4 h7 h11 h12 hA hB hC hD hE hF ha hHeld hS
                  have hm2 := HM2.out
                  have hl9 : (tds.take (0) ++ ([⟨tid, A5, ts[j].cs.length, c5⟩] : List TrD) ++ tds.drop (0)).length = (0) + 1 + (tds.length) := by simp only [List.length_append, List.length_take, List.length_drop, List.length_cons, List.length_nil]; omega
                  have HO9 := Lib.hid (show OutT (w.heap.size + 1) x3 (tds.take (0) ++ ([⟨tid, A5, ts[j].cs.length, c5⟩] : List TrD) ++ tds.drop (0)) W9 from ⟨by
                    rw [hl9, List.flatMap_append, List.flatMap_append, List.flatMap_cons, List.flatMap_nil, List.append_nil]
                    exact row_mono hr (Nat.succ_le_of_lt (blk_lt (blk_keep HW2.out HS1.out))), fun t ht => by
                    simp only [List.mem_append, List.mem_cons, List.not_mem_nil, or_false] at ht
                    rcases ht with (ht | rfl) | ht
                    · exact (HO2.out.2 t (List.mem_of_mem_take ht)).below hBW
                    · exact (HSp.out.below HW2.out).below hBW
                    · exact (HO2.out.2 t (List.mem_of_mem_drop ht)).below hBW⟩)
                  have HB9 := Lib.hid (below_on (below_on HB1.out HW2.out HB1.out.size) hBW (below_on HB1.out HW2.out HB1.out.size).size)
                  have HS9 := Lib.hid (show StoryB W9 w.heap.size (some ad) ts.length c o0 o1 o2 o3 b m d q from blk_keep hBW (blk_keep HW2.out HS1.out))
                  clear hr hBW
                  simp only [Act.put, List.setIfInBounds_toArray, List.set_cons_zero, List.set_cons_succ]
                  go_wp2_with fail
                  exact ⟨⟨j + 1, _, by omega, by rw [hl9]; omega, by go_num, HB9, HS9, HO9⟩, by simp [intOf]; omega⟩
            · obtain ⟨k, rfl⟩ : ∃ k, n = k + 1 := ⟨n - 1, by omega⟩
              obtain ⟨g3, rfl, hc3, hm3⟩ := hform.resolve_left (by omega)
              have y1 := ((HO1.out.below HW.out).1.cellAt (k * 3) (by omega)).trans (cellsT_get (by omega))
              have hk1 : ((k + 1 : Nat) : Int) - 1 = (k : Int) := by omega
              by_cases hid : tid < tds[k].id
              · go_upto_region 8 with (fail)
                go_quiet (fail)
                have HW2 := Lib.hid (below_on HW.out (below_drewN0 _ nq) HW.out.size)
                generalize wr.drewN nq = W2 at *
                clear y0 y1 HW
                go_wp2_with fail
                exact ⟨⟨k, by omega, rfl, HW2⟩, by simp [intOf]⟩
              · go_upto_region 8 with (fail)
                go_quiet (fail)
                have HW2 := Lib.hid (below_on HW.out (below_drewN0 _ nq) HW.out.size)
                generalize wr.drewN nq = W2 at *
                clear y0 y1 HW
                go_upto_region 10 with (fail)
                have HO2 := Lib.hid (HO1.out.below HW2.out)
                have HG2 := Lib.hid (blk_keep HW2.out HG.out)
                have hnl : ((k + 1) : Int) ≤ (tds.length : Int) := by omega
                have hn0' : (0 : Int) ≤ ((k + 1) : Int) := by omega
                have e2' : (tds.length : Int) ≤ (c3 : Int) := by omega
                have e3' : ((k + 1) : Int) ≤ (c3 : Int) := by omega
                try push_cast
                refine wp_region_held_drew (S := (fun W => Below W2.heap.size W2 W ∧ W.cell? ⟨gt, 0, none⟩ = some (.int .i64 tid) ∧ W.cell? ⟨gt, 1, none⟩ = some (.int .i64 1) ∧ W.cell? ⟨gt, 2, none⟩ = some (.slice A5 ts[j].cs.length c5))) (by kernel_rfl) ⟨below_drew _, cell_blk HG2.out 0 rfl, cell_blk HG2.out 1 rfl, cell_blk HG2.out 2 rfl⟩ (fun hHeld => ?_)
                refine wpAnyH_take (i := 1) (oi := { dst := some 47, op := Op.move (Operand.tmp 3), type := 67, pos := "world.go:136", after := #[], guard := none }) (v := ?_) rfl (by kernel_rfl) (by kernel_rfl) (by kernel_rfl) (fun _ _ _ h => h) (Or.inl ⟨by rfl, ?_⟩) hHeld ?_
                rotate_left
                · intro W hSw; (try dsimp only at hSw); go_simp; try with_reducible rfl
                try simp only [Act.put, List.setIfInBounds_toArray, List.set_cons_zero, List.set_cons_succ]
                refine wpAnyH_take (i := 2) (oi := { dst := some 48, op := Op.move (Operand.tmp 6), type := 3, pos := "world.go:136", after := #[], guard := none }) (v := ?_) rfl (by kernel_rfl) (by kernel_rfl) (by kernel_rfl) (fun _ _ _ h => h) (Or.inl ⟨by rfl, ?_⟩) hHeld ?_
                rotate_left
                · intro W hSw; (try dsimp only at hSw); go_simp; try with_reducible rfl
                try simp only [Act.put, List.setIfInBounds_toArray, List.set_cons_zero, List.set_cons_succ]
                refine wpAnyH_take (i := 3) (oi := { dst := some 49, op := Op.slice 67 (Operand.tmp 47) none (some (Operand.tmp 48)) none, type := 67, pos := "world.go:136", after := #[{ on := 1, ground := Ground.data }, { on := 2, ground := Ground.data }], guard := none }) (v := ?_) rfl (by kernel_rfl) (by kernel_rfl) (by kernel_rfl) (fun _ _ _ h => h) (Or.inl ⟨by rfl, ?_⟩) hHeld ?_
                rotate_left
                · intro W hSw; (try dsimp only at hSw); go_simp; try with_reducible rfl
                try simp only [Act.put, List.setIfInBounds_toArray, List.set_cons_zero, List.set_cons_succ]
                refine wpAnyH_take (i := 5) (oi := { dst := some 51, op := Op.load 70 (Operand.tmp 5), type := 70, pos := "world.go:136", after := #[], guard := none }) (v := ?_) rfl (by kernel_rfl) (by kernel_rfl) (by kernel_rfl) (fun _ _ _ h => h) (Or.inl ⟨by rfl, ?_⟩) hHeld ?_
                rotate_left
                · intro W hSw; (try dsimp only at hSw); go_simp; try with_reducible rfl
                try simp only [Act.put, List.setIfInBounds_toArray, List.set_cons_zero, List.set_cons_succ]
                refine wpAnyH_take (i := 8) (oi := { dst := some 54, op := Op.move (Operand.tmp 3), type := 67, pos := "world.go:136", after := #[], guard := none }) (v := ?_) rfl (by kernel_rfl) (by kernel_rfl) (by kernel_rfl) (fun _ _ _ h => h) (Or.inl ⟨by rfl, ?_⟩) hHeld ?_
                rotate_left
                · intro W hSw; (try dsimp only at hSw); go_simp; try with_reducible rfl
                try simp only [Act.put, List.setIfInBounds_toArray, List.set_cons_zero, List.set_cons_succ]
                refine wpAnyH_take (i := 9) (oi := { dst := some 55, op := Op.move (Operand.tmp 6), type := 3, pos := "world.go:136", after := #[], guard := none }) (v := ?_) rfl (by kernel_rfl) (by kernel_rfl) (by kernel_rfl) (fun _ _ _ h => h) (Or.inl ⟨by rfl, ?_⟩) hHeld ?_
                rotate_left
                · intro W hSw; (try dsimp only at hSw); go_simp; try with_reducible rfl
                try simp only [Act.put, List.setIfInBounds_toArray, List.set_cons_zero, List.set_cons_succ]
                refine wpAnyH_take (i := 10) (oi := { dst := some 56, op := Op.slice 67 (Operand.tmp 54) (some (Operand.tmp 55)) none none, type := 67, pos := "world.go:136", after := #[{ on := 8, ground := Ground.data }, { on := 9, ground := Ground.data }], guard := none }) (v := ?_) rfl (by kernel_rfl) (by kernel_rfl) (by kernel_rfl) (fun _ _ _ h => h) (Or.inl ⟨by rfl, ?_⟩) hHeld ?_
                rotate_left
                · intro W hSw; (try dsimp only at hSw); go_simp; try with_reducible rfl
                try simp only [Act.put, List.setIfInBounds_toArray, List.set_cons_zero, List.set_cons_succ]
                have HX := Lib.hid (fun (W : World) (h : Below W2.heap.size W2 W) => out_take (n := (k + 1)) (HO2.out.below h))
                have HY := Lib.hid (fun (W : World) (h : Below W2.heap.size W2 W) => out_drop (n := (k + 1)) (HO2.out.below h) (by omega) (by omega))
                have HSm := Lib.hid (fun (W : World) (h : Below W2.heap.size W2 W) => (show Below W2.heap.size W2 W ∧ W.cell? ⟨gt, 0, none⟩ = some (.int .i64 tid) ∧ W.cell? ⟨gt, 1, none⟩ = some (.int .i64 1) ∧ W.cell? ⟨gt, 2, none⟩ = some (.slice A5 ts[j].cs.length c5) from have hb := (h.block _ (blk_lt HG2.out)).trans HG2.out; ⟨h, cell_blk hb 0 rfl, cell_blk hb 1 rfl, cell_blk hb 2 rfl⟩))
                have hxl : ((tds.take ((k + 1))).flatMap cellsT).length = ((k + 1)) * 3 := by rw [flatT_length, List.length_take, Nat.min_eq_left (by omega)]
                have hyl : ((tds.drop ((k + 1))).flatMap cellsT).length = (tds.length - (k + 1)) * 3 := by rw [flatT_length, List.length_drop] <;> first | rfl | omega
                have hm2 : ((k + 1)) + (tds.length - (k + 1)) = tds.length := by omega
                have HM2 := Lib.hid hm2
                have hn3x : ((k + 1)) ≤ 3 := by omega
                have hMM : (tds.length - (k + 1)) ≤ 3 := by omega
                clear hm2
                try clear hz2
                refine wpAnyH_rest [0, 4, 6, 7, 11, 12] (AppI (fun W => Below W2.heap.size W2 W ∧ W.cell? ⟨gt, 0, none⟩ = some (.int .i64 tid) ∧ W.cell? ⟨gt, 1, none⟩ = some (.int .i64 1) ∧ W.cell? ⟨gt, 2, none⟩ = some (.slice A5 ts[j].cs.length c5)) W2.heap.size ((k + 1)) (tds.length - (k + 1)) ((tds.take ((k + 1))).flatMap cellsT) ([Value.int .i64 tid, .int .i64 1, .slice A5 ts[j].cs.length c5]) ((tds.drop ((k + 1))).flatMap cellsT)) (by kernel_rfl) rfl (by kernel_rfl) (by kernel_rfl) (by kernel_rfl) ?_ (fun _ _ _ h => h.1) ?_ ?_
                · intro L hL
                  have g : ∀ k ∈ [0, 4, 6, 7, 11, 12], L k → False := fun k hk h => hL k hk h
                  refine ⟨hHeld, ?x46k, ?x50k, ?x52k, ?x53k, ?x57k, ?x3k, ?eqk, hHeld.1.size, fun h => (g 4 (by simp) h).elim, fun h => (g 7 (by simp) h).elim, fun h => (g 11 (by simp) h).elim, fun h => (g 12 (by simp) h).elim, fun h => (g 0 (by simp) h).elim, fun h => (g 4 (by simp) h).elim, fun h => (g 6 (by simp) h).elim, fun h => (g 7 (by simp) h).elim, fun h => (g 11 (by simp) h).elim, fun h => (g 12 (by simp) h).elim⟩
                  case eqk =>
                    simp only [Act.put, List.setIfInBounds_toArray, List.set_cons_zero, List.set_cons_succ]
                    try rfl
                · intro i0 hi0
                  simp only [List.mem_cons, List.not_mem_nil, or_false] at hi0
                  rcases hi0 with rfl | rfl | rfl | rfl | rfl | rfl
                  · intro L A W o hI ho hn hd
                    obtain rfl : { dst := some 46, op := Op.buildSlice 67 0 #[], type := 67, pos := "world.go:136", after := #[], guard := none } = o := Option.some.inj ho
                    obtain ⟨hS, x46, x50, x52, x53, x57, x3, rfl, hsz, h4, h7, h11, h12, hA, hB, hC, hD, hE, hF⟩ := hI
                    simp only [Act.put, List.setIfInBounds_toArray, List.set_cons_zero, List.set_cons_succ]
                    refine wpOp_step (o := { dst := some 46, op := Op.buildSlice 67 0 #[], type := 67, pos := "world.go:136", after := #[], guard := none }) rfl (fun K hK => ?_)
                    rw [if_pos (by rfl)]
                    have n4 : ¬ L 4 := fun h => hn (h4 h)
                    go_simp
                    refine hK _ _ ⟨HSm.out _ (below_on hS.1 (below_alloc _ _) hS.1.size), .slice (some ⟨W.heap.size, 0, none⟩) 0 0, x50, x52, x53, x57, x3, ?_, by simp; omega, fun h => absurd (h.resolve_right (by decide)) n4, fun h => absurd (h7 (h.resolve_right (by decide))).1 n4, fun h => absurd (h7 (h11 (h.resolve_right (by decide)))).1 n4, fun h => absurd (h7 (h11 (h12 (h.resolve_right (by decide))))).1 n4, fun _ _ => World.ownsRow_made W #[] 0 hsz (Nat.zero_le _) rfl, fun h => absurd (h.resolve_right (by decide)) n4, fun h h' => ?_, fun h => absurd (h7 (h.resolve_right (by decide))).1 n4, fun h => absurd (h7 (h11 (h.resolve_right (by decide)))).1 n4, fun h => absurd (h7 (h11 (h12 (h.resolve_right (by decide))))).1 n4⟩
                    · simp only [Act.put, List.setIfInBounds_toArray, List.set_cons_zero, List.set_cons_succ]
                    · obtain ⟨g, e1, e2, e3, e4⟩ := hC (h.resolve_right (by decide)) (fun l => h' (.inl l))
                      refine ⟨g, e1, heap_alloc_old e2, fun _ _ he => ?_, fun h => absurd (h.resolve_right (by decide)) n4⟩
                      have := blk_lt e2
                      simp [Value.ownBlock] at he
                      omega
                  · intro L A W o hI ho hn hd
                    obtain rfl : { dst := some 50, op := Op.call { callee := Callee.builtin Builtin.append, args := #[Operand.tmp 46, Operand.tmp 49], argTypes := #[67, 67] }, type := 67, pos := "world.go:136", after := #[{ on := 0, ground := Ground.data }, { on := 3, ground := Ground.data }], guard := none } = o := Option.some.inj ho
                    obtain ⟨hS, x46, x50, x52, x53, x57, x3, rfl, hsz, h4, h7, h11, h12, hA, hB, hC, hD, hE, hF⟩ := hI
                    simp only [Act.put, List.setIfInBounds_toArray, List.set_cons_zero, List.set_cons_succ]
                    refine wpOp_step (o := { dst := some 50, op := Op.call { callee := Callee.builtin Builtin.append, args := #[Operand.tmp 46, Operand.tmp 49], argTypes := #[67, 67] }, type := 67, pos := "world.go:136", after := #[{ on := 0, ground := Ground.data }, { on := 3, ground := Ground.data }], guard := none }) rfl (fun K hK => ?_)
                    rw [if_pos (by rfl)]
                    have l0 : L 0 := hd { on := 0, ground := Ground.data } (by simp) rfl (by simp)
                    have n7 : ¬ L 7 := fun h => hn (h7 h).1
                    have o46 := hA l0 hn
                    refine wp_append_any (.tmp 46) (.tmp 49) 67 rfl W2.heap.size 70 t3 z3 3 Tryz.underlying67 ht3 ht3z ht3s ht3b ht3c (by decide) x46 0 [] rfl o46 (some ⟨g3, 0, none⟩) ((k + 1)) (c3) ((tds.take ((k + 1))).flatMap cellsT) rfl hxl (by intro h; first | exact ⟨rfl, rfl⟩ | cases h) (HX.out _ hS.1) (flatT_one _) (by omega) hsz ?_
                    intro v' w1 hown hgr hat
                    have hbw := below_grown hS.1 hgr (fun i hi => (o46.lt i hi).1) hS.1.size
                    have hgs := hgr.size
                    rw [Nat.zero_add, List.nil_append] at hown
                    refine hK _ _ ⟨HSm.out _ hbw, x46, v', x52, x53, x57, x3, ?_, by omega, fun _ => .inl l0, fun h => absurd (h.resolve_right (by decide)) n7, fun h => absurd (h11 (h.resolve_right (by decide))) n7, fun h => absurd (h11 (h12 (h.resolve_right (by decide)))) n7, fun _ h => absurd (.inr rfl) h, fun _ _ => hown, fun h _ => ?_, fun h => absurd (h.resolve_right (by decide)) n7, fun h => absurd (h11 (h.resolve_right (by decide))) n7, fun h => absurd (h11 (h12 (h.resolve_right (by decide)))) n7⟩
                    · simp only [Act.put, List.setIfInBounds_toArray, List.set_cons_zero, List.set_cons_succ]
                    · obtain ⟨g, e1, e2, e3, e4⟩ := hC (h.resolve_right (by decide)) n7
                      refine ⟨g, e1, blk_grown hgr e2 (e3 l0 hn), fun _ h => absurd (.inr rfl) h, fun _ he => ?_⟩
                      rcases hat with h | h
                      · exact e3 l0 hn (h.symm.trans he)
                      · have := blk_lt e2
                        have := Option.some.inj (h.symm.trans he)
                        omega
                  · intro L A W o hI ho hn hd
                    obtain rfl : { dst := some 52, op := Op.buildSlice 67 1 #[(0, Operand.tmp 51)], type := 67, pos := "world.go:136", after := #[{ on := 5, ground := Ground.data }], guard := none } = o := Option.some.inj ho
                    obtain ⟨hS, x46, x50, x52, x53, x57, x3, rfl, hsz, h4, h7, h11, h12, hA, hB, hC, hD, hE, hF⟩ := hI
                    simp only [Act.put, List.setIfInBounds_toArray, List.set_cons_zero, List.set_cons_succ]
                    refine wpOp_step (o := { dst := some 52, op := Op.buildSlice 67 1 #[(0, Operand.tmp 51)], type := 67, pos := "world.go:136", after := #[{ on := 5, ground := Ground.data }], guard := none }) rfl (fun K hK => ?_)
                    rw [if_pos (by rfl)]
                    have n7 : ¬ L 7 := fun h => hn (h7 h).2
                    go_simp
                    refine hK _ _ ⟨HSm.out _ (below_on hS.1 (below_alloc _ _) hS.1.size), x46, x50, .slice (some ⟨W.heap.size, 0, none⟩) 1 1, x53, x57, x3, ?_, by simp; omega, fun h => .inl (h4 (h.resolve_right (by decide))), fun h => absurd (h.resolve_right (by decide)) n7, fun h => absurd (h11 (h.resolve_right (by decide))) n7, fun h => absurd (h11 (h12 (h.resolve_right (by decide)))) n7, fun h h' => (hA (h.resolve_right (by decide)) (fun l => h' (.inl l))).alloc _, fun h _ => (hB (h.resolve_right (by decide)) n7).alloc _, fun _ _ => ⟨W.heap.size, rfl, heap_alloc_last _ _, fun h h' he => ?_, fun h he => ?_⟩, fun h => absurd (h.resolve_right (by decide)) n7, fun h => absurd (h11 (h.resolve_right (by decide))) n7, fun h => absurd (h11 (h12 (h.resolve_right (by decide)))) n7⟩
                    · simp only [Act.put, List.setIfInBounds_toArray, List.set_cons_zero, List.set_cons_succ]
                    · have := ((hA (h.resolve_right (by decide)) (fun l => h' (.inl l))).lt _ he).2
                      omega
                    · have := ((hB (h.resolve_right (by decide)) n7).lt _ he).2
                      omega
                  · intro L A W o hI ho hn hd
                    obtain rfl : { dst := some 53, op := Op.call { callee := Callee.builtin Builtin.append, args := #[Operand.tmp 50, Operand.tmp 52], argTypes := #[67, 67] }, type := 67, pos := "world.go:136", after := #[{ on := 4, ground := Ground.data }, { on := 6, ground := Ground.data }, { on := 4, ground := Ground.chain }], guard := none } = o := Option.some.inj ho
                    obtain ⟨hS, x46, x50, x52, x53, x57, x3, rfl, hsz, h4, h7, h11, h12, hA, hB, hC, hD, hE, hF⟩ := hI
                    simp only [Act.put, List.setIfInBounds_toArray, List.set_cons_zero, List.set_cons_succ]
                    refine wpOp_step (o := { dst := some 53, op := Op.call { callee := Callee.builtin Builtin.append, args := #[Operand.tmp 50, Operand.tmp 52], argTypes := #[67, 67] }, type := 67, pos := "world.go:136", after := #[{ on := 4, ground := Ground.data }, { on := 6, ground := Ground.data }, { on := 4, ground := Ground.chain }], guard := none }) rfl (fun K hK => ?_)
                    rw [if_pos (by rfl)]
                    have l4 : L 4 := hd { on := 4, ground := Ground.data } (by simp) rfl (by simp)
                    have l6 : L 6 := hd { on := 6, ground := Ground.data } (by simp) rfl (by simp)
                    have n11 : ¬ L 11 := fun h => hn (h11 h)
                    have o50 := hB l4 hn
                    obtain ⟨g, rfl, e2, e3, e4⟩ := hC l6 hn
                    refine wp_append_any (.tmp 50) (.tmp 52) 67 rfl W2.heap.size 70 t3 z3 3 Tryz.underlying67 ht3 ht3z ht3s ht3b ht3c (by decide) x50 ((k + 1)) ((tds.take ((k + 1))).flatMap cellsT) rfl o50 (some ⟨g, 0, none⟩) 1 1 ([Value.int .i64 tid, .int .i64 1, .slice A5 ts[j].cs.length c5]) rfl rfl (fun h => by cases h) (fun p hp => by cases hp; exact World.news_of_block e2) (by simp [Value.oneCell']) (by omega) hsz ?_
                    intro v' w1 hown hgr hat
                    have hbw := below_grown hS.1 hgr (fun i hi => (o50.lt i hi).1) hS.1.size
                    have hgs := hgr.size
                    refine hK _ _ ⟨HSm.out _ hbw, x46, x50, .slice (some ⟨g, 0, none⟩) 1 1, v', x57, x3, ?_, by omega, fun h => .inl (h4 (h.resolve_right (by decide))), fun _ => ⟨.inl l4, .inl l6⟩, fun h => absurd (h.resolve_right (by decide)) n11, fun h => absurd (h12 (h.resolve_right (by decide))) n11, fun _ h => absurd (.inl l4) h, fun _ h => absurd (.inr rfl) h, fun _ h => absurd (.inr rfl) h, fun _ _ => hown, fun h => absurd (h.resolve_right (by decide)) n11, fun h => absurd (h12 (h.resolve_right (by decide))) n11⟩
                    simp only [Act.put, List.setIfInBounds_toArray, List.set_cons_zero, List.set_cons_succ]
                  · intro L A W o hI ho hn hd
                    obtain rfl : { dst := some 57, op := Op.call { callee := Callee.builtin Builtin.append, args := #[Operand.tmp 53, Operand.tmp 56], argTypes := #[67, 67] }, type := 67, pos := "world.go:136", after := #[{ on := 7, ground := Ground.data }, { on := 10, ground := Ground.data }, { on := 7, ground := Ground.chain }], guard := none } = o := Option.some.inj ho
                    obtain ⟨hS, x46, x50, x52, x53, x57, x3, rfl, hsz, h4, h7, h11, h12, hA, hB, hC, hD, hE, hF⟩ := hI
                    simp only [Act.put, List.setIfInBounds_toArray, List.set_cons_zero, List.set_cons_succ]
                    refine wpOp_step (o := { dst := some 57, op := Op.call { callee := Callee.builtin Builtin.append, args := #[Operand.tmp 53, Operand.tmp 56], argTypes := #[67, 67] }, type := 67, pos := "world.go:136", after := #[{ on := 7, ground := Ground.data }, { on := 10, ground := Ground.data }, { on := 7, ground := Ground.chain }], guard := none }) rfl (fun K hK => ?_)
                    rw [if_pos (by rfl)]
                    have l7 : L 7 := hd { on := 7, ground := Ground.data } (by simp) rfl (by simp)
                    have l4 := (h7 l7).1
                    have n12 : ¬ L 12 := fun h => hn (h12 h)
                    have o53 := hD l7 hn
                    refine wp_append_any (.tmp 53) (.tmp 56) 67 rfl W2.heap.size 70 t3 z3 3 Tryz.underlying67 ht3 ht3z ht3s ht3b ht3c (by decide) x53 ((k + 1) + 1) ((tds.take ((k + 1))).flatMap cellsT ++ [Value.int .i64 tid, .int .i64 1, .slice A5 ts[j].cs.length c5]) rfl o53 (if c3 = k + 1 then some ⟨g3, 0, none⟩ else some ⟨g3, (k + 1) * 3, none⟩) (tds.length - (k + 1)) (c3 - (k + 1)) ((tds.drop ((k + 1))).flatMap cellsT) rfl hyl (by intro h; first | exact ⟨rfl, rfl⟩ | (split at h <;> cases h) | cases h) (HY.out _ hS.1) (flatT_one _) (by omega) hsz ?_
                    intro v' w1 hown hgr hat
                    have hbw := below_grown hS.1 hgr (fun i hi => (o53.lt i hi).1) hS.1.size
                    have hgs := hgr.size
                    refine hK _ _ ⟨HSm.out _ hbw, x46, x50, x52, x53, v', x3, ?_, by omega, fun h => .inl (h4 (h.resolve_right (by decide))), fun _ => ⟨.inl l4, .inl (h7 l7).2⟩, fun _ => .inl l7, fun h => absurd (h.resolve_right (by decide)) n12, fun _ h => absurd (.inl l4) h, fun _ h => absurd (.inl l7) h, fun _ h => absurd (.inl l7) h, fun _ h => absurd (.inr rfl) h, fun _ => hown, fun h => absurd (h.resolve_right (by decide)) n12⟩
                    simp only [Act.put, List.setIfInBounds_toArray, List.set_cons_zero, List.set_cons_succ]
                  · intro L A W o hI ho hn hd
                    obtain rfl : { dst := some 3, op := Op.assign (Operand.tmp 57), type := 67, pos := "world.go:136", after := #[{ on := 11, ground := Ground.data }, { on := 11, ground := Ground.chain }, { on := 0, ground := Ground.phase }, { on := 1, ground := Ground.phase }, { on := 2, ground := Ground.phase }, { on := 3, ground := Ground.phase }, { on := 4, ground := Ground.phase }, { on := 5, ground := Ground.phase }, { on := 6, ground := Ground.phase }, { on := 7, ground := Ground.phase }, { on := 8, ground := Ground.phase }, { on := 9, ground := Ground.phase }, { on := 10, ground := Ground.phase }, { on := 11, ground := Ground.phase }], guard := none } = o := Option.some.inj ho
                    obtain ⟨hS, x46, x50, x52, x53, x57, x3, rfl, hsz, h4, h7, h11, h12, hA, hB, hC, hD, hE, hF⟩ := hI
                    simp only [Act.put, List.setIfInBounds_toArray, List.set_cons_zero, List.set_cons_succ]
                    refine wpOp_step (o := { dst := some 3, op := Op.assign (Operand.tmp 57), type := 67, pos := "world.go:136", after := #[{ on := 11, ground := Ground.data }, { on := 11, ground := Ground.chain }, { on := 0, ground := Ground.phase }, { on := 1, ground := Ground.phase }, { on := 2, ground := Ground.phase }, { on := 3, ground := Ground.phase }, { on := 4, ground := Ground.phase }, { on := 5, ground := Ground.phase }, { on := 6, ground := Ground.phase }, { on := 7, ground := Ground.phase }, { on := 8, ground := Ground.phase }, { on := 9, ground := Ground.phase }, { on := 10, ground := Ground.phase }, { on := 11, ground := Ground.phase }], guard := none }) rfl (fun K hK => ?_)
                    rw [if_pos (by rfl)]
                    have l11 : L 11 := hd { on := 11, ground := Ground.data } (by simp) rfl (by simp)
                    have l7 := h11 l11
                    have l4 := (h7 l7).1
                    go_simp
                    refine hK _ _ ⟨hS, x46, x50, x52, x53, x57, x57, ?_, hsz, fun h => .inl (h4 (h.resolve_right (by decide))), fun _ => ⟨.inl l4, .inl (h7 l7).2⟩, fun _ => .inl l7, fun _ => .inl l11, fun _ h => absurd (.inl l4) h, fun _ h => absurd (.inl l7) h, fun _ h => absurd (.inl l7) h, fun _ h => absurd (.inl l11) h, fun _ => hE l11, fun _ => rfl⟩
                    simp only [Act.put, List.setIfInBounds_toArray, List.set_cons_zero, List.set_cons_succ]
                · intro L A W9 hI ha
                  obtain ⟨hS, x46, x50, x52, x53, x57, x3, rfl, hsz, h4, h7, h11, h12, hA, hB, hC, hD, hE, hF⟩ := hI
                  obtain rfl := hF (ha 12 (by simp))
                  have hr := hE (ha 11 (by simp))
                  have hBW := hS.1
                  clear h4 h7 h11 h12 hA hB hC hD hE hF ha hHeld hS
                  have hm2 := HM2.out
                  have hl9 : (tds.take ((k + 1)) ++ ([⟨tid, A5, ts[j].cs.length, c5⟩] : List TrD) ++ tds.drop ((k + 1))).length = ((k + 1)) + 1 + (tds.length - (k + 1)) := by simp only [List.length_append, List.length_take, List.length_drop, List.length_cons, List.length_nil]; omega
                  have HO9 := Lib.hid (show OutT (w.heap.size + 1) x3 (tds.take ((k + 1)) ++ ([⟨tid, A5, ts[j].cs.length, c5⟩] : List TrD) ++ tds.drop ((k + 1))) W9 from ⟨by
                    rw [hl9, List.flatMap_append, List.flatMap_append, List.flatMap_cons, List.flatMap_nil, List.append_nil]
                    exact row_mono hr (Nat.succ_le_of_lt (blk_lt (blk_keep HW2.out HS1.out))), fun t ht => by
                    simp only [List.mem_append, List.mem_cons, List.not_mem_nil, or_false] at ht
                    rcases ht with (ht | rfl) | ht
                    · exact (HO2.out.2 t (List.mem_of_mem_take ht)).below hBW
                    · exact (HSp.out.below HW2.out).below hBW
                    · exact (HO2.out.2 t (List.mem_of_mem_drop ht)).below hBW⟩)
                  have HB9 := Lib.hid (below_on (below_on HB1.out HW2.out HB1.out.size) hBW (below_on HB1.out HW2.out HB1.out.size).size)
                  have HS9 := Lib.hid (show StoryB W9 w.heap.size (some ad) ts.length c o0 o1 o2 o3 b m d q from blk_keep hBW (blk_keep HW2.out HS1.out))
                  clear hr hBW
                  simp only [Act.put, List.setIfInBounds_toArray, List.set_cons_zero, List.set_cons_succ]
                  go_wp2_with fail
                  exact ⟨⟨j + 1, _, by omega, by rw [hl9]; omega, by go_num, HB9, HS9, HO9⟩, by simp [intOf]; omega⟩
    · obtain rfl : j = ts.length := by omega
      go_wp2_with fail
      go_ret
      exact ⟨⟨_, tds, rfl, ⟨row_mono HO.out.1 (Nat.zero_le _), HO.out.2⟩, by omega⟩, HB.out⟩
end Go.Proofs.YtmhmnbaoanennaaGreatDoor

