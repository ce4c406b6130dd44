/- Contract: the spans of a trace. -/
import Derived.Test.YtmhmnbaoanennaaGreatDoorTimes
import Derived.OneCell
namespace Go.Proofs.YtmhmnbaoanennaaGreatDoor
open Go Go.Ev Go.Proofs Go.RowKit
set_option linter.unusedVariables false
set_option linter.unusedSimpArgs false
/-- A slice of spans lies there. -/
def SpansAt (W : World) (a : Option Addr) (m c : Nat) : Prop := m ≤ 8 ∧ ∃ news : List Value, W.ownsRow 0 89 14 (.slice a m c) m news ∧ ∀ u ∈ news, u.oneCell' = true
theorem SpansAt.below {W W' : World} {a : Option Addr} {m c : Nat} (h : SpansAt W a m c) (k : Below W.heap.size W W') : SpansAt W' a m c :=
  ⟨h.1, let ⟨news, h2, h3⟩ := h.2; ⟨news, row_below h2 k, h3⟩⟩
theorem SpansAt.row {W : World} {base n : Nat} {a : Option Addr} {c : Nat} {xs : List Value} (h : W.ownsRow base 89 14 (.slice a n c) n xs) (h1 : ∀ u ∈ xs, u.oneCell' = true) (hn : n ≤ 8) : SpansAt W a n c :=
  ⟨hn, xs, ⟨h.1, h.2.imp id fun ⟨g, cap, cur, h1, h2, h3⟩ => ⟨g, cap, cur, h1, Nat.zero_le _, h3⟩⟩, h1⟩
theorem below_on {B : Nat} {a b c : World} (h : Below B a b) (k : Below b.heap.size b c) (hB : B ≤ b.heap.size) : Below B a c :=
  ⟨k.os.trans h.os, k.tape.trans h.tape, k.output.trans h.output, Nat.le_trans h.size k.size, fun i hi => (k.block i (Nat.lt_of_lt_of_le hi hB)).trans (h.block i hi)⟩
def infoSz (sz : Nat) (r : Option TypeInfo) : Bool :=
  match r with
  | some i => (match i.zero with
    | some z => Nat.beq i.size sz && Nat.ble i.bytes 1000 && Nat.beq z.cells.size sz
    | none => false)
  | none => false
theorem infoSz_spec {sz : Nat} {r : Option TypeInfo} (h : infoSz sz r = true) : ∃ i z, r = some i ∧ i.zero = some z ∧ i.size = sz ∧ i.bytes ≤ 1000 ∧ z.cells.size = sz := by
  unfold infoSz at h
  split at h
  · rename_i i
    split at h
    · rename_i z hz
      rw [Bool.and_eq_true, Bool.and_eq_true] at h
      exact ⟨i, z, rfl, hz, Nat.eq_of_beq_eq_true h.1.1, Nat.le_of_ble_eq_true h.1.2, Nat.eq_of_beq_eq_true h.2⟩
    · cases h
  · cases h
theorem info89 : infoSz 14 (Tryz.prog.info? 89) = true := by kernel_rfl
/-- The box of a story. -/
def StoryB (w : World) (g : Nat) (a : Option Addr) (n c : Nat) (o0 o1 o2 o3 : Int) (b : Option Addr) (m d : Nat) (q : Int) : Prop := w.heap[g]? = some (.cells #[.slice a n c, .int .i8 o0, .int .i8 o1, .int .i8 o2, .int .i8 o3, .slice b m d, .int .u8 q] 53 (0, 0))
theorem StoryB.cells {W : World} {g : Nat} {a : Option Addr} {n c : Nat} {o0 o1 o2 o3 : Int} {b : Option Addr} {m d : Nat} {q : Int} (h : StoryB W g a n c o0 o1 o2 o3 b m d q) :
    W.cell? ⟨g, 0, none⟩ = some (.slice a n c) ∧ W.cell? ⟨g, 1, none⟩ = some (.int .i8 o0) ∧ W.cell? ⟨g, 2, none⟩ = some (.int .i8 o1) ∧ W.cell? ⟨g, 3, none⟩ = some (.int .i8 o2) ∧ W.cell? ⟨g, 4, none⟩ = some (.int .i8 o3) ∧ W.cell? ⟨g, 5, none⟩ = some (.slice b m d) ∧ W.cell? ⟨g, 6, none⟩ = some (.int .u8 q) ∧ g < W.heap.size :=
  ⟨cell_blk h 0 rfl, cell_blk h 1 rfl, cell_blk h 2 rfl, cell_blk h 3 rfl, cell_blk h 4 rfl, cell_blk h 5 rfl, cell_blk h 6 rfl, blk_lt h⟩
/-- The world while a span is moved: its box, the row of those before it. -/
def TraceX (w1 : World) (g : Nat) (cs : Array Value) (v : Value) (j : Nat) (news : List Value) (W : World) : Prop := Below w1.heap.size w1 W ∧ W.heap[g]? = some (.cells cs 89 (0, 0)) ∧ W.ownsRow w1.heap.size 89 14 v j news ∧ w1.heap.size ≤ g ∧ v.ownBlock ≠ some g
section
variable {w1 W W' : World} {g : Nat} {cs : Array Value} {v : Value} {j : Nat} {news : List Value}
theorem TraceX.below (h : TraceX w1 g cs v j news W) (k : Below W.heap.size W W') : TraceX w1 g cs v j news W' := ⟨below_on h.1 k h.1.size, blk_keep k h.2.1, row_below h.2.2.1 k, h.2.2.2⟩
theorem TraceX.set (h : TraceX w1 g cs v j news W) (i : Nat) (u : Value) : TraceX w1 g (cs.setIfInBounds i u) v j news (W.setCell ⟨g, i, none⟩ u) :=
  ⟨h.1.setCell h.2.2.2.1 _, heap_setCell_same W g i cs 89 u h.2.1, ownsRow_setCell_other h.2.2.1 h.2.2.2.2 _, h.2.2.2⟩
theorem TraceX.cell (h : TraceX w1 g cs v j news W) (i : Nat) {u : Value} (hu : cs[i]? = some u) : W.cell? ⟨g, i, none⟩ = some u ∧ W.frozen? ⟨g, i, none⟩ = false := ⟨cell_blk h.2.1 i hu, frozen_blk h.2.1 i⟩
theorem TraceX.start {w2 : World} {cs : Array Value} (h : Below w1.heap.size w1 w2) (hr : w2.ownsRow w1.heap.size 89 14 v j news) : TraceX w1 w2.heap.size cs v j news (w2.alloc (.cells cs 89)) :=
  ⟨below_on h (below_alloc _ _) h.size, heap_alloc_last _ _, hr.alloc _, h.size, fun e => by have := (hr.lt _ e).2; omega⟩
end
set_option maxRecDepth 20000 in
set_option maxHeartbeats 8000000 in
theorem trace_any (a : Option Addr) (ts : List TreeD) (c : Nat) (o0 o1 o2 o3 : Int) (b : Option Addr) (m d : Nat) (q : Int) (k : Nat) (tr : Bool) (hk : k < ts.length) (hk8 : ts[k].cs.length ≤ 8) (hq : isU8 q) (w : World) (ht : TreesAt w a ts) (hcl : ∀ j (hj : j < ts.length), ts[j].cs.length ≤ 8) (hl : ts.length ≤ 3) :
    Calls Tryz.prog 143 #[.agg #[.slice a ts.length c, .int .i8 o0, .int .i8 o1, .int .i8 o2, .int .i8 o3, .slice b m d, .int .u8 q], .int .i64 k, .bool tr] w fun e w' => (∃ a' c', e = .returned (.slice a' ts[k].cs.length c') ∧ SpansAt w' a' ts[k].cs.length c') ∧ Below w.heap.size w w' := by
  have HB0 := Lib.hid (below_alloc w (.cells #[.slice a ts.length c, .int .i8 o0, .int .i8 o1, .int .i8 o2, .int .i8 o3, .slice b m d, .int .u8 q] 53))
  have HS0 := Lib.hid (show StoryB (w.alloc (.cells #[.slice a ts.length c, .int .i8 o0, .int .i8 o1, .int .i8 o2, .int .i8 o3, .slice b m d, .int .u8 q] 53)) w.heap.size a ts.length c o0 o1 o2 o3 b m d q from heap_alloc_last _ _)
  have HT := Lib.hid ht
  have HC := Lib.hid hcl
  have hq' := hq
  unfold isU8 at hq'
  obtain ⟨t3, z3, ht3, ht3z, ht3s, ht3b, ht3c⟩ := infoSz_spec info89
  obtain ⟨ad, rfl, t0, t1, t2, htc, hs1, hs2⟩ := ht.below HB0.out k hk
  clear ht hcl
  have htb := times_any ts[k].s ts[k].f ts[k].a ts[k].cs ts[k].c _ htc hs1 hs2 (by omega)
  have HTB := Lib.hid htb
  clear htb htc
  go_enter Tryz.func143, Tryz.ntmps143
  go_wp2_with fail
  refine HTB.out.mono ?_
  rintro e w1 ⟨⟨sA, eA, sc, ec, ss, es, rfl, hsl, hel, hsI, heI⟩, hbb⟩
  have HB1 := Lib.hid (below_on HB0.out hbb (by simp))
  have HS1 := Lib.hid (show StoryB w1 w.heap.size (some ad) ts.length c o0 o1 o2 o3 b m d q from blk_keep hbb HS0.out)
  have HT1 := Lib.hid (HT.out.below (HB1.out))
  have HI1 := Lib.hid hsI
  have HI2 := Lib.hid heI
  clear HB0 HS0 HT hbb HTB hsI heI t0 t1 t2
  go_wp2_with fail
  have hcl := HC.out k hk
  generalize hn : ts[k].cs.length = n at *
  have HR0 := Lib.hid (World.ownsRow_nil w1 w1.heap.size 89 14)
  go_loopw [7, 10] (fun v7 i wr => ∃ (j : Nat) (news : List Value), j ≤ n ∧ i = .int .i64 j ∧ Hid (Below w1.heap.size w1 wr) ∧ Hid (wr.ownsRow w1.heap.size 89 14 v7 j news) ∧ Hid (∀ u ∈ news, u.oneCell' = true)) (fun _ i _ => n - (intOf i).toNat)
  case atStart => exact ⟨0, [], by omega, rfl, Lib.hid (Below.refl _ _), HR0, Lib.hid (by simp)⟩
  case round =>
    obtain ⟨j, news, hj, rfl, HB, HR, H1⟩ := hrel
    obtain ⟨b0, b1, b2, b3, b4, b5, b6, z0⟩ := StoryB.cells (W := wr) ((HB.out.block _ (blk_lt HS1.out)).trans HS1.out)
    obtain ⟨ad', had, t0, t1, t2, htc, hs1, hs2⟩ := HT1.out.below HB.out k hk
    obtain rfl := Option.some.inj had
    rw [hn] at t2
    clear htc hs1 hs2 had
    by_cases hlt : j < n
    · have hm := made_any (some ad) ts c o0 o1 o2 o3 b m d q k j hk (by omega) (by omega) sA sc ss eA ec es wr (HT1.out.below HB.out) (HI1.out.below HB.out) (HI2.out.below HB.out) (by omega) (by omega) (fun i hi => by have := HC.out i hi; unfold maxLen; omega) (by unfold maxLen; omega) (by unfold maxLen; omega) (by unfold maxLen; omega)
      rw [hsl, hel] at hm
      have HM := Lib.hid hm
      clear hm
      go_wp2_with fail
      refine HM.out.mono ?_
      rintro e w2 ⟨⟨i0, i1, i2, i3, i4, i5, s6, s7, s8, i9, i10, b11, A12, N12, C12, A13, N13, C13, rfl⟩, hbb⟩
      have HB2 := Lib.hid (below_on HB.out hbb HB.out.size)
      have HR2 := Lib.hid (row_below HR.out hbb)
      clear HM HR HB hbb b0 b1 b2 b3 b4 b5 b6 z0 t0 t1 t2
      obtain ⟨b0, b1, b2, b3, b4, b5, b6, z0⟩ := StoryB.cells (W := w2) ((HB2.out.block _ (blk_lt HS1.out)).trans HS1.out)
      go_upto_region 7 with (fail)
      have HX := Lib.hid (TraceX.start (cs := #[.int .i64 i0, .int .i64 i1, .int .i64 i2, .int .i64 i3, .int .i64 i4, .int .i64 i5, .string s6, .string s7, .string s8, .int .i64 i9, .int .i64 i10, .bool b11, .slice A12 N12 C12, .slice A13 N13 C13]) HB2.out HR2.out)
      clear HB2 HR2 b0 b1 b2 b3 b4 b5 b6 z0
      generalize w2.alloc _ = W3 at *
      generalize w2.heap.size = g at *
      clear w2
      obtain ⟨b0, b1, b2, b3, b4, b5, b6, z0⟩ := StoryB.cells (W := W3) ((HX.out.1.block _ (blk_lt HS1.out)).trans HS1.out)
      have y4 := (HX.out.cell 4 rfl).1
      have zg := blk_lt HX.out.2.1
      cases tr with
      | true =>
        go_upto_region 12 with (fail)
        clear b0 b1 b2 b3 b4 b5 b6 z0 y4
        have HX9 := HX
        clear HX
        generalize W3 = W9 at *
        obtain ⟨x0, x1, x2, x3, x4⟩ := HX9.out
        have hone : ∀ u ∈ ([.int .i64 i0, .int .i64 i1, .int .i64 i2, .int .i64 i3, .int .i64 i4, .int .i64 i5, .string s6, .string s7, .string s8, .int .i64 i9, .int .i64 i10, .bool b11, .slice A12 N12 C12, .slice A13 N13 C13] : List Value), u.oneCell' = true := by simp [Value.oneCell']
        have hsz := x0.size
        go_wp2_with (first
          | refine wpList_load_row rfl 89 (.tmp 11) rfl g rfl 89 _ (0, 0) _ x1 Tryz.underlying89 rfl (by kernel_rfl) ?_
          | (at_builtin; refine wpList_append_lies _ rfl (.tmp 77) (.tmp 79) 58 rfl w1.heap.size 89 t3 z3 14 t3.bytes Tryz.underlying58 ht3 ht3z ht3s rfl ht3c (by decide) u7 j news rfl (x2.alloc _) ⟨W9.heap.size, 0, none⟩ 1 1 [.int .i64 i0, .int .i64 i1, .int .i64 i2, .int .i64 i3, .int .i64 i4, .int .i64 i5, .string s6, .string s7, .string s8, .int .i64 i9, .int .i64 i10, .bool b11, .slice A12 N12 C12, .slice A13 N13 C13] rfl rfl (World.news_of_block (heap_alloc_last _ _)) hone (by decide) (by unfold maxLen; omega) (Nat.le_trans (Nat.mul_le_mul (show j + 1 ≤ 9 by omega) ht3b) (by decide)) (by simp; omega) _ rfl ?_; intro g9 cap9 w9 hown hgr hat hlt9))
        exact ⟨⟨j + 1, _, by omega, by go_num, Lib.hid (below_grown (below_on x0 (below_alloc _ _) x0.size) hgr (fun i hi => (x2.lt i hi).1) (by simp; omega)), Lib.hid hown, Lib.hid (fun u hu => (List.mem_append.1 hu).elim (H1.out u) (hone u))⟩, by simp [intOf]; omega⟩
      | false =>
        go_wp2_with fail
        (with_reducible refine (offset_any _ _ _ _ _ _ _ _ _ _ _ _ _).mono ?_)
        rintro e w4 ⟨⟨by0, rfl⟩, hbb⟩
        have HX4 := Lib.hid (HX.out.below hbb)
        clear HX b0 b1 b2 b3 b4 b5 b6 z0 y4 hbb zg
        obtain ⟨b0, b1, b2, b3, b4, b5, b6, z0⟩ := StoryB.cells (W := w4) ((HX4.out.1.block _ (blk_lt HS1.out)).trans HS1.out)
        have zg := blk_lt HX4.out.2.1
        obtain ⟨y9, y9'⟩ := HX4.out.cell 9 rfl
        obtain ⟨y10, y10'⟩ := HX4.out.cell 10 rfl
        by_cases g1 : 0 < q ∧ q % 8 = (j : Int) ∧ q / 8 % 3 = (k : Int)
        · obtain ⟨g1, g2, g3⟩ := g1
          go_upto_region 12 with (fail)
          clear b0 b1 b2 b3 b4 b5 b6 z0 y9 y9' y10 y10'
          generalize wrap64 (i9 + wrap64 (by0 + 500)) = v9
          generalize wrap64 (i10 + wrap64 (by0 + 500)) = v10
          have HX9 := (HX4.out.set 9 (.int .i64 v9)).set 10 (.int .i64 v10)
          simp only [List.setIfInBounds_toArray, List.set_cons_zero, List.set_cons_succ] at HX9
          have HX9 := Lib.hid HX9
          generalize (w4.setCell _ _).setCell _ _ = W9 at *
          obtain ⟨x0, x1, x2, x3, x4⟩ := HX9.out
          have hone : ∀ u ∈ ([.int .i64 i0, .int .i64 i1, .int .i64 i2, .int .i64 i3, .int .i64 i4, .int .i64 i5, .string s6, .string s7, .string s8, .int .i64 v9, .int .i64 v10, .bool b11, .slice A12 N12 C12, .slice A13 N13 C13] : List Value), u.oneCell' = true := by simp [Value.oneCell']
          have hsz := x0.size
          go_wp2_with (first
            | refine wpList_load_row rfl 89 (.tmp 11) rfl g rfl 89 _ (0, 0) _ x1 Tryz.underlying89 rfl (by kernel_rfl) ?_
            | (at_builtin; refine wpList_append_lies _ rfl (.tmp 77) (.tmp 79) 58 rfl w1.heap.size 89 t3 z3 14 t3.bytes Tryz.underlying58 ht3 ht3z ht3s rfl ht3c (by decide) u7 j news rfl (x2.alloc _) ⟨W9.heap.size, 0, none⟩ 1 1 [.int .i64 i0, .int .i64 i1, .int .i64 i2, .int .i64 i3, .int .i64 i4, .int .i64 i5, .string s6, .string s7, .string s8, .int .i64 v9, .int .i64 v10, .bool b11, .slice A12 N12 C12, .slice A13 N13 C13] rfl rfl (World.news_of_block (heap_alloc_last _ _)) hone (by decide) (by unfold maxLen; omega) (Nat.le_trans (Nat.mul_le_mul (show j + 1 ≤ 9 by omega) ht3b) (by decide)) (by simp; omega) _ rfl ?_; intro g9 cap9 w9 hown hgr hat hlt9))
          exact ⟨⟨j + 1, _, by omega, by go_num, Lib.hid (below_grown (below_on x0 (below_alloc _ _) x0.size) hgr (fun i hi => (x2.lt i hi).1) (by simp; omega)), Lib.hid hown, Lib.hid (fun u hu => (List.mem_append.1 hu).elim (H1.out u) (hone u))⟩, by simp [intOf]; omega⟩
        · go_upto_region 12 with (fail)
          all_goals
            clear b0 b1 b2 b3 b4 b5 b6 z0 y9 y9' y10 y10'
            generalize wrap64 (i9 + by0) = v9
            generalize wrap64 (i10 + by0) = v10
            have HX9 := (HX4.out.set 9 (.int .i64 v9)).set 10 (.int .i64 v10)
            simp only [List.setIfInBounds_toArray, List.set_cons_zero, List.set_cons_succ] at HX9
            have HX9 := Lib.hid HX9
            generalize (w4.setCell _ _).setCell _ _ = W9 at *
            obtain ⟨x0, x1, x2, x3, x4⟩ := HX9.out
            have hone : ∀ u ∈ ([.int .i64 i0, .int .i64 i1, .int .i64 i2, .int .i64 i3, .int .i64 i4, .int .i64 i5, .string s6, .string s7, .string s8, .int .i64 v9, .int .i64 v10, .bool b11, .slice A12 N12 C12, .slice A13 N13 C13] : List Value), u.oneCell' = true := by simp [Value.oneCell']
            have hsz := x0.size
            go_wp2_with (first
              | refine wpList_load_row rfl 89 (.tmp 11) rfl g rfl 89 _ (0, 0) _ x1 Tryz.underlying89 rfl (by kernel_rfl) ?_
              | (at_builtin; refine wpList_append_lies _ rfl (.tmp 77) (.tmp 79) 58 rfl w1.heap.size 89 t3 z3 14 t3.bytes Tryz.underlying58 ht3 ht3z ht3s rfl ht3c (by decide) u7 j news rfl (x2.alloc _) ⟨W9.heap.size, 0, none⟩ 1 1 [.int .i64 i0, .int .i64 i1, .int .i64 i2, .int .i64 i3, .int .i64 i4, .int .i64 i5, .string s6, .string s7, .string s8, .int .i64 v9, .int .i64 v10, .bool b11, .slice A12 N12 C12, .slice A13 N13 C13] rfl rfl (World.news_of_block (heap_alloc_last _ _)) hone (by decide) (by unfold maxLen; omega) (Nat.le_trans (Nat.mul_le_mul (show j + 1 ≤ 9 by omega) ht3b) (by decide)) (by simp; omega) _ rfl ?_; intro g9 cap9 w9 hown hgr hat hlt9))
            exact ⟨⟨j + 1, _, by omega, by go_num, Lib.hid (below_grown (below_on x0 (below_alloc _ _) x0.size) hgr (fun i hi => (x2.lt i hi).1) (by simp; omega)), Lib.hid hown, Lib.hid (fun u hu => (List.mem_append.1 hu).elim (H1.out u) (hone u))⟩, by simp [intOf]; omega⟩
    · obtain rfl : j = n := by omega
      obtain ⟨a7, c7, rfl, _⟩ := row_forms HR.out
      have hs := SpansAt.row HR.out H1.out (by omega)
      go_wp2_with fail
      go_ret
      rw [hn]
      exact ⟨⟨a7, c7, rfl, hs⟩, below_on HB1.out HB.out HB1.out.size⟩
end Go.Proofs.YtmhmnbaoanennaaGreatDoor

