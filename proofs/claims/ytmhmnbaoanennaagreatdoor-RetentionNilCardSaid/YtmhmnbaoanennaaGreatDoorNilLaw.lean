/- Walk of the law RetentionNil, over a contract of Spans. -/
import Derived.Test.YtmhmnbaoanennaaGreatDoorNils
import Derived.Deep.RegionHeld
namespace Go.Proofs.YtmhmnbaoanennaaGreatDoor
open Go Go.Ev Go.Proofs Go.RowKit
set_option linter.unusedVariables false
set_option linter.unusedSimpArgs false
/-- A story lies in a row of the law's own. -/
def StoryAt (w : World) (a : Option Addr) (n c : Nat) (o0 o1 o2 o3 : Int) (b : Option Addr) (m d : Nat) (q : Int) (W : World) : Prop :=
  (W.cell? ⟨w.heap.size, 0, none⟩ = some (.slice a n c) ∧ W.cell? ⟨w.heap.size, 1, none⟩ = some (.int .i8 o0) ∧ W.cell? ⟨w.heap.size, 2, none⟩ = some (.int .i8 o1) ∧ W.cell? ⟨w.heap.size, 3, none⟩ = some (.int .i8 o2) ∧
    W.cell? ⟨w.heap.size, 4, none⟩ = some (.int .i8 o3) ∧ W.cell? ⟨w.heap.size, 5, none⟩ = some (.slice b m d) ∧ W.cell? ⟨w.heap.size, 6, none⟩ = some (.int .u8 q)) ∧ Below w.heap.size w W
theorem StoryAt.below {w W W' : World} {a : Option Addr} {n c : Nat} {o0 o1 o2 o3 : Int} {b : Option Addr} {m d : Nat} {q : Int} (h : StoryAt w a n c o0 o1 o2 o3 b m d q W) (k : Below W.heap.size W W') : StoryAt w a n c o0 o1 o2 o3 b m d q W' := by
  obtain ⟨⟨h0, h1, h2, h3, h4, h5, h6⟩, hb⟩ := h
  have hlt := World.block_lt_of_cell? W _ h0
  exact ⟨⟨(k.cell hlt).trans h0, (k.cell (p := ⟨w.heap.size, 1, none⟩) hlt).trans h1, (k.cell (p := ⟨w.heap.size, 2, none⟩) hlt).trans h2, (k.cell (p := ⟨w.heap.size, 3, none⟩) hlt).trans h3, (k.cell (p := ⟨w.heap.size, 4, none⟩) hlt).trans h4,
    (k.cell (p := ⟨w.heap.size, 5, none⟩) hlt).trans h5, (k.cell (p := ⟨w.heap.size, 6, none⟩) hlt).trans h6⟩, hb.trans (k.mono hb.size)⟩
theorem StoryAt.beh {w W : World} {a : Option Addr} {n c : Nat} {o0 o1 o2 o3 : Int} {b : Option Addr} {m d : Nat} {q : Int} (h : StoryAt w a n c o0 o1 o2 o3 b m d q W) : Below w.heap.size w W := by
  obtain ⟨_, h⟩ := h
  exact h
theorem StoryAt.made (w : World) (a : Option Addr) (n c : Nat) (o0 o1 o2 o3 : Int) (b : Option Addr) (m d : Nat) (q : Int) :
    StoryAt w a n c o0 o1 o2 o3 b m d q (w.alloc (.cells #[.slice a n c, .int .i8 o0, .int .i8 o1, .int .i8 o2, .int .i8 o3, .slice b m d, .int .u8 q] 53)) :=
  ⟨⟨cell_last _ _ _ 0 _ _ rfl rfl, cell_last _ _ _ 1 _ _ rfl rfl, cell_last _ _ _ 2 _ _ rfl rfl, cell_last _ _ _ 3 _ _ rfl rfl, cell_last _ _ _ 4 _ _ rfl rfl, cell_last _ _ _ 5 _ _ rfl rfl, cell_last _ _ _ 6 _ _ rfl rfl⟩, below_alloc _ _⟩
theorem keep0 {w W W' : World} {b : Nat} {v : Value} (h : W.cell? ⟨b, 0, none⟩ = some v ∧ Below w.heap.size w W) (k : Below W.heap.size W W') : W'.cell? ⟨b, 0, none⟩ = some v ∧ Below w.heap.size w W' :=
  ⟨(k.cell (World.block_lt_of_cell? W _ h.1)).trans h.1, h.2.trans (k.mono h.2.size)⟩
set_option maxRecDepth 20000 in
set_option maxHeartbeats 8000000 in
theorem retNil_walk (k : Int) (a : Option Addr) (ts : List TreeD) (c : Nat) (o0 o1 o2 o3 : Int) (b : Option Addr) (m d : Nat) (q : Int) (w : World) (ht : TreesAt w a ts) (hl : ts.length ≤ maxLen) (hm : m ≤ maxLen) (hcl : ∀ j (hj : j < ts.length), ts[j].cs.length ≤ maxLen)
    (hsp : ts.length ≤ 3 → (∀ j (hj : j < ts.length), ts[j].cs.length ≤ 8) → ∀ W, Below w.heap.size w W → Calls Tryz.prog 49 #[.agg #[.slice a ts.length c, .int .i8 o0, .int .i8 o1, .int .i8 o2, .int .i8 o3, .slice b m d, .int .u8 q]] W fun e W' => (∃ a n c, e = .returned (.slice a n c)) ∧ Below W.heap.size W W')
    (ty : Nat → TypeId) (hg : laidG w ty gl) :
    Calls Tryz.prog 12 #[.int .i64 k, .agg #[.slice a ts.length c, .int .i8 o0, .int .i8 o1, .int .i8 o2, .int .i8 o3, .slice b m d, .int .u8 q]] w fun e w' => e = .returned (.bool true) ∧ Below w.heap.size w w' := by
  have HT := Lib.hid ht
  have HL := Lib.hid hl
  have HM := Lib.hid hm
  have HC := Lib.hid hcl
  have HS := Lib.hid hsp
  have HG := Lib.hid hg
  clear ht hl hm hcl hsp hg
  have HA := Lib.hid (StoryAt.made w a ts.length c o0 o1 o2 o3 b m d q)
  go_enter Tryz.func12, Tryz.ntmps12
  go_wp2_with fail
  (with_reducible refine (known_calls _ ty (laidG_below2 HG.out HA.out.beh)).mono ?_)
  rintro e w1 ⟨rfl, hb⟩
  have HW := Lib.hid (HA.out.below hb)
  clear hb HA
  obtain ⟨⟨g0, g1, g2, g3, g4, g5, g6⟩, _⟩ := HW.out
  go_wp2_with fail
  (with_reducible refine (short_any a ts c o0 o1 o2 o3 b m d q _ (HT.out.below HW.out.beh) HL.out HM.out HC.out).mono ?_)
  rintro e w2 ⟨⟨r, rfl, hr⟩, hb⟩
  have HW := Lib.hid (HW.out.below hb)
  clear hb g0 g1 g2 g3 g4 g5 g6
  have HR := Lib.hid hr
  clear hr
  obtain ⟨⟨g0, g1, g2, g3, g4, g5, g6⟩, _⟩ := HW.out
  cases r with
  | false =>
    go_wp2_with fail
    (with_reducible refine (known_calls _ ty (laidG_below2 HG.out HW.out.beh)).mono ?_)
    rintro e w3 ⟨rfl, hb⟩
    have HW := Lib.hid (HW.out.below hb)
    clear hb
    go_wp2_with fail
    go_ret
    exact ⟨rfl, HW.out.beh⟩
  | true =>
    obtain ⟨r1, r2, r3⟩ := HR.out rfl
    have R3 := Lib.hid r3
    clear r3
    go_wp2_with fail
    (with_reducible refine (HS.out r1 R3.out _ HW.out.beh).mono ?_)
    rintro e w3 ⟨⟨A, N, C, rfl⟩, hb⟩
    have HW := Lib.hid (HW.out.below hb)
    clear hb g0 g1 g2 g3 g4 g5 g6
    go_wp2_with fail
    (with_reducible refine (add_nil A N C _).mono ?_)
    rintro e w4 ⟨rfl, hb⟩
    have HW := Lib.hid (HW.out.below hb)
    clear hb
    go_wp2_with fail
    (with_reducible refine (apply_nil k _).mono ?_)
    rintro e w5 ⟨rfl, hb⟩
    have HW := Lib.hid (HW.out.below hb)
    clear hb
    go_wp2_with fail
    (with_reducible refine (retained_nil _).mono ?_)
    rintro e w6 ⟨rfl, hb⟩
    have HW := Lib.hid (HW.out.below hb)
    clear hb
    go_wp2_with fail
    have hc0 := cell_last w6 #[.slice none 0 0, .slice none 0 0, .slice none 0 0, .slice none 0 0] 94 0 (.slice none 0 0) w6.heap.size rfl rfl
    have hb0 := HW.out.beh.trans ((below_alloc w6 (.cells #[.slice none 0 0, .slice none 0 0, .slice none 0 0, .slice none 0 0] 94)).mono HW.out.beh.size)
    have HX : Hid (_ ∧ _) := Lib.hid ⟨hc0, hb0⟩
    clear hc0 hb0
    go_region_held (fun W => W.cell? ⟨w6.heap.size, 0, none⟩ = some (.slice none 0 0) ∧ Below w.heap.size w W)
      (first
        | exact ⟨HX.out.1, HX.out.2.drew⟩
        | exact keep0 (by assumption) (by assumption))
      (first
        | (go_at_call 45; (with_reducible refine (now_nil _).mono ?_); rintro e w' ⟨rfl, hbb⟩)
        | (go_at_call 25; (with_reducible refine (traces_nil _).mono ?_); rintro e w' ⟨rfl, hbb⟩)
        | (go_at_call 39; (with_reducible refine (records_nil _).mono ?_); rintro e w' ⟨rfl, hbb⟩)
        | (go_at_call 26; (with_reducible refine (removed_nil _).mono ?_); rintro e w' ⟨rfl, hbb⟩)
        | (go_at_call 27; (with_reducible refine (late_nil _).mono ?_); rintro e w' ⟨rfl, hbb⟩)
        | (go_at_call 24; (with_reducible refine (has_nil k _).mono ?_); rintro e w' ⟨rfl, hbb⟩)
        | (go_at_call 41; (with_reducible refine (clone_nil _).mono ?_); rintro e w' ⟨rfl, hbb⟩)
        | (go_at_call 37; (with_reducible refine (equal_nil _).mono ?_); rintro e w' ⟨rfl, hbb⟩))
    rename_i hH
    have HB := Lib.hid hH.2
    clear hH
    go_wp2_with fail
    go_ret
    exact ⟨rfl, HB.out⟩
end Go.Proofs.YtmhmnbaoanennaaGreatDoor
