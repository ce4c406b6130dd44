/- Walk of the law RetentionChecks. -/
import Derived.Test.YtmhmnbaoanennaaGreatDoorKeeper
namespace Go.Proofs.YtmhmnbaoanennaaGreatDoor
open Go Go.Ev Go.Proofs Go.RowKit
set_option linter.unusedVariables false
set_option linter.unusedSimpArgs false

/-- A rule whose predicate may have arguments. -/
structure RuleX where
  r : RuleD
  l : Nat
/-- A rule lies at an address. -/
def RowX (W : World) (p : Addr) (x : RuleX) : Prop :=
  W.cell? p = some (.int .i64 x.r.op) ∧ W.cell? ⟨p.block, p.off + 1, none⟩ = some (.string x.r.f) ∧ W.cell? ⟨p.block, p.off + 2, none⟩ = some (.string x.r.k) ∧ W.cell? ⟨p.block, p.off + 3, none⟩ = some (.int .i64 x.r.n) ∧
  W.cell? ⟨p.block, p.off + 4, none⟩ = some (.string x.r.t) ∧ W.cell? ⟨p.block, p.off + 5, none⟩ = some (.int .i64 x.r.i) ∧ W.cell? ⟨p.block, p.off + 6, none⟩ = some (.slice x.r.A x.l x.r.c) ∧ W.cell? ⟨p.block, p.off + 7, none⟩ = some (.int .i64 x.r.e)
theorem RowX.below {W W' : World} {p : Addr} {r : RuleX} (h : RowX W p r) (k : Below W.heap.size W W') : RowX W' p r := by
  obtain ⟨h0, h1, h2, h3, h4, h5, h6, h7⟩ := h
  have hlt := World.block_lt_of_cell? W _ h0
  exact ⟨(k.cell hlt).trans h0, (k.cell (p := ⟨p.block, p.off + 1, none⟩) hlt).trans h1, (k.cell (p := ⟨p.block, p.off + 2, none⟩) hlt).trans h2, (k.cell (p := ⟨p.block, p.off + 3, none⟩) hlt).trans h3,
    (k.cell (p := ⟨p.block, p.off + 4, none⟩) hlt).trans h4, (k.cell (p := ⟨p.block, p.off + 5, none⟩) hlt).trans h5, (k.cell (p := ⟨p.block, p.off + 6, none⟩) hlt).trans h6, (k.cell (p := ⟨p.block, p.off + 7, none⟩) hlt).trans h7⟩
/-- The rules lie from an address on. -/
def RulesX (W : World) (a : Option Addr) (xs : List RuleX) : Prop := ∀ j (h : j < xs.length), ∃ ad, a = some ad ∧ RowX W (ad.add (j * 8)) xs[j]
theorem RulesX.below {W W' : World} {a : Option Addr} {rs : List RuleX} (h : RulesX W a rs) (k : Below W.heap.size W W') : RulesX W' a rs := fun j hj =>
  let ⟨ad, h1, h2⟩ := h j hj
  ⟨ad, h1, h2.below k⟩
/-- What the law asks of a rule. -/
def Small (x : RuleX) : Prop := x.l = 0 ∧ x.r.f.size ≤ 80 ∧ x.r.k.size ≤ 80 ∧ x.r.t.size ≤ 80
theorem RulesX.plain {W : World} {a : Option Addr} {xs : List RuleX} (h : RulesX W a xs) (hs : ∀ j (hj : j < xs.length), Small xs[j]) : RulesAt W a (xs.map (·.r)) := by
  intro j hj
  rw [List.length_map] at hj
  obtain ⟨ad, h1, h2⟩ := h j hj
  refine ⟨ad, h1, ?_⟩
  rw [List.getElem_map]
  obtain ⟨g0, g1, g2, g3, g4, g5, g6, g7⟩ := h2
  rw [(hs j hj).1] at g6
  exact ⟨g0, g1, g2, g3, g4, g5, g6, g7⟩
theorem small_fits {xs : List RuleX} (hs : ∀ j (hj : j < xs.length), Small xs[j]) : Fits (xs.map (·.r)) := by
  intro j hj
  rw [List.length_map] at hj
  rw [List.getElem_map]
  obtain ⟨_, h1, h2, h3⟩ := hs j hj
  exact ⟨by omega, by omega, by omega⟩
/-- The policy and the description lie in rows of the law's own. -/
def LawAt (w : World) (W : World) (f s : Int) (a : Option Addr) (l c : Nat) (d x a0 a1 a2 a3 a4 : Int) : Prop :=
  (W.cell? ⟨w.heap.size, 0, none⟩ = some (.int .i64 f) ∧ W.cell? ⟨w.heap.size, 1, none⟩ = some (.int .i64 s) ∧ W.cell? ⟨w.heap.size, 2, none⟩ = some (.slice a l c) ∧ W.cell? ⟨w.heap.size, 3, none⟩ = some (.int .i64 d) ∧ W.cell? ⟨w.heap.size, 4, none⟩ = some (.int .i64 x)) ∧
  (W.cell? ⟨w.heap.size + 1, 0, none⟩ = some (.int .u8 a0) ∧ W.cell? ⟨w.heap.size + 1, 1, none⟩ = some (.int .u8 a1) ∧ W.cell? ⟨w.heap.size + 1, 2, none⟩ = some (.int .u8 a2) ∧ W.cell? ⟨w.heap.size + 1, 3, none⟩ = some (.int .u8 a3) ∧ W.cell? ⟨w.heap.size + 1, 4, none⟩ = some (.int .u8 a4)) ∧ Below w.heap.size w W
theorem LawAt.below {w W W' : World} {f s : Int} {a : Option Addr} {l c : Nat} {d x a0 a1 a2 a3 a4 : Int} (h : LawAt w W f s a l c d x a0 a1 a2 a3 a4) (k : Below W.heap.size W W') : LawAt w W' f s a l c d x a0 a1 a2 a3 a4 := by
  obtain ⟨⟨h0, h1, h2, h3, h4⟩, ⟨g0, g1, g2, g3, g4⟩, hb⟩ := h
  have hlt := World.block_lt_of_cell? W _ h0
  have glt := World.block_lt_of_cell? W _ g0
  exact ⟨⟨(k.cell hlt).trans h0, (k.cell (p := ⟨w.heap.size, 1, none⟩) hlt).trans h1, (k.cell (p := ⟨w.heap.size, 2, none⟩) hlt).trans h2, (k.cell (p := ⟨w.heap.size, 3, none⟩) hlt).trans h3, (k.cell (p := ⟨w.heap.size, 4, none⟩) hlt).trans h4⟩,
    ⟨(k.cell glt).trans g0, (k.cell (p := ⟨w.heap.size + 1, 1, none⟩) glt).trans g1, (k.cell (p := ⟨w.heap.size + 1, 2, none⟩) glt).trans g2, (k.cell (p := ⟨w.heap.size + 1, 3, none⟩) glt).trans g3, (k.cell (p := ⟨w.heap.size + 1, 4, none⟩) glt).trans g4⟩, hb.trans (k.mono hb.size)⟩

theorem failed_fits (e : Int) : Fits [failedR e] := by
  intro j hj
  have hj0 : j = 0 := by simpa using hj
  subst hj0
  refine ⟨?_, ?_, ?_⟩ <;> simp [failedR, ByteArray.size]
theorem polCheck_n (a : Option Addr) (n : Nat) (rs : List RuleD) (c : Nat) (d : Int) (w : World) (hl : rs.length = n) (hn : n ≤ 3) (hr : RulesAt w a rs) (hf : Fits rs) :
    Calls Tryz.prog 14 #[.agg #[.slice a n c, .int .i64 d]] w fun e w' => e = .returned (.int .i64 (polC rs d)) ∧ Below w.heap.size w w' := by
  subst hl; exact polCheck_any a rs c d w hn hr hf
theorem retCheck_n (f s x : Int) (a : Option Addr) (n : Nat) (rs : List RuleD) (c : Nat) (d R : Int) (w : World) (hl : rs.length = n) (hn : n ≤ 3) (hr : RulesAt w a rs) (hf : Fits rs) (hR : retC f s rs d x = R) :
    Calls Tryz.prog 16 #[.agg #[.int .i64 f, .int .i64 s, .slice a n c, .int .i64 d, .int .i64 x]] w fun e w' => e = .returned (.int .i64 R) ∧ Below w.heap.size w w' := by
  subst hl hR; exact retCheck_any f s x a rs c d w hn hr hf
theorem New_n (f s x : Int) (a : Option Addr) (n : Nat) (rs : List RuleD) (c : Nat) (d R : Int) (w : World) (hl : rs.length = n) (hn : n ≤ 3) (hs : ∀ x, a = some x → x.spot = none) (hr : RulesAt w a rs) (hf : Fits rs) (hR : retC f s rs d x = R) :
    Calls Tryz.prog 15 #[.agg #[.int .i64 f, .int .i64 s, .slice a n c, .int .i64 d, .int .i64 x]] w fun e w' =>
      (∃ p : Option Addr, e = .returned (.tuple #[.pointer p, .int .i64 R]) ∧ (p = none ↔ R ≠ 0)) ∧ Below w.heap.size w w' := by
  subst hl hR; exact New_any f s x a rs c d w hn hs hr hf
theorem LawAt.beh {w W : World} {f s : Int} {a : Option Addr} {l c : Nat} {d x a0 a1 a2 a3 a4 : Int} (h : LawAt w W f s a l c d x a0 a1 a2 a3 a4) : Below w.heap.size w W := by
  obtain ⟨_, _, h⟩ := h
  exact h

set_option maxRecDepth 20000 in
set_option maxHeartbeats 16000000 in
theorem checks_walk (f s x : Int) (a : Option Addr) (xs : List RuleX) (c : Nat) (d a0 a1 a2 a3 a4 : Int) (h0 : 0 ≤ a0 ∧ a0 < 256) (h1 : 0 ≤ a1 ∧ a1 < 256) (h2 : 0 ≤ a2 ∧ a2 < 256) (h3 : 0 ≤ a3 ∧ a3 < 256) (h4 : 0 ≤ a4 ∧ a4 < 256)
    (hs : ∀ x, a = some x → x.spot = none) (w : World) (hr : RulesX w a xs) (ty : Nat → TypeId) (hl : laidG w ty gl) :
    Calls Tryz.prog 3 #[.agg #[.int .i64 f, .int .i64 s, .slice a xs.length c, .int .i64 d, .int .i64 x], .agg #[.int .u8 a0, .int .u8 a1, .int .u8 a2, .int .u8 a3, .int .u8 a4]] w fun e w' => e = .returned (.bool true) ∧ Below w.heap.size w w' := by
  have HR := Lib.hid hr
  have HS := Lib.hid hs
  have HL := Lib.hid hl
  have H0 := Lib.hid h0
  have H1 := Lib.hid h1
  have H2 := Lib.hid h2
  have H3 := Lib.hid h3
  have H4 := Lib.hid h4
  clear hr hs hl h0 h1 h2 h3 h4
  have HA : Hid (LawAt w ((w.alloc (.cells #[.int .i64 f, .int .i64 s, .slice a xs.length c, .int .i64 d, .int .i64 x] 26)).alloc (.cells #[.int .u8 a0, .int .u8 a1, .int .u8 a2, .int .u8 a3, .int .u8 a4] 28)) f s a xs.length c d x a0 a1 a2 a3 a4) := Lib.hid (by
    refine ⟨⟨?_, ?_, ?_, ?_, ?_⟩, ⟨?_, ?_, ?_, ?_, ?_⟩, (below_alloc w _).alloc (by simp) _⟩
    · exact (World.cell?_alloc_lt _ _ _ (by simp)).trans (cell_last _ _ _ 0 _ _ rfl rfl)
    · exact (World.cell?_alloc_lt _ _ _ (by simp)).trans (cell_last _ _ _ 1 _ _ rfl rfl)
    · exact (World.cell?_alloc_lt _ _ _ (by simp)).trans (cell_last _ _ _ 2 _ _ rfl rfl)
    · exact (World.cell?_alloc_lt _ _ _ (by simp)).trans (cell_last _ _ _ 3 _ _ rfl rfl)
    · exact (World.cell?_alloc_lt _ _ _ (by simp)).trans (cell_last _ _ _ 4 _ _ rfl rfl)
    · exact cell_last _ _ _ 0 _ _ (by simp) rfl
    · exact cell_last _ _ _ 1 _ _ (by simp) rfl
    · exact cell_last _ _ _ 2 _ _ (by simp) rfl
    · exact cell_last _ _ _ 3 _ _ (by simp) rfl
    · exact cell_last _ _ _ 4 _ _ (by simp) rfl)
  go_enter Tryz.func3, Tryz.ntmps3
  go_wp2_with fail
  (with_reducible refine (known_calls _ ty (laidG_below2 HL.out ((below_alloc w _).alloc (by simp) _))).mono ?_)
  rintro e w1 ⟨rfl, hb⟩
  have HA1 := Lib.hid (HA.out.below hb)
  clear hb HA
  by_cases hlen : xs.length ≤ 3
  · have hlen2 : ¬ 3 < xs.length := by omega
    obtain ⟨⟨g0, g1, g2, g3, g4⟩, ⟨k0, k1, k2, k3, k4⟩, _⟩ := HA1.out
    go_wp2_with fail
    clear g0 g1 g2 g3 g4 k0 k1 k2 k3 k4
    go_loopw [5, 6] (fun i t6 wr => ∃ j : Nat, i = .int .i64 j ∧ j ≤ xs.length ∧ Hid (∀ m (hm : m < xs.length), m < j → Small xs[m]) ∧ Hid (LawAt w wr f s a xs.length c d x a0 a1 a2 a3 a4)) (fun i _ _ => xs.length - (intOf i).toNat)
    case atStart => exact ⟨0, rfl, by omega, Lib.hid (fun m _ hm => by omega), HA1⟩
    case round =>
      clear HA1
      obtain ⟨j, rfl, hj, HG, HW⟩ := hrel
      obtain ⟨⟨g0, g1, g2, g3, g4⟩, _, hBw⟩ := HW.out
      by_cases hlt : j < xs.length
      · obtain ⟨ad, rfl, r0, r1, r2, r3, r4, r5, r6, r7⟩ := HR.out.below hBw j hlt
        have HN : Hid (Small xs[j] → ∀ m (hm : m < xs.length), m < j + 1 → Small xs[m]) := Lib.hid (fun h m hm hmj => by
          by_cases hmj2 : m = j
          · subst hmj2; exact h
          · exact HG.out m hm (by omega))
        have HB := Lib.hid hBw
        clear hBw
        generalize xs[j] = r at *
        go_wp2_with fail
        all_goals first
          | (go_ret
             exact ⟨rfl, HB.out.trans ((below_alloc wr _).mono HB.out.size)⟩)
          | exact ⟨⟨j + 1, by go_num, by omega, Lib.hid (HN.out ⟨by omega, by omega, by omega, by omega⟩), Lib.hid (HW.out.below (below_alloc _ _))⟩, by simp [intOf]; omega⟩
      · have hall : ∀ m (hm : m < xs.length), Small xs[m] := fun m hm => HG.out m hm (by omega)
        have hat := HR.out.plain hall
        have hfit := small_fits hall
        have hlen3 : (xs.map (·.r)).length = xs.length := by simp
        generalize xs.map (·.r) = rs at hat hfit hlen3
        have HT := Lib.hid hat
        have HF := Lib.hid hfit
        have HN3 := Lib.hid hlen
        have HN := Lib.hid hlen3
        have HW2 := HW
        have hj2 : j = xs.length := by omega
        subst hj2
        clear hat hfit hlen3 HR HG HW hall hBw hlt hj hlen2
        go_wp2_with (first
          | (go_at_call 14; (with_reducible refine (polCheck_n a _ rs c d _ HN.out HN3.out (HT.out.below HW2.out.beh) HF.out).mono ?_); rintro e w2 ⟨rfl, hb⟩;
             have HW2 := Lib.hid (HW2.out.below hb); clear hb; obtain ⟨⟨g0', g1', g2', g3', g4'⟩, _, _⟩ := HW2.out))
        all_goals
          first
            | (have hR : retC f s rs d x = 2 := by unfold retC; rw [if_pos (by omega)])
            | (have hR : retC f s rs d x = polC rs d := by
                 have hz : ¬ polC rs d = 0 := by assumption
                 unfold retC; rw [if_neg (by omega), if_pos hz])
            | (have hR : retC f s rs d x = 2 := by
                 have hz : polC rs d = 0 := by assumption
                 unfold retC; rw [if_neg (by omega), if_neg (by simpa using hz), if_pos (by omega)])
            | (have hR : retC f s rs d x = 0 := by
                 have hz : polC rs d = 0 := by assumption
                 unfold retC; rw [if_neg (by omega), if_neg (by simpa using hz), if_neg (by omega)])
        all_goals
          (with_reducible refine (New_n f s x a _ rs c d _ _ HN.out HN3.out HS.out (HT.out.below HW2.out.beh) HF.out hR).mono ?_)
          rintro e w3 ⟨⟨p, rfl, hp⟩, hb⟩
          have HW2 := Lib.hid (HW2.out.below hb)
          have HR := Lib.hid hR
          clear hb hR
          obtain ⟨⟨r0, r1, r2, r3, r4⟩, ⟨k0, k1, k2, k3, k4⟩, _⟩ := HW2.out
          cases p with
          | none =>
            have hp2 := hp.1 rfl
            first
              | exact absurd rfl hp2
              | (clear hp hp2
                 go_wp2_with (first
                  | (go_at_call 16; (with_reducible refine (retCheck_n f s x a _ rs c d _ _ HN.out HN3.out (HT.out.below HW2.out.beh) HF.out HR.out).mono ?_); rintro e w4 ⟨rfl, hb⟩;
                     have HW2 := Lib.hid (HW2.out.below hb); clear hb; obtain ⟨_, ⟨k0', k1', k2', k3', k4'⟩, _⟩ := HW2.out)
                  | (go_at_call 17; (with_reducible refine (Policy_full a0 a1 a2 a3 a4 H0.out H1.out H2.out H3.out H4.out _).mono ?_); rintro e w5 ⟨⟨b, rfl, hRb⟩, hb⟩;
                     have HW2 := Lib.hid (HW2.out.below hb); have HRb := Lib.hid hRb; clear hb hRb)
                  | (go_at_call 16; (with_reducible refine (retCheck_n _ _ _ _ 1 [failedR (a3 % 3)] 1 (1 + a2 % 3) _ _ rfl (by omega) HRb.out (failed_fits _) (described_ok a0 a1 a2 a3 a4 H0.out H1.out H2.out H3.out H4.out)).mono ?_); rintro e w6 ⟨rfl, hb⟩;
                     have HW2 := Lib.hid (HW2.out.below hb); clear hb)))
            all_goals
              go_ret
              refine ⟨?_, HW2.out.beh⟩
              first
                | rfl
                | (simp; done)
                | (simp; assumption)
          | some q =>
            first
              | exact absurd (hp.2 (by first | decide | assumption)) (by simp)
              | (clear hp
                 go_wp2_with (first
                  | (go_at_call 16; (with_reducible refine (retCheck_n f s x a _ rs c d _ _ HN.out HN3.out (HT.out.below HW2.out.beh) HF.out HR.out).mono ?_); rintro e w4 ⟨rfl, hb⟩;
                     have HW2 := Lib.hid (HW2.out.below hb); clear hb; obtain ⟨_, ⟨k0', k1', k2', k3', k4'⟩, _⟩ := HW2.out)
                  | (go_at_call 17; (with_reducible refine (Policy_full a0 a1 a2 a3 a4 H0.out H1.out H2.out H3.out H4.out _).mono ?_); rintro e w5 ⟨⟨b, rfl, hRb⟩, hb⟩;
                     have HW2 := Lib.hid (HW2.out.below hb); have HRb := Lib.hid hRb; clear hb hRb)
                  | (go_at_call 16; (with_reducible refine (retCheck_n _ _ _ _ 1 [failedR (a3 % 3)] 1 (1 + a2 % 3) _ _ rfl (by omega) HRb.out (failed_fits _) (described_ok a0 a1 a2 a3 a4 H0.out H1.out H2.out H3.out H4.out)).mono ?_); rintro e w6 ⟨rfl, hb⟩;
                     have HW2 := Lib.hid (HW2.out.below hb); clear hb)))
            all_goals
              go_ret
              refine ⟨?_, HW2.out.beh⟩
              first
                | rfl
                | (simp; done)
                | (simp; assumption)
  · have hlen2 : 3 < xs.length := by omega
    obtain ⟨⟨g0, g1, g2, g3, g4⟩, _, _⟩ := HA1.out
    go_wp2_with fail
    (with_reducible refine (known_calls _ ty (laidG_below2 HL.out HA1.out.beh)).mono ?_)
    rintro e w2 ⟨rfl, hb⟩
    have HB := Lib.hid (HA1.out.beh.trans (hb.mono HA1.out.beh.size))
    clear hb HA1 g0 g1 g2 g3 g4
    go_wp2
    go_ret
    exact ⟨rfl, HB.out⟩
end Go.Proofs.YtmhmnbaoanennaaGreatDoor
