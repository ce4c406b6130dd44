/- Walk of the law RetentionTiers. -/
import Derived.Test.YtmhmnbaoanennaaGreatDoorKn
import Derived.WalkKit
import Derived.ProofKit
import Derived.Tactics2
import Derived.WideLaws
import Derived.KernelRfl
import Derived.Below
import Derived.Lib.Hide
import Derived.IntWalk
import Derived.WalkSmall
import Derived.Deep.CutBlock
import Derived.Deep.RegionHeld
import Derived.Deep.WholeRow
namespace Go.Proofs.YtmhmnbaoanennaaGreatDoor
open Go Go.Ev Go.Proofs Go.RowKit
set_option linter.unusedVariables false
set_option linter.unusedSimpArgs false

/-- The tier of an age. -/
def tierV (f s age : Int) : Int := if age < f then 1 else if age < s then 2 else 3
theorem tierV_1 {f s g : Int} (h : g < f) : tierV f s g = 1 := by unfold tierV; rw [if_pos h]
theorem tierV_2 {f s g : Int} (h : f ≤ g) (k : g < s) : tierV f s g = 2 := by unfold tierV; rw [if_neg (by omega), if_pos k]
theorem tierV_3 {f s g : Int} (h : f ≤ g) (k : s ≤ g) : tierV f s g = 3 := by unfold tierV; rw [if_neg (by omega), if_neg (by omega)]

theorem below_alloc (w : World) (o : Obj) : Below w.heap.size w (w.alloc o) := (Below.refl _ _).alloc (Nat.le_refl _) o

theorem Tier_any (f s d x n p : Int) (A : Option Addr) (l c : Nat) (hn : 0 ≤ n) (hn2 : n < 65536) (hp : 0 ≤ p) (hp2 : p < 65536) (w : World) :
    Calls Tryz.prog 18 #[.agg #[.int .i64 f, .int .i64 s, .slice A l c, .int .i64 d, .int .i64 x], .int .i64 n, .int .i64 p] w fun e w' => e = .returned (.int .i64 (tierV f s (n / 16 - p))) ∧ Below w.heap.size w w' := by
  go_enter Tryz.func18, Tryz.ntmps18
  go_wp2
  all_goals
    go_ret
    refine ⟨?_, below_alloc _ _⟩
    first
      | (rw [tierV_1 (by assumption)]; rfl)
      | (rw [tierV_2 (by assumption) (by assumption)]; rfl)
      | (rw [tierV_3 (by assumption) (by assumption)]; rfl)
theorem tier_any (f s d x n p : Int) (A : Option Addr) (l c : Nat) (hn : 0 ≤ n) (hn2 : n < 65536) (hp : 0 ≤ p) (hp2 : p < 65536) (w : World) :
    Calls Tryz.prog 19 #[.agg #[.int .i64 f, .int .i64 s, .slice A l c, .int .i64 d, .int .i64 x], .int .i64 n, .int .i64 p] w fun e w' => e = .returned (.int .i64 (tierV f s (n / 16 - p))) ∧ Below w.heap.size w w' := by
  go_enter Tryz.func19, Tryz.ntmps19
  go_wp2
  all_goals
    go_ret
    refine ⟨?_, below_alloc _ _⟩
    first
      | (rw [tierV_1 (by assumption)]; rfl)
      | (rw [tierV_2 (by assumption) (by assumption)]; rfl)
      | (rw [tierV_3 (by assumption) (by assumption)]; rfl)

theorem results_cell {P : Program} {fn : Func} {tmps : Array Value} {ad : Nat} {t : TypeId} {v : Value} {w : World} (h : fn.results = #[.cell ad t]) (hv : (resF tmps (.cell ad t)).run P w = .ok v w) : (Go.results fn tmps).run P w = .ok v w := by
  rw [results_eq, h]
  have hrun : ((#[ResultVar.cell ad t]).mapM (resF tmps)).run P w = .ok #[v] w := by
    rw [Array.mapM_eq_mapM_toList, ← bind_pure_comp]
    simp only [Sem.run_bind, List.mapM_cons, List.mapM_nil, hv, Result.andThen_ok, Sem.run_pure]
  simp only [Sem.run_bind, hrun, Result.andThen_ok, Sem.run_pure]
  rfl
/-- The description's value. -/
def agesV (a0 a1 a2 a3 a4 : Int) : Value := .agg #[.int .u8 a0, .int .u8 a1, .int .u8 a2, .int .u8 a3, .int .u8 a4]
theorem Policy_any (a0 a1 a2 a3 a4 : Int) (h0 : 0 ≤ a0 ∧ a0 < 256) (h1 : 0 ≤ a1 ∧ a1 < 256) (h2 : 0 ≤ a2 ∧ a2 < 256) (h3 : 0 ≤ a3 ∧ a3 < 256) (h4 : 0 ≤ a4 ∧ a4 < 256) (w : World) : Calls Tryz.prog 17 #[.agg #[.int .u8 a0, .int .u8 a1, .int .u8 a2, .int .u8 a3, .int .u8 a4]] w fun e w' =>
    (∃ b, e = .returned (.agg #[.int .i64 (a0 % 3), .int .i64 (a0 % 3 + a1 % 3), .slice (some ⟨b, 0, none⟩) 1 1, .int .i64 (1 + a2 % 3), .int .i64 a4])) ∧ Below w.heap.size w w' := by
  obtain ⟨h00, h01⟩ := h0
  obtain ⟨h10, h11⟩ := h1
  obtain ⟨h20, h21⟩ := h2
  obtain ⟨h30, h31⟩ := h3
  obtain ⟨h40, h41⟩ := h4
  go_enter Tryz.func17, Tryz.ntmps17
  go_wp2
  (try simp only [Exit.inBlock, Exit.then])
  refine bodyPost_ret (results_cell rfl (by simp only [resF]; go_simp; rfl)) rfl ?_
  exact ⟨⟨_, rfl⟩, (((below_alloc _ _).alloc (by simp) _).alloc (by simp; omega) _).alloc (by simp; omega) _⟩

/-- The description lies in a row of the law's own. -/
def AgesAt (w : World) (b : Nat) (a0 a1 a2 a3 a4 : Int) (W : World) : Prop :=
  W.cell? ⟨b, 0, none⟩ = some (.int .u8 a0) ∧ W.cell? ⟨b, 1, none⟩ = some (.int .u8 a1) ∧ W.cell? ⟨b, 2, none⟩ = some (.int .u8 a2) ∧ W.cell? ⟨b, 3, none⟩ = some (.int .u8 a3) ∧ W.cell? ⟨b, 4, none⟩ = some (.int .u8 a4) ∧ Below w.heap.size w W
theorem AgesAt.keep {w W W' : World} {b : Nat} {a0 a1 a2 a3 a4 : Int} (h : AgesAt w b a0 a1 a2 a3 a4 W) (k : Below W.heap.size W W') : AgesAt w b a0 a1 a2 a3 a4 W' := by
  obtain ⟨h0, h1, h2, h3, h4, hb⟩ := h
  have hlt := World.block_lt_of_cell? W _ h0
  exact ⟨(k.cell hlt).trans h0, (k.cell (p := ⟨b, 1, none⟩) hlt).trans h1, (k.cell (p := ⟨b, 2, none⟩) hlt).trans h2, (k.cell (p := ⟨b, 3, none⟩) hlt).trans h3, (k.cell (p := ⟨b, 4, none⟩) hlt).trans h4, hb.trans (k.mono hb.size)⟩
theorem AgesAt.drew {w W : World} {b : Nat} {a0 a1 a2 a3 a4 : Int} (h : AgesAt w b a0 a1 a2 a3 a4 W) : AgesAt w b a0 a1 a2 a3 a4 W.drew :=
  h.keep ⟨rfl, rfl, rfl, Nat.le_refl _, fun _ _ => rfl⟩

theorem laidG_below2 {w W : World} {ty : Nat → TypeId} {g : List (Nat × List Value)} (h : laidG w ty g) (k : Below w.heap.size w W) : laidG W ty g := fun x hx => by
  have h1 := h x hx
  rw [k.block x.1 (Array.getElem?_eq_some_iff.1 h1).1]
  exact h1
set_option maxHeartbeats 4000000 in
theorem tiers_walk (a0 a1 a2 a3 a4 n p : Int) (h0 : 0 ≤ a0 ∧ a0 < 256) (h1 : 0 ≤ a1 ∧ a1 < 256) (h2 : 0 ≤ a2 ∧ a2 < 256) (h3 : 0 ≤ a3 ∧ a3 < 256) (h4 : 0 ≤ a4 ∧ a4 < 256)
    (hn : 0 ≤ n) (hn2 : n < 65536) (hp : 0 ≤ p) (hp2 : p < 65536) (w : World) (ty : Nat → TypeId) (hl : laidG w ty gl) :
    Calls Tryz.prog 4 #[agesV a0 a1 a2 a3 a4, .int .u16 n, .int .u16 p] w fun e w' => e = .returned (.bool true) ∧ Below w.heap.size w w' := by
  have en : IntKind.i64.wrap n = n := by simp only [IntKind.wrap, IntKind.signed, IntKind.bits]; simp; omega
  have ep : IntKind.i64.wrap p = p := by simp only [IntKind.wrap, IntKind.signed, IntKind.bits]; simp; omega
  have wn : 0 ≤ IntKind.i64.wrap n := by rw [en]; exact hn
  have wn2 : IntKind.i64.wrap n < 65536 := by rw [en]; exact hn2
  have wp : 0 ≤ IntKind.i64.wrap p := by rw [ep]; exact hp
  have wp2 : IntKind.i64.wrap p < 65536 := by rw [ep]; exact hp2
  clear en ep
  have H0 := Lib.hid h0
  have H1 := Lib.hid h1
  have H2 := Lib.hid h2
  have H3 := Lib.hid h3
  have H4 := Lib.hid h4
  have HL := Lib.hid hl
  clear h0 h1 h2 h3 h4 hl
  have hA : ∀ o : Obj, o = .cells #[.int .u8 a0, .int .u8 a1, .int .u8 a2, .int .u8 a3, .int .u8 a4] 28 (0, 0) → AgesAt w w.heap.size a0 a1 a2 a3 a4 (w.alloc o) := by
    rintro o rfl
    refine ⟨?_, ?_, ?_, ?_, ?_, below_alloc _ _⟩ <;> simp only [World.cell?, heap_alloc_last] <;> rfl
  have HA := Lib.hid hA
  clear hA
  unfold agesV
  go_enter Tryz.func4, Tryz.ntmps4
  go_wp2_with fail
  (with_reducible refine (known_calls _ ty (laidG_below2 HL.out (below_alloc _ _))).mono ?_)
  rintro e w1 ⟨rfl, hb⟩
  have HB := Lib.hid ((HA.out _ rfl).keep hb)
  clear hb
  go_wp2_with fail
  go_region_held (fun W => W.cell? ⟨w.heap.size, 0, none⟩ = some (.int .u8 a0) ∧ W.cell? ⟨w.heap.size, 1, none⟩ = some (.int .u8 a1) ∧ W.cell? ⟨w.heap.size, 2, none⟩ = some (.int .u8 a2) ∧ W.cell? ⟨w.heap.size, 3, none⟩ = some (.int .u8 a3) ∧ W.cell? ⟨w.heap.size, 4, none⟩ = some (.int .u8 a4) ∧ Below w.heap.size w W)
    (first
      | exact HB.out.drew
      | exact AgesAt.keep (w := w) (b := w.heap.size) (a0 := a0) (a1 := a1) (a2 := a2) (a3 := a3) (a4 := a4) (by assumption) (by assumption))
    (first
      | (go_at_call 17; (with_reducible refine (Policy_any a0 a1 a2 a3 a4 H0.out H1.out H2.out H3.out H4.out _).mono ?_); rintro e w' ⟨⟨b, rfl⟩, hbb⟩)
      | (go_at_call 18; (with_reducible refine (Tier_any _ _ _ _ _ _ _ _ _ wn wn2 wp wp2 _).mono ?_); rintro e w' ⟨rfl, hbb⟩)
      | (go_at_call 19; (with_reducible refine (tier_any _ _ _ _ _ _ _ _ _ wn wn2 wp wp2 _).mono ?_); rintro e w' ⟨rfl, hbb⟩))
  rename_i hH
  have HF := Lib.hid hH.2.2.2.2.2
  clear hH
  go_wp2
  go_ret
  exact ⟨rfl, HF.out⟩

end Go.Proofs.YtmhmnbaoanennaaGreatDoor
