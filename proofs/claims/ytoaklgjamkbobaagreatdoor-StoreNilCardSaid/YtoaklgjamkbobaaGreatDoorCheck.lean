/- Contract: the error of a retention policy without sampling. -/
import Derived.Test.YtoaklgjamkbobaaGreatDoorParse
set_option linter.unusedVariables false
set_option linter.unusedSimpArgs false
namespace Go.Proofs.YtoaklgjamkbobaaGreatDoor
open Go Go.Ev Go.Proofs Go.RowKit
set_option maxRecDepth 100000
theorem sampling_any (w : World) : Calls Tryz.prog 41 #[.agg #[.slice none 0 0, .int .i64 0]] w fun e w' => e = .returned (.int .i64 0) ∧ Below w.heap.size w w' :=
  val_at (P := Tryz.prog) (args := [.agg #[.slice none 0 0, .int .i64 0]]) (evCall_ok mixed noExt_ok 3000) (fun v hv => by simp at hv; subst hv; kernel_rfl) (by kernel_rfl) (fun e => by simp [conc]) w
theorem cell_last (W : World) (cs : Array Value) (t : TypeId) (j : Nat) (v : Value) (n : Nat) (hn : n = W.heap.size) (hv : cs[j]? = some v) : (W.alloc (.cells cs t)).cell? ⟨n, j, none⟩ = some v := by
  subst hn
  simp only [World.cell?, (MapKept.heap_alloc W (.cells cs t)).1]
  exact hv
theorem below_alloc (w : World) (o : Obj) : Below w.heap.size w (w.alloc o) := (Below.refl _ _).alloc (Nat.le_refl _) o
/-- The error of ages. -/
def errP (x y : Int) : Int := if okPair (x, y) = true then 0 else 2
theorem errP_ok {x y : Int} (h : 0 ≤ x ∧ x ≤ y ∧ y ≤ 65536) : errP x y = 0 := by simp [errP, okPair, h]
theorem errP_bad {x y : Int} (h : ¬ (0 ≤ x ∧ x ≤ y ∧ y ≤ 65536)) : errP x y = 2 := by simp [errP, okPair, h]
theorem check_any (x y : Int) (w : World) :
    Calls Tryz.prog 11 #[.agg #[.int .i64 x, .int .i64 y, .slice none 0 0, .int .i64 0, .int .i64 0]] w fun e w' => e = .returned (.int .i64 (errP x y)) ∧ Below w.heap.size w w' := by
  have hq := cell_last w #[.int .i64 x, .int .i64 y, .slice none 0 0, .int .i64 0, .int .i64 0] 26 4 (.int .i64 0) w.heap.size rfl rfl
  have HQ := Lib.hid hq
  clear hq
  go_enter Tryz.func11, Tryz.ntmps11
  go_wp2_with (first
    | (go_at_call 41; (with_reducible refine (sampling_any _).mono ?_); rintro e w' ⟨rfl, hbb⟩; have q4 := (hbb.cell (p := ⟨w.heap.size, 4, none⟩) (by simp)).trans HQ.out; have HB := Lib.hid ((below_alloc w _).trans (hbb.mono (by simp))); clear hbb))
  all_goals
    go_ret
    refine ⟨?_, ?_⟩
    · by_cases hc : 0 ≤ x ∧ x ≤ y ∧ y ≤ 65536
      · rw [errP_ok hc]
        first | rfl | (exfalso; omega)
      · rw [errP_bad hc]
        first | rfl | (exfalso; omega)
    · first
        | exact HB.out
        | exact below_alloc _ _
end Go.Proofs.YtoaklgjamkbobaaGreatDoor
