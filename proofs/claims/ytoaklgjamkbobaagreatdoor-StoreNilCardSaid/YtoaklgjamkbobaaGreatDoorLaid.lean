/- The tables of math/bits as the row lays them; and arguments opened. -/
import Derived.Test.YtoaklgjamkbobaaGreatDoorRows
import Derived.Test.YtoaklgjamkbobaaGreatDoorNil
import Derived.WalkKit
import Derived.ProofKit
import Derived.OpenShut
import Derived.LaidMore
import Derived.Lib.LaidTab
import Derived.MakeChecks
namespace Go.Proofs.YtoaklgjamkbobaaGreatDoor
open Go Go.Ev Go.ChangeShapes Go.WideShapes Go.ChangeAt Go.RowKit
set_option linter.unusedVariables false
set_option linter.unusedSimpArgs false
/-- The tables. -/
def laid2 : List (String × DataW Unit) := [("math/bits.deBruijn32tab", Rows.laid_math_bits_deBruijn32tab), ("math/bits.deBruijn64tab", Rows.laid_math_bits_deBruijn64tab)]
theorem laid_gl {W : World} (hL : laidMetH Tryz.prog laid2 W) : ∃ ty, laidG W ty gl := by
  refine ⟨fun _ => 0, fun x hx => ?_⟩
  unfold gl at hx
  cases hx
/-- A cell of a whole number's type. -/
theorem ok_intCell {P : Program} {w : World} {r : Reach} {base : Nat} {t : TypeId} {k : IntKind} {v : Value} (ht : P.underlying t = some (.int k)) (h : Cell.okWide P w r base t v) : ∃ n, v = .int k n ∧ k.min ≤ n ∧ n ≤ k.max := by
  simp only [Cell.okWide, ht] at h
  unfold Cell.ok at h
  rw [ht] at h
  cases v with
  | int k' n =>
    simp only at h
    obtain ⟨rfl, h⟩ := h
    exact ⟨n, rfl, h⟩
  | _ => simp at h
theorem own : ownKnob Tryz.prog.godebug = none := by kernel_rfl
theorem laidOut : laidOutB Tryz.prog = true := by kernel_rfl
theorem door_met (os : Os) (args : Array Value) : laidMetH Tryz.prog laid2 ((World.doorLaid Tryz.prog 19 os).forCall (fun _ _ => 0) ⟨#[], args, []⟩).memory :=
  laidMetH_of_parts3 (fuel := 8) (laidMet_of_run' 8 (by kernel_rfl) (by kernel_rfl)) (by kernel_rfl) (by kernel_rfl)
end Go.Proofs.YtoaklgjamkbobaaGreatDoor
