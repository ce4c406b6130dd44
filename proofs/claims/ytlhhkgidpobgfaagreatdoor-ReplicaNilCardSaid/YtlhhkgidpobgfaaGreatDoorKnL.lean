/- The evaluator comes through the last stretch of the self-test, which gives true. -/
import Derived.Test.YtlhhkgidpobgfaaGreatDoorProg
import Derived.KernelRfl
import Derived.Test.YtlhhkgidpobgfaaGreatDoorEvC
set_option linter.unusedVariables false
namespace Go.Proofs.YtlhhkgidpobgfaaGreatDoor
open Go Go.Ev Go.Proofs
set_option maxRecDepth 100000

/-- The package-level variables that it reads. -/
noncomputable def gl : List (Nat × TypeId × List Value) := []
/-- A function's code. -/
def bodyOf (fn : Func) : Code :=
  match fn.body with
  | some c => c
  | none => .skip
theorem knLast : lastVal Tryz.prog Tryz.f10.results.toList (evCode Tryz.prog (evCall Tryz.prog noExt 3000) 3000 (bodyOf Tryz.f10) (Snap.toFr ⟨[], [], 64⟩) (Snap.toHp (blksOf gl) ⟨[], [], 64⟩)) = some [.bool true] := by kernel_rfl

end Go.Proofs.YtlhhkgidpobgfaaGreatDoor
