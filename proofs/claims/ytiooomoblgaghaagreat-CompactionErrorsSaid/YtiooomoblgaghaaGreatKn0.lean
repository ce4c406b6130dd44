/- The evaluator comes through stretch 0 of the self-test and is in the state that is written out. -/
import Derived.Test.YtiooomoblgaghaaGreatProg
import Derived.KernelRfl
import Derived.Test.YtiooomoblgaghaaGreatEvC
set_option linter.unusedVariables false
namespace Go.Proofs.YtiooomoblgaghaaGreat
open Go Go.Ev Go.Proofs
set_option maxRecDepth 100000

/-- A function's code. -/
def bodyOf (fn : Func) : Code :=
  match fn.body with
  | some c => c
  | none => .skip
/-- What is kept behind the stretch. -/
def ts0 : List Nat := [0]
def bs0 : List Nat := []
def snap0 : Snap := ⟨[(0, (.bool false))],
  [], 0⟩
theorem kn0 : snapOf ts0 bs0 (evCode Tryz.prog (evCall Tryz.prog noExt 3000) 3000 (headC (bodyOf Tryz.f12)) (Snap.toFr ⟨[], [], 0⟩) (Snap.toHp ⟨[], [], 0⟩)) = some snap0 := by kernel_rfl

end Go.Proofs.YtiooomoblgaghaaGreat
