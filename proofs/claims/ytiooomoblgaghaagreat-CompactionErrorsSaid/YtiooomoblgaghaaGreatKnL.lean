/- The evaluator comes through the last stretch of the self-test, which gives true. -/
import Derived.Test.YtiooomoblgaghaaGreatKn1
set_option linter.unusedVariables false
namespace Go.Proofs.YtiooomoblgaghaaGreat
open Go Go.Ev Go.Proofs
set_option maxRecDepth 100000

theorem knLast : lastOf Tryz.prog Tryz.f12.results.toList (evCode Tryz.prog (evCall Tryz.prog noExt 3000) 3000 (tailC (tailC (bodyOf Tryz.f12))) (Snap.toFr snap1) (Snap.toHp snap1)) = some [.bool true] := by kernel_rfl

end Go.Proofs.YtiooomoblgaghaaGreat
