/- The evaluator comes through the last stretch of the self-test, which gives true. -/
import Derived.Test.YtnddlpfmagdbfaaGreatKn9
set_option linter.unusedVariables false
namespace Go.Proofs.YtnddlpfmagdbfaaGreat
open Go Go.Ev Go.Proofs
set_option maxRecDepth 100000

theorem knLast : lastOf Tryz.prog Tryz.f6.results.toList (evCode Tryz.prog (evCall Tryz.prog noExt 3000) 3000 (tailC (tailC (tailC (tailC (tailC (tailC (tailC (tailC (tailC (tailC (bodyOf Tryz.f6))))))))))) (Snap.toFr snap9) (Snap.toHp snap9)) = some [.bool true] := by kernel_rfl

end Go.Proofs.YtnddlpfmagdbfaaGreat
