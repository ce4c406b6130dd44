/- The row's closed facts, one by one. -/
import Derived.Test.YtoaklgjamkbobaaGreatDoorRows
import Derived.JoinedOf
import Derived.KernelRfl
namespace Go.Proofs.YtoaklgjamkbobaaGreatDoor
open Go
set_option linter.unusedVariables false
theorem and_mk {a b : Bool} (ha : a = true) (hb : b = true) : (a && b) = true := by rw [ha, hb]; rfl
set_option maxHeartbeats 400000000 in
theorem closed3 : joinedFacts Tryz.prog 3 Tryz.f3 Rows.storeNilSpec Rows.storeNilRow = true := by
  unfold joinedFacts
  repeat' with_reducible refine and_mk ?_ ?_
  all_goals as_aux_lemma => kernel_rfl
end Go.Proofs.YtoaklgjamkbobaaGreatDoor
