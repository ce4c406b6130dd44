/- Contract: the self-test known() returns true in any world, and turns nothing that was there. -/
import Derived.Test.YtmhmnbaoanennaaGreatDoorKnL
set_option linter.unusedVariables false
namespace Go.Proofs.YtmhmnbaoanennaaGreatDoor
open Go Go.Ev Go.Proofs
set_option maxRecDepth 100000

open Go.RowKit
theorem mixed : Tryz.prog.follows .mixedOrders = true := by kernel_rfl
theorem callOK : CallOK Tryz.prog (evCall Tryz.prog noExt 3000) := evCall_ok mixed noExt_ok 3000
theorem gl_plain : plainG gl = true := by kernel_rfl
theorem known_calls (w : World) (ty : Nat → TypeId) (hl : laidG w ty gl) : Calls Tryz.prog 13 #[] w fun e w' => e = .returned (.bool true) ∧ Below w.heap.size w w' :=
  Leads.calls gl_plain Tryz.func13 (c := bodyOf Tryz.f13) (by kernel_rfl) (Leads.last mixed callOK (by kernel_rfl) (knLast ty)) w hl

end Go.Proofs.YtmhmnbaoanennaaGreatDoor
