/- Contract: the self-test known() returns true in any world, and turns nothing that was there. -/
import Derived.Test.YtlhhkgidpobgfaaGreatDoorKnL
set_option linter.unusedVariables false
namespace Go.Proofs.YtlhhkgidpobgfaaGreatDoor
open Go Go.Ev Go.Proofs
set_option maxRecDepth 100000

open Go.RowKit
theorem mixed : Tryz.prog.follows .mixedOrders = true := by kernel_rfl
theorem callOK : CallOK Tryz.prog (evCall Tryz.prog noExt 3000) := evCall_ok mixed noExt_ok 3000
theorem gl_plain : plainG gl = true := by kernel_rfl
theorem known_calls (w : World) (hl : laidG w gl) : Calls Tryz.prog 10 #[] w fun e w' => e = .returned (.bool true) ∧ Below w.heap.size w w' :=
  Leads.calls gl_plain Tryz.func10 (c := bodyOf Tryz.f10) (by kernel_rfl) (Leads.last mixed callOK (by kernel_rfl) knLast) w hl

end Go.Proofs.YtlhhkgidpobgfaaGreatDoor
