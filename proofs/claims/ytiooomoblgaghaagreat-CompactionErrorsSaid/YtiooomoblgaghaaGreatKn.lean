/- Contract: the self-test known() returns true in any world, and turns nothing that was there. -/
import Derived.Test.YtiooomoblgaghaaGreatKnL
set_option linter.unusedVariables false
namespace Go.Proofs.YtiooomoblgaghaaGreat
open Go Go.Ev Go.Proofs
set_option maxRecDepth 100000

open Go.RowKit
theorem mixed : Tryz.prog.follows .mixedOrders = true := by kernel_rfl
theorem callOK : CallOK Tryz.prog (evCall Tryz.prog noExt 3000) := evCall_ok mixed noExt_ok 3000
theorem known_calls (w : World) : Calls Tryz.prog 12 #[] w fun e w' => e = .returned (.bool true) ∧ Below w.heap.size w w' :=
  Leads.calls Tryz.func12 (c := bodyOf Tryz.f12) (by kernel_rfl) (Leads.seq mixed callOK ts0 bs0 (by kernel_rfl) (by kernel_rfl) kn0
    (Leads.seq mixed callOK ts1 bs1 (by kernel_rfl) (by kernel_rfl) kn1
    (Leads.last mixed callOK (by kernel_rfl) knLast))) w

end Go.Proofs.YtiooomoblgaghaaGreat
