/- Contract: the self-test known() returns true in any world, and turns nothing that was there. -/
import Derived.Test.YtnddlpfmagdbfaaGreatKnL
set_option linter.unusedVariables false
namespace Go.Proofs.YtnddlpfmagdbfaaGreat
open Go Go.Ev Go.Proofs
set_option maxRecDepth 100000

open Go.RowKit
theorem mixed : Tryz.prog.follows .mixedOrders = true := by kernel_rfl
theorem callOK : CallOK Tryz.prog (evCall Tryz.prog noExt 3000) := evCall_ok mixed noExt_ok 3000
theorem known_calls (w : World) : Calls Tryz.prog 6 #[] w fun e w' => e = .returned (.bool true) ∧ Below w.heap.size w w' :=
  Leads.calls Tryz.func6 (c := bodyOf Tryz.f6) (by kernel_rfl) (Leads.seq mixed callOK ts0 bs0 (by kernel_rfl) (by kernel_rfl) kn0
    (Leads.seq mixed callOK ts1 bs1 (by kernel_rfl) (by kernel_rfl) kn1
    (Leads.seq mixed callOK ts2 bs2 (by kernel_rfl) (by kernel_rfl) kn2
    (Leads.seq mixed callOK ts3 bs3 (by kernel_rfl) (by kernel_rfl) kn3
    (Leads.seq mixed callOK ts4 bs4 (by kernel_rfl) (by kernel_rfl) kn4
    (Leads.seq mixed callOK ts5 bs5 (by kernel_rfl) (by kernel_rfl) kn5
    (Leads.seq mixed callOK ts6 bs6 (by kernel_rfl) (by kernel_rfl) kn6
    (Leads.seq mixed callOK ts7 bs7 (by kernel_rfl) (by kernel_rfl) kn7
    (Leads.seq mixed callOK ts8 bs8 (by kernel_rfl) (by kernel_rfl) kn8
    (Leads.seq mixed callOK ts9 bs9 (by kernel_rfl) (by kernel_rfl) kn9
    (Leads.last mixed callOK (by kernel_rfl) knLast))))))))))) w

end Go.Proofs.YtnddlpfmagdbfaaGreat
