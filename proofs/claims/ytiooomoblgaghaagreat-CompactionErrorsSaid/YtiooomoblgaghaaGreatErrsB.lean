/- The evaluator says true of the law CompactionErrors: for the numbers 9 to 17 and all greater ones, and for any step. -/
import Derived.Test.YtiooomoblgaghaaGreatErrsA
set_option linter.unusedVariables false
namespace Go.Proofs.YtiooomoblgaghaaGreat
open Go Go.Ev Go.Proofs
set_option maxRecDepth 100000

theorem says_big (k : Nat) : Says (.ofNat (k + 18)) := fun f t r => by kernel_rfl
theorem says_9 : Says (.ofNat 9) := fun f t r => by kernel_rfl
theorem says_10 : Says (.ofNat 10) := fun f t r => by kernel_rfl
theorem says_11 : Says (.ofNat 11) := fun f t r => by kernel_rfl
theorem says_12 : Says (.ofNat 12) := fun f t r => by kernel_rfl
theorem says_13 : Says (.ofNat 13) := fun f t r => by kernel_rfl
theorem says_14 : Says (.ofNat 14) := fun f t r => by kernel_rfl
theorem says_15 : Says (.ofNat 15) := fun f t r => by kernel_rfl
theorem says_16 : Says (.ofNat 16) := fun f t r => by kernel_rfl
theorem says_17 : Says (.ofNat 17) := fun f t r => by kernel_rfl

end Go.Proofs.YtiooomoblgaghaaGreat
