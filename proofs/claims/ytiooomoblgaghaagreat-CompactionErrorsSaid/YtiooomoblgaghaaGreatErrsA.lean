/- The evaluator says true of the law CompactionErrors: for any negative number, for the numbers 0 to 8, and for any step. -/
import Derived.Test.YtiooomoblgaghaaGreatKn
import Derived.KernelRfl
set_option linter.unusedVariables false
namespace Go.Proofs.YtiooomoblgaghaaGreat
open Go Go.Ev Go.Proofs
set_option maxRecDepth 100000

/-- What is known of the self-test. -/
noncomputable def extK : Ext := fun f => bif Nat.beq f 12 then some trueOf else none
/-- A step. -/
def stepV (f t r : Int) : Value := .agg ⟨[.int .i64 f, .int .i64 t, .int .i64 r]⟩
/-- The evaluator says true. -/
def Says (n : Int) : Prop := ∀ f t r : Int, isTrue (evCall Tryz.prog extK 3000 (.func 7) [.int .i64 n, stepV f t r] ⟨.leaf, 0, 0⟩) = true
theorem says_neg (k : Nat) : Says (.negSucc k) := fun f t r => by kernel_rfl
theorem says_0 : Says (.ofNat 0) := fun f t r => by kernel_rfl
theorem says_1 : Says (.ofNat 1) := fun f t r => by kernel_rfl
theorem says_2 : Says (.ofNat 2) := fun f t r => by kernel_rfl
theorem says_3 : Says (.ofNat 3) := fun f t r => by kernel_rfl
theorem says_4 : Says (.ofNat 4) := fun f t r => by kernel_rfl
theorem says_5 : Says (.ofNat 5) := fun f t r => by kernel_rfl
theorem says_6 : Says (.ofNat 6) := fun f t r => by kernel_rfl
theorem says_7 : Says (.ofNat 7) := fun f t r => by kernel_rfl
theorem says_8 : Says (.ofNat 8) := fun f t r => by kernel_rfl

end Go.Proofs.YtiooomoblgaghaaGreat
