/- Walk of the law ChecksumSums. -/
import Derived.Test.YtigilgkgkjkebaaW4
namespace Go.Proofs.Ytigilgkgkjkebaa
open Go.RowKit
set_option linter.unusedVariables false
set_option linter.unusedSimpArgs false

theorem beq_self32 (x : BitVec 32) : (n32 x == n32 x) = true := by simp

theorem sums_walk (a0 : ByteArray) (w0 : a0.size ≤ 140737488351232) (w : World) :
    Calls Try.prog 4 #[.string a0] w fun e w' => e = .returned (.bool true) ∧ Below w.heap.size w w' := by
  have h1 : (a0.extract 0 2000).size ≤ maxLen := by unfold maxLen; simp; omega
  have h2 : a0.size ≤ maxLen := by unfold maxLen; omega
  have H1 := Lib.hid h1
  have H2 := Lib.hid h2
  clear h1 h2
  by_cases hc : 2000 < a0.size
  all_goals
    go_enter Try.func4, Try.ntmps4
    go_wp2_with fail
    (with_reducible refine (known_any _).mono ?_)
    rintro e w1 ⟨rfl, hb⟩
    have HB := Lib.hid hb
    clear hb
    go_wp2_with fail
    (with_reducible refine (sum_any _ (by first | exact H1.out | exact H2.out) _).mono ?_)
    rintro e w' ⟨rfl, rfl⟩
    go_wp2_with fail
    (with_reducible refine (refsum_any _ (by first | exact H1.out | exact H2.out) _).mono ?_)
    rintro e w' ⟨rfl, rfl⟩
    go_wp2
    go_ret
    exact ⟨rfl, HB.out⟩

end Go.Proofs.Ytigilgkgkjkebaa
