/- Walk of the law CompactionErrors. -/
import Derived.Test.YtiooomoblgaghaaGreatErrsB
import Derived.RowKit
set_option linter.unusedVariables false
namespace Go.Proofs.YtiooomoblgaghaaGreat
open Go Go.Ev Go.Proofs Go.RowKit

theorem extK_ok : ExtOK Tryz.prog extK := by
  intro f g hg
  unfold extK at hg
  cases hf : Nat.beq f 12 with
  | false => rw [hf] at hg; cases hg
  | true =>
    rw [hf] at hg
    cases hg
    have := Nat.eq_of_beq_eq_true hf
    subst this
    exact trueOf_ok Tryz.func12 (c := bodyOf Tryz.f12) (by kernel_rfl) (by kernel_rfl) known_calls

theorem says_all (n : Int) : Says n := by
  cases n with
  | negSucc k => exact says_neg k
  | ofNat k =>
    rcases Nat.lt_or_ge k 18 with h | h
    · have hk : k = 0 ∨ k = 1 ∨ k = 2 ∨ k = 3 ∨ k = 4 ∨ k = 5 ∨ k = 6 ∨ k = 7 ∨ k = 8 ∨ k = 9 ∨ k = 10 ∨ k = 11 ∨ k = 12 ∨ k = 13 ∨ k = 14 ∨ k = 15 ∨ k = 16 ∨ k = 17 := by omega
      rcases hk with rfl | rfl | rfl | rfl | rfl | rfl | rfl | rfl | rfl | rfl | rfl | rfl | rfl | rfl | rfl | rfl | rfl | rfl
      · exact says_0
      · exact says_1
      · exact says_2
      · exact says_3
      · exact says_4
      · exact says_5
      · exact says_6
      · exact says_7
      · exact says_8
      · exact says_9
      · exact says_10
      · exact says_11
      · exact says_12
      · exact says_13
      · exact says_14
      · exact says_15
      · exact says_16
      · exact says_17
    · obtain ⟨j, rfl⟩ : ∃ j, k = j + 18 := ⟨k - 18, by omega⟩
      exact says_big j

/-- The law CompactionErrors. -/
theorem errors_walk (a0 : Int) (a1a a1b a1c : Int) (w0 : (Lit.int .i64 a0).wf = true) (w1a : (Lit.int .i64 a1a).wf = true) (w1b : (Lit.int .i64 a1b).wf = true) (w1c : (Lit.int .i64 a1c).wf = true) (w : World) :
    Calls Tryz.prog 7 #[.int .i64 a0, .agg #[.int .i64 a1a, .int .i64 a1b, .int .i64 a1c]] w fun e w' => e = .returned (.bool true) ∧ Below w.heap.size w w' :=
  law_ok (evCall_ok mixed extK_ok 3000) (args := [.int .i64 a0, stepV a1a a1b a1c]) (by
    intro v hv
    simp only [List.mem_cons, List.not_mem_nil, or_false] at hv
    rcases hv with rfl | rfl
    · rfl
    · simp [stepV, plain]
      exact ⟨rfl, rfl, rfl⟩) (says_all a0 a1a a1b a1c) w

end Go.Proofs.YtiooomoblgaghaaGreat
