/- Walk of the law ChecksumMixes. -/
import Derived.Test.YtigilgkgkjkebaaW5
namespace Go.Proofs.Ytigilgkgkjkebaa
open Go.RowKit
set_option linter.unusedVariables false
set_option linter.unusedSimpArgs false

theorem mixes_walk (a0 a1 a2 : Int) (w0 : (Lit.int .i64 a0).wf = true) (w1 : (Lit.int .i64 a1).wf = true) (w2 : (Lit.int .i64 a2).wf = true) (w : World) :
    Calls Try.prog 9 #[.int .i64 a0, .int .i64 a1, .int .i64 a2] w fun e w' => e = .returned (.bool true) ∧ Below w.heap.size w w' := by
  clear w0 w1 w2
  obtain ⟨q0, q1⟩ := q4_lt (Crc.word (u a0) (u a1))
  obtain ⟨q2, q3⟩ := q4_lt (Crc.word (u a0) (u a2))
  go_enter Try.func9, Try.ntmps9
  go_wp2_with fail
  (with_reducible refine (mix_any _ _ _).mono ?_)
  rintro e w' ⟨rfl, rfl⟩
  go_wp2_with fail
  (with_reducible refine (refword_any _ _ (u a0) (u a1) (u_wrap a0) (u_wrap a1) _).mono ?_)
  rintro e w' ⟨rfl, rfl⟩
  go_wp2_with fail
  (with_reducible refine (refword_any _ _ (u a0) (u a2) (u_wrap a0) (u_wrap a2) _).mono ?_)
  rintro e w' ⟨rfl, rfl⟩
  go_wp2_with fail
  (with_reducible refine (known_any _).mono ?_)
  rintro e w1 ⟨rfl, hb⟩
  have HB := Lib.hid hb
  clear hb
  go_wp2_with fail
  (with_reducible refine (mix_any _ _ _).mono ?_)
  rintro e w' ⟨rfl, rfl⟩
  go_wp2
  go_ret
  exact ⟨ret_bool (beq_sym _ _), HB.out⟩

end Go.Proofs.Ytigilgkgkjkebaa
