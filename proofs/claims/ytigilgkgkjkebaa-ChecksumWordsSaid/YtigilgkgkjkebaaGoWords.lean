/- Walk of the law ChecksumWords. -/
import Derived.Test.YtigilgkgkjkebaaW4
namespace Go.Proofs.Ytigilgkgkjkebaa
open Go.RowKit
set_option linter.unusedVariables false
set_option linter.unusedSimpArgs false

theorem words_walk (a0 : Int) (a1 : Int) (w0 : (Lit.int .u64 a0).wf = true) (w1 : (Lit.int .u64 a1).wf = true) (w : World) :
    Calls Try.prog 3 #[.int .u64 a0, .int .u64 a1] w fun e w' => e = .returned (.bool true) ∧ Below w.heap.size w w' := by
  obtain ⟨x, rfl⟩ : ∃ x, a0 = n64 x := ⟨_, n64_of (by simp [Lit.wf, IntKind.min, IntKind.max, IntKind.signed, IntKind.bits] at w0; omega) (by simp [Lit.wf, IntKind.min, IntKind.max, IntKind.signed, IntKind.bits] at w0; omega)⟩
  obtain ⟨y, rfl⟩ : ∃ x, a1 = n64 x := ⟨_, n64_of (by simp [Lit.wf, IntKind.min, IntKind.max, IntKind.signed, IntKind.bits] at w1; omega) (by simp [Lit.wf, IntKind.min, IntKind.max, IntKind.signed, IntKind.bits] at w1; omega)⟩
  clear w0 w1
  have H1 := Lib.hid (Crc.inverse_word x y)
  have H2 := Lib.hid (Crc.word_inverse x y)
  go_enter Try.func3, Try.ntmps3
  go_wp2_with fail
  (with_reducible refine (word_any _ _ x y rfl rfl _).mono ?_)
  rintro e w' ⟨rfl, rfl⟩
  go_wp2_with fail
  (with_reducible refine (known_any _).mono ?_)
  rintro e w1 ⟨rfl, hb⟩
  have HB := Lib.hid hb
  clear hb
  go_wp2_with fail
  (with_reducible refine (refword_any _ _ x y rfl rfl _).mono ?_)
  rintro e w' ⟨rfl, rfl⟩
  go_wp2_with fail
  (with_reducible refine (inverse_any _ _ x (Crc.word x y) rfl rfl _).mono ?_)
  rintro e w' ⟨rfl, rfl⟩
  rw [H1.out]
  go_wp2_with fail
  (with_reducible refine (inverse_any _ _ x y rfl rfl _).mono ?_)
  rintro e w' ⟨rfl, rfl⟩
  go_wp2_with fail
  (with_reducible refine (word_any _ _ x (Crc.inverse x y) rfl rfl _).mono ?_)
  rintro e w' ⟨rfl, rfl⟩
  rw [H2.out]
  go_wp2
  go_ret
  exact ⟨rfl, HB.out⟩

end Go.Proofs.Ytigilgkgkjkebaa
