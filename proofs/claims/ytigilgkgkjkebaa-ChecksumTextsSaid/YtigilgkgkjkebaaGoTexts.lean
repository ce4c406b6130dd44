/- Walk of the law ChecksumTexts. -/
import Derived.Test.YtigilgkgkjkebaaW5
namespace Go.Proofs.Ytigilgkgkjkebaa
open Go.RowKit
set_option linter.unusedVariables false
set_option linter.unusedSimpArgs false

theorem texts_walk (a0 : Int) (a1 : ByteArray) (w0 : (Lit.int .i64 a0).wf = true) (w1 : a1.size ≤ 140737488351232) (w : World) :
    Calls Try.prog 10 #[.int .i64 a0, .string a1] w fun e w' => e = .returned (.bool true) ∧ Below w.heap.size w w' := by
  have h1 : (a1.extract 0 300).size ≤ maxLen := by unfold maxLen; simp; omega
  have h2 : a1.size ≤ maxLen := by unfold maxLen; omega
  have H1 := Lib.hid h1
  have H2 := Lib.hid h2
  clear h1 h2 w0
  by_cases hc : 300 < a1.size
  · obtain ⟨q0, q1⟩ := q4_lt (Crc.textOf (u a0) (a1.extract 0 300).data.toList)
    go_enter Try.func10, Try.ntmps10
    go_wp2_with fail
    (with_reducible refine (known_any _).mono ?_)
    rintro e w1 ⟨rfl, hb⟩
    have HB := Lib.hid hb
    clear hb
    go_wp2_with fail
    (with_reducible refine (text_any _ _ H1.out _).mono ?_)
    rintro e w' ⟨rfl, rfl⟩
    go_wp2_with fail
    (with_reducible refine (reftext_any _ (u a0) (u_wrap a0) _ H1.out _).mono ?_)
    rintro e w' ⟨rfl, rfl⟩
    go_wp2
    go_ret
    exact ⟨ret_bool (by simp [q4_u64]), HB.out⟩
  · obtain ⟨q0, q1⟩ := q4_lt (Crc.textOf (u a0) a1.data.toList)
    go_enter Try.func10, Try.ntmps10
    go_wp2_with fail
    (with_reducible refine (known_any _).mono ?_)
    rintro e w1 ⟨rfl, hb⟩
    have HB := Lib.hid hb
    clear hb
    go_wp2_with fail
    (with_reducible refine (text_any _ _ H2.out _).mono ?_)
    rintro e w' ⟨rfl, rfl⟩
    go_wp2_with fail
    (with_reducible refine (reftext_any _ (u a0) (u_wrap a0) _ H2.out _).mono ?_)
    rintro e w' ⟨rfl, rfl⟩
    go_wp2
    go_ret
    exact ⟨ret_bool (by simp [q4_u64]), HB.out⟩

end Go.Proofs.Ytigilgkgkjkebaa
