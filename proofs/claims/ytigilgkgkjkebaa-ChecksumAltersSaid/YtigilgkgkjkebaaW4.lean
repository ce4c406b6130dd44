/- Contract: the chapter's examples hold. -/
import Derived.Test.YtigilgkgkjkebaaW3
namespace Go.Proofs.Ytigilgkgkjkebaa
open Go.RowKit
set_option linter.unusedVariables false
set_option linter.unusedSimpArgs false

theorem sum9 : (n32 (Crc.sum [49, 50, 51, 52, 53, 54, 55, 56, 57]) == 3808858755) = true := by decide +kernel
theorem comb9 : (n32 (Crc.combine (Crc.sum [49, 50, 51, 52]) (Crc.sum [53, 54, 55, 56, 57]) 5) == 3808858755) = true := by decide +kernel
theorem sum0 : (n32 (Crc.sum []) == 0) = true := by decide +kernel
theorem word10 : (n64 (Crc.word 1#64 0#64) == 16294208416658607535) = true := by decide +kernel
theorem inv10 : (n64 (Crc.inverse 1#64 16294208416658607535#64) == 0) = true := by decide +kernel

set_option maxHeartbeats 1000000 in
theorem known_any (w : World) : Calls Try.prog 14 #[] w fun e w' => e = .returned (.bool true) ∧ Below w.heap.size w w' := by
  have t1 := sum9
  have t2 := comb9
  have t3 := sum0
  have t4 := word10
  have t5 := inv10
  go_enter Try.func14, Try.ntmps14
  go_wp2_with fail
  refine (sum_any ⟨#[49, 50, 51, 52]⟩ (by decide) _).mono ?_
  rintro e w' ⟨rfl, rfl⟩
  go_wp2_with fail
  refine (sum_any ⟨#[53, 54, 55, 56, 57]⟩ (by decide) _).mono ?_
  rintro e w' ⟨rfl, rfl⟩
  go_wp2_with fail
  refine (combine_any _ _ _ _ 5 rfl rfl (by decide) _).mono ?_
  rintro e w1 ⟨rfl, hb⟩
  have HB := Lib.hid hb
  clear hb
  go_wp2_with fail
  refine (sum_any ⟨#[49, 50, 51, 52, 53, 54, 55, 56, 57]⟩ (by decide) _).mono ?_
  rintro e w' ⟨rfl, rfl⟩
  go_wp2_with fail
  refine (sum_any ⟨#[]⟩ (by decide) _).mono ?_
  rintro e w' ⟨rfl, rfl⟩
  go_wp2_with fail
  refine (word_any _ _ 1#64 0#64 (by decide) (by decide) _).mono ?_
  rintro e w' ⟨rfl, rfl⟩
  go_wp2_with fail
  refine (inverse_any _ _ 1#64 16294208416658607535#64 (by decide) (by decide) _).mono ?_
  rintro e w' ⟨rfl, rfl⟩
  go_wp2
  go_ret
  exact ⟨rfl, HB.out⟩

end Go.Proofs.Ytigilgkgkjkebaa
