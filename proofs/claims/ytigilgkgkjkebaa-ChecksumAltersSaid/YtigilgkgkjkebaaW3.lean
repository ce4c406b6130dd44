/- Contracts: the mixing functions. -/
import Derived.Test.YtigilgkgkjkebaaW2
namespace Go.Proofs.Ytigilgkgkjkebaa
open Go.RowKit
set_option linter.unusedVariables false
set_option linter.unusedSimpArgs false

theorem k1 (x : BitVec 64) : IntKind.u64.wrap (n64 x * 11400714819323198485) = n64 (x * Crc.c1) := by rw [← mul64]; rfl
theorem k2 (x : BitVec 64) : IntKind.u64.wrap (n64 x * 13787848793156543929) = n64 (x * Crc.c2) := by rw [← mul64]; rfl
theorem k3 (x : BitVec 64) : IntKind.u64.wrap (n64 x * 10723151780598845931) = n64 (x * Crc.c3) := by rw [← mul64]; rfl
theorem s30 (x : BitVec 64) : n64 x / (1073741824 : Int) = n64 (x >>> 30) := by rw [← shr64]; rfl
theorem s27 (x : BitVec 64) : n64 x / (134217728 : Int) = n64 (x >>> 27) := by rw [← shr64]; rfl
theorem s31 (x : BitVec 64) : n64 x / (2147483648 : Int) = n64 (x >>> 31) := by rw [← shr64]; rfl
theorem s60 (x : BitVec 64) : n64 x / (1152921504606846976 : Int) = n64 (x >>> 60) := by rw [← shr64]; rfl
theorem s54 (x : BitVec 64) : n64 x / (18014398509481984 : Int) = n64 (x >>> 54) := by rw [← shr64]; rfl
theorem s62 (x : BitVec 64) : n64 x / (4611686018427387904 : Int) = n64 (x >>> 62) := by rw [← shr64]; rfl

theorem word_any (a b : Int) (x y : BitVec 64) (ha : a = n64 x) (hb : b = n64 y) (w : World) :
    Calls Try.prog 13 #[.int .u64 a, .int .u64 b] w fun e w' => e = .returned (.int .u64 (n64 (Crc.word x y))) ∧ w = w' := by
  subst ha hb
  go_enter Try.func13, Try.ntmps13
  go_wp2
  go_ret
  exact ⟨ret64 (by simp only [k1, k2, k3, add64, s30, s27, s31, xor64]; rfl), rfl⟩

theorem refword_any (a b : Int) (x y : BitVec 64) (ha : a = n64 x) (hb : b = n64 y) (w : World) :
    Calls Try.prog 15 #[.int .u64 a, .int .u64 b] w fun e w' => e = .returned (.int .u64 (n64 (Crc.word x y))) ∧ w = w' := by
  subst ha hb
  go_enter Try.func15, Try.ntmps15
  go_wp2
  go_ret
  exact ⟨ret64 (by simp only [k1, k2, k3, add64, s30, s27, s31, xor64]; rfl), rfl⟩

theorem two_sub (x : BitVec 64) : IntKind.u64.wrap (2 - n64 x) = n64 (2#64 - x) := by rw [← sub64]; rfl

theorem reciprocal_any (a : Int) (x : BitVec 64) (ha : a = n64 x) (w : World) :
    Calls Try.prog 32 #[.int .u64 a] w fun e w' => e = .returned (.int .u64 (n64 (Crc.recip x 6))) ∧ w = w' := by
  subst ha
  go_enter Try.func32, Try.ntmps32
  go_wp2
  go_loop [3, 5] (fun r i => ∃ k : Nat, k ≤ 6 ∧ i = .int .i64 k ∧ r = .int .u64 (n64 (Crc.recip x k))) (fun _ i => 6 - (intOf i).toNat)
  case atStart => exact ⟨0, by omega, rfl, rfl⟩
  case round =>
    obtain ⟨k, hk, rfl, rfl⟩ := hrel
    by_cases hlt : k < 6
    · go_wp2
      go_round
      case rel => exact ⟨k + 1, by omega, by go_num, by rw [mul64, two_sub, mul64]; rfl⟩
      case measure => simp [intOf]; omega
    · go_wp2
      go_ret
      exact ⟨ret64 (by rw [show k = 6 from by omega]), rfl⟩

theorem inverse_any (a b : Int) (x y : BitVec 64) (ha : a = n64 x) (hb : b = n64 y) (w : World) :
    Calls Try.prog 16 #[.int .u64 a, .int .u64 b] w fun e w' => e = .returned (.int .u64 (n64 (Crc.inverse x y))) ∧ w = w' := by
  subst ha hb
  go_enter Try.func16, Try.ntmps16
  go_wp2_with fail
  (with_reducible refine (reciprocal_any _ Crc.c3 (by decide) _).mono ?_)
  rintro e w' ⟨rfl, rfl⟩
  go_wp2_with fail
  (with_reducible refine (reciprocal_any _ Crc.c2 (by decide) _).mono ?_)
  rintro e w' ⟨rfl, rfl⟩
  go_wp2
  go_ret
  exact ⟨ret64 (by simp only [k1, s30, s27, s31, s60, s54, s62, xor64, mul64, sub64]; rfl), rfl⟩

end Go.Proofs.Ytigilgkgkjkebaa
