/- Contracts: the tiers. -/
import Derived.Test.YtiooomoblgaghaaGreatProg
import Derived.Test.YtiooomoblgaghaaGreatKn
import Derived.WalkKit
import Derived.ProofKit
import Derived.Tactics2
import Derived.WideLaws
import Derived.KernelRfl
import Derived.Below
import Derived.Lib.Hide
import Derived.IntWalk
namespace Go.Proofs.YtiooomoblgaghaaGreat
open Go.RowKit
set_option linter.unusedVariables false
set_option linter.unusedSimpArgs false

theorem pow_ge {a : Int} (h : 2 ≤ a) : ∀ t : Nat, (t : Int) + 1 ≤ a ^ t
  | 0 => by simp
  | t + 1 => by
    have ih := pow_ge h t
    have h1 : a ^ t * 2 ≤ a ^ t * a := Int.mul_le_mul_of_nonneg_left h (by omega)
    rw [Int.pow_succ]
    omega
/-- The tier of a number of rows. -/
structure TierIs (a0 a1 : Int) (t : Nat) : Prop where
  le : a1 ^ t ≤ a0
  lt : a0 < a1 ^ (t + 1)
theorem pow_mono {a : Int} (h : 2 ≤ a) {s t : Nat} (hst : s ≤ t) : a ^ s ≤ a ^ t := by
  induction t with
  | zero => have : s = 0 := by omega
            subst this; exact Int.le_refl _
  | succ t ih =>
    by_cases hs : s = t + 1
    · subst hs; exact Int.le_refl _
    · have h1 := ih (by omega)
      have h2 := pow_ge h t
      have h3 : a ^ t * 1 ≤ a ^ t * a := Int.mul_le_mul_of_nonneg_left (by omega) (by omega)
      rw [Int.pow_succ]
      omega
theorem TierIs.unique {a0 a1 : Int} (h : 2 ≤ a1) {s t : Nat} (hs : TierIs a0 a1 s) (ht : TierIs a0 a1 t) : s = t := by
  rcases Nat.lt_trichotomy s t with h1 | h1 | h1
  · have := pow_mono h (show s + 1 ≤ t from h1)
    have := hs.lt; have := ht.le; omega
  · exact h1
  · have := pow_mono h (show t + 1 ≤ s from h1)
    have := ht.lt; have := hs.le; omega

set_option maxHeartbeats 800000 in
theorem tier37 (a0 a1 : Int) (h1 : 1 ≤ a0) (h2 : a0 ≤ 4096) (h3 : 2 ≤ a1) (h4 : a1 ≤ 16) (w : World) :
    Calls Tryz.prog 37 #[.int .i64 a0, .int .i64 a1] w fun e w' => ∃ t : Nat, e = .returned (.int .i64 t) ∧ TierIs a0 a1 t ∧ w' = w := by
  go_enter Tryz.func37, Tryz.ntmps37
  go_wp2
  go_loop [5, 6] (fun t n => ∃ (k : Nat) (m : Int), t = .int .i64 k ∧ n = .int .i64 m ∧ m = a1 ^ (k + 1) ∧ a1 ^ k ≤ a0) (fun _ n => (a0 + 1 - intOf n).toNat)
  case atStart => exact ⟨0, a1, rfl, rfl, by rw [Int.pow_succ]; simp, by simpa using h1⟩
  case round =>
    obtain ⟨k, m, rfl, rfl, hm, hk⟩ := hrel
    have hk1 := pow_ge h3 k
    have hm1 := pow_ge h3 (k + 1)
    have hkb : (k : Int) ≤ 4096 := by omega
    have hmb : m ≤ 65536 := by
      have : a1 ^ k * a1 ≤ 4096 * 16 := Int.mul_le_mul (by omega) h4 (by omega) (by omega)
      rw [hm, Int.pow_succ]; omega
    have hm2 : 2 ≤ m := by rw [hm]; push_cast at hm1; omega
    by_cases hle : m ≤ a0
    · have hmul : m * a1 ≤ 65536 := by
        have : m * a1 ≤ 4096 * 16 := Int.mul_le_mul (by omega) h4 (by omega) (by omega)
        omega
      have hmul2 : m * 2 ≤ m * a1 := Int.mul_le_mul_of_nonneg_left h3 (by omega)
      have hw : wrap64 (m * a1) = m * a1 := by unfold wrap64; omega
      have HM := Lib.hid hm
      have HK := Lib.hid hk
      clear hm hk hk1 hm1
      go_wp2
      go_round
      case rel => exact ⟨k + 1, m * a1, by go_num, rfl, by rw [HM.out, Int.pow_succ a1 (k + 1)], by rw [← HM.out]; exact hle⟩
      case measure => simp only [intOf]; omega
    · go_wp2
      go_ret
      exact ⟨k, rfl, ⟨hk, by rw [← hm]; omega⟩, rfl⟩

set_option maxHeartbeats 800000 in
theorem tier14 (a0 a1 : Int) (h1 : 1 ≤ a0) (h2 : a0 ≤ 4096) (h3 : 2 ≤ a1) (h4 : a1 ≤ 16) (w : World) :
    Calls Tryz.prog 14 #[.int .i64 a0, .int .i64 a1] w fun e w' => ∃ t : Nat, e = .returned (.int .i64 t) ∧ TierIs a0 a1 t ∧ w' = w := by
  go_enter Tryz.func14, Tryz.ntmps14
  go_wp2
  go_loop [5, 6] (fun t n => ∃ (k : Nat) (m : Int), t = .int .i64 k ∧ n = .int .i64 m ∧ m = a1 ^ (k + 1) ∧ a1 ^ k ≤ a0) (fun _ n => (a0 + 1 - intOf n).toNat)
  case atStart => exact ⟨0, a1, rfl, rfl, by rw [Int.pow_succ]; simp, by simpa using h1⟩
  case round =>
    obtain ⟨k, m, rfl, rfl, hm, hk⟩ := hrel
    have hk1 := pow_ge h3 k
    have hm1 := pow_ge h3 (k + 1)
    have hkb : (k : Int) ≤ 4096 := by omega
    have hmb : m ≤ 65536 := by
      have : a1 ^ k * a1 ≤ 4096 * 16 := Int.mul_le_mul (by omega) h4 (by omega) (by omega)
      rw [hm, Int.pow_succ]; omega
    have hm2 : 2 ≤ m := by rw [hm]; push_cast at hm1; omega
    by_cases hle : m ≤ a0
    · have hmul : m * a1 ≤ 65536 := by
        have : m * a1 ≤ 4096 * 16 := Int.mul_le_mul (by omega) h4 (by omega) (by omega)
        omega
      have hmul2 : m * 2 ≤ m * a1 := Int.mul_le_mul_of_nonneg_left h3 (by omega)
      have hw : wrap64 (m * a1) = m * a1 := by unfold wrap64; omega
      have HM := Lib.hid hm
      have HK := Lib.hid hk
      clear hm hk hk1 hm1
      go_wp2
      go_round
      case rel => exact ⟨k + 1, m * a1, by go_num, rfl, by rw [HM.out, Int.pow_succ a1 (k + 1)], by rw [← HM.out]; exact hle⟩
      case measure => simp only [intOf]; omega
    · go_wp2
      go_ret
      exact ⟨k, rfl, ⟨hk, by rw [← hm]; omega⟩, rfl⟩

theorem Tier_bad (a0 a1 : Int) (h : a0 < 1 ∨ 4096 < a0 ∨ a1 < 2 ∨ 16 < a1) (w : World) :
    Calls Tryz.prog 13 #[.int .i64 a0, .int .i64 a1] w fun e w' => e = .returned (.tuple #[.int .i64 0, .int .i64 2]) ∧ w' = w := by
  go_enter Tryz.func13, Tryz.ntmps13
  by_cases h1 : a0 < 1
  · go_wp2
    go_ret2
    exact ⟨rfl, rfl⟩
  by_cases h2 : 4096 < a0
  · go_wp2
    go_ret2
    exact ⟨rfl, rfl⟩
  by_cases h3 : a1 < 2
  · go_wp2
    go_ret2
    exact ⟨rfl, rfl⟩
  have h4 : 16 < a1 := by omega
  go_wp2
  go_ret2
  exact ⟨rfl, rfl⟩

theorem Tier_good (a0 a1 : Int) (h1 : 1 ≤ a0) (h2 : a0 ≤ 4096) (h3 : 2 ≤ a1) (h4 : a1 ≤ 16) (w : World) :
    Calls Tryz.prog 13 #[.int .i64 a0, .int .i64 a1] w fun e w' => ∃ t : Nat, e = .returned (.tuple #[.int .i64 t, .int .i64 0]) ∧ TierIs a0 a1 t ∧ w' = w := by
  go_enter Tryz.func13, Tryz.ntmps13
  go_wp2_with fail
  (with_reducible refine (tier37 _ _ (by omega) (by omega) (by omega) (by omega) _).mono ?_)
  rintro e w' ⟨t, rfl, ht, rfl⟩
  go_wp2
  go_ret2
  exact ⟨t, rfl, ht, rfl⟩

/-- The law CompactionTiers. -/
theorem tiers_walk (a0 a1 : Int) (w0 : (Lit.int .i64 a0).wf = true) (w1 : (Lit.int .i64 a1).wf = true) (w : World) :
    Calls Tryz.prog 3 #[.int .i64 a0, .int .i64 a1] w fun e w' => e = .returned (.bool true) ∧ Below w.heap.size w w' := by
  clear w0 w1
  go_enter Tryz.func3, Tryz.ntmps3
  go_wp2_with fail
  (with_reducible refine (known_calls _).mono ?_)
  rintro e w1 ⟨rfl, hb⟩
  have HB := Lib.hid hb
  clear hb
  go_wp2_with fail
  by_cases hin : 1 ≤ a0 ∧ a0 ≤ 4096 ∧ 2 ≤ a1 ∧ a1 ≤ 16
  · obtain ⟨g1, g2, g3, g4⟩ := hin
    (with_reducible refine (Tier_good _ _ g1 g2 g3 g4 _).mono ?_)
    rintro e w' ⟨t, rfl, ht, rfl⟩
    go_wp2_with fail
    (with_reducible refine (tier14 _ _ g1 g2 g3 g4 _).mono ?_)
    rintro e w' ⟨t', rfl, ht', rfl⟩
    have := ht.unique g3 ht'
    subst this
    go_wp2
    go_ret
    exact ⟨rfl, HB.out⟩
  · have hbad : a0 < 1 ∨ 4096 < a0 ∨ a1 < 2 ∨ 16 < a1 := by omega
    (with_reducible refine (Tier_bad _ _ hbad _).mono ?_)
    rintro e w' ⟨rfl, rfl⟩
    clear hin
    by_cases c1 : a0 < 1
    · go_wp2
      go_ret
      exact ⟨rfl, HB.out⟩
    by_cases c2 : 4096 < a0
    · go_wp2
      go_ret
      exact ⟨rfl, HB.out⟩
    by_cases c3 : a1 < 2
    · go_wp2
      go_ret
      exact ⟨rfl, HB.out⟩
    have c4 : 16 < a1 := by omega
    go_wp2
    go_ret
    exact ⟨rfl, HB.out⟩

end Go.Proofs.YtiooomoblgaghaaGreat
