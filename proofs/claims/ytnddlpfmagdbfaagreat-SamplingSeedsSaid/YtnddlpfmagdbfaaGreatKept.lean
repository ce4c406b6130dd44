/- Contract: the seeds for which a trace is kept. -/
import Derived.Test.YtnddlpfmagdbfaaGreatKeeps
import Derived.Deep.CutBlock
namespace Go.Proofs.YtnddlpfmagdbfaaGreat
open Go.RowKit
set_option linter.unusedVariables false
set_option linter.unusedSimpArgs false

/-- Where a trace's interval begins. -/
def fr (t : Int) : Int := (1024 - hs t % 1024) % 1024
theorem fr_lt (t : Int) : 0 ≤ fr t ∧ fr t < 1024 := by unfold fr; omega


theorem ret_t1 {v : Value} : Ending.returned (.tuple #[v, .int .i64 0]) = .returned (.tuple #[v, .int .i64 0]) := rfl

set_option maxHeartbeats 1000000 in
theorem Kept_1 (t e p S : Int) (k : Nat) (hk : e = k) (hk1 : k ≤ 10) (hp : p = 2 ^ k) (hp1 : 2 ≤ p) (hp2 : p ≤ 1024) (hq : 1024 / p = S) (hS0 : 1 ≤ S) (hS1 : S ≤ 512) (hle : fr t + S ≤ 1024) (w : World) :
    Calls Tryz.prog 17 #[.int .i64 t, .int .i64 e] w fun x w' => x = .returned (.tuple #[.slice (some ⟨w.heap.size, 0, none⟩) 1 1, .int .i64 0]) ∧ w' = w.alloc (.cells #[.int .i64 (fr t), .int .i64 (fr t + S)] 65) := by
  obtain ⟨g0, g1⟩ := hs_lt t
  have HP := Lib.hid hp
  have HK := Lib.hid hk
  have HL := Lib.hid hle
  clear hp hk hle
  go_enter Tryz.func17, Tryz.ntmps17
  go_wp2_with fail
  (with_reducible refine (Weight_good' e p k HK.out HP.out hk1 _).mono ?_)
  rintro x w' ⟨rfl, rfl⟩
  go_wp2_with fail
  (with_reducible refine (hash_any _ _).mono ?_)
  rintro e w1 ⟨rfl, rfl⟩
  go_upto_region 6 with fail
  have hf : (1024 - hs t % 1024) % 1024 = fr t := rfl
  simp only [hf, hq]
  obtain ⟨f0, f1⟩ := fr_lt t
  clear hf hq
  generalize 1024 - hs t % 1024 = Q
  generalize hs t % 1024 = R
  have hne : (S == 1024) = false := by simp; omega
  have hle := HL.out
  have hle' : decide (fr t + S ≤ 1024) = true := by simpa using hle
  go_wp2_with fail
  go_ret2
  exact ⟨rfl, rfl⟩

set_option maxHeartbeats 1000000 in
theorem Kept_2 (t e p S : Int) (k : Nat) (hk : e = k) (hk1 : k ≤ 10) (hp : p = 2 ^ k) (hp1 : 2 ≤ p) (hp2 : p ≤ 1024) (hq : 1024 / p = S) (hS0 : 1 ≤ S) (hS1 : S ≤ 512) (hle : 1024 < fr t + S) (w : World) :
    Calls Tryz.prog 17 #[.int .i64 t, .int .i64 e] w fun x w' => x = .returned (.tuple #[.slice (some ⟨w.heap.size, 0, none⟩) 2 2, .int .i64 0]) ∧ w' = w.alloc (.cells #[.int .i64 0, .int .i64 (fr t + S - 1024), .int .i64 (fr t), .int .i64 1024] 65) := by
  obtain ⟨g0, g1⟩ := hs_lt t
  have HP := Lib.hid hp
  have HK := Lib.hid hk
  have HL := Lib.hid hle
  clear hp hk hle
  go_enter Tryz.func17, Tryz.ntmps17
  go_wp2_with fail
  (with_reducible refine (Weight_good' e p k HK.out HP.out hk1 _).mono ?_)
  rintro x w' ⟨rfl, rfl⟩
  go_wp2_with fail
  (with_reducible refine (hash_any _ _).mono ?_)
  rintro e w1 ⟨rfl, rfl⟩
  go_upto_region 6 with fail
  have hf : (1024 - hs t % 1024) % 1024 = fr t := rfl
  simp only [hf, hq]
  obtain ⟨f0, f1⟩ := fr_lt t
  clear hf hq
  generalize 1024 - hs t % 1024 = Q
  generalize hs t % 1024 = R
  have hne : (S == 1024) = false := by simp; omega
  have hle := HL.out
  have hle' : decide (fr t + S ≤ 1024) = false := by simp; omega
  go_wp2_with fail
  go_ret2
  exact ⟨rfl, rfl⟩

set_option maxHeartbeats 1000000 in
theorem Kept_0 (t : Int) (w : World) :
    Calls Tryz.prog 17 #[.int .i64 t, .int .i64 0] w fun x w' => x = .returned (.tuple #[.slice (some ⟨w.heap.size, 0, none⟩) 1 1, .int .i64 0]) ∧ w' = w.alloc (.cells #[.int .i64 0, .int .i64 1024] 65) := by
  obtain ⟨g0, g1⟩ := hs_lt t
  go_enter Tryz.func17, Tryz.ntmps17
  go_wp2_with fail
  (with_reducible refine (Weight_good' 0 1 0 rfl rfl (by decide) _).mono ?_)
  rintro x w' ⟨rfl, rfl⟩
  go_wp2_with fail
  (with_reducible refine (hash_any _ _).mono ?_)
  rintro e w1 ⟨rfl, rfl⟩
  go_upto_region 6 with fail
  have hf : (1024 - hs t % 1024) % 1024 = fr t := rfl
  simp only [hf]
  obtain ⟨f0, f1⟩ := fr_lt t
  clear hf
  generalize 1024 - hs t % 1024 = Q
  generalize hs t % 1024 = R
  go_wp2_with fail
  go_ret2
  exact ⟨rfl, rfl⟩

theorem Kept_bad (t : Int) (w : World) :
    Calls Tryz.prog 17 #[.int .i64 t, .int .i64 11] w fun x w' => x = .returned (.tuple #[.slice none 0 0, .int .i64 2]) ∧ w' = w := by
  go_enter Tryz.func17, Tryz.ntmps17
  go_wp2_with fail
  (with_reducible refine (Weight_bad 11 (by decide) _).mono ?_)
  rintro x w' ⟨rfl, rfl⟩
  go_wp2_with fail
  go_ret2
  exact ⟨rfl, rfl⟩

end Go.Proofs.YtnddlpfmagdbfaaGreat
