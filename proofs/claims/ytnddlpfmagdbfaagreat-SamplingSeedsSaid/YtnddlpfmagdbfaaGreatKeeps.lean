/- Walk of the law SamplingKeeps. -/
import Derived.Test.YtnddlpfmagdbfaaGreatMix
import Derived.WalkSmall
namespace Go.Proofs.YtnddlpfmagdbfaaGreat
open Go.RowKit
set_option linter.unusedVariables false
set_option linter.unusedSimpArgs false

theorem Keep_good' (t s e : Int) (k : Nat) (hk : e = k) (h0 : 0 ≤ s) (h1 : s < 1024) (he : k ≤ 10) (w : World) :
    Calls Tryz.prog 9 #[.int .i64 t, .int .i64 s, .int .i64 e] w fun x w' => x = .returned (.tuple #[.bool (kp t s k), .int .i64 0]) ∧ ∃ n, w' = w.drewN n := by
  subst hk; exact Keep_good t s k h0 h1 he w
theorem kept_any' (t s e : Int) (k : Nat) (hk : e = k) (h0 : 0 ≤ s) (h1 : s < 1024) (he : k ≤ 10) (w : World) :
    Calls Tryz.prog 11 #[.int .i64 t, .int .i64 s, .int .i64 e] w fun x w' => x = .returned (.bool (kp t s k)) ∧ ∃ n, w' = w.drewN n := by
  subst hk; exact kept_any t s k h0 h1 he w
theorem Weight_good' (e p : Int) (k : Nat) (hk : e = k) (hp : p = 2 ^ k) (he : k ≤ 10) (w : World) :
    Calls Tryz.prog 10 #[.int .i64 e] w fun x w' => x = .returned (.tuple #[.int .i64 p, .int .i64 0]) ∧ w' = w := by
  subst hk hp; exact Weight_good k he w

set_option maxRecDepth 20000 in
set_option maxHeartbeats 8000000 in
theorem keeps_walk (a0 a1 a2 : Int) (w0 : (Lit.int .i64 a0).wf = true) (w1 : (Lit.int .i64 a1).wf = true) (w2 : (Lit.int .i64 a2).wf = true) (w : World) :
    Calls Tryz.prog 3 #[.int .i64 a0, .int .i64 a1, .int .i64 a2] w fun e w' => e = .returned (.bool true) ∧ Below w.heap.size w w' := by
  go_enter Tryz.func3, Tryz.ntmps3
  go_wp2_with fail
  (with_reducible refine (known_calls _).mono ?_)
  rintro e w1 ⟨rfl, hb⟩
  go_wp2_with fail
  (with_reducible refine (hash_any _ _).mono ?_)
  rintro e w1 ⟨rfl, rfl⟩
  go_wp2_with fail
  (with_reducible refine (mix_any _ _).mono ?_)
  rintro e w1 ⟨rfl, rfl⟩
  go_wp2_with fail
  by_cases h1 : a2 < 0 ∨ 10 < a2
  · (with_reducible refine (Keep_bad a0 a1 a2 (by omega) _).mono ?_)
    rintro e w1 ⟨rfl, n, rfl⟩
    go_wp2_with fail
    (with_reducible refine (Weight_bad a2 h1 _).mono ?_)
    rintro e w1 ⟨rfl, rfl⟩
    rcases h1 with h1 | h1
    · go_wp2_with fail
      go_ret
      exact ⟨rfl, below_drewN hb n⟩
    · go_wp2_with fail
      go_ret
      exact ⟨rfl, below_drewN hb n⟩
  have hk' : a2 = 0 ∨ a2 = 1 ∨ a2 = 2 ∨ a2 = 3 ∨ a2 = 4 ∨ a2 = 5 ∨ a2 = 6 ∨ a2 = 7 ∨ a2 = 8 ∨ a2 = 9 ∨ a2 = 10 := by omega
  rcases hk' with rfl | rfl | rfl | rfl | rfl | rfl | rfl | rfl | rfl | rfl | rfl
  · by_cases h2 : a1 < 0 ∨ 1023 < a1
    · (with_reducible refine (Keep_bad a0 a1 0 (by omega) _).mono ?_)
      rintro e w1 ⟨rfl, n, rfl⟩
      go_wp2_with fail
      (with_reducible refine (Weight_good' 0 1 0 rfl (by decide) (by decide) _).mono ?_)
      rintro e w1 ⟨rfl, rfl⟩
      rcases h2 with h2 | h2
      · go_wp2_with fail
        go_ret
        exact ⟨rfl, below_drewN hb n⟩
      · go_wp2_with fail
        go_ret
        exact ⟨rfl, below_drewN hb n⟩
    (with_reducible refine (Keep_good' a0 a1 0 0 rfl (by omega) (by omega) (by decide) _).mono ?_)
    rintro e w1 ⟨rfl, n, rfl⟩
    go_wp2_with fail
    (with_reducible refine (Weight_good' 0 1 0 rfl (by decide) (by decide) _).mono ?_)
    rintro e w1 ⟨rfl, rfl⟩
    go_wp2_with fail
    (with_reducible refine (kept_any' a0 a1 0 0 rfl (by omega) (by omega) (by decide) _).mono ?_)
    rintro e w1 ⟨rfl, m, rfl⟩
    go_wp2_with fail
    go_ret
    exact ⟨rfl, below_drewN hb _⟩
  · by_cases h2 : a1 < 0 ∨ 1023 < a1
    · (with_reducible refine (Keep_bad a0 a1 1 (by omega) _).mono ?_)
      rintro e w1 ⟨rfl, n, rfl⟩
      go_wp2_with fail
      (with_reducible refine (Weight_good' 1 2 1 rfl (by decide) (by decide) _).mono ?_)
      rintro e w1 ⟨rfl, rfl⟩
      rcases h2 with h2 | h2
      · go_wp2_with fail
        go_ret
        exact ⟨rfl, below_drewN hb n⟩
      · go_wp2_with fail
        go_ret
        exact ⟨rfl, below_drewN hb n⟩
    (with_reducible refine (Keep_good' a0 a1 1 1 rfl (by omega) (by omega) (by decide) _).mono ?_)
    rintro e w1 ⟨rfl, n, rfl⟩
    go_wp2_with fail
    (with_reducible refine (Weight_good' 1 2 1 rfl (by decide) (by decide) _).mono ?_)
    rintro e w1 ⟨rfl, rfl⟩
    go_wp2_with fail
    (with_reducible refine (kept_any' a0 a1 1 1 rfl (by omega) (by omega) (by decide) _).mono ?_)
    rintro e w1 ⟨rfl, m, rfl⟩
    go_wp2_with fail
    go_ret
    exact ⟨rfl, below_drewN hb _⟩
  · by_cases h2 : a1 < 0 ∨ 1023 < a1
    · (with_reducible refine (Keep_bad a0 a1 2 (by omega) _).mono ?_)
      rintro e w1 ⟨rfl, n, rfl⟩
      go_wp2_with fail
      (with_reducible refine (Weight_good' 2 4 2 rfl (by decide) (by decide) _).mono ?_)
      rintro e w1 ⟨rfl, rfl⟩
      rcases h2 with h2 | h2
      · go_wp2_with fail
        go_ret
        exact ⟨rfl, below_drewN hb n⟩
      · go_wp2_with fail
        go_ret
        exact ⟨rfl, below_drewN hb n⟩
    (with_reducible refine (Keep_good' a0 a1 2 2 rfl (by omega) (by omega) (by decide) _).mono ?_)
    rintro e w1 ⟨rfl, n, rfl⟩
    go_wp2_with fail
    (with_reducible refine (Weight_good' 2 4 2 rfl (by decide) (by decide) _).mono ?_)
    rintro e w1 ⟨rfl, rfl⟩
    go_wp2_with fail
    (with_reducible refine (kept_any' a0 a1 2 2 rfl (by omega) (by omega) (by decide) _).mono ?_)
    rintro e w1 ⟨rfl, m, rfl⟩
    go_wp2_with fail
    go_ret
    exact ⟨rfl, below_drewN hb _⟩
  · by_cases h2 : a1 < 0 ∨ 1023 < a1
    · (with_reducible refine (Keep_bad a0 a1 3 (by omega) _).mono ?_)
      rintro e w1 ⟨rfl, n, rfl⟩
      go_wp2_with fail
      (with_reducible refine (Weight_good' 3 8 3 rfl (by decide) (by decide) _).mono ?_)
      rintro e w1 ⟨rfl, rfl⟩
      rcases h2 with h2 | h2
      · go_wp2_with fail
        go_ret
        exact ⟨rfl, below_drewN hb n⟩
      · go_wp2_with fail
        go_ret
        exact ⟨rfl, below_drewN hb n⟩
    (with_reducible refine (Keep_good' a0 a1 3 3 rfl (by omega) (by omega) (by decide) _).mono ?_)
    rintro e w1 ⟨rfl, n, rfl⟩
    go_wp2_with fail
    (with_reducible refine (Weight_good' 3 8 3 rfl (by decide) (by decide) _).mono ?_)
    rintro e w1 ⟨rfl, rfl⟩
    go_wp2_with fail
    (with_reducible refine (kept_any' a0 a1 3 3 rfl (by omega) (by omega) (by decide) _).mono ?_)
    rintro e w1 ⟨rfl, m, rfl⟩
    go_wp2_with fail
    go_ret
    exact ⟨rfl, below_drewN hb _⟩
  · by_cases h2 : a1 < 0 ∨ 1023 < a1
    · (with_reducible refine (Keep_bad a0 a1 4 (by omega) _).mono ?_)
      rintro e w1 ⟨rfl, n, rfl⟩
      go_wp2_with fail
      (with_reducible refine (Weight_good' 4 16 4 rfl (by decide) (by decide) _).mono ?_)
      rintro e w1 ⟨rfl, rfl⟩
      rcases h2 with h2 | h2
      · go_wp2_with fail
        go_ret
        exact ⟨rfl, below_drewN hb n⟩
      · go_wp2_with fail
        go_ret
        exact ⟨rfl, below_drewN hb n⟩
    (with_reducible refine (Keep_good' a0 a1 4 4 rfl (by omega) (by omega) (by decide) _).mono ?_)
    rintro e w1 ⟨rfl, n, rfl⟩
    go_wp2_with fail
    (with_reducible refine (Weight_good' 4 16 4 rfl (by decide) (by decide) _).mono ?_)
    rintro e w1 ⟨rfl, rfl⟩
    go_wp2_with fail
    (with_reducible refine (kept_any' a0 a1 4 4 rfl (by omega) (by omega) (by decide) _).mono ?_)
    rintro e w1 ⟨rfl, m, rfl⟩
    go_wp2_with fail
    go_ret
    exact ⟨rfl, below_drewN hb _⟩
  · by_cases h2 : a1 < 0 ∨ 1023 < a1
    · (with_reducible refine (Keep_bad a0 a1 5 (by omega) _).mono ?_)
      rintro e w1 ⟨rfl, n, rfl⟩
      go_wp2_with fail
      (with_reducible refine (Weight_good' 5 32 5 rfl (by decide) (by decide) _).mono ?_)
      rintro e w1 ⟨rfl, rfl⟩
      rcases h2 with h2 | h2
      · go_wp2_with fail
        go_ret
        exact ⟨rfl, below_drewN hb n⟩
      · go_wp2_with fail
        go_ret
        exact ⟨rfl, below_drewN hb n⟩
    (with_reducible refine (Keep_good' a0 a1 5 5 rfl (by omega) (by omega) (by decide) _).mono ?_)
    rintro e w1 ⟨rfl, n, rfl⟩
    go_wp2_with fail
    (with_reducible refine (Weight_good' 5 32 5 rfl (by decide) (by decide) _).mono ?_)
    rintro e w1 ⟨rfl, rfl⟩
    go_wp2_with fail
    (with_reducible refine (kept_any' a0 a1 5 5 rfl (by omega) (by omega) (by decide) _).mono ?_)
    rintro e w1 ⟨rfl, m, rfl⟩
    go_wp2_with fail
    go_ret
    exact ⟨rfl, below_drewN hb _⟩
  · by_cases h2 : a1 < 0 ∨ 1023 < a1
    · (with_reducible refine (Keep_bad a0 a1 6 (by omega) _).mono ?_)
      rintro e w1 ⟨rfl, n, rfl⟩
      go_wp2_with fail
      (with_reducible refine (Weight_good' 6 64 6 rfl (by decide) (by decide) _).mono ?_)
      rintro e w1 ⟨rfl, rfl⟩
      rcases h2 with h2 | h2
      · go_wp2_with fail
        go_ret
        exact ⟨rfl, below_drewN hb n⟩
      · go_wp2_with fail
        go_ret
        exact ⟨rfl, below_drewN hb n⟩
    (with_reducible refine (Keep_good' a0 a1 6 6 rfl (by omega) (by omega) (by decide) _).mono ?_)
    rintro e w1 ⟨rfl, n, rfl⟩
    go_wp2_with fail
    (with_reducible refine (Weight_good' 6 64 6 rfl (by decide) (by decide) _).mono ?_)
    rintro e w1 ⟨rfl, rfl⟩
    go_wp2_with fail
    (with_reducible refine (kept_any' a0 a1 6 6 rfl (by omega) (by omega) (by decide) _).mono ?_)
    rintro e w1 ⟨rfl, m, rfl⟩
    go_wp2_with fail
    go_ret
    exact ⟨rfl, below_drewN hb _⟩
  · by_cases h2 : a1 < 0 ∨ 1023 < a1
    · (with_reducible refine (Keep_bad a0 a1 7 (by omega) _).mono ?_)
      rintro e w1 ⟨rfl, n, rfl⟩
      go_wp2_with fail
      (with_reducible refine (Weight_good' 7 128 7 rfl (by decide) (by decide) _).mono ?_)
      rintro e w1 ⟨rfl, rfl⟩
      rcases h2 with h2 | h2
      · go_wp2_with fail
        go_ret
        exact ⟨rfl, below_drewN hb n⟩
      · go_wp2_with fail
        go_ret
        exact ⟨rfl, below_drewN hb n⟩
    (with_reducible refine (Keep_good' a0 a1 7 7 rfl (by omega) (by omega) (by decide) _).mono ?_)
    rintro e w1 ⟨rfl, n, rfl⟩
    go_wp2_with fail
    (with_reducible refine (Weight_good' 7 128 7 rfl (by decide) (by decide) _).mono ?_)
    rintro e w1 ⟨rfl, rfl⟩
    go_wp2_with fail
    (with_reducible refine (kept_any' a0 a1 7 7 rfl (by omega) (by omega) (by decide) _).mono ?_)
    rintro e w1 ⟨rfl, m, rfl⟩
    go_wp2_with fail
    go_ret
    exact ⟨rfl, below_drewN hb _⟩
  · by_cases h2 : a1 < 0 ∨ 1023 < a1
    · (with_reducible refine (Keep_bad a0 a1 8 (by omega) _).mono ?_)
      rintro e w1 ⟨rfl, n, rfl⟩
      go_wp2_with fail
      (with_reducible refine (Weight_good' 8 256 8 rfl (by decide) (by decide) _).mono ?_)
      rintro e w1 ⟨rfl, rfl⟩
      rcases h2 with h2 | h2
      · go_wp2_with fail
        go_ret
        exact ⟨rfl, below_drewN hb n⟩
      · go_wp2_with fail
        go_ret
        exact ⟨rfl, below_drewN hb n⟩
    (with_reducible refine (Keep_good' a0 a1 8 8 rfl (by omega) (by omega) (by decide) _).mono ?_)
    rintro e w1 ⟨rfl, n, rfl⟩
    go_wp2_with fail
    (with_reducible refine (Weight_good' 8 256 8 rfl (by decide) (by decide) _).mono ?_)
    rintro e w1 ⟨rfl, rfl⟩
    go_wp2_with fail
    (with_reducible refine (kept_any' a0 a1 8 8 rfl (by omega) (by omega) (by decide) _).mono ?_)
    rintro e w1 ⟨rfl, m, rfl⟩
    go_wp2_with fail
    go_ret
    exact ⟨rfl, below_drewN hb _⟩
  · by_cases h2 : a1 < 0 ∨ 1023 < a1
    · (with_reducible refine (Keep_bad a0 a1 9 (by omega) _).mono ?_)
      rintro e w1 ⟨rfl, n, rfl⟩
      go_wp2_with fail
      (with_reducible refine (Weight_good' 9 512 9 rfl (by decide) (by decide) _).mono ?_)
      rintro e w1 ⟨rfl, rfl⟩
      rcases h2 with h2 | h2
      · go_wp2_with fail
        go_ret
        exact ⟨rfl, below_drewN hb n⟩
      · go_wp2_with fail
        go_ret
        exact ⟨rfl, below_drewN hb n⟩
    (with_reducible refine (Keep_good' a0 a1 9 9 rfl (by omega) (by omega) (by decide) _).mono ?_)
    rintro e w1 ⟨rfl, n, rfl⟩
    go_wp2_with fail
    (with_reducible refine (Weight_good' 9 512 9 rfl (by decide) (by decide) _).mono ?_)
    rintro e w1 ⟨rfl, rfl⟩
    go_wp2_with fail
    (with_reducible refine (kept_any' a0 a1 9 9 rfl (by omega) (by omega) (by decide) _).mono ?_)
    rintro e w1 ⟨rfl, m, rfl⟩
    go_wp2_with fail
    go_ret
    exact ⟨rfl, below_drewN hb _⟩
  · by_cases h2 : a1 < 0 ∨ 1023 < a1
    · (with_reducible refine (Keep_bad a0 a1 10 (by omega) _).mono ?_)
      rintro e w1 ⟨rfl, n, rfl⟩
      go_wp2_with fail
      (with_reducible refine (Weight_good' 10 1024 10 rfl (by decide) (by decide) _).mono ?_)
      rintro e w1 ⟨rfl, rfl⟩
      rcases h2 with h2 | h2
      · go_wp2_with fail
        go_ret
        exact ⟨rfl, below_drewN hb n⟩
      · go_wp2_with fail
        go_ret
        exact ⟨rfl, below_drewN hb n⟩
    (with_reducible refine (Keep_good' a0 a1 10 10 rfl (by omega) (by omega) (by decide) _).mono ?_)
    rintro e w1 ⟨rfl, n, rfl⟩
    go_wp2_with fail
    (with_reducible refine (Weight_good' 10 1024 10 rfl (by decide) (by decide) _).mono ?_)
    rintro e w1 ⟨rfl, rfl⟩
    go_wp2_with fail
    (with_reducible refine (kept_any' a0 a1 10 10 rfl (by omega) (by omega) (by decide) _).mono ?_)
    rintro e w1 ⟨rfl, m, rfl⟩
    go_wp2_with fail
    go_ret
    exact ⟨rfl, below_drewN hb _⟩

end Go.Proofs.YtnddlpfmagdbfaaGreat
