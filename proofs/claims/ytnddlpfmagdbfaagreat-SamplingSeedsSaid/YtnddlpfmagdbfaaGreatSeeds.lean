/- Walk of the law SamplingSeeds. -/
import Derived.Test.YtnddlpfmagdbfaaGreatKept
namespace Go.Proofs.YtnddlpfmagdbfaaGreat
open Go.RowKit
set_option linter.unusedVariables false
set_option linter.unusedSimpArgs false

theorem kp_one (t lo hi S : Int) (k : Nat) (hS : S = 2 ^ (10 - k)) (h : lo = fr t ∧ hi = fr t + S) (h1 : hi ≤ 1024) (h0 : 1 ≤ S) (s : Int) (s0 : 0 ≤ s) (s1 : s < 1024) : kp t s k = decide (lo ≤ s ∧ s < hi) := by
  unfold kp
  rw [← hS]
  obtain ⟨rfl, rfl⟩ := h
  obtain ⟨g0, g1⟩ := hs_lt t
  unfold fr at *
  congr 1
  apply propext
  omega
theorem kp_two (t S : Int) (k : Nat) (hS : S = 2 ^ (10 - k)) (h1 : 1024 < fr t + S) (h0 : S ≤ 512) (s : Int) (s0 : 0 ≤ s) (s1 : s < 1024) : kp t s k = decide (s < fr t + S - 1024 ∨ fr t ≤ s) := by
  unfold kp
  rw [← hS]
  obtain ⟨g0, g1⟩ := hs_lt t
  unfold fr at *
  congr 1
  apply propext
  omega
theorem kp_zero (t s : Int) (s0 : 0 ≤ s) (s1 : s < 1024) : kp t s 0 = true := by
  unfold kp
  obtain ⟨g0, g1⟩ := hs_lt t
  simp
  omega
theorem kp_less (t s : Int) (k : Nat) (hk1 : k ≤ 10) (h : kp t s k = true) : kp t s (k - 1) = true := by
  unfold kp at *
  have : (2 : Int) ^ (10 - k) ≤ 2 ^ (10 - (k - 1)) := by
    have hk : k = 0 ∨ k = 1 ∨ k = 2 ∨ k = 3 ∨ k = 4 ∨ k = 5 ∨ k = 6 ∨ k = 7 ∨ k = 8 ∨ k = 9 ∨ k = 10 := by omega
    rcases hk with rfl | rfl | rfl | rfl | rfl | rfl | rfl | rfl | rfl | rfl | rfl <;> decide
  simp at h ⊢
  omega

theorem Keep_less (t s e : Int) (k : Nat) (he : e = ((k - 1 : Nat) : Int)) (h0 : 0 ≤ s) (h1 : s < 1024) (hk : k ≤ 10) (h : kp t s k = true) (w : World) :
    Calls Tryz.prog 9 #[.int .i64 t, .int .i64 s, .int .i64 e] w fun x w' => x = .returned (.tuple #[.bool true, .int .i64 0]) ∧ ∃ n, w' = w.drewN n := by
  have := Keep_good' t s e (k - 1) he h0 h1 (by omega) w
  rw [kp_less t s k hk h] at this
  exact this

/-- What Kept returns, where it is one interval. -/
structure One (t : Int) (k : Nat) (S lo hi : Int) : Prop where
  lo0 : 0 ≤ lo
  lt : lo < hi
  le : hi ≤ 1024
  size : hi - lo = S
  is : ∀ s, 0 ≤ s → s < 1024 → kp t s k = decide (lo ≤ s ∧ s < hi)

theorem pow_cases (k : Nat) (h : k ≤ 10) : (k = 0 ∨ 2 ≤ (2:Int) ^ k) ∧ (2:Int) ^ k ≤ 1024 ∧ 1024 / (2:Int) ^ k = 2 ^ (10 - k) ∧ 1 ≤ (2 : Int) ^ (10 - k) ∧ (k = 0 ∨ (2:Int) ^ (10 - k) ≤ 512) ∧ (2 : Int) ^ k * 2 ^ (10 - k) = 1024 := by
  have hk : k = 0 ∨ k = 1 ∨ k = 2 ∨ k = 3 ∨ k = 4 ∨ k = 5 ∨ k = 6 ∨ k = 7 ∨ k = 8 ∨ k = 9 ∨ k = 10 := by omega
  rcases hk with rfl | rfl | rfl | rfl | rfl | rfl | rfl | rfl | rfl | rfl | rfl <;> decide

theorem Kept_one (t e : Int) (k : Nat) (hk : e = k) (hk1 : k ≤ 10) (h : k = 0 ∨ fr t + 2 ^ (10 - k) ≤ 1024) (w : World) :
    Calls Tryz.prog 17 #[.int .i64 t, .int .i64 e] w fun x w' => ∃ lo hi, x = .returned (.tuple #[.slice (some ⟨w.heap.size, 0, none⟩) 1 1, .int .i64 0]) ∧ w' = w.alloc (.cells #[.int .i64 lo, .int .i64 hi] 65) ∧ One t k (2 ^ (10 - k)) lo hi := by
  obtain ⟨p1, p2, p3, p4, p5, p6⟩ := pow_cases k hk1
  by_cases h0 : k = 0
  · subst h0 hk
    refine (Kept_0 t w).mono fun x w' ⟨hx, hw⟩ => ⟨0, 1024, hx, hw, ⟨by decide, by decide, by decide, by decide, ?_⟩⟩
    intro s s0 s1
    rw [kp_zero t s s0 s1]
    simp
    omega
  · have hl : fr t + 2 ^ (10 - k) ≤ 1024 := by omega
    have f := fr_lt t
    refine (Kept_1 t e (2 ^ k) (2 ^ (10 - k)) k hk hk1 rfl (by omega) p2 p3 p4 (by omega) hl w).mono fun x w' ⟨hx, hw⟩ => ⟨fr t, _, hx, hw, ⟨f.1, by omega, hl, by omega, ?_⟩⟩
    exact fun s s0 s1 => kp_one t _ _ _ k rfl ⟨rfl, rfl⟩ hl p4 s s0 s1

set_option maxRecDepth 10000 in
set_option maxHeartbeats 4000000 in
theorem seeds_one (a0 a1 e : Int) (k : Nat) (b0 : 0 ≤ a1) (b1 : a1 < 256) (he : a1 % 11 = e) (hk : e = k) (hk1 : k ≤ 10) (h : k = 0 ∨ fr a0 + 2 ^ (10 - k) ≤ 1024) (w : World) :
    Calls Tryz.prog 5 #[.int .i64 a0, .int .u8 a1] w fun e w' => e = .returned (.bool true) ∧ Below w.heap.size w w' := by
  obtain ⟨p1, p2, p3, p4, p5, p6⟩ := pow_cases k hk1
  have hp1 : 1 ≤ (2 : Int) ^ k := by
    rcases p1 with rfl | p1
    · decide
    · omega
  have H := Lib.hid h
  have HK := Lib.hid hk
  obtain ⟨p, hp⟩ : ∃ p : Int, p = 2 ^ k := ⟨_, rfl⟩
  obtain ⟨S, hS⟩ : ∃ S : Int, S = 2 ^ (10 - k) := ⟨_, rfl⟩
  rw [← hp] at p1 p2 p3 p6 hp1
  rw [← hS] at p3 p4 p5 p6
  have HP := Lib.hid hp
  have HS := Lib.hid hS
  have P6 := Lib.hid p6
  have e0 : 0 ≤ e := by omega
  have e1 : e ≤ 10 := by omega
  clear h hk p1 p3 p5 p6 hp hS
  go_enter Tryz.func5, Tryz.ntmps5
  go_wp2_with fail
  (with_reducible refine (known_calls _).mono ?_)
  rintro x w1 ⟨rfl, hb⟩
  go_wp2_with fail
  (with_reducible refine (Kept_one a0 e k HK.out hk1 H.out _).mono ?_)
  rintro x w2 ⟨lo, hi, rfl, rfl, ho⟩
  have HO := Lib.hid ho
  obtain ⟨lo0, lohi, hi1, hlen⟩ : 0 ≤ lo ∧ lo < hi ∧ hi ≤ 1024 ∧ hi - lo = S := ⟨ho.lo0, ho.lt, ho.le, HS.out ▸ ho.size⟩
  have HLen := Lib.hid hlen
  clear ho hlen
  go_wp2_with fail
  (with_reducible refine (Kept_bad a0 _).mono ?_)
  rintro x w2 ⟨rfl, rfl⟩
  go_wp2_with fail
  (with_reducible refine (Weight_good' e p k HK.out HP.out hk1 _).mono ?_)
  rintro x w2 ⟨rfl, rfl⟩
  go_wp2_with fail
  have hwz : Below w.heap.size w (w1.alloc (.cells #[.int .i64 lo, .int .i64 hi] 65)) := hb.alloc hb.size _
  have hc0 : (w1.alloc (.cells #[.int .i64 lo, .int .i64 hi] 65)).cell? ⟨w1.heap.size, 0, none⟩ = some (.int .i64 lo) := by rw [World.cell?_alloc_new]; rfl
  have hc1 : (w1.alloc (.cells #[.int .i64 lo, .int .i64 hi] 65)).cell? ⟨w1.heap.size, 1, none⟩ = some (.int .i64 hi) := by rw [World.cell?_alloc_new]; rfl
  generalize w1.alloc (.cells #[.int .i64 lo, .int .i64 hi] 65) = wz at *
  generalize w1.heap.size = B at *
  clear hb
  go_loopw [12, 13] (fun sm sd wr => ∃ (j : Nat) (m c : Int), j ≤ 1024 ∧ sd = .int .i64 j ∧ sm = .int .i64 m ∧ Hid (m = p * c) ∧ ((j ≤ lo → c = 0) ∧ (lo ≤ j → j ≤ hi → c = j - lo) ∧ (hi ≤ j → c = hi - lo)) ∧ Below w.heap.size w wr ∧ wr.cell? ⟨B, 0, none⟩ = some (.int .i64 lo) ∧ wr.cell? ⟨B, 1, none⟩ = some (.int .i64 hi)) (fun _ sd _ => 1024 - (intOf sd).toNat)
  case atStart => exact ⟨0, 0, 0, by omega, rfl, rfl, Lib.hid (by simp), ⟨fun _ => rfl, fun _ _ => by omega, fun _ => by omega⟩, hwz, hc0, hc1⟩
  case round =>
    obtain ⟨j, m, c, hj, rfl, rfl, HM, ⟨hA, hB, hC⟩, hbl, hd0, hd1⟩ := hrel
    have HA := Lib.hid hA
    have HB := Lib.hid hB
    have HC := Lib.hid hC
    have HL := Lib.hid hbl
    have hlen := HLen.out
    have hcS : 0 ≤ c ∧ c ≤ S := by omega
    have hm0 : 0 ≤ m ∧ m ≤ 1024 := by
      rw [HM.out]
      exact ⟨Int.mul_nonneg (by omega) hcS.1, by rw [← P6.out]; exact Int.mul_le_mul_of_nonneg_left hcS.2 (by omega)⟩
    obtain ⟨hm0, hm1⟩ := hm0
    clear hA hB hC hbl hcS hlen
    by_cases hj1 : j < 1024
    · go_wp2_with fail
      (with_reducible refine (Keep_good' a0 j e k HK.out (by omega) (by omega) hk1 _).mono ?_)
      rintro x wq ⟨rfl, nq, rfl⟩
      have hkp := HO.out.is j (by omega) (by omega)
      by_cases hin : lo ≤ j ∧ j < hi
      · rw [decide_eq_true hin] at hkp
        have HKP := Lib.hid hkp
        obtain ⟨hi1, hi2⟩ := hin
        rw [hkp]
        clear hkp
        go_wp2_with fail
        go_loop [16, 17] (fun b i => ∃ q : Nat, q ≤ 1 ∧ i = .int .i64 q ∧ b = .bool (decide (q = 1))) (fun _ i => 1 - (intOf i).toNat)
        case atStart => exact ⟨0, by omega, rfl, rfl⟩
        case round =>
          obtain ⟨q, hq, rfl, rfl⟩ := hrel
          have hq' : q = 0 ∨ q = 1 := by omega
          rcases hq' with rfl | rfl
          · go_wp2
            go_round
            case rel => exact ⟨1, by omega, rfl, rfl⟩
            case measure => simp [intOf]
          · go_wp2_with fail
            all_goals have hek := HK.out
            all_goals (first | with_reducible refine (Keep_less a0 j (e - 1) k (by omega) (by omega) (by omega) hk1 HKP.out _).mono ?_ | with_reducible refine (Keep_less a0 j 0 k (by omega) (by omega) (by omega) hk1 HKP.out _).mono ?_)
            all_goals rintro x wv ⟨rfl, nv, rfl⟩
            all_goals clear hek
            all_goals go_wp2_with fail
            all_goals have hA := HA.out
            all_goals have hB := HB.out
            all_goals have hC := HC.out
            all_goals refine ⟨⟨j + 1, m + p, c + 1, by omega, by go_num, rfl, Lib.hid (by rw [HM.out, Int.mul_add, Int.mul_one]), ⟨by omega, by omega, by omega⟩, below_drewN HL.out _, hd0, hd1⟩, ?_⟩
            all_goals simp only [intOf]
            all_goals omega
      · rw [decide_eq_false hin] at hkp
        rw [hkp]
        clear hkp
        go_wp2_with fail
        go_loop [16, 17] (fun b i => ∃ q : Nat, q ≤ 1 ∧ i = .int .i64 q ∧ b = .bool false) (fun _ i => 1 - (intOf i).toNat)
        case atStart => exact ⟨0, by omega, rfl, rfl⟩
        case round =>
          obtain ⟨q, hq, rfl, rfl⟩ := hrel
          have hq' : q = 0 ∨ q = 1 := by omega
          rcases hq' with rfl | rfl
          · by_cases h1 : lo ≤ j
            · have h2 : ¬ ((j : Int) < hi) := fun h => hin ⟨h1, h⟩
              go_wp2
              go_round
              case rel => exact ⟨1, by omega, rfl, rfl⟩
              case measure => simp [intOf]
            · go_wp2
              go_round
              case rel => exact ⟨1, by omega, rfl, rfl⟩
              case measure => simp [intOf]
          · go_wp2_with fail
            have hA := HA.out
            have hB := HB.out
            have hC := HC.out
            refine ⟨⟨j + 1, m, c, by omega, by go_num, rfl, HM, ⟨by omega, by omega, by omega⟩, below_drewN HL.out _, hd0, hd1⟩, ?_⟩
            simp only [intOf]
            omega
    · obtain rfl : j = 1024 := by omega
      have hm : m = 1024 := by rw [HM.out, HC.out hi1, HLen.out, P6.out]
      subst hm
      have hdl : decide (lo < hi) = true := by simpa using lohi
      have hd1 : decide (0 ≤ lo) = true := by simpa using lo0
      have hd2 : decide (hi ≤ 1024) = true := by simpa using hi1
      go_wp2_with fail
      go_quiet (fail)
      go_wp2_with fail
      go_ret
      exact ⟨rfl, below_drewN HL.out _⟩

end Go.Proofs.YtnddlpfmagdbfaaGreat
