/- Walk of the law SamplingSeeds: two intervals. -/
import Derived.Test.YtnddlpfmagdbfaaGreatSeeds
namespace Go.Proofs.YtnddlpfmagdbfaaGreat
open Go.RowKit
set_option linter.unusedVariables false
set_option linter.unusedSimpArgs false

set_option maxRecDepth 10000 in
set_option maxHeartbeats 4000000 in
theorem seeds_two (a0 a1 e : Int) (k : Nat) (b0 : 0 ≤ a1) (b1 : a1 < 256) (he : a1 % 11 = e) (hk : e = k) (hk1 : k ≤ 10) (hk0 : k ≠ 0) (h : 1024 < fr a0 + 2 ^ (10 - k)) (w : World) :
    Calls Tryz.prog 5 #[.int .i64 a0, .int .u8 a1] w fun e w' => e = .returned (.bool true) ∧ Below w.heap.size w w' := by
  obtain ⟨p1, p2, p3, p4, p5, p6⟩ := pow_cases k hk1
  have hp1 : 1 ≤ (2 : Int) ^ k := by
    rcases p1 with rfl | p1
    · decide
    · omega
  have H := Lib.hid h
  have HK := Lib.hid hk
  obtain ⟨p, hp⟩ : ∃ p : Int, p = 2 ^ k := ⟨_, rfl⟩
  obtain ⟨S, hS⟩ : ∃ S : Int, S = 2 ^ (10 - k) := ⟨_, rfl⟩
  rw [← hp] at p1 p2 p3 p6 hp1
  rw [← hS] at p3 p4 p5 p6
  have HP := Lib.hid hp
  have HS := Lib.hid hS
  have P6 := Lib.hid p6
  have e0 : 1 ≤ e := by omega
  have e1 : e ≤ 10 := by omega
  have S5 : S ≤ 512 := by omega
  have H1 := Lib.hid (show 2 ≤ p ∧ 1024 / p = S from ⟨by omega, p3⟩)
  obtain ⟨f0, f1⟩ := fr_lt a0
  have hg : 1024 < fr a0 + S := by rw [hS]; exact h
  clear h hk p1 p3 p5 p6 hp hS hk0
  go_enter Tryz.func5, Tryz.ntmps5
  go_wp2_with fail
  (with_reducible refine (known_calls _).mono ?_)
  rintro x w1 ⟨rfl, hb⟩
  go_wp2_with fail
  (with_reducible refine (Kept_2 a0 e p S k HK.out hk1 HP.out H1.out.1 p2 H1.out.2 p4 S5 hg _).mono ?_)
  rintro x w2 ⟨rfl, rfl⟩
  have HO : ∀ j : Int, 0 ≤ j → j < 1024 → kp a0 j k = decide (j < fr a0 + S - 1024 ∨ fr a0 ≤ j) := fun j j0 j1 => kp_two a0 S k HS.out hg S5 j j0 j1
  have HO := Lib.hid HO
  generalize hf : fr a0 = f at *
  obtain ⟨g, hgg⟩ : ∃ g : Int, f + S - 1024 = g := ⟨_, rfl⟩
  rw [hgg]
  have HO := HO.out
  rw [hgg] at HO
  have HO := Lib.hid HO
  obtain ⟨g0, gf⟩ : 1 ≤ g ∧ g < f := by omega
  have HLen := Lib.hid hgg
  clear hf hg hgg
  go_wp2_with fail
  (with_reducible refine (Kept_bad a0 _).mono ?_)
  rintro x w2 ⟨rfl, rfl⟩
  go_wp2_with fail
  (with_reducible refine (Weight_good' e p k HK.out HP.out hk1 _).mono ?_)
  rintro x w2 ⟨rfl, rfl⟩
  go_wp2_with fail
  have hwz : Below w.heap.size w (w1.alloc (.cells #[.int .i64 0, .int .i64 g, .int .i64 f, .int .i64 1024] 65)) := hb.alloc hb.size _
  have hc0 : (w1.alloc (.cells #[.int .i64 0, .int .i64 g, .int .i64 f, .int .i64 1024] 65)).cell? ⟨w1.heap.size, 0, none⟩ = some (.int .i64 0) := by rw [World.cell?_alloc_new]; rfl
  have hc1 : (w1.alloc (.cells #[.int .i64 0, .int .i64 g, .int .i64 f, .int .i64 1024] 65)).cell? ⟨w1.heap.size, 1, none⟩ = some (.int .i64 g) := by rw [World.cell?_alloc_new]; rfl
  have hc2 : (w1.alloc (.cells #[.int .i64 0, .int .i64 g, .int .i64 f, .int .i64 1024] 65)).cell? ⟨w1.heap.size, 2, none⟩ = some (.int .i64 f) := by rw [World.cell?_alloc_new]; rfl
  have hc3 : (w1.alloc (.cells #[.int .i64 0, .int .i64 g, .int .i64 f, .int .i64 1024] 65)).cell? ⟨w1.heap.size, 3, none⟩ = some (.int .i64 1024) := by rw [World.cell?_alloc_new]; rfl
  generalize w1.alloc (.cells #[.int .i64 0, .int .i64 g, .int .i64 f, .int .i64 1024] 65) = wz at *
  generalize w1.heap.size = B at *
  clear hb
  go_loopw [12, 13] (fun sm sd wr => ∃ (j : Nat) (m c : Int), j ≤ 1024 ∧ sd = .int .i64 j ∧ sm = .int .i64 m ∧ Hid (m = p * c) ∧ ((j ≤ g → c = j) ∧ (g ≤ j → j ≤ f → c = g) ∧ (f ≤ j → c = j - f + g)) ∧ Below w.heap.size w wr ∧ wr.cell? ⟨B, 0, none⟩ = some (.int .i64 0) ∧ wr.cell? ⟨B, 1, none⟩ = some (.int .i64 g) ∧ wr.cell? ⟨B, 2, none⟩ = some (.int .i64 f) ∧ wr.cell? ⟨B, 3, none⟩ = some (.int .i64 1024)) (fun _ sd _ => 1024 - (intOf sd).toNat)
  case atStart => exact ⟨0, 0, 0, by omega, rfl, rfl, Lib.hid (by simp), ⟨fun _ => rfl, fun _ _ => by omega, fun _ => by omega⟩, hwz, hc0, hc1, hc2, hc3⟩
  case round =>
    obtain ⟨j, m, c, hj, rfl, rfl, HM, ⟨hA, hB, hC⟩, hbl, hd0, hd1, hd2, hd3⟩ := hrel
    have HA := Lib.hid hA
    have HB := Lib.hid hB
    have HC := Lib.hid hC
    have HL := Lib.hid hbl
    have hlen := HLen.out
    have hcS : 0 ≤ c ∧ c ≤ S := by omega
    have hm0 : 0 ≤ m ∧ m ≤ 1024 := by
      rw [HM.out]
      exact ⟨Int.mul_nonneg (by omega) hcS.1, by rw [← P6.out]; exact Int.mul_le_mul_of_nonneg_left hcS.2 (by omega)⟩
    obtain ⟨hm0, hm1⟩ := hm0
    clear hA hB hC hbl hcS hlen
    by_cases hj1 : j < 1024
    · go_wp2_with fail
      (with_reducible refine (Keep_good' a0 j e k HK.out (by omega) (by omega) hk1 _).mono ?_)
      rintro x wq ⟨rfl, nq, rfl⟩
      have hkp := HO.out j (by omega) (by omega)
      by_cases h1 : (j : Int) < g
      · have h2 : ¬ f ≤ j := by omega
        have h1' : decide ((j : Int) < g) = true := by simpa using h1
        have h2' : decide (f ≤ (j : Int)) = false := by simpa using h2
        rw [decide_eq_true (Or.inl h1)] at hkp
        have HKP := Lib.hid hkp
        rw [hkp]
        clear hkp
        go_wp2_with fail
        go_loop [16, 17] (fun b i => ∃ q : Nat, q ≤ 2 ∧ i = .int .i64 q ∧ b = .bool (decide (1 ≤ q))) (fun _ i => 2 - (intOf i).toNat)
        case atStart => exact ⟨0, by omega, rfl, rfl⟩
        case round =>
          obtain ⟨q, hq, rfl, rfl⟩ := hrel
          have hq' : q = 0 ∨ q = 1 ∨ q = 2 := by omega
          rcases hq' with rfl | rfl | rfl
          · go_wp2
            go_round
            case rel => exact ⟨1, by omega, rfl, rfl⟩
            case measure => simp [intOf]
          · go_wp2
            go_round
            case rel => exact ⟨2, by omega, rfl, rfl⟩
            case measure => simp [intOf]
          · go_wp2_with fail
            all_goals have hek := HK.out
            all_goals (first | with_reducible refine (Keep_less a0 j (e - 1) k (by omega) (by omega) (by omega) hk1 HKP.out _).mono ?_ | with_reducible refine (Keep_less a0 j 0 k (by omega) (by omega) (by omega) hk1 HKP.out _).mono ?_)
            all_goals rintro x wv ⟨rfl, nv, rfl⟩
            all_goals clear hek
            all_goals go_wp2_with fail
            all_goals have hA := HA.out
            all_goals have hB := HB.out
            all_goals have hC := HC.out
            all_goals refine ⟨⟨j + 1, m + p, c + 1, by omega, by go_num, rfl, Lib.hid (by rw [HM.out, Int.mul_add, Int.mul_one]), ⟨by omega, by omega, by omega⟩, below_drewN HL.out _, hd0, hd1, hd2, hd3⟩, ?_⟩
            all_goals simp only [intOf]
            all_goals omega
      have h1' : decide ((j : Int) < g) = false := by simp; omega
      by_cases h2 : f ≤ j
      · have h2' : decide (f ≤ (j : Int)) = true := by simpa using h2
        rw [decide_eq_true (Or.inr h2)] at hkp
        have HKP := Lib.hid hkp
        rw [hkp]
        clear hkp
        go_wp2_with fail
        go_loop [16, 17] (fun b i => ∃ q : Nat, q ≤ 2 ∧ i = .int .i64 q ∧ b = .bool (decide (q = 2))) (fun _ i => 2 - (intOf i).toNat)
        case atStart => exact ⟨0, by omega, rfl, rfl⟩
        case round =>
          obtain ⟨q, hq, rfl, rfl⟩ := hrel
          have hq' : q = 0 ∨ q = 1 ∨ q = 2 := by omega
          rcases hq' with rfl | rfl | rfl
          · go_wp2
            go_round
            case rel => exact ⟨1, by omega, rfl, rfl⟩
            case measure => simp [intOf]
          · go_wp2
            go_round
            case rel => exact ⟨2, by omega, rfl, rfl⟩
            case measure => simp [intOf]
          · go_wp2_with fail
            all_goals have hek := HK.out
            all_goals (first | with_reducible refine (Keep_less a0 j (e - 1) k (by omega) (by omega) (by omega) hk1 HKP.out _).mono ?_ | with_reducible refine (Keep_less a0 j 0 k (by omega) (by omega) (by omega) hk1 HKP.out _).mono ?_)
            all_goals rintro x wv ⟨rfl, nv, rfl⟩
            all_goals clear hek
            all_goals go_wp2_with fail
            all_goals have hA := HA.out
            all_goals have hB := HB.out
            all_goals have hC := HC.out
            all_goals refine ⟨⟨j + 1, m + p, c + 1, by omega, by go_num, rfl, Lib.hid (by rw [HM.out, Int.mul_add, Int.mul_one]), ⟨by omega, by omega, by omega⟩, below_drewN HL.out _, hd0, hd1, hd2, hd3⟩, ?_⟩
            all_goals simp only [intOf]
            all_goals omega
      · have h2' : decide (f ≤ (j : Int)) = false := by simpa using h2
        rw [decide_eq_false (show ¬ ((j : Int) < g ∨ f ≤ j) by omega)] at hkp
        rw [hkp]
        clear hkp
        go_wp2_with fail
        go_loop [16, 17] (fun b i => ∃ q : Nat, q ≤ 2 ∧ i = .int .i64 q ∧ b = .bool (false)) (fun _ i => 2 - (intOf i).toNat)
        case atStart => exact ⟨0, by omega, rfl, rfl⟩
        case round =>
          obtain ⟨q, hq, rfl, rfl⟩ := hrel
          have hq' : q = 0 ∨ q = 1 ∨ q = 2 := by omega
          rcases hq' with rfl | rfl | rfl
          · go_wp2
            go_round
            case rel => exact ⟨1, by omega, rfl, rfl⟩
            case measure => simp [intOf]
          · go_wp2
            go_round
            case rel => exact ⟨2, by omega, rfl, rfl⟩
            case measure => simp [intOf]
          · go_wp2_with fail
            have hA := HA.out
            have hB := HB.out
            have hC := HC.out
            refine ⟨⟨j + 1, m, c, by omega, by go_num, rfl, HM, ⟨by omega, by omega, by omega⟩, below_drewN HL.out _, hd0, hd1, hd2, hd3⟩, ?_⟩
            simp only [intOf]
            omega
    · obtain rfl : j = 1024 := by omega
      have hm : m = 1024 := by rw [HM.out, HC.out (by omega), show ((1024 : Nat) : Int) - f + g = S by have := HLen.out; omega, P6.out]
      subst hm
      have hd4 : decide (0 < g) = true := by simp; omega
      have hd5 : decide (g < f) = true := by simpa using gf
      have hd6 : decide (f < 1024) = true := by simp; omega
      go_wp2_with fail
      go_quiet (fail)
      go_wp2_with fail
      go_ret
      exact ⟨rfl, below_drewN HL.out _⟩

/-- The law SamplingSeeds. -/
theorem seeds_walk (a0 a1 : Int) (w0 : (Lit.int .i64 a0).wf = true) (w1 : (Lit.int .u8 a1).wf = true) (w : World) :
    Calls Tryz.prog 5 #[.int .i64 a0, .int .u8 a1] w fun e w' => e = .returned (.bool true) ∧ Below w.heap.size w w' := by
  have hb : 0 ≤ a1 ∧ a1 < 256 := by simp [Lit.wf, IntKind.min, IntKind.max, IntKind.signed, IntKind.bits] at w1; omega
  obtain ⟨k, hk⟩ : ∃ k : Nat, a1 % 11 = k := ⟨(a1 % 11).toNat, by omega⟩
  by_cases h : k = 0 ∨ fr a0 + 2 ^ (10 - k) ≤ 1024
  · exact seeds_one a0 a1 _ k hb.1 hb.2 rfl hk (by omega) h w
  · exact seeds_two a0 a1 _ k hb.1 hb.2 rfl hk (by omega) (fun h0 => h (Or.inl h0)) (by omega) w

end Go.Proofs.YtnddlpfmagdbfaaGreat
