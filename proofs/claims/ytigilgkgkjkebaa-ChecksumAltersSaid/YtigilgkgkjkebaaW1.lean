/- Contracts: the functions of the checksum that only compute. No conditions but a string's length. -/
import Derived.Test.YtigilgkgkjkebaaProg
import Derived.Test.YtigilgkgkjkebaaBits
import Derived.Test.YtigilgkgkjkebaaCrc
import Derived.WalkKit
import Derived.WideLaws
import Derived.KernelRfl
import Derived.Below
import Derived.Lib.Hide
import Derived.Deep.QuietTactic
import Derived.BigQuiet
namespace Go.Proofs.Ytigilgkgkjkebaa
open Go.RowKit
set_option linter.unusedVariables false
set_option linter.unusedSimpArgs false

theorem xorc32 (x : BitVec 32) : Go.bits .xor .u32 (n32 x / 2) 2197175160 = n32 ((x >>> 1) ^^^ Crc.poly) := by
  have h := shr32 x 1
  have e : (2 : Int) ^ 1 = 2 := by decide
  rw [e] at h
  rw [h, show (2197175160 : Int) = n32 Crc.poly from by decide, xor32]

theorem ret32 {a b : Int} (h : a = b) : Ending.returned (.int .u32 a) = .returned (.int .u32 b) := by rw [h]
theorem ret64 {a b : Int} (h : a = b) : Ending.returned (.int .u64 a) = .returned (.int .u64 b) := by rw [h]

theorem zeroBit_any (n : Int) (x : BitVec 32) (hn : n = n32 x) (w : World) :
    Calls Try.prog 33 #[.int .u32 n] w fun e w' => e = .returned (.int .u32 (n32 (Crc.zb x))) ∧ w = w' := by
  subst hn
  have hb := bit32 x
  have hs := shr32 x 1
  cases h : x.getLsbD 0 with
  | true =>
    have hz : Crc.zb x = (x >>> 1) ^^^ Crc.poly := by unfold Crc.zb; rw [h]; rfl
    rw [h, if_pos rfl] at hb
    clear hs
    have c0 : (Go.bits .and .u32 (n32 x) 1 == 1) = true := beq_iff_eq.mpr hb
    clear hb
    have HZ := Lib.hid hz
    clear hz
    go_enter Try.func33, Try.ntmps33
    go_wp2
    go_ret
    exact ⟨ret32 (by rw [HZ.out]; exact xorc32 x), rfl⟩
  | false =>
    have hz : Crc.zb x = (x >>> 1) := by unfold Crc.zb; rw [h]; rfl
    rw [h, if_neg (by simp)] at hb
    have c0 : (Go.bits .and .u32 (n32 x) 1 == 1) = false := beq_eq_false_iff_ne.mpr (by omega)
    clear hb
    have HZ := Lib.hid hz
    have HS := Lib.hid hs
    clear hz hs
    go_enter Try.func33, Try.ntmps33
    go_wp2
    go_ret
    exact ⟨ret32 (by rw [HZ.out, ← HS.out]; rfl), rfl⟩

theorem shift_any (n : Int) (x : BitVec 32) (hn : n = n32 x) (w : World) :
    Calls Try.prog 34 #[.int .u32 n] w fun e w' => e = .returned (.int .u32 (n32 (Crc.zb x))) ∧ w = w' := by
  subst hn
  have hl := n32_lt x
  obtain ⟨h0, h1⟩ := hl
  have hs := shr32 x 1
  have hm : n32 x % 2 = if x.getLsbD 0 then 1 else 0 := by
    unfold n32
    rw [BitVec.getLsbD, Nat.testBit_zero]
    by_cases h : x.toNat % 2 = 1
    · rw [if_pos (by simpa using h)]; omega
    · rw [if_neg (by simpa using h)]; omega
  cases h : x.getLsbD 0 with
  | true =>
    have hz : Crc.zb x = (x >>> 1) ^^^ Crc.poly := by unfold Crc.zb; rw [h]; rfl
    rw [h, if_pos rfl] at hm
    clear hs
    have c0 : (n32 x % 2 == 1) = true := beq_iff_eq.mpr hm
    clear hm
    have HZ := Lib.hid hz
    clear hz
    go_enter Try.func34, Try.ntmps34
    go_wp2
    go_ret
    exact ⟨ret32 (by rw [HZ.out]; exact xorc32 x), rfl⟩
  | false =>
    have hz : Crc.zb x = (x >>> 1) := by unfold Crc.zb; rw [h]; rfl
    rw [h, if_neg (by simp)] at hm
    have c0 : (n32 x % 2 == 1) = false := beq_eq_false_iff_ne.mpr (by omega)
    clear hm
    have HZ := Lib.hid hz
    have HS := Lib.hid hs
    clear hz hs
    go_enter Try.func34, Try.ntmps34
    go_wp2
    go_ret
    exact ⟨ret32 (by rw [HZ.out, ← HS.out]; rfl), rfl⟩

theorem n32_byte (b : UInt8) : (b.toNat : Int) = n32 (BitVec.ofNat 32 b.toNat) := n32_of (n := (b.toNat : Int)) (by omega) (by have := b.toNat_lt; omega)
theorem xor_byte (c : BitVec 32) (b : UInt8) : Go.bits .xor .u32 (n32 c) (b.toNat : Int) = n32 (c ^^^ BitVec.ofNat 32 b.toNat) := by
  rw [n32_byte, xor32]
theorem byte_mod (b : UInt8) : (b.toNat : Int) % 4294967296 = b.toNat := by have := b.toNat_lt; omega
theorem take_snoc (s : ByteArray) (k : Nat) (h : k < s.size) : s.data.toList.take (k + 1) = s.data.toList.take k ++ [s[k]] := by
  rw [List.take_succ_eq_append_getElem (by simpa using h)]; rfl
theorem reg_take (c : BitVec 32) (s : ByteArray) (k : Nat) (h : k < s.size) :
    Crc.reg c (s.data.toList.take (k + 1)) = Crc.zbn 8 (Crc.reg c (s.data.toList.take k) ^^^ BitVec.ofNat 32 s[k].toNat) := by
  rw [take_snoc s k h, Crc.reg_snoc]; rfl

theorem notmax32 (x : BitVec 32) : Go.bits .xor .u32 IntKind.u32.max (n32 x) = n32 (~~~ x) := not32 x

set_option maxHeartbeats 400000 in
theorem extend_any (n : Int) (c : BitVec 32) (s : ByteArray) (hn : n = n32 c) (hs : s.size ≤ maxLen) (w : World) :
    Calls Try.prog 19 #[.int .u32 n, .string s] w fun e w' => e = .returned (.int .u32 (n32 (Crc.extend c s.data.toList))) ∧ w = w' := by
  subst hn
  unfold maxLen at hs
  go_enter Try.func19, Try.ntmps19
  go_wp2
  go_loop [5, 11] (fun r i => ∃ k : Nat, k ≤ s.size ∧ i = .int .i64 k ∧ r = .int .u32 (n32 (Crc.reg (~~~ c) (s.data.toList.take k)))) (fun _ i => s.size - (intOf i).toNat)
  case atStart => exact ⟨0, Nat.zero_le _, rfl, by rw [notmax32]; rfl⟩
  case round =>
    obtain ⟨k, hk, rfl, rfl⟩ := hrel
    by_cases hlt : k < s.size
    · have HT := Lib.hid (reg_take (~~~ c) s k hlt)
      go_wp2
      go_loop [5, 20] (fun r i => ∃ j : Nat, j ≤ 8 ∧ i = .int .i64 j ∧ r = .int .u32 (n32 (Crc.zbn j (Crc.reg (~~~ c) (s.data.toList.take k) ^^^ BitVec.ofNat 32 s[k].toNat)))) (fun _ i => 8 - (intOf i).toNat)
      case atStart => exact ⟨0, Nat.zero_le _, rfl, by rw [byte_mod, xor_byte]; rfl⟩
      case round =>
        obtain ⟨j, hj, rfl, rfl⟩ := hrel
        by_cases hlt8 : j < 8
        · go_wp2_with (go_at_call 33; (with_reducible refine (zeroBit_any _ _ rfl _).mono ?_); rintro e w' ⟨rfl, rfl⟩)
          go_round
          case rel => exact ⟨j + 1, by omega, by go_num, by rw [Crc.zbn_succ]⟩
          case measure => simp [intOf]; omega
        · go_wp2
          go_round
          case rel => exact ⟨k + 1, by omega, by go_num, by rw [HT.out, show j = 8 from by omega]⟩
          case measure => simp [intOf]; omega
    · go_wp2
      go_ret
      exact ⟨ret32 (by rw [List.take_of_length_le (by simp; omega)]; exact notmax32 _), rfl⟩

theorem sum_any (s : ByteArray) (hs : s.size ≤ maxLen) (w : World) :
    Calls Try.prog 17 #[.string s] w fun e w' => e = .returned (.int .u32 (n32 (Crc.sum s.data.toList))) ∧ w = w' := by
  go_enter Try.func17, Try.ntmps17
  go_wp2_with (go_at_call 19; (with_reducible refine (extend_any 0 0#32 s (by decide) hs _).mono ?_); rintro e w' ⟨rfl, rfl⟩)
  go_ret
  exact ⟨rfl, rfl⟩

set_option maxHeartbeats 400000 in
theorem register_any (n : Int) (c : BitVec 32) (s : ByteArray) (hn : n = n32 c) (hs : s.size ≤ maxLen) (w : World) :
    Calls Try.prog 20 #[.int .u32 n, .string s] w fun e w' => e = .returned (.int .u32 (n32 (Crc.reg c s.data.toList))) ∧ w = w' := by
  subst hn
  unfold maxLen at hs
  go_enter Try.func20, Try.ntmps20
  go_wp2
  go_loop [0, 5] (fun r i => ∃ k : Nat, k ≤ s.size ∧ i = .int .i64 k ∧ r = .int .u32 (n32 (Crc.reg c (s.data.toList.take k)))) (fun _ i => s.size - (intOf i).toNat)
  case atStart => exact ⟨0, Nat.zero_le _, rfl, rfl⟩
  case round =>
    obtain ⟨k, hk, rfl, rfl⟩ := hrel
    by_cases hlt : k < s.size
    · have HT := Lib.hid (reg_take c s k hlt)
      go_wp2
      go_loop [0, 6] (fun r i => ∃ j : Nat, j ≤ 8 ∧ i = .int .i64 j ∧ r = .int .u32 (n32 (Crc.zbn j (Crc.reg c (s.data.toList.take k) ^^^ BitVec.ofNat 32 s[k].toNat)))) (fun _ i => 8 - (intOf i).toNat)
      case atStart => exact ⟨0, Nat.zero_le _, rfl, by rw [byte_mod, xor_byte]; rfl⟩
      case round =>
        obtain ⟨j, hj, rfl, rfl⟩ := hrel
        by_cases hlt8 : j < 8
        · go_wp2_with (go_at_call 34; (with_reducible refine (shift_any _ _ rfl _).mono ?_); rintro e w' ⟨rfl, rfl⟩)
          go_round
          case rel => exact ⟨j + 1, by omega, by go_num, by rw [Crc.zbn_succ]⟩
          case measure => simp [intOf]; omega
        · go_wp2
          go_round
          case rel => exact ⟨k + 1, by omega, by go_num, by rw [HT.out, show j = 8 from by omega]⟩
          case measure => simp [intOf]; omega
    · go_wp2
      go_ret
      exact ⟨ret32 (by rw [List.take_of_length_le (by simp; omega)]), rfl⟩

theorem refsum_any (s : ByteArray) (hs : s.size ≤ maxLen) (w : World) :
    Calls Try.prog 18 #[.string s] w fun e w' => e = .returned (.int .u32 (n32 (Crc.sum s.data.toList))) ∧ w = w' := by
  go_enter Try.func18, Try.ntmps18
  go_wp2_with (go_at_call 20; (with_reducible refine (register_any 4294967295 (BitVec.allOnes 32) s (by decide) hs _).mono ?_); rintro e w' ⟨rfl, rfl⟩)
  go_ret
  exact ⟨ret32 (by rw [notmax32]; rfl), rfl⟩

theorem zeros_any (n : Int) (c : BitVec 32) (m : Nat) (hn : n = n32 c) (hm : m ≤ 1099511627776) (w : World) :
    Calls Try.prog 22 #[.int .u32 n, .int .i64 m] w fun e w' => e = .returned (.int .u32 (n32 (Crc.Z m c))) ∧ w = w' := by
  subst hn
  go_enter Try.func22, Try.ntmps22
  go_wp2
  go_loop [0, 5] (fun r i => ∃ k : Nat, k ≤ 8 * m ∧ i = .int .i64 k ∧ r = .int .u32 (n32 (Crc.zbn k c))) (fun _ i => 8 * m - (intOf i).toNat)
  case atStart => exact ⟨0, Nat.zero_le _, rfl, rfl⟩
  case round =>
    obtain ⟨k, hk, rfl, rfl⟩ := hrel
    by_cases hlt : k < 8 * m
    · go_wp2_with (go_at_call 34; (with_reducible refine (shift_any _ _ rfl _).mono ?_); rintro e w' ⟨rfl, rfl⟩)
      go_round
      case rel => exact ⟨k + 1, by omega, by go_num, by rw [Crc.zbn_succ]⟩
      case measure => simp [intOf]; omega
    · go_wp2
      go_ret
      exact ⟨ret32 (by rw [show k = 8 * m from by omega]; rfl), rfl⟩
end Go.Proofs.Ytigilgkgkjkebaa
