/- Contracts: Mix and Text. -/
import Derived.Test.YtigilgkgkjkebaaW4
namespace Go.Proofs.Ytigilgkgkjkebaa
open Go.RowKit
set_option linter.unusedVariables false
set_option linter.unusedSimpArgs false

/-- An int, taken modulo 2^64. -/
def u (a : Int) : BitVec 64 := BitVec.ofInt 64 a
theorem u_wrap (a : Int) : IntKind.u64.wrap a = n64 (u a) := by
  rw [wrap_u64]; unfold n64 u; rw [BitVec.toNat_ofInt]; simp; omega
theorem u_nat (k : Nat) : u (k : Int) = BitVec.ofNat 64 k := by unfold u; exact BitVec.ofInt_natCast ..
theorem q4 (x : BitVec 64) : n64 x / (4 : Int) = n64 (x >>> 2) := by rw [← shr64]; rfl
theorem q4_lt (x : BitVec 64) : 0 ≤ n64 x / (4 : Int) ∧ n64 x / (4 : Int) < 4611686018427387904 := by have := n64_lt x; omega
theorem q4_wrap (x : BitVec 64) : wrap64 (n64 x / (4 : Int)) = n64 x / (4 : Int) := by have := q4_lt x; unfold wrap64; omega
theorem q4_u64 (x : BitVec 64) : IntKind.u64.wrap (n64 x / (4 : Int)) = n64 x / (4 : Int) := by have := q4_lt x; rw [wrap_u64]; omega
theorem ret_bool {b : Bool} (h : b = true) : Ending.returned (.bool b) = .returned (.bool true) := by rw [h]
theorem beq_sym (a b : Int) : ((a == b) == (b == a)) = true := by
  by_cases h : a = b
  · simp [h]
  · rw [beq_eq_false_iff_ne.mpr h, beq_eq_false_iff_ne.mpr (fun e : b = a => h e.symm)]; rfl
theorem ret_i64 {a b : Int} (h : a = b) : Ending.returned (.int .i64 a) = .returned (.int .i64 b) := by rw [h]

theorem mix_any (a b : Int) (w : World) :
    Calls Try.prog 24 #[.int .i64 a, .int .i64 b] w fun e w' => e = .returned (.int .i64 (n64 (Crc.word (u a) (u b)) / (4 : Int))) ∧ w = w' := by
  go_enter Try.func24, Try.ntmps24
  go_wp2_with fail
  (with_reducible refine (word_any _ _ (u a) (u b) (u_wrap a) (u_wrap b) _).mono ?_)
  rintro e w' ⟨rfl, rfl⟩
  have h := q4_lt (Crc.word (u a) (u b))
  obtain ⟨h0, h1⟩ := h
  go_wp2
  go_ret
  exact ⟨rfl, rfl⟩

theorem text_take (h : BitVec 64) (s : ByteArray) (k : Nat) (hk : k < s.size) :
    Crc.text h (s.data.toList.take (k + 1)) = Crc.word (Crc.text h (s.data.toList.take k)) (BitVec.ofNat 64 s[k].toNat) := by
  rw [take_snoc s k hk, Crc.text_snoc]
theorem n64_byte (b : UInt8) : (b.toNat : Int) = n64 (BitVec.ofNat 64 b.toNat) := n64_of (n := (b.toNat : Int)) (by omega) (by have := b.toNat_lt; omega)

set_option maxHeartbeats 400000 in
theorem text_any (a : Int) (s : ByteArray) (hs : s.size ≤ maxLen) (w : World) :
    Calls Try.prog 25 #[.int .i64 a, .string s] w fun e w' => e = .returned (.int .i64 (n64 (Crc.textOf (u a) s.data.toList) / (4 : Int))) ∧ w = w' := by
  unfold maxLen at hs
  go_enter Try.func25, Try.ntmps25
  go_wp2_with fail
  have HN : Hid ((s.size : Int) = n64 (u s.size)) := Lib.hid (by rw [← u_wrap, wrap_u64]; omega)
  (with_reducible refine (word_any _ _ (u a) (u s.size) (u_wrap a) HN.out _).mono ?_)
  rintro e w' ⟨rfl, rfl⟩
  go_wp2
  go_loop [5, 15] (fun r i => ∃ k : Nat, k ≤ s.size ∧ i = .int .i64 k ∧ r = .int .u64 (n64 (Crc.text (Crc.word (u a) (u s.size)) (s.data.toList.take k)))) (fun _ i => s.size - (intOf i).toNat)
  case atStart => exact ⟨0, Nat.zero_le _, rfl, rfl⟩
  case round =>
    obtain ⟨k, hk, rfl, rfl⟩ := hrel
    by_cases hlt : k < s.size
    · have HT := Lib.hid (text_take (Crc.word (u a) (u s.size)) s k hlt)
      have HW : Hid (IntKind.u64.wrap (s[k].toNat : Int) = n64 (BitVec.ofNat 64 s[k].toNat)) := Lib.hid (by rw [n64_byte, wrap64_n])
      go_wp2_with fail
      (with_reducible refine (word_any _ _ _ _ rfl HW.out _).mono ?_)
      rintro e w' ⟨rfl, rfl⟩
      rw [← HT.out]
      go_wp2
      go_round
      case rel => exact ⟨k + 1, by omega, by go_num, rfl⟩
      case measure => simp [intOf]; omega
    · obtain rfl : k = s.size := by omega
      have HE : Hid (Crc.text (Crc.word (u a) (u s.size)) (s.data.toList.take s.size) = Crc.textOf (u a) s.data.toList) := Lib.hid (by
        rw [List.take_of_length_le (by simp), u_nat]; unfold Crc.textOf; rw [Array.length_toList]; rfl)
      go_wp2
      go_ret
      exact ⟨ret_i64 (by rw [HE.out]; exact q4_wrap _), rfl⟩

set_option maxHeartbeats 400000 in
theorem reftext_any (a : Int) (x : BitVec 64) (ha : a = n64 x) (s : ByteArray) (hs : s.size ≤ maxLen) (w : World) :
    Calls Try.prog 26 #[.int .u64 a, .string s] w fun e w' => e = .returned (.int .u64 (n64 (Crc.textOf x s.data.toList))) ∧ w = w' := by
  subst ha
  unfold maxLen at hs
  go_enter Try.func26, Try.ntmps26
  go_wp2_with fail
  have HN : Hid ((s.size : Int) = n64 (u s.size)) := Lib.hid (by rw [← u_wrap, wrap_u64]; omega)
  (with_reducible refine (refword_any _ _ x (u s.size) rfl HN.out _).mono ?_)
  rintro e w' ⟨rfl, rfl⟩
  go_wp2
  go_loop [5, 6] (fun r i => ∃ k : Nat, k ≤ s.size ∧ i = .int .i64 k ∧ r = .int .u64 (n64 (Crc.text (Crc.word x (u s.size)) (s.data.toList.take k)))) (fun _ i => s.size - (intOf i).toNat)
  case atStart => exact ⟨0, Nat.zero_le _, rfl, rfl⟩
  case round =>
    obtain ⟨k, hk, rfl, rfl⟩ := hrel
    by_cases hlt : k < s.size
    · have HT := Lib.hid (text_take (Crc.word x (u s.size)) s k hlt)
      have HW : Hid (IntKind.u64.wrap (s[k].toNat : Int) = n64 (BitVec.ofNat 64 s[k].toNat)) := Lib.hid (by rw [n64_byte, wrap64_n])
      go_wp2_with fail
      (with_reducible refine (refword_any _ _ _ _ rfl HW.out _).mono ?_)
      rintro e w' ⟨rfl, rfl⟩
      rw [← HT.out]
      go_wp2
      go_round
      case rel => exact ⟨k + 1, by omega, by go_num, rfl⟩
      case measure => simp [intOf]; omega
    · obtain rfl : k = s.size := by omega
      have HE : Hid (Crc.text (Crc.word x (u s.size)) (s.data.toList.take s.size) = Crc.textOf x s.data.toList) := Lib.hid (by
        rw [List.take_of_length_le (by simp), u_nat]; unfold Crc.textOf; rw [Array.length_toList]; rfl)
      go_wp2
      go_ret
      exact ⟨ret64 (by rw [HE.out]), rfl⟩

end Go.Proofs.Ytigilgkgkjkebaa
