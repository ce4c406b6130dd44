/- The model's operations on words of 32 and 64 bits, said of Lean's words. No conditions. -/
import Derived.WalkKit
import Derived.WideLaws
import Derived.Laws.BitsLemmas
import Derived.RowKit
namespace Go.Proofs.YtnddlpfmagdbfaaGreat
open Go.RowKit

theorem wrap_u64 (n : Int) : IntKind.u64.wrap n = n % 18446744073709551616 := by simp [IntKind.wrap, IntKind.bits, IntKind.signed]

/-- A word as the number that the model holds. -/
def n32 (x : BitVec 32) : Int := (x.toNat : Int)
def n64 (x : BitVec 64) : Int := (x.toNat : Int)

theorem n32_lt (x : BitVec 32) : 0 ≤ n32 x ∧ n32 x < 4294967296 := by unfold n32; have := x.isLt; omega
theorem n64_lt (x : BitVec 64) : 0 ≤ n64 x ∧ n64 x < 18446744073709551616 := by unfold n64; have := x.isLt; omega
theorem n32_inj {x y : BitVec 32} (h : n32 x = n32 y) : x = y := by unfold n32 at h; exact BitVec.eq_of_toNat_eq (by omega)
theorem n64_inj {x y : BitVec 64} (h : n64 x = n64 y) : x = y := by unfold n64 at h; exact BitVec.eq_of_toNat_eq (by omega)
theorem n32_beq (x y : BitVec 32) : (n32 x == n32 y) = (x == y) := by
  rw [Bool.eq_iff_iff]; simp; exact ⟨n32_inj, fun h => by rw [h]⟩
theorem n64_beq (x y : BitVec 64) : (n64 x == n64 y) = (x == y) := by
  rw [Bool.eq_iff_iff]; simp; exact ⟨n64_inj, fun h => by rw [h]⟩
theorem n32_of {n : Int} (h0 : 0 ≤ n) (h1 : n < 4294967296) : n = n32 (BitVec.ofNat 32 n.toNat) := by
  unfold n32; rw [BitVec.toNat_ofNat]; omega
theorem n64_of {n : Int} (h0 : 0 ≤ n) (h1 : n < 18446744073709551616) : n = n64 (BitVec.ofNat 64 n.toNat) := by
  unfold n64; rw [BitVec.toNat_ofNat]; omega

theorem wrap32_n (x : BitVec 32) : IntKind.u32.wrap (n32 x) = n32 x := by
  rw [IntKind.wrap_u32]; have := n32_lt x; omega
theorem wrap64_n (x : BitVec 64) : IntKind.u64.wrap (n64 x) = n64 x := by
  rw [wrap_u64]; have := n64_lt x; omega

theorem ofInt32 (x : BitVec 32) : BitVec.ofInt IntKind.u32.bits (n32 x) = x := by
  apply BitVec.eq_of_toNat_eq
  simp [n32, IntKind.bits]
theorem ofInt64 (x : BitVec 64) : BitVec.ofInt IntKind.u64.bits (n64 x) = x := by
  apply BitVec.eq_of_toNat_eq
  simp [n64, IntKind.bits]

theorem xor32 (x y : BitVec 32) : Go.bits .xor .u32 (n32 x) (n32 y) = n32 (x ^^^ y) := by
  unfold Go.bits
  simp only [ofInt32]
  exact wrap32_n _
theorem and32 (x y : BitVec 32) : Go.bits .and .u32 (n32 x) (n32 y) = n32 (x &&& y) := by
  unfold Go.bits
  simp only [ofInt32]
  exact wrap32_n _
theorem xor64 (x y : BitVec 64) : Go.bits .xor .u64 (n64 x) (n64 y) = n64 (x ^^^ y) := by
  unfold Go.bits
  simp only [ofInt64]
  exact wrap64_n _
theorem not32 (x : BitVec 32) : Go.bits .xor .u32 4294967295 (n32 x) = n32 (~~~ x) := by
  have h : (4294967295 : Int) = n32 (BitVec.allOnes 32) := by decide
  rw [h, xor32, ← BitVec.not_def]
theorem shr32 (x : BitVec 32) (k : Nat) : n32 x / 2 ^ k = n32 (x >>> k) := by
  unfold n32
  rw [BitVec.toNat_ushiftRight, Nat.shiftRight_eq_div_pow]; simp
theorem shr64 (x : BitVec 64) (k : Nat) : n64 x / 2 ^ k = n64 (x >>> k) := by
  unfold n64
  rw [BitVec.toNat_ushiftRight, Nat.shiftRight_eq_div_pow]; simp
theorem mul64 (x y : BitVec 64) : IntKind.u64.wrap (n64 x * n64 y) = n64 (x * y) := by
  unfold n64
  rw [wrap_u64, BitVec.toNat_mul]; simp
theorem add64 (x y : BitVec 64) : IntKind.u64.wrap (n64 x + n64 y) = n64 (x + y) := by
  unfold n64
  rw [wrap_u64, BitVec.toNat_add]; simp
theorem sub64 (x y : BitVec 64) : IntKind.u64.wrap (n64 x - n64 y) = n64 (x - y) := by
  unfold n64
  rw [wrap_u64, BitVec.toNat_sub]; have := x.isLt; have := y.isLt; omega
theorem bit32 (x : BitVec 32) : Go.bits .and .u32 (n32 x) 1 = if x.getLsbD 0 then 1 else 0 := by
  have h : (1 : Int) = n32 1#32 := by decide
  rw [h, and32]
  have e : x &&& 1#32 = if x.getLsbD 0 then 1#32 else 0#32 := by
    apply BitVec.eq_of_getLsbD_eq
    intro i hi
    rw [BitVec.getLsbD_and]
    cases i with
    | zero => cases x.getLsbD 0 <;> simp
    | succ i =>
      have : (1#32).getLsbD (i + 1) = false := by simp [BitVec.getLsbD_one]
      rw [this]
      cases x.getLsbD 0 <;> simp
  rw [e]
  cases x.getLsbD 0 <;> decide

end Go.Proofs.YtnddlpfmagdbfaaGreat
