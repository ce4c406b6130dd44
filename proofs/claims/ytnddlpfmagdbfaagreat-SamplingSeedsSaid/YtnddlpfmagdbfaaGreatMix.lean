/- Contracts: the mixed word, the hash of a trace, what is kept, the weights. -/
import Derived.Test.YtnddlpfmagdbfaaGreatProg
import Derived.Test.YtnddlpfmagdbfaaGreatBits
import Derived.Test.YtnddlpfmagdbfaaGreatCrc
import Derived.Test.YtnddlpfmagdbfaaGreatKn
import Derived.WalkKit
import Derived.WideLaws
import Derived.KernelRfl
import Derived.Below
import Derived.Lib.Hide
import Derived.Deep.QuietTactic
import Derived.BigQuiet
namespace Go.Proofs.YtnddlpfmagdbfaaGreat
open Go.RowKit
set_option linter.unusedVariables false
set_option linter.unusedSimpArgs false

theorem k1 (x : BitVec 64) : IntKind.u64.wrap (n64 x * 11400714819323198485) = n64 (x * Crc.c1) := by rw [← mul64]; rfl
theorem k2 (x : BitVec 64) : IntKind.u64.wrap (n64 x * 13787848793156543929) = n64 (x * Crc.c2) := by rw [← mul64]; rfl
theorem k3 (x : BitVec 64) : IntKind.u64.wrap (n64 x * 10723151780598845931) = n64 (x * Crc.c3) := by rw [← mul64]; rfl
theorem s30 (x : BitVec 64) : n64 x / (1073741824 : Int) = n64 (x >>> 30) := by rw [← shr64]; rfl
theorem s27 (x : BitVec 64) : n64 x / (134217728 : Int) = n64 (x >>> 27) := by rw [← shr64]; rfl
theorem s31 (x : BitVec 64) : n64 x / (2147483648 : Int) = n64 (x >>> 31) := by rw [← shr64]; rfl

theorem ret64 {a b : Int} (h : a = b) : Ending.returned (.int .u64 a) = .returned (.int .u64 b) := by rw [h]
theorem word_any (a b : Int) (x y : BitVec 64) (ha : a = n64 x) (hb : b = n64 y) (w : World) :
    Calls Tryz.prog 18 #[.int .u64 a, .int .u64 b] w fun e w' => e = .returned (.int .u64 (n64 (Crc.word x y))) ∧ w = w' := by
  subst ha hb
  go_enter Tryz.func18, Tryz.ntmps18
  go_wp2
  go_ret
  exact ⟨ret64 (by simp only [k1, k2, k3, add64, s30, s27, s31, xor64]; rfl), rfl⟩

/-- An int, taken modulo 2^64. -/
def u (a : Int) : BitVec 64 := BitVec.ofInt 64 a
theorem u_wrap (a : Int) : IntKind.u64.wrap a = n64 (u a) := by
  rw [wrap_u64]; unfold n64 u; rw [BitVec.toNat_ofInt]; simp; omega
theorem q4_lt (x : BitVec 64) : 0 ≤ n64 x / (4 : Int) ∧ n64 x / (4 : Int) < 4611686018427387904 := by have := n64_lt x; omega
theorem mix_word (a b : Int) (w : World) :
    Calls Tryz.prog 8 #[.int .i64 a, .int .i64 b] w fun e w' => e = .returned (.int .i64 (n64 (Crc.word (u a) (u b)) / (4 : Int))) ∧ w = w' := by
  go_enter Tryz.func8, Tryz.ntmps8
  go_wp2_with fail
  (with_reducible refine (word_any _ _ (u a) (u b) (u_wrap a) (u_wrap b) _).mono ?_)
  rintro e w' ⟨rfl, rfl⟩
  have h := q4_lt (Crc.word (u a) (u b))
  obtain ⟨h0, h1⟩ := h
  go_wp2
  go_ret
  exact ⟨rfl, rfl⟩

/-- The number by which a trace is chosen. -/
def hs (t : Int) : Int := n64 (Crc.word (u 0) (u t)) / (4 : Int)
theorem hs_lt (t : Int) : 0 ≤ hs t ∧ hs t < 4611686018427387904 := q4_lt _
theorem mix_any (t : Int) (w : World) : Calls Tryz.prog 8 #[.int .i64 0, .int .i64 t] w fun e w' => e = .returned (.int .i64 (hs t)) ∧ w = w' := mix_word 0 t w
theorem hash_any (t : Int) (w : World) : Calls Tryz.prog 7 #[.int .i64 t] w fun e w' => e = .returned (.int .i64 (hs t)) ∧ w = w' := by
  go_enter Tryz.func7, Tryz.ntmps7
  go_wp2_with fail
  (with_reducible refine (mix_any _ _).mono ?_)
  rintro e w' ⟨rfl, rfl⟩
  go_wp2
  go_ret
  exact ⟨rfl, rfl⟩

/-- Is the trace kept. -/
def kp (t s : Int) (e : Nat) : Bool := decide ((hs t + s) % 1024 < 2 ^ (10 - e))
theorem pow_wrap (k : Nat) (h : k ≤ 10) : wrap64 (2 ^ k) = 2 ^ k := by
  have hk : k = 0 ∨ k = 1 ∨ k = 2 ∨ k = 3 ∨ k = 4 ∨ k = 5 ∨ k = 6 ∨ k = 7 ∨ k = 8 ∨ k = 9 ∨ k = 10 := by omega
  rcases hk with rfl | rfl | rfl | rfl | rfl | rfl | rfl | rfl | rfl | rfl | rfl <;> simp [wrap64]
theorem ret_bool' {a b : Bool} (h : a = b) : Ending.returned (.bool a) = .returned (.bool b) := by rw [h]

theorem hash_q (t : Int) (w : World) : Calls Tryz.prog 7 #[.int .i64 t] w fun e w' => e = .returned (.int .i64 (hs t)) ∧ ∃ n, w' = w.drewN n :=
  (hash_any t w).mono fun e w' ⟨h1, h2⟩ => ⟨h1, 0, by subst h2; rfl⟩
theorem mix_q (t : Int) (w : World) : Calls Tryz.prog 8 #[.int .i64 0, .int .i64 t] w fun e w' => e = .returned (.int .i64 (hs t)) ∧ ∃ n, w' = w.drewN n :=
  (mix_any t w).mono fun e w' ⟨h1, h2⟩ => ⟨h1, 0, by subst h2; rfl⟩
theorem keep_any (t s : Int) (e : Nat) (h0 : 0 ≤ s) (h1 : s < 1024) (he : e ≤ 10) (w : World) :
    Calls Tryz.prog 19 #[.int .i64 t, .int .i64 s, .int .i64 e] w fun x w' => x = .returned (.bool (kp t s e)) ∧ ∃ n, w' = w.drewN n := by
  obtain ⟨g0, g1⟩ := hs_lt t
  go_enter Tryz.func19, Tryz.ntmps19
  go_wp2_with fail
  go_quiet (first | (go_at_call 7; refine Calls.quiet_of (hash_q _ _)))
  go_wp2_with fail
  go_ret
  exact ⟨ret_bool' (by rw [pow_wrap _ (by omega)]; rfl), nq, rfl⟩
theorem kept_any (t s : Int) (e : Nat) (h0 : 0 ≤ s) (h1 : s < 1024) (he : e ≤ 10) (w : World) :
    Calls Tryz.prog 11 #[.int .i64 t, .int .i64 s, .int .i64 e] w fun x w' => x = .returned (.bool (kp t s e)) ∧ ∃ n, w' = w.drewN n := by
  obtain ⟨g0, g1⟩ := hs_lt t
  have hmod : (hs t % 1024 + s) % 1024 = (hs t + s) % 1024 := by omega
  go_enter Tryz.func11, Tryz.ntmps11
  go_wp2_with fail
  go_quiet (first | (go_at_call 8; refine Calls.quiet_of (mix_q _ _)))
  go_wp2_with fail
  go_ret
  exact ⟨ret_bool' (by rw [pow_wrap _ (by omega)]; unfold kp; rw [← hmod]), nq, rfl⟩

theorem Keep_bad (t s e : Int) (h : s < 0 ∨ 1024 ≤ s ∨ e < 0 ∨ 10 < e) (w : World) :
    Calls Tryz.prog 9 #[.int .i64 t, .int .i64 s, .int .i64 e] w fun x w' => x = .returned (.tuple #[.bool false, .int .i64 2]) ∧ ∃ n, w' = w.drewN n := by
  go_enter Tryz.func9, Tryz.ntmps9
  by_cases h1 : s < 0
  · go_wp2
    go_ret2
    exact ⟨rfl, 0, rfl⟩
  by_cases h2 : 1024 ≤ s
  · go_wp2
    go_ret2
    exact ⟨rfl, 0, rfl⟩
  by_cases h3 : e < 0
  · go_wp2
    go_ret2
    exact ⟨rfl, 0, rfl⟩
  have h4 : 10 < e := by omega
  go_wp2
  go_ret2
  exact ⟨rfl, 0, rfl⟩
theorem Keep_good (t s : Int) (e : Nat) (h0 : 0 ≤ s) (h1 : s < 1024) (he : e ≤ 10) (w : World) :
    Calls Tryz.prog 9 #[.int .i64 t, .int .i64 s, .int .i64 e] w fun x w' => x = .returned (.tuple #[.bool (kp t s e), .int .i64 0]) ∧ ∃ n, w' = w.drewN n := by
  go_enter Tryz.func9, Tryz.ntmps9
  go_wp2_with fail
  (with_reducible refine (keep_any _ _ _ h0 h1 he _).mono ?_)
  rintro x w' ⟨rfl, n, rfl⟩
  go_wp2
  go_ret2
  exact ⟨rfl, n, rfl⟩
theorem Weight_bad (e : Int) (h : e < 0 ∨ 10 < e) (w : World) :
    Calls Tryz.prog 10 #[.int .i64 e] w fun x w' => x = .returned (.tuple #[.int .i64 0, .int .i64 2]) ∧ w' = w := by
  go_enter Tryz.func10, Tryz.ntmps10
  by_cases h3 : e < 0
  · go_wp2
    go_ret2
    exact ⟨rfl, rfl⟩
  have h4 : 10 < e := by omega
  go_wp2
  go_ret2
  exact ⟨rfl, rfl⟩
theorem ret_t2 {a b c d : Int} (h : a = b) (h' : c = d) : Ending.returned (.tuple #[.int .i64 a, .int .i64 c]) = .returned (.tuple #[.int .i64 b, .int .i64 d]) := by rw [h, h']
theorem Weight_good (e : Nat) (he : e ≤ 10) (w : World) :
    Calls Tryz.prog 10 #[.int .i64 e] w fun x w' => x = .returned (.tuple #[.int .i64 (2 ^ e), .int .i64 0]) ∧ w' = w := by
  go_enter Tryz.func10, Tryz.ntmps10
  go_wp2
  go_ret2
  exact ⟨ret_t2 (by rw [pow_wrap _ he]) rfl, rfl⟩

end Go.Proofs.YtnddlpfmagdbfaaGreat
