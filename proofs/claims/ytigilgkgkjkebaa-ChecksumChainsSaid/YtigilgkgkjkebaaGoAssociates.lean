/- Walk of the law ChecksumAssociates. -/
import Derived.Test.YtigilgkgkjkebaaGoCombines
namespace Go.Proofs.Ytigilgkgkjkebaa
open Go.RowKit
set_option linter.unusedVariables false
set_option linter.unusedSimpArgs false

theorem Box3.start0 (w : World) (t : TypeId) (k : IntKind) (x y z : Int) : Box3 w (w.alloc (.cells #[.int k x, .int k y, .int k z] t)) k x y z := Box3.start w t k x y z 0

theorem wf_u32 {a : Int} (w : (Lit.int .u32 a).wf = true) : ∃ x, a = n32 x :=
  ⟨_, n32_of (by simp [Lit.wf, IntKind.min, IntKind.max, IntKind.signed, IntKind.bits] at w; omega) (by simp [Lit.wf, IntKind.min, IntKind.max, IntKind.signed, IntKind.bits] at w; omega)⟩
theorem wf_u64 {a : Int} (w : (Lit.int .u64 a).wf = true) : 0 ≤ a ∧ a ≤ 18446744073709551615 := by
  simp [Lit.wf, IntKind.min, IntKind.max, IntKind.signed, IntKind.bits] at w; omega

set_option maxHeartbeats 4000000 in
theorem associates_walk (x y z n m : Int) (wx : (Lit.int .u32 x).wf = true) (wy : (Lit.int .u32 y).wf = true) (wz : (Lit.int .u32 z).wf = true) (wn : (Lit.int .u64 n).wf = true) (wm : (Lit.int .u64 m).wf = true) (w : World) :
    Calls Try.prog 7 #[.agg #[.int .u32 x, .int .u32 y, .int .u32 z], .int .u64 n, .int .u64 m] w fun e w' => e = .returned (.bool true) ∧ Below w.heap.size w w' := by
  obtain ⟨x, rfl⟩ := wf_u32 wx
  obtain ⟨y, rfl⟩ := wf_u32 wy
  obtain ⟨z, rfl⟩ := wf_u32 wz
  obtain ⟨hn0, hn1⟩ := wf_u64 wn
  obtain ⟨hm0, hm1⟩ := wf_u64 wm
  clear wx wy wz wn wm
  obtain ⟨i, hi, hi'⟩ : ∃ i : Nat, n % 549755813889 = i ∧ i ≤ 549755813888 := ⟨(n % 549755813889).toNat, by omega, by omega⟩
  obtain ⟨j, hj, hj'⟩ : ∃ j : Nat, m % 549755813889 = j ∧ j ≤ 549755813888 := ⟨(m % 549755813889).toNat, by omega, by omega⟩
  have HA := Lib.hid (Crc.combine_assoc x y z i j)
  have HI := Lib.hid (show i ≤ 1099511627776 by omega)
  have HJ := Lib.hid (show j ≤ 1099511627776 by omega)
  have HIJ := Lib.hid (show i + j ≤ 1099511627776 by omega)
  have HS := Lib.hid (show (i : Int) + (j : Int) = ((i + j : Nat) : Int) by omega)
  have hB := Box3.start0 w 37 .u32 (n32 x) (n32 y) (n32 z)
  have HB := Lib.hid hB
  clear hB
  go_enter Try.func7, Try.ntmps7
  go_wp2_with fail
  (with_reducible refine (combine_any _ _ x y i rfl rfl HI.out _).mono ?_)
  rintro e W1 ⟨rfl, hb⟩
  have hB := HB.out.keep hb
  have f0 := hB.c0
  have f1 := hB.c1
  have f2 := hB.c2
  have HB := Lib.hid hB
  clear hB hb
  go_wp2_with fail
  (with_reducible refine (combine_any _ _ (Crc.combine x y i) z j rfl rfl HJ.out _).mono ?_)
  rintro e W2 ⟨rfl, hb⟩
  have hB := HB.out.keep hb
  have f0 := hB.c0
  have f1 := hB.c1
  have f2 := hB.c2
  have HB := Lib.hid hB
  clear hB hb
  clear f0 f1 f2
  have f0 := HB.out.c0
  have f1 := HB.out.c1
  have f2 := HB.out.c2
  go_wp2_with fail
  (with_reducible refine (combine_any _ _ y z j rfl rfl HJ.out _).mono ?_)
  rintro e W3 ⟨rfl, hb⟩
  have hB := HB.out.keep hb
  have f0 := hB.c0
  have f1 := hB.c1
  have f2 := hB.c2
  have HB := Lib.hid hB
  clear hB hb
  go_wp2_with fail
  rw [HS.out]
  (with_reducible refine (combine_any _ _ x (Crc.combine y z j) (i + j) rfl rfl HIJ.out _).mono ?_)
  rintro e W4 ⟨rfl, hb⟩
  have hB := HB.out.keep hb
  clear f0 f1 f2
  have f0 := hB.c0
  have f1 := hB.c1
  have f2 := hB.c2
  have HB := Lib.hid hB
  clear hB hb
  go_wp2_with fail
  (refine (combine_any _ _ x y 0 rfl rfl (by omega) _).mono ?_)
  rintro e W5 ⟨rfl, hb⟩
  have hB := HB.out.keep hb
  clear f0 f1 f2
  have f0 := hB.c0
  have f1 := hB.c1
  have f2 := hB.c2
  have HB := Lib.hid hB
  clear hB hb
  go_wp2_with fail
  (with_reducible refine (known_any _).mono ?_)
  rintro e W6 ⟨rfl, hb⟩
  have hB := HB.out.keep hb
  clear f0 f1 f2
  have f0 := hB.c0
  have f1 := hB.c1
  have HB := Lib.hid hB.below
  clear hB hb
  rw [HA.out]
  have hx : (n32 (Crc.combine x y 0) == Go.bits .xor .u32 (n32 x) (n32 y)) = true := by rw [xor32]; exact beq_iff_eq.mpr rfl
  go_wp2
  go_ret
  exact ⟨rfl, HB.out⟩

end Go.Proofs.Ytigilgkgkjkebaa
