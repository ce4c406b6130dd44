/- Walk of the law ChecksumExtends. -/
import Derived.Test.YtigilgkgkjkebaaW5
namespace Go.Proofs.Ytigilgkgkjkebaa
open Go.RowKit
set_option linter.unusedVariables false
set_option linter.unusedSimpArgs false

theorem below_from {w w1 : World} {n : Nat} (h : Below (w.drewN n).heap.size (w.drewN n) w1) : Below w.heap.size w w1 := ⟨h.os, h.tape, h.output, h.size, h.block⟩

theorem cat_data (s t : ByteArray) : (s ++ t).data.toList = s.data.toList ++ t.data.toList := by simp

theorem ext_eq (x : BitVec 32) (l : List UInt8) : (n32 (Crc.extend x l) == Go.bits .xor .u32 IntKind.u32.max (n32 (Crc.reg (~~~ x) l))) = true := by
  rw [notmax32]; exact beq_iff_eq.mpr rfl

theorem extends_walk (a0 : ByteArray) (a1 : ByteArray) (a2 : Int) (w0 : a0.size ≤ 140737488351232) (w1 : a1.size ≤ 140737488351232) (w2 : (Lit.int .u32 a2).wf = true) (w : World) :
    Calls Try.prog 5 #[.string a0, .string a1, .int .u32 a2] w fun e w' => e = .returned (.bool true) ∧ Below w.heap.size w w' := by
  obtain ⟨x, rfl⟩ : ∃ x, a2 = n32 x := ⟨_, n32_of (by simp [Lit.wf, IntKind.min, IntKind.max, IntKind.signed, IntKind.bits] at w2; omega) (by simp [Lit.wf, IntKind.min, IntKind.max, IntKind.signed, IntKind.bits] at w2; omega)⟩
  clear w2
  have HS : ∀ s : ByteArray, s.size ≤ 500 → s.size ≤ maxLen := fun s h => by unfold maxLen; omega
  obtain ⟨s, hs, es⟩ : ∃ s : ByteArray, s.size ≤ 500 ∧ s = a0.extract 0 (min a0.size 500) := ⟨_, by simp; omega, rfl⟩
  obtain ⟨t, ht, et⟩ : ∃ t : ByteArray, t.size ≤ 500 ∧ t = a1.extract 0 (min a1.size 500) := ⟨_, by simp; omega, rfl⟩
  have ES := Lib.hid es
  have ET := Lib.hid et
  have HSS := Lib.hid hs
  have HTT := Lib.hid ht
  have HST : Hid ((s ++ t).size ≤ maxLen) := Lib.hid (by rw [ByteArray.size_append]; unfold maxLen; omega)
  have H0 := Lib.hid w0
  have HE : Hid ((⟨#[]⟩ : ByteArray).size ≤ maxLen) := Lib.hid (by unfold maxLen; decide)
  have HEE : Hid (Crc.extend x ((⟨#[]⟩ : ByteArray).data.toList) = x) := Lib.hid (Crc.extend_nil x)
  have H1 := Lib.hid w1
  clear es et
  by_cases hc : 500 < a0.size <;> by_cases hd : 500 < a1.size
  all_goals
    have E1 := ES.out
    have E2 := ET.out
    first | rw [Nat.min_eq_right (by omega)] at E1 | rw [Nat.min_eq_left (by omega)] at E1
    first | rw [Nat.min_eq_right (by omega)] at E2 | rw [Nat.min_eq_left (by omega)] at E2
    try rw [show a0.extract 0 a0.size = a0 from ByteArray.extract_zero_size] at E1
    try rw [show a1.extract 0 a1.size = a1 from ByteArray.extract_zero_size] at E2
    have E1' := Lib.hid E1.symm
    have E2' := Lib.hid E2.symm
    clear E1 E2
    go_enter Try.func5, Try.ntmps5
    go_wp2_with fail
    go_quiet (fail)
    go_wp2_with fail
    (with_reducible refine (known_any _).mono ?_)
    rintro e w1 ⟨rfl, hb⟩
    have HB := Lib.hid (below_from hb)
    clear hb
    go_wp2_with fail
    rw [E1'.out, E2'.out]
    (with_reducible refine (sum_any s (HS _ HSS.out) _).mono ?_)
    rintro e w' ⟨rfl, rfl⟩
    go_wp2_with fail
    (with_reducible refine (extend_any _ _ t rfl (HS _ HTT.out) _).mono ?_)
    rintro e w' ⟨rfl, rfl⟩
    go_wp2_with fail
    (with_reducible refine (sum_any (s ++ t) HST.out _).mono ?_)
    rintro e w' ⟨rfl, rfl⟩
    rw [cat_data, ← Crc.extend_sum]
    go_wp2_with fail
    (with_reducible refine (extend_any _ _ t rfl (HS _ HTT.out) _).mono ?_)
    rintro e w' ⟨rfl, rfl⟩
    go_wp2_with fail
    (with_reducible refine (register_any _ (~~~ x) t (notmax32 x) (HS _ HTT.out) _).mono ?_)
    rintro e w' ⟨rfl, rfl⟩
    have hx := ext_eq x t.data.toList
    go_wp2_with fail
    (with_reducible refine (extend_any _ x _ rfl HE.out _).mono ?_)
    rintro e w' ⟨rfl, rfl⟩
    rw [HEE.out]
    go_wp2
    go_ret
    exact ⟨rfl, HB.out⟩

end Go.Proofs.Ytigilgkgkjkebaa
