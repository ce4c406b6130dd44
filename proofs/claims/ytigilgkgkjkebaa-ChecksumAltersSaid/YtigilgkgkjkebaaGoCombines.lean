/- Walk of the law ChecksumCombines. -/
import Derived.Test.YtigilgkgkjkebaaGoExtends
namespace Go.Proofs.Ytigilgkgkjkebaa
open Go.RowKit
set_option linter.unusedVariables false
set_option linter.unusedSimpArgs false

/-- An int as a word of 32 bits. -/
def u32 (a : Int) : BitVec 32 := BitVec.ofInt 32 a
theorem u32_wrap (a : Int) : IntKind.u32.wrap a = n32 (u32 a) := by
  rw [IntKind.wrap_u32]; unfold n32 u32; rw [BitVec.toNat_ofInt]; simp; omega
theorem u32_mod (a : Int) : a % 4294967296 = n32 (u32 a) := by rw [← IntKind.wrap_u32, u32_wrap]

/-- W is w with one block more, which holds three ints; other blocks may lie behind it. -/
structure Box3 (w W : World) (k : IntKind) (x y z : Int) : Prop where
  below : Below w.heap.size w W
  lt : w.heap.size < W.heap.size
  c0 : W.cell? ⟨w.heap.size, 0, none⟩ = some (.int k x)
  c1 : W.cell? ⟨w.heap.size, 1, none⟩ = some (.int k y)
  c2 : W.cell? ⟨w.heap.size, 2, none⟩ = some (.int k z)
theorem Box3.keep {w W W' : World} {k : IntKind} {x y z : Int} (h : Box3 w W k x y z) (hb : Below W.heap.size W W') : Box3 w W' k x y z :=
  ⟨h.below.trans (hb.mono h.below.size), Nat.lt_of_lt_of_le h.lt hb.size, (hb.cell (p := ⟨_, 0, none⟩) h.lt).trans h.c0, (hb.cell (p := ⟨_, 1, none⟩) h.lt).trans h.c1, (hb.cell (p := ⟨_, 2, none⟩) h.lt).trans h.c2⟩
theorem Box3.start (w : World) (t : TypeId) (k : IntKind) (x y z : Int) (n : Nat) : Box3 w ((w.alloc (.cells #[.int k x, .int k y, .int k z] t)).drewN n) k x y z :=
  have h := heap_alloc_new w (.cells #[.int k x, .int k y, .int k z] t)
  ⟨(Below.refl _ _).trans ⟨rfl, rfl, rfl, by simp, fun j hj => Below.heap_alloc _ _ _ hj⟩, by simp, cell_of_row _ _ _ _ _ _ h, cell_of_row _ _ _ _ _ _ h, cell_of_row _ _ _ _ _ _ h⟩
theorem Box3.drew {w W : World} {k : IntKind} {x y z : Int} (h : Box3 w W k x y z) (n : Nat) : Box3 w (W.drewN n) k x y z := ⟨h.below.trans ⟨rfl, rfl, rfl, Nat.le_refl _, fun _ _ => rfl⟩, h.lt, h.c0, h.c1, h.c2⟩

theorem comb_eq (a : BitVec 32) (y : Int) (m : Nat) : (n32 (Crc.combine a (u32 y) m) == Go.bits .xor .u32 (n32 (Crc.Z m a)) (y % 4294967296)) = true := by
  rw [u32_mod, xor32]; exact beq_iff_eq.mpr rfl

theorem zcases (z : Int) : z < 0 ∨ 1099511627776 < z ∨ ∃ m : Nat, z = m ∧ m ≤ 1099511627776 := by
  by_cases h : z < 0
  · exact .inl h
  · by_cases h' : 1099511627776 < z
    · exact .inr (.inl h')
    · exact .inr (.inr ⟨z.toNat, by omega, by omega⟩)

set_option maxHeartbeats 4000000 in
theorem combines_walk (a0 : ByteArray) (a1 : ByteArray) (x y z : Int) (w0 : a0.size ≤ 140737488351232) (w1 : a1.size ≤ 140737488351232) (wx : (Lit.int .i64 x).wf = true) (wy : (Lit.int .i64 y).wf = true) (wz : (Lit.int .i64 z).wf = true) (w : World) :
    Calls Try.prog 6 #[.string a0, .string a1, .agg #[.int .i64 x, .int .i64 y, .int .i64 z]] w fun e w' => e = .returned (.bool true) ∧ Below w.heap.size w w' := by
  clear wx wy wz
  have HS : ∀ s : ByteArray, s.size ≤ 500 → s.size ≤ maxLen := fun s h => by unfold maxLen; omega
  obtain ⟨s, hs, es⟩ : ∃ s : ByteArray, s.size ≤ 500 ∧ s = a0.extract 0 (min a0.size 500) := ⟨_, by simp; omega, rfl⟩
  obtain ⟨t, ht, et⟩ : ∃ t : ByteArray, t.size ≤ 500 ∧ t = a1.extract 0 (min a1.size 500) := ⟨_, by simp; omega, rfl⟩
  have ES := Lib.hid es
  have ET := Lib.hid et
  have HSS := Lib.hid hs
  have HTT := Lib.hid ht
  have HST : Hid ((s ++ t).size ≤ maxLen) := Lib.hid (by rw [ByteArray.size_append]; unfold maxLen; omega)
  have HTM : Hid (t.size ≤ 1099511627776) := Lib.hid (by omega)
  have HCS : Hid (Crc.combine (Crc.sum s.data.toList) (Crc.sum t.data.toList) t.size = Crc.sum (s ++ t).data.toList) := Lib.hid (by
    rw [cat_data, ← Crc.combine_sum, Array.length_toList]; rfl)
  have H0 := Lib.hid w0
  have H1 := Lib.hid w1
  clear es et
  by_cases hc : 500 < a0.size <;> by_cases hd : 500 < a1.size
  all_goals
    have E1 := ES.out
    have E2 := ET.out
    first | rw [Nat.min_eq_right (by omega)] at E1 | rw [Nat.min_eq_left (by omega)] at E1
    first | rw [Nat.min_eq_right (by omega)] at E2 | rw [Nat.min_eq_left (by omega)] at E2
    try rw [show a0.extract 0 a0.size = a0 from ByteArray.extract_zero_size] at E1
    try rw [show a1.extract 0 a1.size = a1 from ByteArray.extract_zero_size] at E2
    have E1' := Lib.hid E1.symm
    have E2' := Lib.hid E2.symm
    clear E1 E2
    go_enter Try.func6, Try.ntmps6
    go_wp2_with fail
    go_quiet (fail)
    go_wp2_with fail
    rw [E1'.out, E2'.out]
    have hB := Box3.start w 31 .i64 x y z nq
    generalize World.drewN (w.alloc (Obj.cells #[Value.int IntKind.i64 x, Value.int IntKind.i64 y, Value.int IntKind.i64 z] 31)) nq = W at *
    (with_reducible refine (sum_any s (HS _ HSS.out) _).mono ?_)
    rintro e w' ⟨rfl, rfl⟩
    go_wp2_with fail
    (with_reducible refine (sum_any t (HS _ HTT.out) _).mono ?_)
    rintro e w' ⟨rfl, rfl⟩
    go_wp2_with fail
    (with_reducible refine (combine_any _ _ _ _ t.size rfl rfl HTM.out _).mono ?_)
    rintro e W1 ⟨rfl, hb1⟩
    rw [HCS.out]
    have hB1 := hB.keep hb1
    have HK1 := Lib.hid hB1
    have f0 := hB1.c0
    have f1 := hB1.c1
    clear hB hb1 hB1
    go_wp2_with fail
    go_quiet (fail)
    have hK2 := HK1.out.drew nq
    clear f0 f1 HK1
    generalize World.drewN W1 nq = W2 at *
    have HK2 := Lib.hid hK2
    clear hK2
    go_wp2_with fail
    (with_reducible refine (combine_any _ _ (u32 x) (u32 y) t.size (u32_mod x) (u32_mod y) HTM.out _).mono ?_)
    rintro e W3 ⟨rfl, hb3⟩
    have hB3 := HK2.out.keep hb3
    have f2 := hB3.c2
    have HK3 := Lib.hid hB3
    clear hB3 hb3 HK2
    rcases zcases z with hz | hz | ⟨m, rfl, hm⟩
    · go_wp2_with fail
      (with_reducible refine (combine_out _ _ _ (.inl hz) _).mono ?_)
      rintro e W3' ⟨rfl, rfl⟩
      go_wp2_with fail
      (with_reducible refine (known_any _).mono ?_)
      rintro e W4 ⟨rfl, hb4⟩
      have HB := Lib.hid (HK3.out.keep hb4).below
      clear f2 hb4 HK3
      have hx := comb_eq (u32 x) y t.size
      go_wp2_with fail
      (with_reducible refine (sum_any (s ++ t) HST.out _).mono ?_)
      rintro e w' ⟨rfl, rfl⟩
      go_wp2_with fail
      (with_reducible refine (zeros_any _ (u32 x) t.size (u32_mod x) HTM.out _).mono ?_)
      rintro e w' ⟨rfl, rfl⟩
      go_wp2
      go_ret
      exact ⟨rfl, HB.out⟩
    · have hz' : ¬ z < 0 := by omega
      go_wp2_with fail
      (with_reducible refine (combine_out _ _ _ (.inr hz) _).mono ?_)
      rintro e W3' ⟨rfl, rfl⟩
      go_wp2_with fail
      (with_reducible refine (known_any _).mono ?_)
      rintro e W4 ⟨rfl, hb4⟩
      have HB := Lib.hid (HK3.out.keep hb4).below
      clear f2 hb4 HK3
      have hx := comb_eq (u32 x) y t.size
      go_wp2_with fail
      (with_reducible refine (sum_any (s ++ t) HST.out _).mono ?_)
      rintro e w' ⟨rfl, rfl⟩
      go_wp2_with fail
      (with_reducible refine (zeros_any _ (u32 x) t.size (u32_mod x) HTM.out _).mono ?_)
      rintro e w' ⟨rfl, rfl⟩
      go_wp2
      go_ret
      exact ⟨rfl, HB.out⟩
    · go_wp2_with fail
      (with_reducible refine (combine_any _ _ (u32 x) (u32 y) m (u32_mod x) (u32_mod y) hm _).mono ?_)
      rintro e W3' ⟨rfl, hb5⟩
      have hB5 := HK3.out.keep hb5
      have HK3 := Lib.hid hB5
      clear f2
      have f2 := HK3.out.c2
      clear hB5 hb5
      go_wp2_with fail
      (with_reducible refine (known_any _).mono ?_)
      rintro e W4 ⟨rfl, hb4⟩
      have HB := Lib.hid (HK3.out.keep hb4).below
      clear f2 hb4 HK3
      have hx := comb_eq (u32 x) y t.size
      go_wp2_with fail
      (with_reducible refine (sum_any (s ++ t) HST.out _).mono ?_)
      rintro e w' ⟨rfl, rfl⟩
      go_wp2_with fail
      (with_reducible refine (zeros_any _ (u32 x) t.size (u32_mod x) HTM.out _).mono ?_)
      rintro e w' ⟨rfl, rfl⟩
      go_wp2
      go_ret
      exact ⟨rfl, HB.out⟩

end Go.Proofs.Ytigilgkgkjkebaa
