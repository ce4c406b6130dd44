/- Contract: the reference's Link. -/
import Derived.Test.YtigilgkgkjkebaaW7
namespace Go.Proofs.Ytigilgkgkjkebaa
open Go.RowKit Go.Proofs.YtigilgkgkjkebaaW.PrintWords PChecksumChains
set_option linter.unusedVariables false
set_option linter.unusedSimpArgs false

theorem byte_next (n i : Nat) : n / 2 ^ (8 * i) / 256 = n / 2 ^ (8 * (i + 1)) := by
  rw [Nat.div_div_eq_div_mul, Nat.mul_add, Nat.pow_add]
theorem bytes_l0 (n : Nat) (hn : n < 18446744073709551616) (c : Nat) (hc : c ≤ 8) : ∀ (d i k : Nat), i + d = c → d < k →
    sleuthref04_bytes.l0 k ((n / 2 ^ (8 * i) : Nat) : Int) (c : Int) (leI n i ++ List.replicate d 0) (i : Int) = some (strOfNums (leI n c)) := by
  intro d
  induction d with
  | zero =>
    intro i k hi hk
    obtain ⟨k, rfl⟩ : ∃ m, k = m + 1 := ⟨k - 1, by omega⟩
    obtain rfl : i = c := by omega
    simp only [sleuthref04_bytes.l0]
    rw [if_neg (by omega)]
    simp
  | succ d ih =>
    intro i k hi hk
    obtain ⟨k, rfl⟩ : ∃ m, k = m + 1 := ⟨k - 1, by omega⟩
    simp only [sleuthref04_bytes.l0]
    rw [if_pos (by omega), if_pos (by omega), if_pos (by rw [List.length_append, leI_length, List.length_replicate]; omega)]
    have hq : n / 2 ^ (8 * i) ≤ n := Nat.div_le_self _ _
    have e1 : IntKind.u64.wrap (Int.tdiv ((n / 2 ^ (8 * i) : Nat) : Int) 256) = ((n / 2 ^ (8 * (i + 1)) : Nat) : Int) := by
      rw [← byte_next, Int.tdiv_eq_ediv_of_nonneg (Int.natCast_nonneg _), wrap_u64]
      generalize n / 2 ^ (8 * i) = q at *
      omega
    have e2 : Int.tmod ((n / 2 ^ (8 * i) : Nat) : Int) 256 % 256 = ((n / 2 ^ (8 * i) % 256 : Nat) : Int) := by
      rw [Int.tmod_eq_emod_of_nonneg (Int.natCast_nonneg _)]
      generalize n / 2 ^ (8 * i) = q at *
      omega
    have e3 : wrap64 ((i : Int) + 1) = ((i + 1 : Nat) : Int) := by unfold wrap64; omega
    have e4 : (leI n i ++ List.replicate (d + 1) 0).set (i : Int).toNat ((n / 2 ^ (8 * i) % 256 : Nat) : Int) = leI n (i + 1) ++ List.replicate d 0 := by
      rw [leI_succ, Int.toNat_natCast, List.set_append_right _ _ (by rw [leI_length]; omega), leI_length, Nat.sub_self, List.replicate_succ, List.set_cons_zero, List.append_assoc]
      rfl
    rw [e1, e2, e3, e4]
    exact ih (i + 1) k (by omega) (by omega)

theorem bytes_any (n c : Nat) (a i : Int) (hn : n < 18446744073709551616) (hc : c ≤ 8) (ha : a = n) (hi : i = c) (w : World) :
    Calls Try.prog 37 #[.int .u64 a, .int .i64 i] w fun e w' => e = .returned (.string (bstr (le n c))) ∧ Below w.heap.size w w' := by
  subst ha hi
  rw [← bstr_of]
  refine sleuthref04_bytes.calls (c + 1) n c _ w ?_
  unfold sleuthref04_bytes.f
  rw [if_pos (by omega), if_pos (by omega)]
  have := bytes_l0 n hn c hc c 0 (c + 1) (by omega) (by omega)
  simpa [leI, le] using this

theorem bstr_data (l : List UInt8) : (bstr l).data.toList = l := by simp [bstr]
theorem bstr_append (l m : List UInt8) : bstr l ++ bstr m = bstr (l ++ m) := by
  apply ByteArray.ext
  simp [bstr]
theorem bstr_size (l : List UInt8) : (bstr l).size = l.length := by simp [bstr, ByteArray.size]

set_option maxHeartbeats 1000000 in
theorem reflink_any (n : Int) (p : BitVec 32) (s : ByteArray) (hn : n = n32 p) (hs : s.size ≤ 1000) (w : World) :
    Calls Try.prog 30 #[.int .u32 n, .string s] w fun e w' => e = .returned (.int .u32 (n32 (Crc.extend (Crc.sum (le p.toNat 4 ++ le s.size 8)) s.data.toList))) ∧ Below w.heap.size w w' := by
  subst hn
  have hp := n32_lt p
  have hpn : p.toNat < 18446744073709551616 := by have := p.isLt; omega
  obtain ⟨x, hx⟩ : ∃ x, x = bstr (le p.toNat 4) := ⟨_, rfl⟩
  obtain ⟨y, hy⟩ : ∃ y, y = bstr (le s.size 8) := ⟨_, rfl⟩
  have HE : Hid ((x ++ y ++ s).data.toList = le p.toNat 4 ++ le s.size 8 ++ s.data.toList) := Lib.hid (by subst hx hy; simp [bstr])
  have HZ : Hid ((x ++ y ++ s).size ≤ maxLen) := Lib.hid (by subst hx hy; rw [ByteArray.size_append, ByteArray.size_append, bstr_size, bstr_size, le_length, le_length]; unfold maxLen; omega)
  have H1 : Hid (¬ 9223372036854775807 < x.size + y.size) := Lib.hid (by rw [hx, hy, bstr_size, bstr_size, le_length, le_length]; omega)
  have H2 : Hid (¬ 9223372036854775807 < x.size + y.size + s.size) := Lib.hid (by rw [hx, hy, bstr_size, bstr_size, le_length, le_length]; omega)
  have HX := Lib.hid hx.symm
  have HY := Lib.hid hy.symm
  clear hx hy
  have HP := Lib.hid hpn
  have HQ : Hid (n32 p = (p.toNat : Int)) := Lib.hid rfl
  have HS := Lib.hid hs
  have HN : Hid (s.size < 18446744073709551616) := Lib.hid (by omega)
  clear hpn
  obtain ⟨hp0, hp1⟩ := hp
  go_enter Try.func30, Try.ntmps30
  go_wp2_with fail
  (with_reducible refine (bytes_any p.toNat 4 _ _ HP.out (by omega) HQ.out (by omega) _).mono ?_)
  rintro e w1 ⟨rfl, hb⟩
  rw [HX.out]
  have HB := Lib.hid hb
  clear hb
  go_wp2_with fail
  (with_reducible refine (bytes_any s.size 8 _ _ HN.out (by omega) rfl (by omega) _).mono ?_)
  rintro e w2 ⟨rfl, hb⟩
  rw [HY.out]
  have HB2 := Lib.hid (HB.out.trans (hb.mono HB.out.size))
  clear hb HB
  clear hs hp0 hp1
  have n1 := H1.out
  have n2 := H2.out
  go_wp2_with fail
  (with_reducible refine (refsum_any _ HZ.out _).mono ?_)
  rintro e w' ⟨rfl, rfl⟩
  rw [HE.out, ← Crc.extend_sum]
  go_wp2
  go_ret
  exact ⟨rfl, HB2.out⟩

end Go.Proofs.Ytigilgkgkjkebaa
