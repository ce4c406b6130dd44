/- Contracts: Chain and Verify. -/
import Derived.Test.YtigilgkgkjkebaaW9
namespace Go.Proofs.Ytigilgkgkjkebaa
open Go.RowKit Go.Proofs.YtigilgkgkjkebaaW.PrintWords
set_option linter.unusedVariables false
set_option linter.unusedSimpArgs false

def chainL (l : List ByteArray) : List (BitVec 32) := (List.range l.length).map fun i => lnk l (i + 1)
theorem chainL_length (l : List ByteArray) : (chainL l).length = l.length := by simp [chainL]
theorem chainL_get (l : List ByteArray) (i : Nat) (h : i < l.length) : gu (chainL l) i = lnk l (i + 1) := by
  simp [gu, chainL, List.getD_eq_getElem?_getD, h]
theorem chain_own {W : World} {B : Nat} {v : Value} {l : List ByteArray} (h : W.ownsRow B 26 1 v l.length (nums .u32 (chainTo l l.length))) : ∃ A c, v = .slice A l.length c ∧ RdU W A (chainL l) := by
  obtain ⟨A, c, rfl, hr⟩ := own_reads h
  refine ⟨A, c, rfl, fun i hi => ?_⟩
  rw [chainL_length] at hi
  obtain ⟨ad, e, hc⟩ := hr.at_ (i : Int) (by omega) (by omega)
  refine ⟨ad, e, ?_⟩
  rw [chainL_get l i hi]
  have : rd (chainTo l l.length) (i : Int) = n32 (lnk l (i + 1)) := by simp [rd, chainTo, List.getD_eq_getElem?_getD, hi]
  rw [this] at hc
  simpa using hc
theorem own_nextU {W : World} {B : Nat} {v : Value} {l : List ByteArray} {k : Nat} {y : Int} (hown : W.ownsRow B 26 1 v (chainTo l k ++ [y]).length (nums .u32 (chainTo l k ++ [y]))) (hy : y = n32 (lnk l (k + 1))) : W.ownsRow B 26 1 v (k + 1) (nums .u32 (chainTo l (k + 1))) := by
  subst hy
  rw [chainTo_succ]
  simpa [chainTo_length] using hown

theorem make53 (n : Nat) (hn : n ≤ 1000) (W : World) : (Instr.makeSlice 53 (.int .i64 0) (.int .i64 (n : Int))).run Try.prog W = .ok (.slice (some ⟨W.heap.size, 0, none⟩) 0 n) (W.alloc (.cells (madeCells #[.int .u32 0] n) 26)) := by
  have hinfo : (Try.prog.info? 26).map (fun i => (i.zero, i.size, i.bytes)) = some (some (.int .u32 0), 1, 4) := by kernel_rfl
  obtain ⟨i0, hi, h0, h1, h2⟩ := info_parts hinfo
  have h := run_make (P := Try.prog) W 53 26 i0 (.int .u32 0) Try.underlying53 hi h0 .i64 .i64 0 (n : Int) (by omega) (by omega) (by rw [h2]; omega) (by omega)
  rw [h1, Nat.mul_one] at h
  exact h

set_option maxHeartbeats 1000000 in
theorem chain_any (A : Option Addr) (c : Nat) (l : List ByteArray) (hl : l.length ≤ 8) (hz : ∀ i, i < l.length → (gs l i).size ≤ 40) (w : World) (hr : RdS w A l) :
    Calls Try.prog 28 #[.slice A l.length c] w fun e w' => ∃ A' c', e = .returned (.slice A' l.length c') ∧ RdU w' A' (chainL l) ∧ Below w.heap.size w w' := by
  have HR := Lib.hid hr
  have HZ := Lib.hid hz
  clear hr hz
  have hmk := make53 l.length (by omega)
  go_enter Try.func28, Try.ntmps28
  go_wp2
  go_loopw [3, 4, 12] (fun v p i wr => ∃ k : Nat, k ≤ l.length ∧ i = .int .i64 k ∧ p = .int .u32 (n32 (lnk l k)) ∧ wr.ownsRow w.heap.size 26 1 v k (nums .u32 (chainTo l k)) ∧ Below w.heap.size w wr) (fun _ _ i _ => l.length - (intOf i).toNat)
  case atStart => exact ⟨0, by omega, rfl, rfl, World.ownsRow_made w _ l.length (Nat.le_refl _) (by unfold maxLen; omega) (by simp [size_madeCells]), (Below.refl _ _).alloc (Nat.le_refl _) _⟩
  case round =>
    obtain ⟨k, hk, rfl, rfl, hO, hB⟩ := hrel
    by_cases hlt : k < l.length
    · obtain ⟨ad, rfl, hcell⟩ := (HR.out.below hB) k hlt
      have hsz := Lib.hid (HZ.out k hlt)
      have HL := Lib.hid (lnk_succ l k hlt)
      have HO := Lib.hid hO
      have HB := Lib.hid hB
      have hsz2 : Hid ((gs l k).size ≤ maxLen) := Lib.hid (by have := HZ.out k hlt; unfold maxLen; omega)
      clear hO hB
      go_wp2_with fail
      (with_reducible refine (link_any _ (lnk l k) _ rfl hsz2.out _).mono ?_)
      rintro e w1 ⟨rfl, hb⟩
      have HB1 := Lib.hid (HB.out.trans (hb.mono HB.out.size))
      have HO1 : Hid (w1.ownsRow w.heap.size 26 1 u3 (chainTo l k).length (nums .u32 (chainTo l k))) := Lib.hid (by rw [chainTo_length]; exact pw_own_below HO.out hb)
      clear hb hcell
      go_wp2_with (at_builtin; refine print_append_num (w0 := w) w.heap.size rfl (.tmp 19) (.tmp 21) 53 26 .u32 4 rfl Try.underlying53 (by kernel_rfl) (by decide) _ (chainTo l k) _ rfl rfl HO1.out HB1.out HB1.out.size (by rw [chainTo_length]; omega) ?_; intro v1 w2 hown hB2 _ _)
      have HO2 := own_nextU hown (by rw [HL.out]; rfl)
      go_roundw
      case rel => exact ⟨k + 1, by omega, by go_num, by rw [HL.out]; rfl, HO2, hB2⟩
      case measure => simp [intOf]; omega
    · obtain rfl : k = l.length := by omega
      obtain ⟨A', c', rfl, hU⟩ := chain_own hO
      have HU := Lib.hid hU
      have HB := Lib.hid hB
      clear hO hB hU
      go_wp2
      go_ret
      exact ⟨A', c', rfl, HU.out, HB.out⟩

end Go.Proofs.Ytigilgkgkjkebaa
