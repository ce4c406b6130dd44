/- Walk of the law ChecksumAlters, at the row's own numbers. -/
import Derived.Test.YtigilgkgkjkebaaGoAlters
namespace Go.Proofs.Ytigilgkgkjkebaa
open Go.RowKit Go.Proofs.YtigilgkgkjkebaaW.PrintWords
theorem wf_u8 {a : Int} (w : (Lit.int .u8 a).wf = true) : ∃ n : Nat, a = n ∧ n ≤ 255 := by
  simp [Lit.wf, IntKind.min, IntKind.max, IntKind.signed, IntKind.bits] at w
  exact ⟨a.toNat, by omega, by omega⟩
theorem alters_row (w : World) (A : Option Addr) (c : Nat) (l : List ByteArray) (x y z : Int)
    (y0 : l.length ≤ c) (z0 : l.length ≤ maxLen) (w0 : Kd.C Kd.string w A l.length l) (wx : (Lit.int .u8 x).wf = true) (wy : (Lit.int .u8 y).wf = true) (wz : (Lit.int .u8 z).wf = true) :
    Calls Try.prog 12 #[.slice A l.length c, .agg #[.int .u8 x, .int .u8 y], .int .u8 z] w fun e w' => e = .returned (.bool true) ∧ Below w.heap.size w w' := by
  obtain ⟨x, rfl, hx⟩ := wf_u8 wx
  obtain ⟨y, rfl, hy⟩ := wf_u8 wy
  obtain ⟨z, rfl, hz⟩ := wf_u8 wz
  have h := alters_walk A c l x y (UInt8.ofNat z) hx hy z0 w w0 y0
  have e : (UInt8.ofNat z).toNat = z := by simp; omega
  rw [e] at h
  exact h
end Go.Proofs.Ytigilgkgkjkebaa
