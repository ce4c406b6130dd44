/- Walk of the law ChecksumDetects, at the row's own numbers. -/
import Derived.Test.YtigilgkgkjkebaaGoDetects
import Derived.Test.YtigilgkgkjkebaaGoAssociates
namespace Go.Proofs.Ytigilgkgkjkebaa
theorem wf_u16 {a : Int} (w : (Lit.int .u16 a).wf = true) : ∃ n : Nat, a = n ∧ n ≤ 65535 := by
  simp [Lit.wf, IntKind.min, IntKind.max, IntKind.signed, IntKind.bits] at w
  exact ⟨a.toNat, by omega, by omega⟩
theorem detects_row (a0 : ByteArray) (a b x y z : Int) (w0 : a0.size ≤ 140737488351232) (wa : (Lit.int .u16 a).wf = true) (wb : (Lit.int .u32 b).wf = true) (wx : (Lit.int .u16 x).wf = true) (wy : (Lit.int .u16 y).wf = true) (wz : (Lit.int .u16 z).wf = true) (w : World) :
    Calls Try.prog 8 #[.string a0, .agg #[.int .u16 a, .int .u32 b], .agg #[.int .u16 x, .int .u16 y, .int .u16 z]] w fun e w' => e = .returned (.bool true) ∧ RowKit.Below w.heap.size w w' := by
  obtain ⟨a, rfl, ha⟩ := wf_u16 wa
  obtain ⟨b, rfl⟩ := wf_u32 wb
  obtain ⟨x, rfl, hx⟩ := wf_u16 wx
  obtain ⟨y, rfl, hy⟩ := wf_u16 wy
  obtain ⟨z, rfl, hz⟩ := wf_u16 wz
  exact detects_walk a0 a b x y z w0 ha hx hy hz w
end Go.Proofs.Ytigilgkgkjkebaa
