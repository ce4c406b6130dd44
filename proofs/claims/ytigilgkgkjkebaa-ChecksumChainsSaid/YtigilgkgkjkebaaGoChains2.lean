/- Walk of the law ChecksumChains, at the row's own numbers. -/
import Derived.Test.YtigilgkgkjkebaaGoChains
import Derived.Test.YtigilgkgkjkebaaGoAssociates
namespace Go.Proofs.Ytigilgkgkjkebaa
open Go.RowKit Go.Proofs.YtigilgkgkjkebaaW.PrintWords
theorem chains_row (w : World) (A : Option Addr) (c : Nat) (l : List ByteArray) (B : Option Addr) (d : Nat) (u : List (BitVec 32)) (a : Int)
    (y0 : l.length ≤ c) (z0 : l.length ≤ maxLen) (w0 : Kd.C Kd.string w A l.length l) (_y1 : u.length ≤ d) (z1 : u.length ≤ maxLen) (w1 : RdU w B u) (wa : (Lit.int .u32 a).wf = true) :
    Calls Try.prog 11 #[.slice A l.length c, .slice B u.length d, .int .u32 a] w fun e w' => e = .returned (.bool true) ∧ Below w.heap.size w w' := by
  obtain ⟨p, rfl⟩ := wf_u32 wa
  exact chains_walk A B c d l u p z0 z1 w w0 y0 w1
end Go.Proofs.Ytigilgkgkjkebaa
