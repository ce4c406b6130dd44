/-
  No cell of these rows narrows 'for every input' (looked for: loops, veiled, ifaces, maps, wideKeys, modest, calm, conditions, laid).
  DERIVED. THE GIVEN ROWS OF THIS SEAT. 3 by the template 'for every input the law returns true; each argument reads behind the call as it read before'; 0 by the template 'total and deterministic' (their statements: YtnddlpfmagdbfaaGreatTotals.lean).
  GIVEN WITH THE SEED: the statements are not yours to turn. If you find one false, say at which input.
  Laid BY PROGRAM, IN A SANDBOX (cutbox-rows.mjs): the forced cells as the released guide's own fill.sh prints them over the translation ffaa1ef011c6f456… (all of the seat's roots in one cut). By AI agents, Wed Nov 11 2026. No macro, syntax, notation, axiom, sorry.
-/
import Derived.Test.YtnddlpfmagdbfaaGreatChecked
import GoSem.Claim
import GoSem.ClaimJoined
import GoSem.ClaimMapViews
import Derived.JoinedTies
import Derived.KernelRfl
namespace Go.Proofs.YtnddlpfmagdbfaaGreat
/- THE CELL 'sum', in the pinned program and in every row, IS THE sha256 OF THE DUMP (.gsa) THAT YtnddlpfmagdbfaaGreatProg.lean LOADS. Nothing in Lean hashes anything: it is a label: what it is worth is what the hold of that sum in a sandbox is worth. -/
noncomputable def Tryz.pinned : Pinned := { name := "ytnddlpfmagdbfaagreat", sum := "ffaa1ef011c6f456719d00a29132fb360055cacb889fedc99bbeb47f06f9cfdc", checked := Tryz.checked }
namespace Rows
def none {H : Type} : Left H := { results := [], args := [] }

/-- 'sleuthlaw24.SamplingKeeps': WHATEVER THE INPUT: true; the input reads as it did. -/
def samplingKeepsSpec : ChangeSpec := { name := "samplingKeeps", fn := fun _ => fun
  | [d1, d2, d3] => { results := [.lit (.bool true)], args := [d1, d2, d3] }
  | _ => none }
def samplingKeepsRow : OpenClaim := { program := "ytnddlpfmagdbfaagreat", sum := "ffaa1ef011c6f456719d00a29132fb360055cacb889fedc99bbeb47f06f9cfdc", func := "sleuth/sleuthlaw24.SamplingKeeps", spec := "samplingKeeps", unfollowed := true, recurses := true, apart := false }
def SamplingKeepsSaid : Prop := samplingKeepsRow.holds Tryz.pinned (OpenSpec.ofChange samplingKeepsSpec)

/-- ITS FALSE NEIGHBOUR: 'it returns false'. Refute it at one input. -/
def samplingKeepsWrong : ChangeSpec := { name := "samplingKeeps", fn := fun _ => fun
  | [d1, d2, d3] => { results := [.lit (.bool false)], args := [d1, d2, d3] }
  | _ => none }
def SamplingKeepsWrongFalsely : Prop := samplingKeepsRow.holds Tryz.pinned (OpenSpec.ofChange samplingKeepsWrong)

/-- 'sleuthlaw24.SamplingExponents': WHATEVER THE INPUT: true; the input reads as it did. -/
def samplingExponentsSpec : ChangeSpec := { name := "samplingExponents", fn := fun _ => fun
  | [d1, d2] => { results := [.lit (.bool true)], args := [d1, d2] }
  | _ => none }
def samplingExponentsRow : OpenClaim := { program := "ytnddlpfmagdbfaagreat", sum := "ffaa1ef011c6f456719d00a29132fb360055cacb889fedc99bbeb47f06f9cfdc", func := "sleuth/sleuthlaw24.SamplingExponents", spec := "samplingExponents", unfollowed := true, recurses := true, apart := false }
def SamplingExponentsSaid : Prop := samplingExponentsRow.holds Tryz.pinned (OpenSpec.ofChange samplingExponentsSpec)

/-- ITS FALSE NEIGHBOUR: 'it returns false'. Refute it at one input. -/
def samplingExponentsWrong : ChangeSpec := { name := "samplingExponents", fn := fun _ => fun
  | [d1, d2] => { results := [.lit (.bool false)], args := [d1, d2] }
  | _ => none }
def SamplingExponentsWrongFalsely : Prop := samplingExponentsRow.holds Tryz.pinned (OpenSpec.ofChange samplingExponentsWrong)

/-- 'sleuthlaw24.SamplingSeeds': WHATEVER THE INPUT: true; the input reads as it did. -/
def samplingSeedsSpec : ChangeSpec := { name := "samplingSeeds", fn := fun _ => fun
  | [d1, d2] => { results := [.lit (.bool true)], args := [d1, d2] }
  | _ => none }
def samplingSeedsRow : OpenClaim := { program := "ytnddlpfmagdbfaagreat", sum := "ffaa1ef011c6f456719d00a29132fb360055cacb889fedc99bbeb47f06f9cfdc", func := "sleuth/sleuthlaw24.SamplingSeeds", spec := "samplingSeeds", unfollowed := true, recurses := true, apart := false }
def SamplingSeedsSaid : Prop := samplingSeedsRow.holds Tryz.pinned (OpenSpec.ofChange samplingSeedsSpec)

/-- ITS FALSE NEIGHBOUR: 'it returns false'. Refute it at one input. -/
def samplingSeedsWrong : ChangeSpec := { name := "samplingSeeds", fn := fun _ => fun
  | [d1, d2] => { results := [.lit (.bool false)], args := [d1, d2] }
  | _ => none }
def SamplingSeedsWrongFalsely : Prop := samplingSeedsRow.holds Tryz.pinned (OpenSpec.ofChange samplingSeedsWrong)

/- THE SECOND FORM. 'bulk': how many values and letters a reading holds, each counted each time it is reached (what is shared counts as often as it is met; a slice's spare places count too). A statement '..UptoSaid' is the law's where the arguments, and the package variables that the reading takes, are together of bulk at most 1048576: NARROWER than '..Said'. Prove '..Said' where nothing that the law and all that it calls make is longer than what came in: it says more and counts as full. Else prove '..UptoSaid'. A law counts once. -/
mutual
def uptoBulk {H : Type} : DataW H → Nat
  | .lit (.string bytes) => bytes.length + 1
  | .lit _ => 1
  | .nil => 1
  | .ptr d => uptoBulk d + 1
  | .slice elems spare => uptoBulkAll elems + uptoBulkAll spare + 1
  | .agg parts => uptoBulkAll parts + 1
  | .iface _ d => uptoBulk d + 1
  | .map entries => uptoBulkEntries entries + 1
  | .held _ => 1
def uptoBulkAll {H : Type} : List (DataW H) → Nat
  | [] => 0
  | d :: r => uptoBulk d + uptoBulkAll r
def uptoBulkEntries {H : Type} : List (Lit × DataW H) → Nat
  | [] => 0
  | x :: r => uptoBulkEntry x + uptoBulkEntries r
def uptoBulkEntry {H : Type} : Lit × DataW H → Nat
  | (.string bytes, d) => bytes.length + uptoBulk d + 1
  | (_, d) => uptoBulk d + 1
 end
def uptoSmall : (H : Type) → List (DataW H) → Bool := fun _ ds => decide (uptoBulkAll ds ≤ 1048576)
def OpenSpec.upto (s : _root_.Go.ChangeSpec) : _root_.Go.OpenSpec := { _root_.Go.OpenSpec.ofChange s with cond := some uptoSmall }

/-- 'sleuthlaw24.SamplingKeeps', WHERE WHAT IT READS IS OF BULK AT MOST 1048576: true; the input reads as it did. -/
def samplingKeepsUptoRow : OpenClaim := { program := "ytnddlpfmagdbfaagreat", sum := "ffaa1ef011c6f456719d00a29132fb360055cacb889fedc99bbeb47f06f9cfdc", func := "sleuth/sleuthlaw24.SamplingKeeps", spec := "samplingKeeps", unfollowed := true, recurses := true, apart := false, narrowed := true }
def SamplingKeepsUptoSaid : Prop := samplingKeepsUptoRow.holds Tryz.pinned (OpenSpec.upto samplingKeepsSpec)

/-- 'sleuthlaw24.SamplingExponents', WHERE WHAT IT READS IS OF BULK AT MOST 1048576: true; the input reads as it did. -/
def samplingExponentsUptoRow : OpenClaim := { program := "ytnddlpfmagdbfaagreat", sum := "ffaa1ef011c6f456719d00a29132fb360055cacb889fedc99bbeb47f06f9cfdc", func := "sleuth/sleuthlaw24.SamplingExponents", spec := "samplingExponents", unfollowed := true, recurses := true, apart := false, narrowed := true }
def SamplingExponentsUptoSaid : Prop := samplingExponentsUptoRow.holds Tryz.pinned (OpenSpec.upto samplingExponentsSpec)

/-- 'sleuthlaw24.SamplingSeeds', WHERE WHAT IT READS IS OF BULK AT MOST 1048576: true; the input reads as it did. -/
def samplingSeedsUptoRow : OpenClaim := { program := "ytnddlpfmagdbfaagreat", sum := "ffaa1ef011c6f456719d00a29132fb360055cacb889fedc99bbeb47f06f9cfdc", func := "sleuth/sleuthlaw24.SamplingSeeds", spec := "samplingSeeds", unfollowed := true, recurses := true, apart := false, narrowed := true }
def SamplingSeedsUptoSaid : Prop := samplingSeedsUptoRow.holds Tryz.pinned (OpenSpec.upto samplingSeedsSpec)

end Rows
end Go.Proofs.YtnddlpfmagdbfaaGreat
