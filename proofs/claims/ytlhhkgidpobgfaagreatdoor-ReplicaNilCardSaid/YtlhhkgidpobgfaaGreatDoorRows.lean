/-
  NARROWER THAN 'FOR EVERY INPUT', by the rows' own cells (each row's printed sentence says how): ReplicaDiffers: laid · ReplicaForgets: laid · ReplicaAgain: laid · ReplicaDigests: laid · ReplicaRuns: laid · ReplicaClones: laid · ReplicaNil: laid.
  DERIVED. THE GIVEN ROWS OF THIS SEAT. 7 by the template 'for every input the law returns true; each argument reads behind the call as it read before'; 0 by the template 'total and deterministic' (their statements: YtlhhkgidpobgfaaGreatDoorTotals.lean).
  GIVEN WITH THE SEED: the statements are not yours to turn. If you find one false, say at which input.
  Laid BY PROGRAM, IN A SANDBOX (cutbox-rows.mjs): the forced cells as the released guide's own fill.sh prints them over the translation 59c629e46a2bbc62… (all of the seat's roots in one cut). By AI agents, Wed Nov 11 2026. No macro, syntax, notation, axiom, sorry.
-/
import Derived.Test.YtlhhkgidpobgfaaGreatDoorChecked
import GoSem.Claim
import GoSem.ClaimJoined
import GoSem.ClaimMapViews
import Derived.JoinedTies
import Derived.KernelRfl
namespace Go.Proofs.YtlhhkgidpobgfaaGreatDoor
/- THE CELL 'sum', in the pinned program and in every row, IS THE sha256 OF THE DUMP (.gsa) THAT YtlhhkgidpobgfaaGreatDoorProg.lean LOADS. Nothing in Lean hashes anything: it is a label: what it is worth is what the hold of that sum in a sandbox is worth. -/
noncomputable def Tryz.pinned : Pinned := { name := "ytlhhkgidpobgfaagreatdoor", sum := "59c629e46a2bbc62ebdafc5b2f115dec95bed5d71a8c427c664c76551322c216", checked := Tryz.checked }
namespace Rows
def none {H : Type} : Left H := { results := [], args := [] }

/- WHAT THE LISTED PACKAGE-LEVEL VARIABLES READ AS WHEN THE CALL BEGINS. Each datum BY PROGRAM (the guide's laid-datum.mjs) off the statement by which the dump's own 'gosem.cut.vars' lays the variable. In a bare row this is a premise. The card (YtlhhkgidpobgfaaGreatDoorCards.lean) ties it to the program's text. -/
def laid_math_bits_deBruijn32tab {H : Type} : DataW H := .agg [.lit (.int .u8 0), .lit (.int .u8 1), .lit (.int .u8 28), .lit (.int .u8 2), .lit (.int .u8 29), .lit (.int .u8 14), .lit (.int .u8 24), .lit (.int .u8 3), .lit (.int .u8 30), .lit (.int .u8 22), .lit (.int .u8 20), .lit (.int .u8 15), .lit (.int .u8 25), .lit (.int .u8 17), .lit (.int .u8 4), .lit (.int .u8 8), .lit (.int .u8 31), .lit (.int .u8 27), .lit (.int .u8 13), .lit (.int .u8 23), .lit (.int .u8 21), .lit (.int .u8 19), .lit (.int .u8 16), .lit (.int .u8 7), .lit (.int .u8 26), .lit (.int .u8 12), .lit (.int .u8 18), .lit (.int .u8 6), .lit (.int .u8 11), .lit (.int .u8 5), .lit (.int .u8 10), .lit (.int .u8 9)]
def laid_math_bits_deBruijn64tab {H : Type} : DataW H := .agg [.lit (.int .u8 0), .lit (.int .u8 1), .lit (.int .u8 56), .lit (.int .u8 2), .lit (.int .u8 57), .lit (.int .u8 49), .lit (.int .u8 28), .lit (.int .u8 3), .lit (.int .u8 61), .lit (.int .u8 58), .lit (.int .u8 42), .lit (.int .u8 50), .lit (.int .u8 38), .lit (.int .u8 29), .lit (.int .u8 17), .lit (.int .u8 4), .lit (.int .u8 62), .lit (.int .u8 47), .lit (.int .u8 59), .lit (.int .u8 36), .lit (.int .u8 45), .lit (.int .u8 43), .lit (.int .u8 51), .lit (.int .u8 22), .lit (.int .u8 53), .lit (.int .u8 39), .lit (.int .u8 33), .lit (.int .u8 30), .lit (.int .u8 24), .lit (.int .u8 18), .lit (.int .u8 12), .lit (.int .u8 5), .lit (.int .u8 63), .lit (.int .u8 55), .lit (.int .u8 48), .lit (.int .u8 27), .lit (.int .u8 60), .lit (.int .u8 41), .lit (.int .u8 37), .lit (.int .u8 16), .lit (.int .u8 46), .lit (.int .u8 35), .lit (.int .u8 44), .lit (.int .u8 21), .lit (.int .u8 52), .lit (.int .u8 32), .lit (.int .u8 23), .lit (.int .u8 11), .lit (.int .u8 54), .lit (.int .u8 26), .lit (.int .u8 40), .lit (.int .u8 15), .lit (.int .u8 34), .lit (.int .u8 20), .lit (.int .u8 31), .lit (.int .u8 10), .lit (.int .u8 25), .lit (.int .u8 14), .lit (.int .u8 19), .lit (.int .u8 9), .lit (.int .u8 13), .lit (.int .u8 8), .lit (.int .u8 7), .lit (.int .u8 6)]

/-- 'sleuthlaw34.ReplicaDiffers': WHATEVER THE INPUT: true; the input reads as it did. -/
def replicaDiffersSpec : ChangeSpec := { name := "replicaDiffers", fn := fun _ => fun
  | [d1, d2, d3] => { results := [.lit (.bool true)], args := [d1, d2, d3] }
  | _ => none }
def replicaDiffersRow : OpenClaim := { program := "ytlhhkgidpobgfaagreatdoor", sum := "59c629e46a2bbc62ebdafc5b2f115dec95bed5d71a8c427c664c76551322c216", func := "sleuth/sleuthlaw34.ReplicaDiffers", spec := "replicaDiffers", inPlace := ["maps.clone"], unfollowed := true, recurses := true, named := ["math/bits.deBruijn32tab", "math/bits.deBruijn64tab"], plainKeys := false, apart := false, laid := [("math/bits.deBruijn32tab", laid_math_bits_deBruijn32tab), ("math/bits.deBruijn64tab", laid_math_bits_deBruijn64tab)] }
def ReplicaDiffersSaid : Prop := replicaDiffersRow.holds Tryz.pinned (OpenSpec.ofChange replicaDiffersSpec)

/-- ITS FALSE NEIGHBOUR: 'it returns false'. Refute it at one input. -/
def replicaDiffersWrong : ChangeSpec := { name := "replicaDiffers", fn := fun _ => fun
  | [d1, d2, d3] => { results := [.lit (.bool false)], args := [d1, d2, d3] }
  | _ => none }
def ReplicaDiffersWrongFalsely : Prop := replicaDiffersRow.holds Tryz.pinned (OpenSpec.ofChange replicaDiffersWrong)

/-- 'sleuthlaw34.ReplicaForgets': WHATEVER THE INPUT: true; the input reads as it did. -/
def replicaForgetsSpec : ChangeSpec := { name := "replicaForgets", fn := fun _ => fun
  | [d1, d2, d3] => { results := [.lit (.bool true)], args := [d1, d2, d3] }
  | _ => none }
def replicaForgetsRow : OpenClaim := { program := "ytlhhkgidpobgfaagreatdoor", sum := "59c629e46a2bbc62ebdafc5b2f115dec95bed5d71a8c427c664c76551322c216", func := "sleuth/sleuthlaw34.ReplicaForgets", spec := "replicaForgets", inPlace := ["maps.clone"], unfollowed := true, recurses := true, named := ["math/bits.deBruijn32tab", "math/bits.deBruijn64tab"], plainKeys := false, apart := false, laid := [("math/bits.deBruijn32tab", laid_math_bits_deBruijn32tab), ("math/bits.deBruijn64tab", laid_math_bits_deBruijn64tab)] }
def ReplicaForgetsSaid : Prop := replicaForgetsRow.holds Tryz.pinned (OpenSpec.ofChange replicaForgetsSpec)

/-- ITS FALSE NEIGHBOUR: 'it returns false'. Refute it at one input. -/
def replicaForgetsWrong : ChangeSpec := { name := "replicaForgets", fn := fun _ => fun
  | [d1, d2, d3] => { results := [.lit (.bool false)], args := [d1, d2, d3] }
  | _ => none }
def ReplicaForgetsWrongFalsely : Prop := replicaForgetsRow.holds Tryz.pinned (OpenSpec.ofChange replicaForgetsWrong)

/-- 'sleuthlaw34.ReplicaAgain': WHATEVER THE INPUT: true; the input reads as it did. -/
def replicaAgainSpec : ChangeSpec := { name := "replicaAgain", fn := fun _ => fun
  | [d1, d2, d3] => { results := [.lit (.bool true)], args := [d1, d2, d3] }
  | _ => none }
def replicaAgainRow : OpenClaim := { program := "ytlhhkgidpobgfaagreatdoor", sum := "59c629e46a2bbc62ebdafc5b2f115dec95bed5d71a8c427c664c76551322c216", func := "sleuth/sleuthlaw34.ReplicaAgain", spec := "replicaAgain", inPlace := ["maps.clone"], unfollowed := true, recurses := true, named := ["math/bits.deBruijn32tab", "math/bits.deBruijn64tab"], plainKeys := false, apart := false, laid := [("math/bits.deBruijn32tab", laid_math_bits_deBruijn32tab), ("math/bits.deBruijn64tab", laid_math_bits_deBruijn64tab)] }
def ReplicaAgainSaid : Prop := replicaAgainRow.holds Tryz.pinned (OpenSpec.ofChange replicaAgainSpec)

/-- ITS FALSE NEIGHBOUR: 'it returns false'. Refute it at one input. -/
def replicaAgainWrong : ChangeSpec := { name := "replicaAgain", fn := fun _ => fun
  | [d1, d2, d3] => { results := [.lit (.bool false)], args := [d1, d2, d3] }
  | _ => none }
def ReplicaAgainWrongFalsely : Prop := replicaAgainRow.holds Tryz.pinned (OpenSpec.ofChange replicaAgainWrong)

/-- 'sleuthlaw34.ReplicaDigests': WHATEVER THE INPUT: true; the input reads as it did. -/
def replicaDigestsSpec : ChangeSpec := { name := "replicaDigests", fn := fun _ => fun
  | [d1, d2, d3] => { results := [.lit (.bool true)], args := [d1, d2, d3] }
  | _ => none }
def replicaDigestsRow : OpenClaim := { program := "ytlhhkgidpobgfaagreatdoor", sum := "59c629e46a2bbc62ebdafc5b2f115dec95bed5d71a8c427c664c76551322c216", func := "sleuth/sleuthlaw34.ReplicaDigests", spec := "replicaDigests", inPlace := ["maps.clone"], unfollowed := true, recurses := true, named := ["math/bits.deBruijn32tab", "math/bits.deBruijn64tab"], plainKeys := false, apart := false, laid := [("math/bits.deBruijn32tab", laid_math_bits_deBruijn32tab), ("math/bits.deBruijn64tab", laid_math_bits_deBruijn64tab)] }
def ReplicaDigestsSaid : Prop := replicaDigestsRow.holds Tryz.pinned (OpenSpec.ofChange replicaDigestsSpec)

/-- ITS FALSE NEIGHBOUR: 'it returns false'. Refute it at one input. -/
def replicaDigestsWrong : ChangeSpec := { name := "replicaDigests", fn := fun _ => fun
  | [d1, d2, d3] => { results := [.lit (.bool false)], args := [d1, d2, d3] }
  | _ => none }
def ReplicaDigestsWrongFalsely : Prop := replicaDigestsRow.holds Tryz.pinned (OpenSpec.ofChange replicaDigestsWrong)

/-- 'sleuthlaw34.ReplicaRuns': WHATEVER THE INPUT: true; the input reads as it did. -/
def replicaRunsSpec : ChangeSpec := { name := "replicaRuns", fn := fun _ => fun
  | [d1, d2, d3] => { results := [.lit (.bool true)], args := [d1, d2, d3] }
  | _ => none }
def replicaRunsRow : OpenClaim := { program := "ytlhhkgidpobgfaagreatdoor", sum := "59c629e46a2bbc62ebdafc5b2f115dec95bed5d71a8c427c664c76551322c216", func := "sleuth/sleuthlaw34.ReplicaRuns", spec := "replicaRuns", inPlace := ["maps.clone"], unfollowed := true, recurses := true, named := ["math/bits.deBruijn32tab", "math/bits.deBruijn64tab"], plainKeys := false, apart := false, laid := [("math/bits.deBruijn32tab", laid_math_bits_deBruijn32tab), ("math/bits.deBruijn64tab", laid_math_bits_deBruijn64tab)] }
def ReplicaRunsSaid : Prop := replicaRunsRow.holds Tryz.pinned (OpenSpec.ofChange replicaRunsSpec)

/-- ITS FALSE NEIGHBOUR: 'it returns false'. Refute it at one input. -/
def replicaRunsWrong : ChangeSpec := { name := "replicaRuns", fn := fun _ => fun
  | [d1, d2, d3] => { results := [.lit (.bool false)], args := [d1, d2, d3] }
  | _ => none }
def ReplicaRunsWrongFalsely : Prop := replicaRunsRow.holds Tryz.pinned (OpenSpec.ofChange replicaRunsWrong)

/-- 'sleuthlaw34.ReplicaClones': WHATEVER THE INPUT: true; the input reads as it did. -/
def replicaClonesSpec : ChangeSpec := { name := "replicaClones", fn := fun _ => fun
  | [d1, d2, d3] => { results := [.lit (.bool true)], args := [d1, d2, d3] }
  | _ => none }
def replicaClonesRow : OpenClaim := { program := "ytlhhkgidpobgfaagreatdoor", sum := "59c629e46a2bbc62ebdafc5b2f115dec95bed5d71a8c427c664c76551322c216", func := "sleuth/sleuthlaw34.ReplicaClones", spec := "replicaClones", inPlace := ["maps.clone"], unfollowed := true, recurses := true, named := ["math/bits.deBruijn32tab", "math/bits.deBruijn64tab"], plainKeys := false, apart := false, laid := [("math/bits.deBruijn32tab", laid_math_bits_deBruijn32tab), ("math/bits.deBruijn64tab", laid_math_bits_deBruijn64tab)] }
def ReplicaClonesSaid : Prop := replicaClonesRow.holds Tryz.pinned (OpenSpec.ofChange replicaClonesSpec)

/-- ITS FALSE NEIGHBOUR: 'it returns false'. Refute it at one input. -/
def replicaClonesWrong : ChangeSpec := { name := "replicaClones", fn := fun _ => fun
  | [d1, d2, d3] => { results := [.lit (.bool false)], args := [d1, d2, d3] }
  | _ => none }
def ReplicaClonesWrongFalsely : Prop := replicaClonesRow.holds Tryz.pinned (OpenSpec.ofChange replicaClonesWrong)

/-- 'sleuthlaw34.ReplicaNil': WHATEVER THE INPUT: true; the input reads as it did. -/
def replicaNilSpec : ChangeSpec := { name := "replicaNil", fn := fun _ => fun
  | [d1, d2] => { results := [.lit (.bool true)], args := [d1, d2] }
  | _ => none }
def replicaNilRow : OpenClaim := { program := "ytlhhkgidpobgfaagreatdoor", sum := "59c629e46a2bbc62ebdafc5b2f115dec95bed5d71a8c427c664c76551322c216", func := "sleuth/sleuthlaw34.ReplicaNil", spec := "replicaNil", inPlace := ["maps.clone"], unfollowed := true, recurses := true, named := ["math/bits.deBruijn32tab", "math/bits.deBruijn64tab"], plainKeys := false, apart := false, laid := [("math/bits.deBruijn32tab", laid_math_bits_deBruijn32tab), ("math/bits.deBruijn64tab", laid_math_bits_deBruijn64tab)] }
def ReplicaNilSaid : Prop := replicaNilRow.holds Tryz.pinned (OpenSpec.ofChange replicaNilSpec)

/-- ITS FALSE NEIGHBOUR: 'it returns false'. Refute it at one input. -/
def replicaNilWrong : ChangeSpec := { name := "replicaNil", fn := fun _ => fun
  | [d1, d2] => { results := [.lit (.bool false)], args := [d1, d2] }
  | _ => none }
def ReplicaNilWrongFalsely : Prop := replicaNilRow.holds Tryz.pinned (OpenSpec.ofChange replicaNilWrong)

/- THE SECOND FORM. 'bulk': how many values and letters a reading holds, each counted each time it is reached (what is shared counts as often as it is met; a slice's spare places count too). A statement '..UptoSaid' is the law's where the arguments, and the package variables that the reading takes, are together of bulk at most 1048576: NARROWER than '..Said'. Prove '..Said' where nothing that the law and all that it calls make is longer than what came in: it says more and counts as full. Else prove '..UptoSaid'. A law counts once. -/
mutual
def uptoBulk {H : Type} : DataW H → Nat
  | .lit (.string bytes) => bytes.length + 1
  | .lit _ => 1
  | .nil => 1
  | .ptr d => uptoBulk d + 1
  | .slice elems spare => uptoBulkAll elems + uptoBulkAll spare + 1
  | .agg parts => uptoBulkAll parts + 1
  | .iface _ d => uptoBulk d + 1
  | .map entries => uptoBulkEntries entries + 1
  | .held _ => 1
def uptoBulkAll {H : Type} : List (DataW H) → Nat
  | [] => 0
  | d :: r => uptoBulk d + uptoBulkAll r
def uptoBulkEntries {H : Type} : List (Lit × DataW H) → Nat
  | [] => 0
  | x :: r => uptoBulkEntry x + uptoBulkEntries r
def uptoBulkEntry {H : Type} : Lit × DataW H → Nat
  | (.string bytes, d) => bytes.length + uptoBulk d + 1
  | (_, d) => uptoBulk d + 1
 end
def uptoSmall : (H : Type) → List (DataW H) → Bool := fun _ ds => decide (uptoBulkAll ds ≤ 1048576)
def OpenSpec.upto (s : _root_.Go.ChangeSpec) : _root_.Go.OpenSpec := { _root_.Go.OpenSpec.ofChange s with cond := some uptoSmall }

/-- 'sleuthlaw34.ReplicaDiffers', WHERE WHAT IT READS IS OF BULK AT MOST 1048576: true; the input reads as it did. -/
def replicaDiffersUptoRow : OpenClaim := { program := "ytlhhkgidpobgfaagreatdoor", sum := "59c629e46a2bbc62ebdafc5b2f115dec95bed5d71a8c427c664c76551322c216", func := "sleuth/sleuthlaw34.ReplicaDiffers", spec := "replicaDiffers", inPlace := ["maps.clone"], unfollowed := true, recurses := true, named := ["math/bits.deBruijn32tab", "math/bits.deBruijn64tab"], plainKeys := false, apart := false, laid := [("math/bits.deBruijn32tab", laid_math_bits_deBruijn32tab), ("math/bits.deBruijn64tab", laid_math_bits_deBruijn64tab)], narrowed := true }
def ReplicaDiffersUptoSaid : Prop := replicaDiffersUptoRow.holds Tryz.pinned (OpenSpec.upto replicaDiffersSpec)

/-- 'sleuthlaw34.ReplicaForgets', WHERE WHAT IT READS IS OF BULK AT MOST 1048576: true; the input reads as it did. -/
def replicaForgetsUptoRow : OpenClaim := { program := "ytlhhkgidpobgfaagreatdoor", sum := "59c629e46a2bbc62ebdafc5b2f115dec95bed5d71a8c427c664c76551322c216", func := "sleuth/sleuthlaw34.ReplicaForgets", spec := "replicaForgets", inPlace := ["maps.clone"], unfollowed := true, recurses := true, named := ["math/bits.deBruijn32tab", "math/bits.deBruijn64tab"], plainKeys := false, apart := false, laid := [("math/bits.deBruijn32tab", laid_math_bits_deBruijn32tab), ("math/bits.deBruijn64tab", laid_math_bits_deBruijn64tab)], narrowed := true }
def ReplicaForgetsUptoSaid : Prop := replicaForgetsUptoRow.holds Tryz.pinned (OpenSpec.upto replicaForgetsSpec)

/-- 'sleuthlaw34.ReplicaAgain', WHERE WHAT IT READS IS OF BULK AT MOST 1048576: true; the input reads as it did. -/
def replicaAgainUptoRow : OpenClaim := { program := "ytlhhkgidpobgfaagreatdoor", sum := "59c629e46a2bbc62ebdafc5b2f115dec95bed5d71a8c427c664c76551322c216", func := "sleuth/sleuthlaw34.ReplicaAgain", spec := "replicaAgain", inPlace := ["maps.clone"], unfollowed := true, recurses := true, named := ["math/bits.deBruijn32tab", "math/bits.deBruijn64tab"], plainKeys := false, apart := false, laid := [("math/bits.deBruijn32tab", laid_math_bits_deBruijn32tab), ("math/bits.deBruijn64tab", laid_math_bits_deBruijn64tab)], narrowed := true }
def ReplicaAgainUptoSaid : Prop := replicaAgainUptoRow.holds Tryz.pinned (OpenSpec.upto replicaAgainSpec)

/-- 'sleuthlaw34.ReplicaDigests', WHERE WHAT IT READS IS OF BULK AT MOST 1048576: true; the input reads as it did. -/
def replicaDigestsUptoRow : OpenClaim := { program := "ytlhhkgidpobgfaagreatdoor", sum := "59c629e46a2bbc62ebdafc5b2f115dec95bed5d71a8c427c664c76551322c216", func := "sleuth/sleuthlaw34.ReplicaDigests", spec := "replicaDigests", inPlace := ["maps.clone"], unfollowed := true, recurses := true, named := ["math/bits.deBruijn32tab", "math/bits.deBruijn64tab"], plainKeys := false, apart := false, laid := [("math/bits.deBruijn32tab", laid_math_bits_deBruijn32tab), ("math/bits.deBruijn64tab", laid_math_bits_deBruijn64tab)], narrowed := true }
def ReplicaDigestsUptoSaid : Prop := replicaDigestsUptoRow.holds Tryz.pinned (OpenSpec.upto replicaDigestsSpec)

/-- 'sleuthlaw34.ReplicaRuns', WHERE WHAT IT READS IS OF BULK AT MOST 1048576: true; the input reads as it did. -/
def replicaRunsUptoRow : OpenClaim := { program := "ytlhhkgidpobgfaagreatdoor", sum := "59c629e46a2bbc62ebdafc5b2f115dec95bed5d71a8c427c664c76551322c216", func := "sleuth/sleuthlaw34.ReplicaRuns", spec := "replicaRuns", inPlace := ["maps.clone"], unfollowed := true, recurses := true, named := ["math/bits.deBruijn32tab", "math/bits.deBruijn64tab"], plainKeys := false, apart := false, laid := [("math/bits.deBruijn32tab", laid_math_bits_deBruijn32tab), ("math/bits.deBruijn64tab", laid_math_bits_deBruijn64tab)], narrowed := true }
def ReplicaRunsUptoSaid : Prop := replicaRunsUptoRow.holds Tryz.pinned (OpenSpec.upto replicaRunsSpec)

/-- 'sleuthlaw34.ReplicaClones', WHERE WHAT IT READS IS OF BULK AT MOST 1048576: true; the input reads as it did. -/
def replicaClonesUptoRow : OpenClaim := { program := "ytlhhkgidpobgfaagreatdoor", sum := "59c629e46a2bbc62ebdafc5b2f115dec95bed5d71a8c427c664c76551322c216", func := "sleuth/sleuthlaw34.ReplicaClones", spec := "replicaClones", inPlace := ["maps.clone"], unfollowed := true, recurses := true, named := ["math/bits.deBruijn32tab", "math/bits.deBruijn64tab"], plainKeys := false, apart := false, laid := [("math/bits.deBruijn32tab", laid_math_bits_deBruijn32tab), ("math/bits.deBruijn64tab", laid_math_bits_deBruijn64tab)], narrowed := true }
def ReplicaClonesUptoSaid : Prop := replicaClonesUptoRow.holds Tryz.pinned (OpenSpec.upto replicaClonesSpec)

/-- 'sleuthlaw34.ReplicaNil', WHERE WHAT IT READS IS OF BULK AT MOST 1048576: true; the input reads as it did. -/
def replicaNilUptoRow : OpenClaim := { program := "ytlhhkgidpobgfaagreatdoor", sum := "59c629e46a2bbc62ebdafc5b2f115dec95bed5d71a8c427c664c76551322c216", func := "sleuth/sleuthlaw34.ReplicaNil", spec := "replicaNil", inPlace := ["maps.clone"], unfollowed := true, recurses := true, named := ["math/bits.deBruijn32tab", "math/bits.deBruijn64tab"], plainKeys := false, apart := false, laid := [("math/bits.deBruijn32tab", laid_math_bits_deBruijn32tab), ("math/bits.deBruijn64tab", laid_math_bits_deBruijn64tab)], narrowed := true }
def ReplicaNilUptoSaid : Prop := replicaNilUptoRow.holds Tryz.pinned (OpenSpec.upto replicaNilSpec)

end Rows
end Go.Proofs.YtlhhkgidpobgfaaGreatDoor
