/-
  NARROWER THAN 'FOR EVERY INPUT', by the rows' own cells (each row's printed sentence says how): RetentionChecks: loops, laid · RetentionTiers: laid · RetentionForgets: laid · RetentionRuns: laid · RetentionCounts: laid · RetentionAdds: laid · RetentionSteps: laid · RetentionRefuses: laid · RetentionCopies: laid · RetentionNil: laid.
  DERIVED. THE GIVEN ROWS OF THIS SEAT. 10 by the template 'for every input the law returns true; each argument reads behind the call as it read before'; 0 by the template 'total and deterministic' (their statements: YtmhmnbaoanennaaGreatDoorTotals.lean).
  GIVEN WITH THE SEED: the statements are not yours to turn. If you find one false, say at which input.
  Laid BY PROGRAM, IN A SANDBOX (cutbox-rows.mjs): the forced cells as the released guide's own fill.sh prints them over the translation 9e0ca0363dcb1c90… (all of the seat's roots in one cut). By AI agents, Wed Nov 11 2026. No macro, syntax, notation, axiom, sorry.
-/
import Derived.Test.YtmhmnbaoanennaaGreatDoorChecked
import GoSem.Claim
import GoSem.ClaimJoined
import GoSem.ClaimMapViews
import Derived.JoinedTies
import Derived.KernelRfl
namespace Go.Proofs.YtmhmnbaoanennaaGreatDoor
/- THE CELL 'sum', in the pinned program and in every row, IS THE sha256 OF THE DUMP (.gsa) THAT YtmhmnbaoanennaaGreatDoorProg.lean LOADS. Nothing in Lean hashes anything: it is a label: what it is worth is what the hold of that sum in a sandbox is worth. -/
noncomputable def Tryz.pinned : Pinned := { name := "ytmhmnbaoanennaagreatdoor", sum := "9e0ca0363dcb1c90e595af0c26d84e2a5edec4619a6471cf0b0b27d7cb5ca547", checked := Tryz.checked }
namespace Rows
def none {H : Type} : Left H := { results := [], args := [] }

/- WHAT THE LISTED PACKAGE-LEVEL VARIABLES READ AS WHEN THE CALL BEGINS. Each datum BY PROGRAM (the guide's laid-datum.mjs) off the statement by which the dump's own 'gosem.cut.vars' lays the variable. In a bare row this is a premise. The card (YtmhmnbaoanennaaGreatDoorCards.lean) ties it to the program's text. -/
def laid_math_bits_deBruijn32tab {H : Type} : DataW H := .agg [.lit (.int .u8 0), .lit (.int .u8 1), .lit (.int .u8 28), .lit (.int .u8 2), .lit (.int .u8 29), .lit (.int .u8 14), .lit (.int .u8 24), .lit (.int .u8 3), .lit (.int .u8 30), .lit (.int .u8 22), .lit (.int .u8 20), .lit (.int .u8 15), .lit (.int .u8 25), .lit (.int .u8 17), .lit (.int .u8 4), .lit (.int .u8 8), .lit (.int .u8 31), .lit (.int .u8 27), .lit (.int .u8 13), .lit (.int .u8 23), .lit (.int .u8 21), .lit (.int .u8 19), .lit (.int .u8 16), .lit (.int .u8 7), .lit (.int .u8 26), .lit (.int .u8 12), .lit (.int .u8 18), .lit (.int .u8 6), .lit (.int .u8 11), .lit (.int .u8 5), .lit (.int .u8 10), .lit (.int .u8 9)]
def laid_math_bits_deBruijn64tab {H : Type} : DataW H := .agg [.lit (.int .u8 0), .lit (.int .u8 1), .lit (.int .u8 56), .lit (.int .u8 2), .lit (.int .u8 57), .lit (.int .u8 49), .lit (.int .u8 28), .lit (.int .u8 3), .lit (.int .u8 61), .lit (.int .u8 58), .lit (.int .u8 42), .lit (.int .u8 50), .lit (.int .u8 38), .lit (.int .u8 29), .lit (.int .u8 17), .lit (.int .u8 4), .lit (.int .u8 62), .lit (.int .u8 47), .lit (.int .u8 59), .lit (.int .u8 36), .lit (.int .u8 45), .lit (.int .u8 43), .lit (.int .u8 51), .lit (.int .u8 22), .lit (.int .u8 53), .lit (.int .u8 39), .lit (.int .u8 33), .lit (.int .u8 30), .lit (.int .u8 24), .lit (.int .u8 18), .lit (.int .u8 12), .lit (.int .u8 5), .lit (.int .u8 63), .lit (.int .u8 55), .lit (.int .u8 48), .lit (.int .u8 27), .lit (.int .u8 60), .lit (.int .u8 41), .lit (.int .u8 37), .lit (.int .u8 16), .lit (.int .u8 46), .lit (.int .u8 35), .lit (.int .u8 44), .lit (.int .u8 21), .lit (.int .u8 52), .lit (.int .u8 32), .lit (.int .u8 23), .lit (.int .u8 11), .lit (.int .u8 54), .lit (.int .u8 26), .lit (.int .u8 40), .lit (.int .u8 15), .lit (.int .u8 34), .lit (.int .u8 20), .lit (.int .u8 31), .lit (.int .u8 10), .lit (.int .u8 25), .lit (.int .u8 14), .lit (.int .u8 19), .lit (.int .u8 9), .lit (.int .u8 13), .lit (.int .u8 8), .lit (.int .u8 7), .lit (.int .u8 6)]

/-- 'sleuthlaw33.RetentionChecks': WHATEVER THE INPUT: true; the input reads as it did. -/
def retentionChecksSpec : ChangeSpec := { name := "retentionChecks", fn := fun _ => fun
  | [d1, d2] => { results := [.lit (.bool true)], args := [d1, d2] }
  | _ => none }
def retentionChecksRow : OpenClaim := { program := "ytmhmnbaoanennaagreatdoor", sum := "9e0ca0363dcb1c90e595af0c26d84e2a5edec4619a6471cf0b0b27d7cb5ca547", func := "sleuth/sleuthlaw33.RetentionChecks", spec := "retentionChecks", unfollowed := true, recurses := true, named := ["math/bits.deBruijn32tab", "math/bits.deBruijn64tab"], loops := true, plainKeys := false, apart := false, laid := [("math/bits.deBruijn32tab", laid_math_bits_deBruijn32tab), ("math/bits.deBruijn64tab", laid_math_bits_deBruijn64tab)] }
def RetentionChecksSaid : Prop := retentionChecksRow.holds Tryz.pinned (OpenSpec.ofChange retentionChecksSpec)

/-- ITS FALSE NEIGHBOUR: 'it returns false'. Refute it at one input. -/
def retentionChecksWrong : ChangeSpec := { name := "retentionChecks", fn := fun _ => fun
  | [d1, d2] => { results := [.lit (.bool false)], args := [d1, d2] }
  | _ => none }
def RetentionChecksWrongFalsely : Prop := retentionChecksRow.holds Tryz.pinned (OpenSpec.ofChange retentionChecksWrong)

/-- 'sleuthlaw33.RetentionTiers': WHATEVER THE INPUT: true; the input reads as it did. -/
def retentionTiersSpec : ChangeSpec := { name := "retentionTiers", fn := fun _ => fun
  | [d1, d2, d3] => { results := [.lit (.bool true)], args := [d1, d2, d3] }
  | _ => none }
def retentionTiersRow : OpenClaim := { program := "ytmhmnbaoanennaagreatdoor", sum := "9e0ca0363dcb1c90e595af0c26d84e2a5edec4619a6471cf0b0b27d7cb5ca547", func := "sleuth/sleuthlaw33.RetentionTiers", spec := "retentionTiers", unfollowed := true, recurses := true, named := ["math/bits.deBruijn32tab", "math/bits.deBruijn64tab"], plainKeys := false, apart := false, laid := [("math/bits.deBruijn32tab", laid_math_bits_deBruijn32tab), ("math/bits.deBruijn64tab", laid_math_bits_deBruijn64tab)] }
def RetentionTiersSaid : Prop := retentionTiersRow.holds Tryz.pinned (OpenSpec.ofChange retentionTiersSpec)

/-- ITS FALSE NEIGHBOUR: 'it returns false'. Refute it at one input. -/
def retentionTiersWrong : ChangeSpec := { name := "retentionTiers", fn := fun _ => fun
  | [d1, d2, d3] => { results := [.lit (.bool false)], args := [d1, d2, d3] }
  | _ => none }
def RetentionTiersWrongFalsely : Prop := retentionTiersRow.holds Tryz.pinned (OpenSpec.ofChange retentionTiersWrong)

/-- 'sleuthlaw33.RetentionForgets': WHATEVER THE INPUT: true; the input reads as it did. -/
def retentionForgetsSpec : ChangeSpec := { name := "retentionForgets", fn := fun _ => fun
  | [d1, d2, d3] => { results := [.lit (.bool true)], args := [d1, d2, d3] }
  | _ => none }
def retentionForgetsRow : OpenClaim := { program := "ytmhmnbaoanennaagreatdoor", sum := "9e0ca0363dcb1c90e595af0c26d84e2a5edec4619a6471cf0b0b27d7cb5ca547", func := "sleuth/sleuthlaw33.RetentionForgets", spec := "retentionForgets", unfollowed := true, recurses := true, named := ["math/bits.deBruijn32tab", "math/bits.deBruijn64tab"], plainKeys := false, apart := false, laid := [("math/bits.deBruijn32tab", laid_math_bits_deBruijn32tab), ("math/bits.deBruijn64tab", laid_math_bits_deBruijn64tab)] }
def RetentionForgetsSaid : Prop := retentionForgetsRow.holds Tryz.pinned (OpenSpec.ofChange retentionForgetsSpec)

/-- ITS FALSE NEIGHBOUR: 'it returns false'. Refute it at one input. -/
def retentionForgetsWrong : ChangeSpec := { name := "retentionForgets", fn := fun _ => fun
  | [d1, d2, d3] => { results := [.lit (.bool false)], args := [d1, d2, d3] }
  | _ => none }
def RetentionForgetsWrongFalsely : Prop := retentionForgetsRow.holds Tryz.pinned (OpenSpec.ofChange retentionForgetsWrong)

/-- 'sleuthlaw33.RetentionRuns': WHATEVER THE INPUT: true; the input reads as it did. -/
def retentionRunsSpec : ChangeSpec := { name := "retentionRuns", fn := fun _ => fun
  | [d1, d2, d3] => { results := [.lit (.bool true)], args := [d1, d2, d3] }
  | _ => none }
def retentionRunsRow : OpenClaim := { program := "ytmhmnbaoanennaagreatdoor", sum := "9e0ca0363dcb1c90e595af0c26d84e2a5edec4619a6471cf0b0b27d7cb5ca547", func := "sleuth/sleuthlaw33.RetentionRuns", spec := "retentionRuns", unfollowed := true, recurses := true, named := ["math/bits.deBruijn32tab", "math/bits.deBruijn64tab"], plainKeys := false, apart := false, laid := [("math/bits.deBruijn32tab", laid_math_bits_deBruijn32tab), ("math/bits.deBruijn64tab", laid_math_bits_deBruijn64tab)] }
def RetentionRunsSaid : Prop := retentionRunsRow.holds Tryz.pinned (OpenSpec.ofChange retentionRunsSpec)

/-- ITS FALSE NEIGHBOUR: 'it returns false'. Refute it at one input. -/
def retentionRunsWrong : ChangeSpec := { name := "retentionRuns", fn := fun _ => fun
  | [d1, d2, d3] => { results := [.lit (.bool false)], args := [d1, d2, d3] }
  | _ => none }
def RetentionRunsWrongFalsely : Prop := retentionRunsRow.holds Tryz.pinned (OpenSpec.ofChange retentionRunsWrong)

/-- 'sleuthlaw33.RetentionCounts': WHATEVER THE INPUT: true; the input reads as it did. -/
def retentionCountsSpec : ChangeSpec := { name := "retentionCounts", fn := fun _ => fun
  | [d1, d2, d3] => { results := [.lit (.bool true)], args := [d1, d2, d3] }
  | _ => none }
def retentionCountsRow : OpenClaim := { program := "ytmhmnbaoanennaagreatdoor", sum := "9e0ca0363dcb1c90e595af0c26d84e2a5edec4619a6471cf0b0b27d7cb5ca547", func := "sleuth/sleuthlaw33.RetentionCounts", spec := "retentionCounts", unfollowed := true, recurses := true, named := ["math/bits.deBruijn32tab", "math/bits.deBruijn64tab"], plainKeys := false, apart := false, laid := [("math/bits.deBruijn32tab", laid_math_bits_deBruijn32tab), ("math/bits.deBruijn64tab", laid_math_bits_deBruijn64tab)] }
def RetentionCountsSaid : Prop := retentionCountsRow.holds Tryz.pinned (OpenSpec.ofChange retentionCountsSpec)

/-- ITS FALSE NEIGHBOUR: 'it returns false'. Refute it at one input. -/
def retentionCountsWrong : ChangeSpec := { name := "retentionCounts", fn := fun _ => fun
  | [d1, d2, d3] => { results := [.lit (.bool false)], args := [d1, d2, d3] }
  | _ => none }
def RetentionCountsWrongFalsely : Prop := retentionCountsRow.holds Tryz.pinned (OpenSpec.ofChange retentionCountsWrong)

/-- 'sleuthlaw33.RetentionAdds': WHATEVER THE INPUT: true; the input reads as it did. -/
def retentionAddsSpec : ChangeSpec := { name := "retentionAdds", fn := fun _ => fun
  | [d1, d2, d3] => { results := [.lit (.bool true)], args := [d1, d2, d3] }
  | _ => none }
def retentionAddsRow : OpenClaim := { program := "ytmhmnbaoanennaagreatdoor", sum := "9e0ca0363dcb1c90e595af0c26d84e2a5edec4619a6471cf0b0b27d7cb5ca547", func := "sleuth/sleuthlaw33.RetentionAdds", spec := "retentionAdds", unfollowed := true, recurses := true, named := ["math/bits.deBruijn32tab", "math/bits.deBruijn64tab"], plainKeys := false, apart := false, laid := [("math/bits.deBruijn32tab", laid_math_bits_deBruijn32tab), ("math/bits.deBruijn64tab", laid_math_bits_deBruijn64tab)] }
def RetentionAddsSaid : Prop := retentionAddsRow.holds Tryz.pinned (OpenSpec.ofChange retentionAddsSpec)

/-- ITS FALSE NEIGHBOUR: 'it returns false'. Refute it at one input. -/
def retentionAddsWrong : ChangeSpec := { name := "retentionAdds", fn := fun _ => fun
  | [d1, d2, d3] => { results := [.lit (.bool false)], args := [d1, d2, d3] }
  | _ => none }
def RetentionAddsWrongFalsely : Prop := retentionAddsRow.holds Tryz.pinned (OpenSpec.ofChange retentionAddsWrong)

/-- 'sleuthlaw33.RetentionSteps': WHATEVER THE INPUT: true; the input reads as it did. -/
def retentionStepsSpec : ChangeSpec := { name := "retentionSteps", fn := fun _ => fun
  | [d1, d2, d3] => { results := [.lit (.bool true)], args := [d1, d2, d3] }
  | _ => none }
def retentionStepsRow : OpenClaim := { program := "ytmhmnbaoanennaagreatdoor", sum := "9e0ca0363dcb1c90e595af0c26d84e2a5edec4619a6471cf0b0b27d7cb5ca547", func := "sleuth/sleuthlaw33.RetentionSteps", spec := "retentionSteps", inPlace := ["maps.clone"], unfollowed := true, recurses := true, named := ["math/bits.deBruijn32tab", "math/bits.deBruijn64tab"], plainKeys := false, apart := false, laid := [("math/bits.deBruijn32tab", laid_math_bits_deBruijn32tab), ("math/bits.deBruijn64tab", laid_math_bits_deBruijn64tab)] }
def RetentionStepsSaid : Prop := retentionStepsRow.holds Tryz.pinned (OpenSpec.ofChange retentionStepsSpec)

/-- ITS FALSE NEIGHBOUR: 'it returns false'. Refute it at one input. -/
def retentionStepsWrong : ChangeSpec := { name := "retentionSteps", fn := fun _ => fun
  | [d1, d2, d3] => { results := [.lit (.bool false)], args := [d1, d2, d3] }
  | _ => none }
def RetentionStepsWrongFalsely : Prop := retentionStepsRow.holds Tryz.pinned (OpenSpec.ofChange retentionStepsWrong)

/-- 'sleuthlaw33.RetentionRefuses': WHATEVER THE INPUT: true; the input reads as it did. -/
def retentionRefusesSpec : ChangeSpec := { name := "retentionRefuses", fn := fun _ => fun
  | [d1, d2, d3] => { results := [.lit (.bool true)], args := [d1, d2, d3] }
  | _ => none }
def retentionRefusesRow : OpenClaim := { program := "ytmhmnbaoanennaagreatdoor", sum := "9e0ca0363dcb1c90e595af0c26d84e2a5edec4619a6471cf0b0b27d7cb5ca547", func := "sleuth/sleuthlaw33.RetentionRefuses", spec := "retentionRefuses", inPlace := ["maps.clone"], unfollowed := true, recurses := true, named := ["math/bits.deBruijn32tab", "math/bits.deBruijn64tab"], plainKeys := false, apart := false, laid := [("math/bits.deBruijn32tab", laid_math_bits_deBruijn32tab), ("math/bits.deBruijn64tab", laid_math_bits_deBruijn64tab)] }
def RetentionRefusesSaid : Prop := retentionRefusesRow.holds Tryz.pinned (OpenSpec.ofChange retentionRefusesSpec)

/-- ITS FALSE NEIGHBOUR: 'it returns false'. Refute it at one input. -/
def retentionRefusesWrong : ChangeSpec := { name := "retentionRefuses", fn := fun _ => fun
  | [d1, d2, d3] => { results := [.lit (.bool false)], args := [d1, d2, d3] }
  | _ => none }
def RetentionRefusesWrongFalsely : Prop := retentionRefusesRow.holds Tryz.pinned (OpenSpec.ofChange retentionRefusesWrong)

/-- 'sleuthlaw33.RetentionCopies': WHATEVER THE INPUT: true; the input reads as it did. -/
def retentionCopiesSpec : ChangeSpec := { name := "retentionCopies", fn := fun _ => fun
  | [d1, d2, d3] => { results := [.lit (.bool true)], args := [d1, d2, d3] }
  | _ => none }
def retentionCopiesRow : OpenClaim := { program := "ytmhmnbaoanennaagreatdoor", sum := "9e0ca0363dcb1c90e595af0c26d84e2a5edec4619a6471cf0b0b27d7cb5ca547", func := "sleuth/sleuthlaw33.RetentionCopies", spec := "retentionCopies", inPlace := ["maps.clone"], unfollowed := true, recurses := true, named := ["math/bits.deBruijn32tab", "math/bits.deBruijn64tab"], plainKeys := false, apart := false, laid := [("math/bits.deBruijn32tab", laid_math_bits_deBruijn32tab), ("math/bits.deBruijn64tab", laid_math_bits_deBruijn64tab)] }
def RetentionCopiesSaid : Prop := retentionCopiesRow.holds Tryz.pinned (OpenSpec.ofChange retentionCopiesSpec)

/-- ITS FALSE NEIGHBOUR: 'it returns false'. Refute it at one input. -/
def retentionCopiesWrong : ChangeSpec := { name := "retentionCopies", fn := fun _ => fun
  | [d1, d2, d3] => { results := [.lit (.bool false)], args := [d1, d2, d3] }
  | _ => none }
def RetentionCopiesWrongFalsely : Prop := retentionCopiesRow.holds Tryz.pinned (OpenSpec.ofChange retentionCopiesWrong)

/-- 'sleuthlaw33.RetentionNil': WHATEVER THE INPUT: true; the input reads as it did. -/
def retentionNilSpec : ChangeSpec := { name := "retentionNil", fn := fun _ => fun
  | [d1, d2] => { results := [.lit (.bool true)], args := [d1, d2] }
  | _ => none }
def retentionNilRow : OpenClaim := { program := "ytmhmnbaoanennaagreatdoor", sum := "9e0ca0363dcb1c90e595af0c26d84e2a5edec4619a6471cf0b0b27d7cb5ca547", func := "sleuth/sleuthlaw33.RetentionNil", spec := "retentionNil", inPlace := ["maps.clone"], unfollowed := true, recurses := true, named := ["math/bits.deBruijn32tab", "math/bits.deBruijn64tab"], plainKeys := false, apart := false, laid := [("math/bits.deBruijn32tab", laid_math_bits_deBruijn32tab), ("math/bits.deBruijn64tab", laid_math_bits_deBruijn64tab)] }
def RetentionNilSaid : Prop := retentionNilRow.holds Tryz.pinned (OpenSpec.ofChange retentionNilSpec)

/-- ITS FALSE NEIGHBOUR: 'it returns false'. Refute it at one input. -/
def retentionNilWrong : ChangeSpec := { name := "retentionNil", fn := fun _ => fun
  | [d1, d2] => { results := [.lit (.bool false)], args := [d1, d2] }
  | _ => none }
def RetentionNilWrongFalsely : Prop := retentionNilRow.holds Tryz.pinned (OpenSpec.ofChange retentionNilWrong)

/- THE SECOND FORM. 'bulk': how many values and letters a reading holds, each counted each time it is reached (what is shared counts as often as it is met; a slice's spare places count too). A statement '..UptoSaid' is the law's where the arguments, and the package variables that the reading takes, are together of bulk at most 1048576: NARROWER than '..Said'. Prove '..Said' where nothing that the law and all that it calls make is longer than what came in: it says more and counts as full. Else prove '..UptoSaid'. A law counts once. -/
mutual
def uptoBulk {H : Type} : DataW H → Nat
  | .lit (.string bytes) => bytes.length + 1
  | .lit _ => 1
  | .nil => 1
  | .ptr d => uptoBulk d + 1
  | .slice elems spare => uptoBulkAll elems + uptoBulkAll spare + 1
  | .agg parts => uptoBulkAll parts + 1
  | .iface _ d => uptoBulk d + 1
  | .map entries => uptoBulkEntries entries + 1
  | .held _ => 1
def uptoBulkAll {H : Type} : List (DataW H) → Nat
  | [] => 0
  | d :: r => uptoBulk d + uptoBulkAll r
def uptoBulkEntries {H : Type} : List (Lit × DataW H) → Nat
  | [] => 0
  | x :: r => uptoBulkEntry x + uptoBulkEntries r
def uptoBulkEntry {H : Type} : Lit × DataW H → Nat
  | (.string bytes, d) => bytes.length + uptoBulk d + 1
  | (_, d) => uptoBulk d + 1
 end
def uptoSmall : (H : Type) → List (DataW H) → Bool := fun _ ds => decide (uptoBulkAll ds ≤ 1048576)
def OpenSpec.upto (s : _root_.Go.ChangeSpec) : _root_.Go.OpenSpec := { _root_.Go.OpenSpec.ofChange s with cond := some uptoSmall }

/-- 'sleuthlaw33.RetentionChecks', WHERE WHAT IT READS IS OF BULK AT MOST 1048576: true; the input reads as it did. -/
def retentionChecksUptoRow : OpenClaim := { program := "ytmhmnbaoanennaagreatdoor", sum := "9e0ca0363dcb1c90e595af0c26d84e2a5edec4619a6471cf0b0b27d7cb5ca547", func := "sleuth/sleuthlaw33.RetentionChecks", spec := "retentionChecks", unfollowed := true, recurses := true, named := ["math/bits.deBruijn32tab", "math/bits.deBruijn64tab"], loops := true, plainKeys := false, apart := false, laid := [("math/bits.deBruijn32tab", laid_math_bits_deBruijn32tab), ("math/bits.deBruijn64tab", laid_math_bits_deBruijn64tab)], narrowed := true }
def RetentionChecksUptoSaid : Prop := retentionChecksUptoRow.holds Tryz.pinned (OpenSpec.upto retentionChecksSpec)

/-- 'sleuthlaw33.RetentionTiers', WHERE WHAT IT READS IS OF BULK AT MOST 1048576: true; the input reads as it did. -/
def retentionTiersUptoRow : OpenClaim := { program := "ytmhmnbaoanennaagreatdoor", sum := "9e0ca0363dcb1c90e595af0c26d84e2a5edec4619a6471cf0b0b27d7cb5ca547", func := "sleuth/sleuthlaw33.RetentionTiers", spec := "retentionTiers", unfollowed := true, recurses := true, named := ["math/bits.deBruijn32tab", "math/bits.deBruijn64tab"], plainKeys := false, apart := false, laid := [("math/bits.deBruijn32tab", laid_math_bits_deBruijn32tab), ("math/bits.deBruijn64tab", laid_math_bits_deBruijn64tab)], narrowed := true }
def RetentionTiersUptoSaid : Prop := retentionTiersUptoRow.holds Tryz.pinned (OpenSpec.upto retentionTiersSpec)

/-- 'sleuthlaw33.RetentionForgets', WHERE WHAT IT READS IS OF BULK AT MOST 1048576: true; the input reads as it did. -/
def retentionForgetsUptoRow : OpenClaim := { program := "ytmhmnbaoanennaagreatdoor", sum := "9e0ca0363dcb1c90e595af0c26d84e2a5edec4619a6471cf0b0b27d7cb5ca547", func := "sleuth/sleuthlaw33.RetentionForgets", spec := "retentionForgets", unfollowed := true, recurses := true, named := ["math/bits.deBruijn32tab", "math/bits.deBruijn64tab"], plainKeys := false, apart := false, laid := [("math/bits.deBruijn32tab", laid_math_bits_deBruijn32tab), ("math/bits.deBruijn64tab", laid_math_bits_deBruijn64tab)], narrowed := true }
def RetentionForgetsUptoSaid : Prop := retentionForgetsUptoRow.holds Tryz.pinned (OpenSpec.upto retentionForgetsSpec)

/-- 'sleuthlaw33.RetentionRuns', WHERE WHAT IT READS IS OF BULK AT MOST 1048576: true; the input reads as it did. -/
def retentionRunsUptoRow : OpenClaim := { program := "ytmhmnbaoanennaagreatdoor", sum := "9e0ca0363dcb1c90e595af0c26d84e2a5edec4619a6471cf0b0b27d7cb5ca547", func := "sleuth/sleuthlaw33.RetentionRuns", spec := "retentionRuns", unfollowed := true, recurses := true, named := ["math/bits.deBruijn32tab", "math/bits.deBruijn64tab"], plainKeys := false, apart := false, laid := [("math/bits.deBruijn32tab", laid_math_bits_deBruijn32tab), ("math/bits.deBruijn64tab", laid_math_bits_deBruijn64tab)], narrowed := true }
def RetentionRunsUptoSaid : Prop := retentionRunsUptoRow.holds Tryz.pinned (OpenSpec.upto retentionRunsSpec)

/-- 'sleuthlaw33.RetentionCounts', WHERE WHAT IT READS IS OF BULK AT MOST 1048576: true; the input reads as it did. -/
def retentionCountsUptoRow : OpenClaim := { program := "ytmhmnbaoanennaagreatdoor", sum := "9e0ca0363dcb1c90e595af0c26d84e2a5edec4619a6471cf0b0b27d7cb5ca547", func := "sleuth/sleuthlaw33.RetentionCounts", spec := "retentionCounts", unfollowed := true, recurses := true, named := ["math/bits.deBruijn32tab", "math/bits.deBruijn64tab"], plainKeys := false, apart := false, laid := [("math/bits.deBruijn32tab", laid_math_bits_deBruijn32tab), ("math/bits.deBruijn64tab", laid_math_bits_deBruijn64tab)], narrowed := true }
def RetentionCountsUptoSaid : Prop := retentionCountsUptoRow.holds Tryz.pinned (OpenSpec.upto retentionCountsSpec)

/-- 'sleuthlaw33.RetentionAdds', WHERE WHAT IT READS IS OF BULK AT MOST 1048576: true; the input reads as it did. -/
def retentionAddsUptoRow : OpenClaim := { program := "ytmhmnbaoanennaagreatdoor", sum := "9e0ca0363dcb1c90e595af0c26d84e2a5edec4619a6471cf0b0b27d7cb5ca547", func := "sleuth/sleuthlaw33.RetentionAdds", spec := "retentionAdds", unfollowed := true, recurses := true, named := ["math/bits.deBruijn32tab", "math/bits.deBruijn64tab"], plainKeys := false, apart := false, laid := [("math/bits.deBruijn32tab", laid_math_bits_deBruijn32tab), ("math/bits.deBruijn64tab", laid_math_bits_deBruijn64tab)], narrowed := true }
def RetentionAddsUptoSaid : Prop := retentionAddsUptoRow.holds Tryz.pinned (OpenSpec.upto retentionAddsSpec)

/-- 'sleuthlaw33.RetentionSteps', WHERE WHAT IT READS IS OF BULK AT MOST 1048576: true; the input reads as it did. -/
def retentionStepsUptoRow : OpenClaim := { program := "ytmhmnbaoanennaagreatdoor", sum := "9e0ca0363dcb1c90e595af0c26d84e2a5edec4619a6471cf0b0b27d7cb5ca547", func := "sleuth/sleuthlaw33.RetentionSteps", spec := "retentionSteps", inPlace := ["maps.clone"], unfollowed := true, recurses := true, named := ["math/bits.deBruijn32tab", "math/bits.deBruijn64tab"], plainKeys := false, apart := false, laid := [("math/bits.deBruijn32tab", laid_math_bits_deBruijn32tab), ("math/bits.deBruijn64tab", laid_math_bits_deBruijn64tab)], narrowed := true }
def RetentionStepsUptoSaid : Prop := retentionStepsUptoRow.holds Tryz.pinned (OpenSpec.upto retentionStepsSpec)

/-- 'sleuthlaw33.RetentionRefuses', WHERE WHAT IT READS IS OF BULK AT MOST 1048576: true; the input reads as it did. -/
def retentionRefusesUptoRow : OpenClaim := { program := "ytmhmnbaoanennaagreatdoor", sum := "9e0ca0363dcb1c90e595af0c26d84e2a5edec4619a6471cf0b0b27d7cb5ca547", func := "sleuth/sleuthlaw33.RetentionRefuses", spec := "retentionRefuses", inPlace := ["maps.clone"], unfollowed := true, recurses := true, named := ["math/bits.deBruijn32tab", "math/bits.deBruijn64tab"], plainKeys := false, apart := false, laid := [("math/bits.deBruijn32tab", laid_math_bits_deBruijn32tab), ("math/bits.deBruijn64tab", laid_math_bits_deBruijn64tab)], narrowed := true }
def RetentionRefusesUptoSaid : Prop := retentionRefusesUptoRow.holds Tryz.pinned (OpenSpec.upto retentionRefusesSpec)

/-- 'sleuthlaw33.RetentionCopies', WHERE WHAT IT READS IS OF BULK AT MOST 1048576: true; the input reads as it did. -/
def retentionCopiesUptoRow : OpenClaim := { program := "ytmhmnbaoanennaagreatdoor", sum := "9e0ca0363dcb1c90e595af0c26d84e2a5edec4619a6471cf0b0b27d7cb5ca547", func := "sleuth/sleuthlaw33.RetentionCopies", spec := "retentionCopies", inPlace := ["maps.clone"], unfollowed := true, recurses := true, named := ["math/bits.deBruijn32tab", "math/bits.deBruijn64tab"], plainKeys := false, apart := false, laid := [("math/bits.deBruijn32tab", laid_math_bits_deBruijn32tab), ("math/bits.deBruijn64tab", laid_math_bits_deBruijn64tab)], narrowed := true }
def RetentionCopiesUptoSaid : Prop := retentionCopiesUptoRow.holds Tryz.pinned (OpenSpec.upto retentionCopiesSpec)

/-- 'sleuthlaw33.RetentionNil', WHERE WHAT IT READS IS OF BULK AT MOST 1048576: true; the input reads as it did. -/
def retentionNilUptoRow : OpenClaim := { program := "ytmhmnbaoanennaagreatdoor", sum := "9e0ca0363dcb1c90e595af0c26d84e2a5edec4619a6471cf0b0b27d7cb5ca547", func := "sleuth/sleuthlaw33.RetentionNil", spec := "retentionNil", inPlace := ["maps.clone"], unfollowed := true, recurses := true, named := ["math/bits.deBruijn32tab", "math/bits.deBruijn64tab"], plainKeys := false, apart := false, laid := [("math/bits.deBruijn32tab", laid_math_bits_deBruijn32tab), ("math/bits.deBruijn64tab", laid_math_bits_deBruijn64tab)], narrowed := true }
def RetentionNilUptoSaid : Prop := retentionNilUptoRow.holds Tryz.pinned (OpenSpec.upto retentionNilSpec)

end Rows
end Go.Proofs.YtmhmnbaoanennaaGreatDoor
