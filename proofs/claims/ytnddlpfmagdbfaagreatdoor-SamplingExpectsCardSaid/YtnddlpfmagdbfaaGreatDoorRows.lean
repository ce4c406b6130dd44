/-
  NARROWER THAN 'FOR EVERY INPUT', by the rows' own cells (each row's printed sentence says how): SamplingChecks: loops, laid · SamplingSamples: laid · SamplingTwice: laid · SamplingExpects: laid · SamplingAlone: laid.
  DERIVED. THE GIVEN ROWS OF THIS SEAT. 5 by the template 'for every input the law returns true; each argument reads behind the call as it read before'; 0 by the template 'total and deterministic' (their statements: YtnddlpfmagdbfaaGreatDoorTotals.lean).
  GIVEN WITH THE SEED: the statements are not yours to turn. If you find one false, say at which input.
  Laid BY PROGRAM, IN A SANDBOX (cutbox-rows.mjs): the forced cells as the released guide's own fill.sh prints them over the translation 939cbb3988e51407… (all of the seat's roots in one cut). By AI agents, Wed Nov 11 2026. No macro, syntax, notation, axiom, sorry.
-/
import Derived.Test.YtnddlpfmagdbfaaGreatDoorChecked
import GoSem.Claim
import GoSem.ClaimJoined
import GoSem.ClaimMapViews
import Derived.JoinedTies
import Derived.KernelRfl
namespace Go.Proofs.YtnddlpfmagdbfaaGreatDoor
/- THE CELL 'sum', in the pinned program and in every row, IS THE sha256 OF THE DUMP (.gsa) THAT YtnddlpfmagdbfaaGreatDoorProg.lean LOADS. Nothing in Lean hashes anything: it is a label: what it is worth is what the hold of that sum in a sandbox is worth. -/
noncomputable def Tryz.pinned : Pinned := { name := "ytnddlpfmagdbfaagreatdoor", sum := "939cbb3988e5140742d7d858dfcfb55fba7bf1222f18c95a3bc90b70437e4439", checked := Tryz.checked }
namespace Rows
def none {H : Type} : Left H := { results := [], args := [] }

/- WHAT THE LISTED PACKAGE-LEVEL VARIABLES READ AS WHEN THE CALL BEGINS. Each datum BY PROGRAM (the guide's laid-datum.mjs) off the statement by which the dump's own 'gosem.cut.vars' lays the variable. In a bare row this is a premise. The card (YtnddlpfmagdbfaaGreatDoorCards.lean) ties it to the program's text. -/
def laid_math_bits_deBruijn32tab {H : Type} : DataW H := .agg [.lit (.int .u8 0), .lit (.int .u8 1), .lit (.int .u8 28), .lit (.int .u8 2), .lit (.int .u8 29), .lit (.int .u8 14), .lit (.int .u8 24), .lit (.int .u8 3), .lit (.int .u8 30), .lit (.int .u8 22), .lit (.int .u8 20), .lit (.int .u8 15), .lit (.int .u8 25), .lit (.int .u8 17), .lit (.int .u8 4), .lit (.int .u8 8), .lit (.int .u8 31), .lit (.int .u8 27), .lit (.int .u8 13), .lit (.int .u8 23), .lit (.int .u8 21), .lit (.int .u8 19), .lit (.int .u8 16), .lit (.int .u8 7), .lit (.int .u8 26), .lit (.int .u8 12), .lit (.int .u8 18), .lit (.int .u8 6), .lit (.int .u8 11), .lit (.int .u8 5), .lit (.int .u8 10), .lit (.int .u8 9)]
def laid_math_bits_deBruijn64tab {H : Type} : DataW H := .agg [.lit (.int .u8 0), .lit (.int .u8 1), .lit (.int .u8 56), .lit (.int .u8 2), .lit (.int .u8 57), .lit (.int .u8 49), .lit (.int .u8 28), .lit (.int .u8 3), .lit (.int .u8 61), .lit (.int .u8 58), .lit (.int .u8 42), .lit (.int .u8 50), .lit (.int .u8 38), .lit (.int .u8 29), .lit (.int .u8 17), .lit (.int .u8 4), .lit (.int .u8 62), .lit (.int .u8 47), .lit (.int .u8 59), .lit (.int .u8 36), .lit (.int .u8 45), .lit (.int .u8 43), .lit (.int .u8 51), .lit (.int .u8 22), .lit (.int .u8 53), .lit (.int .u8 39), .lit (.int .u8 33), .lit (.int .u8 30), .lit (.int .u8 24), .lit (.int .u8 18), .lit (.int .u8 12), .lit (.int .u8 5), .lit (.int .u8 63), .lit (.int .u8 55), .lit (.int .u8 48), .lit (.int .u8 27), .lit (.int .u8 60), .lit (.int .u8 41), .lit (.int .u8 37), .lit (.int .u8 16), .lit (.int .u8 46), .lit (.int .u8 35), .lit (.int .u8 44), .lit (.int .u8 21), .lit (.int .u8 52), .lit (.int .u8 32), .lit (.int .u8 23), .lit (.int .u8 11), .lit (.int .u8 54), .lit (.int .u8 26), .lit (.int .u8 40), .lit (.int .u8 15), .lit (.int .u8 34), .lit (.int .u8 20), .lit (.int .u8 31), .lit (.int .u8 10), .lit (.int .u8 25), .lit (.int .u8 14), .lit (.int .u8 19), .lit (.int .u8 9), .lit (.int .u8 13), .lit (.int .u8 8), .lit (.int .u8 7), .lit (.int .u8 6)]

/-- 'sleuthlaw24.SamplingChecks': WHATEVER THE INPUT: true; the input reads as it did. -/
def samplingChecksSpec : ChangeSpec := { name := "samplingChecks", fn := fun _ => fun
  | [d1, d2, d3] => { results := [.lit (.bool true)], args := [d1, d2, d3] }
  | _ => none }
def samplingChecksRow : OpenClaim := { program := "ytnddlpfmagdbfaagreatdoor", sum := "939cbb3988e5140742d7d858dfcfb55fba7bf1222f18c95a3bc90b70437e4439", func := "sleuth/sleuthlaw24.SamplingChecks", spec := "samplingChecks", unfollowed := true, recurses := true, named := ["math/bits.deBruijn32tab", "math/bits.deBruijn64tab"], loops := true, apart := false, laid := [("math/bits.deBruijn32tab", laid_math_bits_deBruijn32tab), ("math/bits.deBruijn64tab", laid_math_bits_deBruijn64tab)] }
def SamplingChecksSaid : Prop := samplingChecksRow.holds Tryz.pinned (OpenSpec.ofChange samplingChecksSpec)

/-- ITS FALSE NEIGHBOUR: 'it returns false'. Refute it at one input. -/
def samplingChecksWrong : ChangeSpec := { name := "samplingChecks", fn := fun _ => fun
  | [d1, d2, d3] => { results := [.lit (.bool false)], args := [d1, d2, d3] }
  | _ => none }
def SamplingChecksWrongFalsely : Prop := samplingChecksRow.holds Tryz.pinned (OpenSpec.ofChange samplingChecksWrong)

/-- 'sleuthlaw24.SamplingSamples': WHATEVER THE INPUT: true; the input reads as it did. -/
def samplingSamplesSpec : ChangeSpec := { name := "samplingSamples", fn := fun _ => fun
  | [d1, d2, d3] => { results := [.lit (.bool true)], args := [d1, d2, d3] }
  | _ => none }
def samplingSamplesRow : OpenClaim := { program := "ytnddlpfmagdbfaagreatdoor", sum := "939cbb3988e5140742d7d858dfcfb55fba7bf1222f18c95a3bc90b70437e4439", func := "sleuth/sleuthlaw24.SamplingSamples", spec := "samplingSamples", unfollowed := true, recurses := true, named := ["math/bits.deBruijn32tab", "math/bits.deBruijn64tab"], apart := false, laid := [("math/bits.deBruijn32tab", laid_math_bits_deBruijn32tab), ("math/bits.deBruijn64tab", laid_math_bits_deBruijn64tab)] }
def SamplingSamplesSaid : Prop := samplingSamplesRow.holds Tryz.pinned (OpenSpec.ofChange samplingSamplesSpec)

/-- ITS FALSE NEIGHBOUR: 'it returns false'. Refute it at one input. -/
def samplingSamplesWrong : ChangeSpec := { name := "samplingSamples", fn := fun _ => fun
  | [d1, d2, d3] => { results := [.lit (.bool false)], args := [d1, d2, d3] }
  | _ => none }
def SamplingSamplesWrongFalsely : Prop := samplingSamplesRow.holds Tryz.pinned (OpenSpec.ofChange samplingSamplesWrong)

/-- 'sleuthlaw24.SamplingTwice': WHATEVER THE INPUT: true; the input reads as it did. -/
def samplingTwiceSpec : ChangeSpec := { name := "samplingTwice", fn := fun _ => fun
  | [d1, d2, d3] => { results := [.lit (.bool true)], args := [d1, d2, d3] }
  | _ => none }
def samplingTwiceRow : OpenClaim := { program := "ytnddlpfmagdbfaagreatdoor", sum := "939cbb3988e5140742d7d858dfcfb55fba7bf1222f18c95a3bc90b70437e4439", func := "sleuth/sleuthlaw24.SamplingTwice", spec := "samplingTwice", unfollowed := true, recurses := true, named := ["math/bits.deBruijn32tab", "math/bits.deBruijn64tab"], apart := false, laid := [("math/bits.deBruijn32tab", laid_math_bits_deBruijn32tab), ("math/bits.deBruijn64tab", laid_math_bits_deBruijn64tab)] }
def SamplingTwiceSaid : Prop := samplingTwiceRow.holds Tryz.pinned (OpenSpec.ofChange samplingTwiceSpec)

/-- ITS FALSE NEIGHBOUR: 'it returns false'. Refute it at one input. -/
def samplingTwiceWrong : ChangeSpec := { name := "samplingTwice", fn := fun _ => fun
  | [d1, d2, d3] => { results := [.lit (.bool false)], args := [d1, d2, d3] }
  | _ => none }
def SamplingTwiceWrongFalsely : Prop := samplingTwiceRow.holds Tryz.pinned (OpenSpec.ofChange samplingTwiceWrong)

/-- 'sleuthlaw24.SamplingExpects': WHATEVER THE INPUT: true; the input reads as it did. -/
def samplingExpectsSpec : ChangeSpec := { name := "samplingExpects", fn := fun _ => fun
  | [d1, d2] => { results := [.lit (.bool true)], args := [d1, d2] }
  | _ => none }
def samplingExpectsRow : OpenClaim := { program := "ytnddlpfmagdbfaagreatdoor", sum := "939cbb3988e5140742d7d858dfcfb55fba7bf1222f18c95a3bc90b70437e4439", func := "sleuth/sleuthlaw24.SamplingExpects", spec := "samplingExpects", unfollowed := true, recurses := true, named := ["math/bits.deBruijn32tab", "math/bits.deBruijn64tab"], apart := false, laid := [("math/bits.deBruijn32tab", laid_math_bits_deBruijn32tab), ("math/bits.deBruijn64tab", laid_math_bits_deBruijn64tab)] }
def SamplingExpectsSaid : Prop := samplingExpectsRow.holds Tryz.pinned (OpenSpec.ofChange samplingExpectsSpec)

/-- ITS FALSE NEIGHBOUR: 'it returns false'. Refute it at one input. -/
def samplingExpectsWrong : ChangeSpec := { name := "samplingExpects", fn := fun _ => fun
  | [d1, d2] => { results := [.lit (.bool false)], args := [d1, d2] }
  | _ => none }
def SamplingExpectsWrongFalsely : Prop := samplingExpectsRow.holds Tryz.pinned (OpenSpec.ofChange samplingExpectsWrong)

/-- 'sleuthlaw24.SamplingAlone': WHATEVER THE INPUT: true; the input reads as it did. -/
def samplingAloneSpec : ChangeSpec := { name := "samplingAlone", fn := fun _ => fun
  | [d1, d2, d3] => { results := [.lit (.bool true)], args := [d1, d2, d3] }
  | _ => none }
def samplingAloneRow : OpenClaim := { program := "ytnddlpfmagdbfaagreatdoor", sum := "939cbb3988e5140742d7d858dfcfb55fba7bf1222f18c95a3bc90b70437e4439", func := "sleuth/sleuthlaw24.SamplingAlone", spec := "samplingAlone", unfollowed := true, recurses := true, named := ["math/bits.deBruijn32tab", "math/bits.deBruijn64tab"], apart := false, laid := [("math/bits.deBruijn32tab", laid_math_bits_deBruijn32tab), ("math/bits.deBruijn64tab", laid_math_bits_deBruijn64tab)] }
def SamplingAloneSaid : Prop := samplingAloneRow.holds Tryz.pinned (OpenSpec.ofChange samplingAloneSpec)

/-- ITS FALSE NEIGHBOUR: 'it returns false'. Refute it at one input. -/
def samplingAloneWrong : ChangeSpec := { name := "samplingAlone", fn := fun _ => fun
  | [d1, d2, d3] => { results := [.lit (.bool false)], args := [d1, d2, d3] }
  | _ => none }
def SamplingAloneWrongFalsely : Prop := samplingAloneRow.holds Tryz.pinned (OpenSpec.ofChange samplingAloneWrong)

/- THE SECOND FORM. 'bulk': how many values and letters a reading holds, each counted each time it is reached (what is shared counts as often as it is met; a slice's spare places count too). A statement '..UptoSaid' is the law's where the arguments, and the package variables that the reading takes, are together of bulk at most 1048576: NARROWER than '..Said'. Prove '..Said' where nothing that the law and all that it calls make is longer than what came in: it says more and counts as full. Else prove '..UptoSaid'. A law counts once. -/
mutual
def uptoBulk {H : Type} : DataW H → Nat
  | .lit (.string bytes) => bytes.length + 1
  | .lit _ => 1
  | .nil => 1
  | .ptr d => uptoBulk d + 1
  | .slice elems spare => uptoBulkAll elems + uptoBulkAll spare + 1
  | .agg parts => uptoBulkAll parts + 1
  | .iface _ d => uptoBulk d + 1
  | .map entries => uptoBulkEntries entries + 1
  | .held _ => 1
def uptoBulkAll {H : Type} : List (DataW H) → Nat
  | [] => 0
  | d :: r => uptoBulk d + uptoBulkAll r
def uptoBulkEntries {H : Type} : List (Lit × DataW H) → Nat
  | [] => 0
  | x :: r => uptoBulkEntry x + uptoBulkEntries r
def uptoBulkEntry {H : Type} : Lit × DataW H → Nat
  | (.string bytes, d) => bytes.length + uptoBulk d + 1
  | (_, d) => uptoBulk d + 1
 end
def uptoSmall : (H : Type) → List (DataW H) → Bool := fun _ ds => decide (uptoBulkAll ds ≤ 1048576)
def OpenSpec.upto (s : _root_.Go.ChangeSpec) : _root_.Go.OpenSpec := { _root_.Go.OpenSpec.ofChange s with cond := some uptoSmall }

/-- 'sleuthlaw24.SamplingChecks', WHERE WHAT IT READS IS OF BULK AT MOST 1048576: true; the input reads as it did. -/
def samplingChecksUptoRow : OpenClaim := { program := "ytnddlpfmagdbfaagreatdoor", sum := "939cbb3988e5140742d7d858dfcfb55fba7bf1222f18c95a3bc90b70437e4439", func := "sleuth/sleuthlaw24.SamplingChecks", spec := "samplingChecks", unfollowed := true, recurses := true, named := ["math/bits.deBruijn32tab", "math/bits.deBruijn64tab"], loops := true, apart := false, laid := [("math/bits.deBruijn32tab", laid_math_bits_deBruijn32tab), ("math/bits.deBruijn64tab", laid_math_bits_deBruijn64tab)], narrowed := true }
def SamplingChecksUptoSaid : Prop := samplingChecksUptoRow.holds Tryz.pinned (OpenSpec.upto samplingChecksSpec)

/-- 'sleuthlaw24.SamplingSamples', WHERE WHAT IT READS IS OF BULK AT MOST 1048576: true; the input reads as it did. -/
def samplingSamplesUptoRow : OpenClaim := { program := "ytnddlpfmagdbfaagreatdoor", sum := "939cbb3988e5140742d7d858dfcfb55fba7bf1222f18c95a3bc90b70437e4439", func := "sleuth/sleuthlaw24.SamplingSamples", spec := "samplingSamples", unfollowed := true, recurses := true, named := ["math/bits.deBruijn32tab", "math/bits.deBruijn64tab"], apart := false, laid := [("math/bits.deBruijn32tab", laid_math_bits_deBruijn32tab), ("math/bits.deBruijn64tab", laid_math_bits_deBruijn64tab)], narrowed := true }
def SamplingSamplesUptoSaid : Prop := samplingSamplesUptoRow.holds Tryz.pinned (OpenSpec.upto samplingSamplesSpec)

/-- 'sleuthlaw24.SamplingTwice', WHERE WHAT IT READS IS OF BULK AT MOST 1048576: true; the input reads as it did. -/
def samplingTwiceUptoRow : OpenClaim := { program := "ytnddlpfmagdbfaagreatdoor", sum := "939cbb3988e5140742d7d858dfcfb55fba7bf1222f18c95a3bc90b70437e4439", func := "sleuth/sleuthlaw24.SamplingTwice", spec := "samplingTwice", unfollowed := true, recurses := true, named := ["math/bits.deBruijn32tab", "math/bits.deBruijn64tab"], apart := false, laid := [("math/bits.deBruijn32tab", laid_math_bits_deBruijn32tab), ("math/bits.deBruijn64tab", laid_math_bits_deBruijn64tab)], narrowed := true }
def SamplingTwiceUptoSaid : Prop := samplingTwiceUptoRow.holds Tryz.pinned (OpenSpec.upto samplingTwiceSpec)

/-- 'sleuthlaw24.SamplingExpects', WHERE WHAT IT READS IS OF BULK AT MOST 1048576: true; the input reads as it did. -/
def samplingExpectsUptoRow : OpenClaim := { program := "ytnddlpfmagdbfaagreatdoor", sum := "939cbb3988e5140742d7d858dfcfb55fba7bf1222f18c95a3bc90b70437e4439", func := "sleuth/sleuthlaw24.SamplingExpects", spec := "samplingExpects", unfollowed := true, recurses := true, named := ["math/bits.deBruijn32tab", "math/bits.deBruijn64tab"], apart := false, laid := [("math/bits.deBruijn32tab", laid_math_bits_deBruijn32tab), ("math/bits.deBruijn64tab", laid_math_bits_deBruijn64tab)], narrowed := true }
def SamplingExpectsUptoSaid : Prop := samplingExpectsUptoRow.holds Tryz.pinned (OpenSpec.upto samplingExpectsSpec)

/-- 'sleuthlaw24.SamplingAlone', WHERE WHAT IT READS IS OF BULK AT MOST 1048576: true; the input reads as it did. -/
def samplingAloneUptoRow : OpenClaim := { program := "ytnddlpfmagdbfaagreatdoor", sum := "939cbb3988e5140742d7d858dfcfb55fba7bf1222f18c95a3bc90b70437e4439", func := "sleuth/sleuthlaw24.SamplingAlone", spec := "samplingAlone", unfollowed := true, recurses := true, named := ["math/bits.deBruijn32tab", "math/bits.deBruijn64tab"], apart := false, laid := [("math/bits.deBruijn32tab", laid_math_bits_deBruijn32tab), ("math/bits.deBruijn64tab", laid_math_bits_deBruijn64tab)], narrowed := true }
def SamplingAloneUptoSaid : Prop := samplingAloneUptoRow.holds Tryz.pinned (OpenSpec.upto samplingAloneSpec)

end Rows
end Go.Proofs.YtnddlpfmagdbfaaGreatDoor
