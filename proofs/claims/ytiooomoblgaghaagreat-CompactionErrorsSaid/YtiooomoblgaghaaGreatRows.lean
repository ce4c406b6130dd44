/-
  No cell of these rows narrows 'for every input' (looked for: loops, veiled, ifaces, maps, wideKeys, modest, calm, conditions, laid).
  DERIVED. THE GIVEN ROWS OF THIS SEAT. 9 by the template 'for every input the law returns true; each argument reads behind the call as it read before'; 0 by the template 'total and deterministic' (their statements: YtiooomoblgaghaaGreatTotals.lean).
  GIVEN WITH THE SEED: the statements are not yours to turn. If you find one false, say at which input.
  Laid BY PROGRAM, IN A SANDBOX (cutbox-rows.mjs): the forced cells as the released guide's own fill.sh prints them over the translation 7f854481cd579340… (all of the seat's roots in one cut). By AI agents, Wed Nov 11 2026. No macro, syntax, notation, axiom, sorry.
-/
import Derived.Test.YtiooomoblgaghaaGreatChecked
import GoSem.Claim
import GoSem.ClaimJoined
import GoSem.ClaimMapViews
import Derived.JoinedTies
import Derived.KernelRfl
namespace Go.Proofs.YtiooomoblgaghaaGreat
/- THE CELL 'sum', in the pinned program and in every row, IS THE sha256 OF THE DUMP (.gsa) THAT YtiooomoblgaghaaGreatProg.lean LOADS. Nothing in Lean hashes anything: it is a label: what it is worth is what the hold of that sum in a sandbox is worth. -/
noncomputable def Tryz.pinned : Pinned := { name := "ytiooomoblgaghaagreat", sum := "7f854481cd579340f359c916953f1a665bc377630f13fa01bb9252ee0c6615ff", checked := Tryz.checked }
namespace Rows
def none {H : Type} : Left H := { results := [], args := [] }

/-- 'sleuthlaw32.CompactionTiers': WHATEVER THE INPUT: true; the input reads as it did. -/
def compactionTiersSpec : ChangeSpec := { name := "compactionTiers", fn := fun _ => fun
  | [d1, d2] => { results := [.lit (.bool true)], args := [d1, d2] }
  | _ => none }
def compactionTiersRow : OpenClaim := { program := "ytiooomoblgaghaagreat", sum := "7f854481cd579340f359c916953f1a665bc377630f13fa01bb9252ee0c6615ff", func := "sleuth/sleuthlaw32.CompactionTiers", spec := "compactionTiers", unfollowed := true, recurses := true, plainKeys := false, apart := false }
def CompactionTiersSaid : Prop := compactionTiersRow.holds Tryz.pinned (OpenSpec.ofChange compactionTiersSpec)

/-- ITS FALSE NEIGHBOUR: 'it returns false'. Refute it at one input. -/
def compactionTiersWrong : ChangeSpec := { name := "compactionTiers", fn := fun _ => fun
  | [d1, d2] => { results := [.lit (.bool false)], args := [d1, d2] }
  | _ => none }
def CompactionTiersWrongFalsely : Prop := compactionTiersRow.holds Tryz.pinned (OpenSpec.ofChange compactionTiersWrong)

/-- 'sleuthlaw32.CompactionNext': WHATEVER THE INPUT: true; the input reads as it did. -/
def compactionNextSpec : ChangeSpec := { name := "compactionNext", fn := fun _ => fun
  | [d1, d2] => { results := [.lit (.bool true)], args := [d1, d2] }
  | _ => none }
def compactionNextRow : OpenClaim := { program := "ytiooomoblgaghaagreat", sum := "7f854481cd579340f359c916953f1a665bc377630f13fa01bb9252ee0c6615ff", func := "sleuth/sleuthlaw32.CompactionNext", spec := "compactionNext", unfollowed := true, recurses := true, plainKeys := false, apart := false }
def CompactionNextSaid : Prop := compactionNextRow.holds Tryz.pinned (OpenSpec.ofChange compactionNextSpec)

/-- ITS FALSE NEIGHBOUR: 'it returns false'. Refute it at one input. -/
def compactionNextWrong : ChangeSpec := { name := "compactionNext", fn := fun _ => fun
  | [d1, d2] => { results := [.lit (.bool false)], args := [d1, d2] }
  | _ => none }
def CompactionNextWrongFalsely : Prop := compactionNextRow.holds Tryz.pinned (OpenSpec.ofChange compactionNextWrong)

/-- 'sleuthlaw32.CompactionCosts': WHATEVER THE INPUT: true; the input reads as it did. -/
def compactionCostsSpec : ChangeSpec := { name := "compactionCosts", fn := fun _ => fun
  | [d1, d2] => { results := [.lit (.bool true)], args := [d1, d2] }
  | _ => none }
def compactionCostsRow : OpenClaim := { program := "ytiooomoblgaghaagreat", sum := "7f854481cd579340f359c916953f1a665bc377630f13fa01bb9252ee0c6615ff", func := "sleuth/sleuthlaw32.CompactionCosts", spec := "compactionCosts", unfollowed := true, recurses := true, plainKeys := false, apart := false }
def CompactionCostsSaid : Prop := compactionCostsRow.holds Tryz.pinned (OpenSpec.ofChange compactionCostsSpec)

/-- ITS FALSE NEIGHBOUR: 'it returns false'. Refute it at one input. -/
def compactionCostsWrong : ChangeSpec := { name := "compactionCosts", fn := fun _ => fun
  | [d1, d2] => { results := [.lit (.bool false)], args := [d1, d2] }
  | _ => none }
def CompactionCostsWrongFalsely : Prop := compactionCostsRow.holds Tryz.pinned (OpenSpec.ofChange compactionCostsWrong)

/-- 'sleuthlaw32.CompactionGarbage': WHATEVER THE INPUT: true; the input reads as it did. -/
def compactionGarbageSpec : ChangeSpec := { name := "compactionGarbage", fn := fun _ => fun
  | [d1, d2] => { results := [.lit (.bool true)], args := [d1, d2] }
  | _ => none }
def compactionGarbageRow : OpenClaim := { program := "ytiooomoblgaghaagreat", sum := "7f854481cd579340f359c916953f1a665bc377630f13fa01bb9252ee0c6615ff", func := "sleuth/sleuthlaw32.CompactionGarbage", spec := "compactionGarbage", unfollowed := true, recurses := true, plainKeys := false, apart := false }
def CompactionGarbageSaid : Prop := compactionGarbageRow.holds Tryz.pinned (OpenSpec.ofChange compactionGarbageSpec)

/-- ITS FALSE NEIGHBOUR: 'it returns false'. Refute it at one input. -/
def compactionGarbageWrong : ChangeSpec := { name := "compactionGarbage", fn := fun _ => fun
  | [d1, d2] => { results := [.lit (.bool false)], args := [d1, d2] }
  | _ => none }
def CompactionGarbageWrongFalsely : Prop := compactionGarbageRow.holds Tryz.pinned (OpenSpec.ofChange compactionGarbageWrong)

/-- 'sleuthlaw32.CompactionErrors': WHATEVER THE INPUT: true; the input reads as it did. -/
def compactionErrorsSpec : ChangeSpec := { name := "compactionErrors", fn := fun _ => fun
  | [d1, d2] => { results := [.lit (.bool true)], args := [d1, d2] }
  | _ => none }
def compactionErrorsRow : OpenClaim := { program := "ytiooomoblgaghaagreat", sum := "7f854481cd579340f359c916953f1a665bc377630f13fa01bb9252ee0c6615ff", func := "sleuth/sleuthlaw32.CompactionErrors", spec := "compactionErrors", unfollowed := true, recurses := true, plainKeys := false, apart := false }
def CompactionErrorsSaid : Prop := compactionErrorsRow.holds Tryz.pinned (OpenSpec.ofChange compactionErrorsSpec)

/-- ITS FALSE NEIGHBOUR: 'it returns false'. Refute it at one input. -/
def compactionErrorsWrong : ChangeSpec := { name := "compactionErrors", fn := fun _ => fun
  | [d1, d2] => { results := [.lit (.bool false)], args := [d1, d2] }
  | _ => none }
def CompactionErrorsWrongFalsely : Prop := compactionErrorsRow.holds Tryz.pinned (OpenSpec.ofChange compactionErrorsWrong)

/-- 'sleuthlaw32.CompactionRuns': WHATEVER THE INPUT: true; the input reads as it did. -/
def compactionRunsSpec : ChangeSpec := { name := "compactionRuns", fn := fun _ => fun
  | [d1, d2] => { results := [.lit (.bool true)], args := [d1, d2] }
  | _ => none }
def compactionRunsRow : OpenClaim := { program := "ytiooomoblgaghaagreat", sum := "7f854481cd579340f359c916953f1a665bc377630f13fa01bb9252ee0c6615ff", func := "sleuth/sleuthlaw32.CompactionRuns", spec := "compactionRuns", unfollowed := true, recurses := true, plainKeys := false, apart := false }
def CompactionRunsSaid : Prop := compactionRunsRow.holds Tryz.pinned (OpenSpec.ofChange compactionRunsSpec)

/-- ITS FALSE NEIGHBOUR: 'it returns false'. Refute it at one input. -/
def compactionRunsWrong : ChangeSpec := { name := "compactionRuns", fn := fun _ => fun
  | [d1, d2] => { results := [.lit (.bool false)], args := [d1, d2] }
  | _ => none }
def CompactionRunsWrongFalsely : Prop := compactionRunsRow.holds Tryz.pinned (OpenSpec.ofChange compactionRunsWrong)

/-- 'sleuthlaw32.CompactionLimits': WHATEVER THE INPUT: true; the input reads as it did. -/
def compactionLimitsSpec : ChangeSpec := { name := "compactionLimits", fn := fun _ => fun
  | [d] => { results := [.lit (.bool true)], args := [d] }
  | _ => none }
def compactionLimitsRow : OpenClaim := { program := "ytiooomoblgaghaagreat", sum := "7f854481cd579340f359c916953f1a665bc377630f13fa01bb9252ee0c6615ff", func := "sleuth/sleuthlaw32.CompactionLimits", spec := "compactionLimits", unfollowed := true, recurses := true, plainKeys := false, apart := false }
def CompactionLimitsSaid : Prop := compactionLimitsRow.holds Tryz.pinned (OpenSpec.ofChange compactionLimitsSpec)

/-- ITS FALSE NEIGHBOUR: 'it returns false'. Refute it at one input. -/
def compactionLimitsWrong : ChangeSpec := { name := "compactionLimits", fn := fun _ => fun
  | [d] => { results := [.lit (.bool false)], args := [d] }
  | _ => none }
def CompactionLimitsWrongFalsely : Prop := compactionLimitsRow.holds Tryz.pinned (OpenSpec.ofChange compactionLimitsWrong)

/-- 'sleuthlaw32.CompactionApplies': WHATEVER THE INPUT: true; the input reads as it did. -/
def compactionAppliesSpec : ChangeSpec := { name := "compactionApplies", fn := fun _ => fun
  | [d1, d2, d3] => { results := [.lit (.bool true)], args := [d1, d2, d3] }
  | _ => none }
def compactionAppliesRow : OpenClaim := { program := "ytiooomoblgaghaagreat", sum := "7f854481cd579340f359c916953f1a665bc377630f13fa01bb9252ee0c6615ff", func := "sleuth/sleuthlaw32.CompactionApplies", spec := "compactionApplies", unfollowed := true, recurses := true, plainKeys := false, apart := false }
def CompactionAppliesSaid : Prop := compactionAppliesRow.holds Tryz.pinned (OpenSpec.ofChange compactionAppliesSpec)

/-- ITS FALSE NEIGHBOUR: 'it returns false'. Refute it at one input. -/
def compactionAppliesWrong : ChangeSpec := { name := "compactionApplies", fn := fun _ => fun
  | [d1, d2, d3] => { results := [.lit (.bool false)], args := [d1, d2, d3] }
  | _ => none }
def CompactionAppliesWrongFalsely : Prop := compactionAppliesRow.holds Tryz.pinned (OpenSpec.ofChange compactionAppliesWrong)

/-- 'sleuthlaw32.CompactionAll': WHATEVER THE INPUT: true; the input reads as it did. -/
def compactionAllSpec : ChangeSpec := { name := "compactionAll", fn := fun _ => fun
  | [d1, d2] => { results := [.lit (.bool true)], args := [d1, d2] }
  | _ => none }
def compactionAllRow : OpenClaim := { program := "ytiooomoblgaghaagreat", sum := "7f854481cd579340f359c916953f1a665bc377630f13fa01bb9252ee0c6615ff", func := "sleuth/sleuthlaw32.CompactionAll", spec := "compactionAll", unfollowed := true, recurses := true, plainKeys := false, apart := false }
def CompactionAllSaid : Prop := compactionAllRow.holds Tryz.pinned (OpenSpec.ofChange compactionAllSpec)

/-- ITS FALSE NEIGHBOUR: 'it returns false'. Refute it at one input. -/
def compactionAllWrong : ChangeSpec := { name := "compactionAll", fn := fun _ => fun
  | [d1, d2] => { results := [.lit (.bool false)], args := [d1, d2] }
  | _ => none }
def CompactionAllWrongFalsely : Prop := compactionAllRow.holds Tryz.pinned (OpenSpec.ofChange compactionAllWrong)

/- THE SECOND FORM. 'bulk': how many values and letters a reading holds, each counted each time it is reached (what is shared counts as often as it is met; a slice's spare places count too). A statement '..UptoSaid' is the law's where the arguments, and the package variables that the reading takes, are together of bulk at most 1048576: NARROWER than '..Said'. Prove '..Said' where nothing that the law and all that it calls make is longer than what came in: it says more and counts as full. Else prove '..UptoSaid'. A law counts once. -/
mutual
def uptoBulk {H : Type} : DataW H → Nat
  | .lit (.string bytes) => bytes.length + 1
  | .lit _ => 1
  | .nil => 1
  | .ptr d => uptoBulk d + 1
  | .slice elems spare => uptoBulkAll elems + uptoBulkAll spare + 1
  | .agg parts => uptoBulkAll parts + 1
  | .iface _ d => uptoBulk d + 1
  | .map entries => uptoBulkEntries entries + 1
  | .held _ => 1
def uptoBulkAll {H : Type} : List (DataW H) → Nat
  | [] => 0
  | d :: r => uptoBulk d + uptoBulkAll r
def uptoBulkEntries {H : Type} : List (Lit × DataW H) → Nat
  | [] => 0
  | x :: r => uptoBulkEntry x + uptoBulkEntries r
def uptoBulkEntry {H : Type} : Lit × DataW H → Nat
  | (.string bytes, d) => bytes.length + uptoBulk d + 1
  | (_, d) => uptoBulk d + 1
 end
def uptoSmall : (H : Type) → List (DataW H) → Bool := fun _ ds => decide (uptoBulkAll ds ≤ 1048576)
def OpenSpec.upto (s : _root_.Go.ChangeSpec) : _root_.Go.OpenSpec := { _root_.Go.OpenSpec.ofChange s with cond := some uptoSmall }

/-- 'sleuthlaw32.CompactionTiers', WHERE WHAT IT READS IS OF BULK AT MOST 1048576: true; the input reads as it did. -/
def compactionTiersUptoRow : OpenClaim := { program := "ytiooomoblgaghaagreat", sum := "7f854481cd579340f359c916953f1a665bc377630f13fa01bb9252ee0c6615ff", func := "sleuth/sleuthlaw32.CompactionTiers", spec := "compactionTiers", unfollowed := true, recurses := true, plainKeys := false, apart := false, narrowed := true }
def CompactionTiersUptoSaid : Prop := compactionTiersUptoRow.holds Tryz.pinned (OpenSpec.upto compactionTiersSpec)

/-- 'sleuthlaw32.CompactionNext', WHERE WHAT IT READS IS OF BULK AT MOST 1048576: true; the input reads as it did. -/
def compactionNextUptoRow : OpenClaim := { program := "ytiooomoblgaghaagreat", sum := "7f854481cd579340f359c916953f1a665bc377630f13fa01bb9252ee0c6615ff", func := "sleuth/sleuthlaw32.CompactionNext", spec := "compactionNext", unfollowed := true, recurses := true, plainKeys := false, apart := false, narrowed := true }
def CompactionNextUptoSaid : Prop := compactionNextUptoRow.holds Tryz.pinned (OpenSpec.upto compactionNextSpec)

/-- 'sleuthlaw32.CompactionCosts', WHERE WHAT IT READS IS OF BULK AT MOST 1048576: true; the input reads as it did. -/
def compactionCostsUptoRow : OpenClaim := { program := "ytiooomoblgaghaagreat", sum := "7f854481cd579340f359c916953f1a665bc377630f13fa01bb9252ee0c6615ff", func := "sleuth/sleuthlaw32.CompactionCosts", spec := "compactionCosts", unfollowed := true, recurses := true, plainKeys := false, apart := false, narrowed := true }
def CompactionCostsUptoSaid : Prop := compactionCostsUptoRow.holds Tryz.pinned (OpenSpec.upto compactionCostsSpec)

/-- 'sleuthlaw32.CompactionGarbage', WHERE WHAT IT READS IS OF BULK AT MOST 1048576: true; the input reads as it did. -/
def compactionGarbageUptoRow : OpenClaim := { program := "ytiooomoblgaghaagreat", sum := "7f854481cd579340f359c916953f1a665bc377630f13fa01bb9252ee0c6615ff", func := "sleuth/sleuthlaw32.CompactionGarbage", spec := "compactionGarbage", unfollowed := true, recurses := true, plainKeys := false, apart := false, narrowed := true }
def CompactionGarbageUptoSaid : Prop := compactionGarbageUptoRow.holds Tryz.pinned (OpenSpec.upto compactionGarbageSpec)

/-- 'sleuthlaw32.CompactionErrors', WHERE WHAT IT READS IS OF BULK AT MOST 1048576: true; the input reads as it did. -/
def compactionErrorsUptoRow : OpenClaim := { program := "ytiooomoblgaghaagreat", sum := "7f854481cd579340f359c916953f1a665bc377630f13fa01bb9252ee0c6615ff", func := "sleuth/sleuthlaw32.CompactionErrors", spec := "compactionErrors", unfollowed := true, recurses := true, plainKeys := false, apart := false, narrowed := true }
def CompactionErrorsUptoSaid : Prop := compactionErrorsUptoRow.holds Tryz.pinned (OpenSpec.upto compactionErrorsSpec)

/-- 'sleuthlaw32.CompactionRuns', WHERE WHAT IT READS IS OF BULK AT MOST 1048576: true; the input reads as it did. -/
def compactionRunsUptoRow : OpenClaim := { program := "ytiooomoblgaghaagreat", sum := "7f854481cd579340f359c916953f1a665bc377630f13fa01bb9252ee0c6615ff", func := "sleuth/sleuthlaw32.CompactionRuns", spec := "compactionRuns", unfollowed := true, recurses := true, plainKeys := false, apart := false, narrowed := true }
def CompactionRunsUptoSaid : Prop := compactionRunsUptoRow.holds Tryz.pinned (OpenSpec.upto compactionRunsSpec)

/-- 'sleuthlaw32.CompactionLimits', WHERE WHAT IT READS IS OF BULK AT MOST 1048576: true; the input reads as it did. -/
def compactionLimitsUptoRow : OpenClaim := { program := "ytiooomoblgaghaagreat", sum := "7f854481cd579340f359c916953f1a665bc377630f13fa01bb9252ee0c6615ff", func := "sleuth/sleuthlaw32.CompactionLimits", spec := "compactionLimits", unfollowed := true, recurses := true, plainKeys := false, apart := false, narrowed := true }
def CompactionLimitsUptoSaid : Prop := compactionLimitsUptoRow.holds Tryz.pinned (OpenSpec.upto compactionLimitsSpec)

/-- 'sleuthlaw32.CompactionApplies', WHERE WHAT IT READS IS OF BULK AT MOST 1048576: true; the input reads as it did. -/
def compactionAppliesUptoRow : OpenClaim := { program := "ytiooomoblgaghaagreat", sum := "7f854481cd579340f359c916953f1a665bc377630f13fa01bb9252ee0c6615ff", func := "sleuth/sleuthlaw32.CompactionApplies", spec := "compactionApplies", unfollowed := true, recurses := true, plainKeys := false, apart := false, narrowed := true }
def CompactionAppliesUptoSaid : Prop := compactionAppliesUptoRow.holds Tryz.pinned (OpenSpec.upto compactionAppliesSpec)

/-- 'sleuthlaw32.CompactionAll', WHERE WHAT IT READS IS OF BULK AT MOST 1048576: true; the input reads as it did. -/
def compactionAllUptoRow : OpenClaim := { program := "ytiooomoblgaghaagreat", sum := "7f854481cd579340f359c916953f1a665bc377630f13fa01bb9252ee0c6615ff", func := "sleuth/sleuthlaw32.CompactionAll", spec := "compactionAll", unfollowed := true, recurses := true, plainKeys := false, apart := false, narrowed := true }
def CompactionAllUptoSaid : Prop := compactionAllUptoRow.holds Tryz.pinned (OpenSpec.upto compactionAllSpec)

end Rows
end Go.Proofs.YtiooomoblgaghaaGreat
